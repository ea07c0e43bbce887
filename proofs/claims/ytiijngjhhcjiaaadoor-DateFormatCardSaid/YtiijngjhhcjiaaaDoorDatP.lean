/-
  Package date: Zone, of a sign and four digits.
-/
import Derived.Test.YtiijngjhhcjiaaaDoorDatO
import Derived.Maps.OwnOps
set_option linter.unusedSimpArgs false
set_option linter.unusedVariables false
set_option linter.unnecessarySimpa false
namespace Go.Proofs.YtiijngjhhcjiaaaDoor
open Go.RowKit Go.Bul Go.Maps
theorem zD_short : (match zD with | .map es => es.all (fun p => match p.1 with | .string l => decide (l.length ≤ 3) | _ => false) | _ => false) = true := by kernel_rfl
theorem zD_none {u : List UInt8} (h : u.length = 5) : Maps.has zD (kZ u) = false := by
  have hs := zD_short
  cases hz : zD with
  | map es =>
    rw [hz] at hs
    cases hb : Maps.has (.map es) (kZ u) with
    | false => rfl
    | true =>
      exfalso
      rw [Maps.has_eq, List.any_eq_true] at hb
      obtain ⟨p, hp, hk⟩ := hb
      have h1 := List.all_eq_true.1 hs p hp
      rw [WideAt.sameKey_eq hk] at h1
      unfold kZ at h1
      simp only [decide_eq_true_eq] at h1
      omega
  | _ => rw [hz] at hs; cases hs
theorem grOf {w w' : World} (h : Below w.heap.size w w') : w.grownBy w' none := ⟨h.os, h.tape, h.output, h.size, fun k hk _ => h.block k hk⟩
theorem zeroInt (w : World) : (zeroValue 3).run Tryd.prog w = .ok (.int .i64 0) w := by kernel_rfl
def dgV (c : UInt8) : Int := ((c - 48 : UInt8).toNat : Int)
def byteAt (s : ByteArray) (k : Nat) : UInt8 := if h : k < s.size then s[k] else 0
theorem byteAt_in {s : ByteArray} {k : Nat} (h : k < s.size) : byteAt s k = s[k] := dif_pos h
theorem dgV_bd {c : UInt8} (h : digB c = true) : 0 ≤ dgV c ∧ dgV c ≤ 9 := by
  have h1 := UInt8.toNat_sub c 48
  have h2 : (48 : UInt8).toNat = 48 := rfl
  rw [h2] at h1
  unfold digB at h
  simp at h
  unfold dgV
  omega
/-- the number of the bytes behind the first, as far as k -/
def zAcc (s : ByteArray) : Nat → Int
  | 0 => 0
  | k + 1 => 10 * zAcc s k + dgV (byteAt s (k + 1))
def zoneE (n : Int) : Int := if 59 < n % 100 then 3 else if 840 < n / 100 * 60 + n % 100 then 2 else 0
def zoneV (c0 : UInt8) (n : Int) : Int := if zoneE n ≠ 0 then 0 else if c0.toNat = 45 then -(n / 100 * 60 + n % 100) else n / 100 * 60 + n % 100
theorem zAcc_bd {s : ByteArray} (hd : ∀ k, 1 ≤ k → k ≤ 4 → digB (byteAt s k) = true) : ∀ k, k ≤ 4 → 0 ≤ zAcc s k ∧ zAcc s k ≤ 9999 := by
  have b1 := dgV_bd (hd 1 (by omega) (by omega))
  have b2 := dgV_bd (hd 2 (by omega) (by omega))
  have b3 := dgV_bd (hd 3 (by omega) (by omega))
  have b4 := dgV_bd (hd 4 (by omega) (by omega))
  intro k hk
  obtain rfl | rfl | rfl | rfl | rfl : k = 0 ∨ k = 1 ∨ k = 2 ∨ k = 3 ∨ k = 4 := by omega
  all_goals
    simp only [zAcc, Nat.zero_add, Nat.reduceAdd]
    omega
set_option maxRecDepth 100000 in
set_option maxHeartbeats 4000000 in
theorem zone_s (s : ByteArray) (h5 : s.size = 5) (hc : byteAt s 0 = 43 ∨ byteAt s 0 = 45) (hd : ∀ k, 1 ≤ k → k ≤ 4 → digB (byteAt s k) = true) (w : World) (hg : Gd w) :
    Calls Tryd.prog 55 #[.string s] w fun e w' => e = .returned (.tuple #[.int .i64 (zoneV (byteAt s 0) (zAcc s 4)), .int .i64 (zoneE (zAcc s 4))]) ∧ Below w.heap.size w w' := by
  have hascii : ∀ (j : Nat) (b : UInt8), s.data.toList[j]? = some b → b.toNat < 128 := by
    intro j b hj
    have hj5 : j < s.size := by
      have := (List.getElem?_eq_some_iff.1 hj).1
      simpa using this
    have hb : byteAt s j = b := by
      rw [byteAt_in hj5]
      have h2 := (List.getElem?_eq_some_iff.1 hj).2
      rw [← h2]
      simp [ByteArray.getElem_eq_getElem_data]
    rcases Nat.eq_zero_or_pos j with rfl | hpos
    · rw [hb] at hc
      rcases hc with rfl | rfl <;> decide
    · have := hd j hpos (by omega)
      rw [hb] at this
      unfold digB at this
      simp at this
      omega
  have HA := Lib.hid hascii
  have hul : (Lib.toUpperA s.data.toList).length = 5 := by unfold Lib.toUpperA; rw [List.length_map]; simp; exact h5
  have hno := zD_none hul
  have HK := Lib.hid (keyOf_z (Lib.toUpperA s.data.toList) (by omega))
  have HD := Lib.hid hd
  clear hascii
  have l0 : (0 : Nat) < s.size := by omega
  have l5 : (s.size : Int) = 5 := by omega
  have n5 : ((s.size : Int) != 5) = false := by rw [l5]; rfl
  have q0 : (0 : Int) < (s.size : Int) := by omega
  have e0 : (s[0] : UInt8).toNat = 43 ∨ (s[0] : UInt8).toNat = 45 := by
    rw [byteAt_in l0] at hc
    rcases hc with h | h <;> rw [h]
    · exact .inl rfl
    · exact .inr rfl
  rcases e0 with e0 | e0
  · have m1 : (((s[0] : UInt8).toNat : Int) != 43) = false := by rw [e0]; rfl
    have m3 : (((s[0] : UInt8).toNat : Int) == 45) = false := by rw [e0]; rfl
    have m4 : ((s[0] : UInt8).toNat != 43) = false := by rw [e0]; rfl
    have m5 : ((s[0] : UInt8).toNat == 45) = false := by rw [e0]; rfl
    go_enter Tryd.func55, Tryd.ntmps55
    go_wp2_with fail
    refine (zones_s w).mono ?_
    rintro e w1 ⟨rfl, hm, b1⟩
    have HM := Lib.hid hm
    have HB1 := Lib.hid b1
    clear hm b1
    go_wp2_with fail
    refine (Tryd.strings_ToUpper_ascii s w1 (by omega) HA.out).mono ?_
    rintro e w2 ⟨rfl, b2⟩
    have HM2 := Lib.hid (HM.out.kept (grOf b2) (by simp))
    have HB2 := Lib.hid (HB1.out.trans (b2.mono HB1.out.size))
    clear b2
    go_wp2_with (at_lookup; refine wpList_lookup_own_ok _ rfl _ _ 97 rfl 9 3 keyedZ Tryd.underlying97 zR (zeroInt _) (.held (.int .i64 0)) [] rfl w.heap.size 12 zD rfl HM2.out _ _ rfl HK.out ?_; intro vv ps hvv; rw [hno])
    go_loopw [6, 7] (fun nv i wr => ∃ k : Nat, k ≤ 4 ∧ i = .int .i64 ((k : Int) + 1) ∧ nv = .int .i64 (zAcc s k) ∧ Below w.heap.size w wr) (fun _ i _ => 5 - (intOf i).toNat)
    case atStart => exact ⟨0, Nat.zero_le _, rfl, rfl, HB2.out⟩
    case round =>
      obtain ⟨k, hk, rfl, rfl, hR⟩ := hrel
      have HR := Lib.hid hR
      obtain ⟨z0, z1⟩ := zAcc_bd HD.out k hk
      clear hR
      by_cases hlt : k < 4
      · have i1 : (k : Int) + 1 < 5 := by omega
        have i2 : (k : Int) + 1 < (s.size : Int) := by omega
        have i3 : (0 : Int) ≤ (k : Int) + 1 := by omega
        have i4 : ((k : Int) + 1).toNat = k + 1 := by omega
        have hks : k + 1 < s.size := by omega
        have hdk : digB s[k + 1] = true := by have := HD.out (k + 1) (by omega) (by omega); rwa [byteAt_in hks] at this
        have hsub := sub48 s[k + 1]
        have hv9 := dgV_bd hdk
        have hve : dgV (byteAt s (k + 1)) = dgV s[k + 1] := by rw [byteAt_in hks]
        obtain ⟨v, hv⟩ : ∃ v : Int, dgV s[k + 1] = v := ⟨_, rfl⟩
        rw [show (((s[k + 1] - 48 : UInt8).toNat : Nat) : Int) = dgV s[k + 1] from rfl, hv] at hsub
        rw [hv] at hv9 hve
        have hw1 : IntKind.i64.wrap (10 * zAcc s k) = 10 * zAcc s k := IntWalk.i64_in _ (by omega)
        have hw2 : IntKind.i64.wrap (10 * zAcc s k + v) = 10 * zAcc s k + v := IntWalk.i64_in _ (by omega)
        have hw3 : IntKind.i64.wrap ((k : Int) + 1 + 1) = (k : Int) + 1 + 1 := IntWalk.i64_in _ (by omega)
        go_wp2_with fail
        refine (digit_c _ _).mono ?_
        rintro r w' ⟨rfl, rfl⟩
        rw [hdk]
        go_wp2_with fail
        go_roundw
        case rel => exact ⟨k + 1, by omega, by push_cast; rfl, by rw [zAcc, hve], HR.out⟩
        case measure => simp only [intOf]; omega
      · obtain rfl : k = 4 := by omega
        have i1 : decide (((4 : Nat) : Int) + 1 < 5) = false := by decide
        obtain ⟨N, hN⟩ : ∃ N, zAcc s 4 = N := ⟨_, rfl⟩
        rw [hN] at z0 z1 ⊢
        have hw1 : IntKind.i64.wrap (N / 100 * 60) = N / 100 * 60 := IntWalk.i64_in _ (by omega)
        have hw2 : IntKind.i64.wrap (N / 100 * 60 + N % 100) = N / 100 * 60 + N % 100 := IntWalk.i64_in _ (by omega)
        have hw3 : IntKind.i64.wrap (-(N / 100 * 60 + N % 100)) = -(N / 100 * 60 + N % 100) := IntWalk.i64_in _ (by omega)
        by_cases h59 : 59 < N % 100
        · have g1 : zoneE N = 3 := if_pos h59
          have g2 : zoneV (byteAt s 0) N = 0 := by unfold zoneV; rw [g1]; rfl
          go_wp2_with fail
          go_ret2
          (try rw [hN]); (try rw [g1, g2])
          exact ⟨rfl, HR.out⟩
        · have h59' : decide (59 < N % 100) = false := decide_eq_false h59
          by_cases h84 : 840 < N / 100 * 60 + N % 100
          · have g1 : zoneE N = 2 := by unfold zoneE; rw [if_neg h59, if_pos h84]
            have g2 : zoneV (byteAt s 0) N = 0 := by unfold zoneV; rw [g1]; rfl
            go_wp2_with fail
            go_ret2
            (try rw [hN]); (try rw [g1, g2])
            exact ⟨rfl, HR.out⟩
          · have h84' : decide (840 < N / 100 * 60 + N % 100) = false := decide_eq_false h84
            have g1 : zoneE N = 0 := by unfold zoneE; rw [if_neg h59, if_neg h84]
            have g2 : zoneV (byteAt s 0) N = N / 100 * 60 + N % 100 := by unfold zoneV; rw [if_neg (by rw [g1]; simp), byteAt_in l0, e0]; rfl
            go_wp2_with fail
            go_ret2
            (try rw [hN]); (try rw [g1, g2])
            exact ⟨rfl, HR.out⟩
  · have m1 : (((s[0] : UInt8).toNat : Int) != 43) = true := by rw [e0]; rfl
    have m2 : (((s[0] : UInt8).toNat : Int) != 45) = false := by rw [e0]; rfl
    have m3 : (((s[0] : UInt8).toNat : Int) == 45) = true := by rw [e0]; rfl
    go_enter Tryd.func55, Tryd.ntmps55
    go_wp2_with fail
    refine (zones_s w).mono ?_
    rintro e w1 ⟨rfl, hm, b1⟩
    have HM := Lib.hid hm
    have HB1 := Lib.hid b1
    clear hm b1
    go_wp2_with fail
    refine (Tryd.strings_ToUpper_ascii s w1 (by omega) HA.out).mono ?_
    rintro e w2 ⟨rfl, b2⟩
    have HM2 := Lib.hid (HM.out.kept (grOf b2) (by simp))
    have HB2 := Lib.hid (HB1.out.trans (b2.mono HB1.out.size))
    clear b2
    go_wp2_with (at_lookup; refine wpList_lookup_own_ok _ rfl _ _ 97 rfl 9 3 keyedZ Tryd.underlying97 zR (zeroInt _) (.held (.int .i64 0)) [] rfl w.heap.size 12 zD rfl HM2.out _ _ rfl HK.out ?_; intro vv ps hvv; rw [hno])
    go_loopw [6, 7] (fun nv i wr => ∃ k : Nat, k ≤ 4 ∧ i = .int .i64 ((k : Int) + 1) ∧ nv = .int .i64 (zAcc s k) ∧ Below w.heap.size w wr) (fun _ i _ => 5 - (intOf i).toNat)
    case atStart => exact ⟨0, Nat.zero_le _, rfl, rfl, HB2.out⟩
    case round =>
      obtain ⟨k, hk, rfl, rfl, hR⟩ := hrel
      have HR := Lib.hid hR
      obtain ⟨z0, z1⟩ := zAcc_bd HD.out k hk
      clear hR
      by_cases hlt : k < 4
      · have i1 : (k : Int) + 1 < 5 := by omega
        have i2 : (k : Int) + 1 < (s.size : Int) := by omega
        have i3 : (0 : Int) ≤ (k : Int) + 1 := by omega
        have i4 : ((k : Int) + 1).toNat = k + 1 := by omega
        have hks : k + 1 < s.size := by omega
        have hdk : digB s[k + 1] = true := by have := HD.out (k + 1) (by omega) (by omega); rwa [byteAt_in hks] at this
        have hsub := sub48 s[k + 1]
        have hv9 := dgV_bd hdk
        have hve : dgV (byteAt s (k + 1)) = dgV s[k + 1] := by rw [byteAt_in hks]
        obtain ⟨v, hv⟩ : ∃ v : Int, dgV s[k + 1] = v := ⟨_, rfl⟩
        rw [show (((s[k + 1] - 48 : UInt8).toNat : Nat) : Int) = dgV s[k + 1] from rfl, hv] at hsub
        rw [hv] at hv9 hve
        have hw1 : IntKind.i64.wrap (10 * zAcc s k) = 10 * zAcc s k := IntWalk.i64_in _ (by omega)
        have hw2 : IntKind.i64.wrap (10 * zAcc s k + v) = 10 * zAcc s k + v := IntWalk.i64_in _ (by omega)
        have hw3 : IntKind.i64.wrap ((k : Int) + 1 + 1) = (k : Int) + 1 + 1 := IntWalk.i64_in _ (by omega)
        go_wp2_with fail
        refine (digit_c _ _).mono ?_
        rintro r w' ⟨rfl, rfl⟩
        rw [hdk]
        go_wp2_with fail
        go_roundw
        case rel => exact ⟨k + 1, by omega, by push_cast; rfl, by rw [zAcc, hve], HR.out⟩
        case measure => simp only [intOf]; omega
      · obtain rfl : k = 4 := by omega
        have i1 : decide (((4 : Nat) : Int) + 1 < 5) = false := by decide
        obtain ⟨N, hN⟩ : ∃ N, zAcc s 4 = N := ⟨_, rfl⟩
        rw [hN] at z0 z1 ⊢
        have hw1 : IntKind.i64.wrap (N / 100 * 60) = N / 100 * 60 := IntWalk.i64_in _ (by omega)
        have hw2 : IntKind.i64.wrap (N / 100 * 60 + N % 100) = N / 100 * 60 + N % 100 := IntWalk.i64_in _ (by omega)
        have hw3 : IntKind.i64.wrap (-(N / 100 * 60 + N % 100)) = -(N / 100 * 60 + N % 100) := IntWalk.i64_in _ (by omega)
        by_cases h59 : 59 < N % 100
        · have g1 : zoneE N = 3 := if_pos h59
          have g2 : zoneV (byteAt s 0) N = 0 := by unfold zoneV; rw [g1]; rfl
          go_wp2_with fail
          go_ret2
          (try rw [hN]); (try rw [g1, g2])
          exact ⟨rfl, HR.out⟩
        · have h59' : decide (59 < N % 100) = false := decide_eq_false h59
          by_cases h84 : 840 < N / 100 * 60 + N % 100
          · have g1 : zoneE N = 2 := by unfold zoneE; rw [if_neg h59, if_pos h84]
            have g2 : zoneV (byteAt s 0) N = 0 := by unfold zoneV; rw [g1]; rfl
            go_wp2_with fail
            go_ret2
            (try rw [hN]); (try rw [g1, g2])
            exact ⟨rfl, HR.out⟩
          · have h84' : decide (840 < N / 100 * 60 + N % 100) = false := decide_eq_false h84
            have g1 : zoneE N = 0 := by unfold zoneE; rw [if_neg h59, if_neg h84]
            have g2 : zoneV (byteAt s 0) N = -(N / 100 * 60 + N % 100) := by unfold zoneV; rw [if_neg (by rw [g1]; simp), byteAt_in l0, e0]; rfl
            go_wp2_with fail
            go_ret2
            (try rw [hN]); (try rw [g1, g2])
            exact ⟨rfl, HR.out⟩
end Go.Proofs.YtiijngjhhcjiaaaDoor
