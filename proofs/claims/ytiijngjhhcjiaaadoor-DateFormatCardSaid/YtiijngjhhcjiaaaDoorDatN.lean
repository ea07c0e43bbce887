/-
  Package date: the scan of a text: name.
-/
import Derived.Test.YtiijngjhhcjiaaaDoorDatM
import Derived.Deep.RegionHeld3
set_option linter.unusedSimpArgs false
set_option linter.unusedVariables false
set_option linter.unnecessarySimpa false
namespace Go.Proofs.YtiijngjhhcjiaaaDoor
open Go.RowKit Go.Bul
def idxF (y : ByteArray) : List ByteArray → Nat → Int
  | [], _ => -1
  | x :: r, k => if eqL x y = true then (k : Int) else idxF y r (k + 1)
structure Strs (w : World) (g : Nat) (xs : List ByteArray) : Prop where
  lt : g < w.heap.size
  cell : ∀ j (h : j < xs.length), w.cell? ⟨g, j, none⟩ = some (.string xs[j])
theorem Strs.below {w w' : World} {g : Nat} {xs : List ByteArray} (h : Strs w g xs) (hb : Below w.heap.size w w') : Strs w' g xs :=
  ⟨Nat.lt_of_lt_of_le h.lt hb.size, fun j hj => (hb.cell (p := ⟨g, j, none⟩) h.lt).trans (h.cell j hj)⟩
set_option maxRecDepth 100000 in
set_option maxHeartbeats 2000000 in
theorem indexFunc_s (g cap : Nat) (xs : List ByteArray) (hn : xs.length ≤ 1000) (hx : ∀ x ∈ xs, x.size ≤ 1000000) (y : ByteArray) (hy : y.size ≤ 1000000) (B : Nat) (w : World) (hg : Gd w) (hS : Strs w g xs) (hB : B < w.heap.size) (hc : w.cell? ⟨B, 0, none⟩ = some (.string y)) :
    Calls Tryd.prog 62 #[.slice (some ⟨g, 0, none⟩) xs.length cap, nmV B] w fun e w' => e = .returned (.int .i64 (idxF y xs 0)) ∧ Below w.heap.size w w' := by
  unfold nmV
  have HS := Lib.hid hS
  have HG := Lib.hid hg
  have HC := Lib.hid hc
  have HX := Lib.hid hx
  clear hg hS hc hx
  go_enter Tryd.func62, Tryd.ntmps62
  go_wp2_with fail
  go_loopw [8] (fun i wr => ∃ k : Nat, k ≤ xs.length ∧ i = .int .i64 k ∧ idxF y (xs.drop k) k = idxF y xs 0 ∧ Below w.heap.size w wr) (fun i _ => xs.length - (intOf i).toNat)
  case atStart => exact ⟨0, Nat.zero_le _, rfl, rfl, Below.refl _ _⟩
  case round =>
    obtain ⟨k, hk, rfl, hi, hb⟩ := hrel
    have HB := Lib.hid hb
    by_cases hlt : k < xs.length
    · have i1 : (k : Int) < (xs.length : Int) := by omega
      have i2 : (0 : Int) ≤ (k : Int) := by omega
      have c0 := (HS.out.below hb).cell k hlt
      have hcr := (hb.cell (p := ⟨B, 0, none⟩) hB).trans HC.out
      have hgr := HG.out.below hb
      have hBr : B < _ := Nat.lt_of_lt_of_le hB hb.size
      obtain ⟨x, hxe⟩ : ∃ x, x = xs[k] := ⟨_, rfl⟩
      have hxs : x.size ≤ 1000000 := by rw [hxe]; exact HX.out _ (List.getElem_mem hlt)
      rw [← hxe] at c0
      rw [List.drop_eq_getElem_cons hlt, ← hxe] at hi
      have HCR := Lib.hid hcr
      have HGR := Lib.hid hgr
      clear hb hcr hgr hxe
      go_wp2_with fail
      refine (nameEq_c x y hxs hy B _ HGR.out hBr HCR.out).mono ?_
      rintro e w1 ⟨rfl, b1⟩
      have HB1 := Lib.hid (HB.out.trans (b1.mono HB.out.size))
      clear b1
      cases he : eqL x y
      · go_wp2_with fail
        go_roundw
        case rel => exact ⟨k + 1, by omega, by push_cast; rfl, by rw [← hi, idxF, he]; simp, HB1.out⟩
        case measure => simp only [intOf]; omega
      · go_wp2_with fail
        go_ret
        rw [← hi, idxF, if_pos he]
        exact ⟨rfl, HB1.out⟩
    · obtain rfl : k = xs.length := by omega
      have i1 : decide ((xs.length : Int) < (xs.length : Int)) = false := by simp
      rw [List.drop_length] at hi
      go_wp2_with fail
      go_ret
      rw [← hi]
      exact ⟨rfl, HB.out⟩
/-- what name leaves: the index, the place, the error -/
def wordAt (s : ByteArray) (k : Nat) : ByteArray := s.extract k (k + 3)
def naI (s : ByteArray) (xs : List ByteArray) (k : Nat) (e : Int) : Int := if e ≠ 0 then 0 else if s.size < k + 3 then 0 else if idxF (wordAt s k) xs 0 < 0 then 0 else idxF (wordAt s k) xs 0
def naK (s : ByteArray) (xs : List ByteArray) (k : Nat) (e : Int) : Nat := if e ≠ 0 then k else if s.size < k + 3 then s.size else if idxF (wordAt s k) xs 0 < 0 then k else k + 3
def naE (s : ByteArray) (xs : List ByteArray) (k : Nat) (e : Int) : Int := if e ≠ 0 then e else if s.size < k + 3 then 4 else if idxF (wordAt s k) xs 0 < 0 then 3 else 0
theorem na_err {s : ByteArray} {xs : List ByteArray} {k : Nat} {e : Int} (h : e ≠ 0) : naI s xs k e = 0 ∧ naK s xs k e = k ∧ naE s xs k e = e := by unfold naI naK naE; simp [h]
theorem na_short {s : ByteArray} {xs : List ByteArray} {k : Nat} (h : s.size < k + 3) : naI s xs k 0 = 0 ∧ naK s xs k 0 = s.size ∧ naE s xs k 0 = 4 := by unfold naI naK naE; simp [h]
theorem na_no {s : ByteArray} {xs : List ByteArray} {k : Nat} (h : ¬ s.size < k + 3) (hi : idxF (wordAt s k) xs 0 < 0) : naI s xs k 0 = 0 ∧ naK s xs k 0 = k ∧ naE s xs k 0 = 3 := by unfold naI naK naE; simp [h, hi]
theorem na_yes {s : ByteArray} {xs : List ByteArray} {k : Nat} (h : ¬ s.size < k + 3) (hi : ¬ idxF (wordAt s k) xs 0 < 0) : naI s xs k 0 = idxF (wordAt s k) xs 0 ∧ naK s xs k 0 = k + 3 ∧ naE s xs k 0 = 0 := by
  have h1 : ¬ (0 : Int) ≠ 0 := by simp
  unfold naI naK naE
  simp only [if_neg h1, if_neg h, if_neg hi, and_self]
set_option maxRecDepth 100000 in
set_option maxHeartbeats 4000000 in
theorem name_s (b : Nat) (s : ByteArray) (k : Nat) (e : Int) (g cap : Nat) (xs : List ByteArray) (hs : s.size ≤ 1000000) (hk : k ≤ s.size) (hn : xs.length ≤ 1000) (hx : ∀ x ∈ xs, x.size ≤ 1000000) (w : World) (hg : Gd w) (h : ScAt w b s k e) (hS : Strs w g xs) (hne : g ≠ b) :
    Calls Tryd.prog 48 #[.pointer (some ⟨b, 0, none⟩), .slice (some ⟨g, 0, none⟩) xs.length cap] w fun r w' => r = .returned (.int .i64 (naI s xs k e)) ∧ ScAt w' b s (naK s xs k e : Nat) (naE s xs k e) ∧ Bt b w w' := by
  have H := Lib.hid h
  have HG := Lib.hid hg
  have HS := Lib.hid hS
  have HX := Lib.hid hx
  have hmf : ∀ (fn : Fn) (first cap : Array Value) (w : World), (Instr.makeFunc fn first cap).run Tryd.prog w = .ok (.func fn first cap) w := fun _ _ _ _ => rfl
  have y2 := cellAt h 2
  have x0 : ∀ q, (w.drewN q).cell? ⟨b, 0, none⟩ = some (.string s) := fun q => cellAt h 0
  have x1 : ∀ q, (w.drewN q).cell? ⟨b, 1, none⟩ = some (.int .i64 k) := fun q => cellAt h 1
  clear h hg hS hx
  by_cases h0 : e = 0
  case neg =>
    have hq : (e == 0) = false := by rw [beq_eq_false_iff_ne]; exact h0
    obtain ⟨t1, t2, t3⟩ := na_err (s := s) (xs := xs) (k := k) h0
    rw [t1, t2, t3]
    go_enter Tryd.func48, Tryd.ntmps48
    go_wp2_with fail
    go_ret
    exact ⟨rfl, H.out, Bt.refl _ _⟩
  subst h0
  have hw1 : IntKind.i64.wrap ((s.size : Int) - (k : Int)) = (s.size : Int) - (k : Int) := IntWalk.i64_in _ (by omega)
  by_cases hlt : s.size < k + 3
  case pos =>
    obtain ⟨t1, t2, t3⟩ := na_short (xs := xs) hlt
    rw [t1, t2, t3]
    have i1 : decide ((s.size : Int) - (k : Int) < 3) = true := decide_eq_true (by omega)
    go_enter Tryd.func48, Tryd.ntmps48
    go_wp2_with fail
    go_quiet (fail)
    obtain ⟨wq, hwq⟩ : ∃ wq, wq = w.drewN nq := ⟨_, rfl⟩
    have HQ := Lib.hid (show ScAt wq b s k 0 by rw [hwq]; exact H.out)
    have HBq := Lib.hid (show Bt b w wq by rw [hwq]; exact (Bt.refl b w).drewN nq)
    rw [← hwq]
    clear hwq y2 x0 x1
    have z0 := cellAt HQ.out 0
    go_wp2_with fail
    refine (fail_s b s k 0 s.size 4 wq HQ.out).mono ?_
    rintro r w1 ⟨rfl, h1, h2⟩
    go_wp2_with fail
    go_ret
    exact ⟨rfl, h1, HBq.out.trans h2⟩
  have i1 : decide ((s.size : Int) - (k : Int) < 3) = false := decide_eq_false (by omega)
  have hw2 : IntKind.i64.wrap ((k : Int) + 3) = (k : Int) + 3 := IntWalk.i64_in _ (by omega)
  have j0 : (0 : Int) ≤ (k : Int) := by omega
  have j1 : (k : Int) ≤ (k : Int) + 3 := by omega
  have j2 : (k : Int) + 3 ≤ (s.size : Int) := by omega
  have j3 : ((k : Int) + 3).toNat = k + 3 := by omega
  obtain ⟨R, hR⟩ : ∃ R, idxF (wordAt s k) xs 0 = R := ⟨_, rfl⟩
  go_enter Tryd.func48, Tryd.ntmps48
  go_wp2_with fail
  go_quiet (fail)
  obtain ⟨wq, hwq⟩ : ∃ wq, wq = w.drewN nq := ⟨_, rfl⟩
  have HQ := Lib.hid (show ScAt wq b s k 0 by rw [hwq]; exact H.out)
  have HBq := Lib.hid (show Bt b w wq by rw [hwq]; exact (Bt.refl b w).drewN nq)
  have HB9 := Lib.hid (show Below w.heap.size w wq by rw [hwq]; exact ⟨rfl, rfl, rfl, Nat.le_refl _, fun _ _ => rfl⟩)
  rw [← hwq]
  clear hwq y2 x0 x1
  have z0 := cellAt HQ.out 0
  have z1 := cellAt HQ.out 1
  go_wp2_with fail
  go_region_held3 (fun x => x.cell? ⟨b, 0, none⟩ = some (.string s) ∧ x.cell? ⟨b, 1, none⟩ = some (.int .i64 k)) (go_keep) ((fail))
  obtain ⟨w5, hw5⟩ : ∃ w5, w5 = (wq.alloc (.cells #[.string (s.extract k (k + 3))] 9)).drew := ⟨_, rfl⟩
  have HB5 := Lib.hid (show Below wq.heap.size wq w5 by rw [hw5]; exact ((Below.refl _ _).alloc (Nat.le_refl _) _).drew)
  have HC5 := Lib.hid (show w5.cell? ⟨wq.heap.size, 0, none⟩ = some (.string (wordAt s k)) by rw [hw5]; exact cellAt (heapNew wq (.cells #[.string (s.extract k (k + 3))] 9)) 0)
  have hlt5 : wq.heap.size < w5.heap.size := by rw [hw5]; show wq.heap.size < (wq.alloc _).heap.size; rw [sizeA]; omega
  rw [← hw5]
  clear hw5 z0 z1
  have HQ5 := Lib.hid (HQ.out.below HB5.out)
  have HBq5 := Lib.hid (HBq.out.trans (Bt.of_below HB5.out))
  have HBw5 := Lib.hid (HB9.out.trans (HB5.out.mono HB9.out.size))
  have hws : (wordAt s k).size ≤ 1000000 := by
    have : (wordAt s k).size ≤ s.size := by unfold wordAt; rw [ByteArray.size_extract]; omega
    omega
  go_wp2_with fail
  refine (indexFunc_s g cap xs hn HX.out (wordAt s k) hws wq.heap.size w5 (HG.out.below HBw5.out) (HS.out.below HBw5.out) hlt5 HC5.out).mono ?_
  rintro r w6 ⟨rfl, b6⟩
  have HQ6 := Lib.hid (HQ5.out.below b6)
  have HB6 := Lib.hid (HBq5.out.trans (Bt.of_below b6))
  clear b6
  rw [hR]
  by_cases hi : R < 0
  · obtain ⟨t1, t2, t3⟩ := na_no hlt (show idxF (wordAt s k) xs 0 < 0 by rw [hR]; exact hi)
    have z1 := cellAt HQ6.out 1
    have hi' : decide (R < 0) = true := decide_eq_true hi
    go_wp2_with fail
    refine (fail_s b s k 0 k 3 w6 HQ6.out).mono ?_
    rintro r w7 ⟨rfl, h1, h2⟩
    go_wp2_with fail
    go_ret
    rw [t1, t2, t3]
    exact ⟨rfl, h1, HB6.out.trans h2⟩
  · obtain ⟨t1, t2, t3⟩ := na_yes hlt (show ¬ idxF (wordAt s k) xs 0 < 0 by rw [hR]; exact hi)
    have z1 := cellAt HQ6.out 1
    have f1 := frozenAt HQ6.out 1
    have hi' : decide (R < 0) = false := decide_eq_false hi
    go_wp2_with fail
    go_ret
    rw [t1, t2, t3, hR]
    exact ⟨rfl, by push_cast; exact setCell_block HQ6.out, HB6.out.trans (Bt.set _ _)⟩
end Go.Proofs.YtiijngjhhcjiaaaDoor
