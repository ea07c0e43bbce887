/-
  The laws AsciiHex, AsciiUnhex, AsciiClasses, walked.
-/
import Derived.Test.YtgmamplnhechjaaDoorLawP
set_option linter.unusedSimpArgs false
set_option linter.unusedVariables false
set_option linter.unnecessarySimpa false
namespace Go.Proofs.YtgmamplnhechjaaDoor
open Go.RowKit Go.Bul
theorem BysIn.conv {w : World} {v : Value} {l : List UInt8} (h : BysIn w v l) : (convert 39 9 v).run Tryd.prog w = .ok (St l) w := by
  rcases h with ⟨rfl, a, c, rfl⟩ | ⟨b, off, c, rfl, h2, h3⟩
  · cases a with
    | none => exact run_convert_bytes_nil (P := Tryd.prog) w 39 5 Tryd.underlying39 Tryd.underlying5 0 c 9 Tryd.underlying9
    | some a => exact run_convert_bytes_back (P := Tryd.prog) w 39 9 5 a c [] Tryd.underlying39 Tryd.underlying5 Tryd.underlying9 (fun j hj => absurd hj (Nat.not_lt_zero _))
  · exact run_convert_bytes_back (P := Tryd.prog) w 39 9 5 ⟨b, off, none⟩ c l Tryd.underlying39 Tryd.underlying5 Tryd.underlying9 (fun j hj => by
      have := h3 j hj
      rw [show (⟨b, off, none⟩ : Addr).add j = ⟨b, off + j, none⟩ by unfold Addr.add; split <;> simp_all]
      exact this)
theorem unhex_x (s : ByteArray) (bs : List UInt8) (hs : s.size ≤ 4294967280) (h : unhexA s.data.toList = some bs) (w : World) :
    Calls Tryd.prog 33 #[.string s] w fun e w' => ∃ v, e = .returned (.tuple #[v, .int .i64 0]) ∧ BysIn w' v bs ∧ Below w.heap.size w w' :=
  (unhex_s s hs w).mono fun e w' ⟨hp, hb⟩ => by
    rw [h] at hp
    obtain ⟨v, he, ho⟩ := hp
    exact ⟨v, he, BysIn.of_owns ho, hb⟩
theorem unhex_n (s : ByteArray) (hs : s.size ≤ 4294967280) (h : unhexA s.data.toList = none) (w : World) :
    Calls Tryd.prog 33 #[.string s] w fun e w' => e = .returned (.tuple #[.slice none 0 0, .int .i64 3]) ∧ Below w.heap.size w w' :=
  (unhex_s s hs w).mono fun e w' ⟨hp, hb⟩ => by
    rw [h] at hp
    exact ⟨hp, hb⟩
theorem refUnhex_x (s : ByteArray) (bs : List UInt8) (hs : s.size ≤ 4294967280) (h : unhexA s.data.toList = some bs) (w : World) :
    Calls Tryd.prog 35 #[.string s] w fun e w' => ∃ v, e = .returned (.tuple #[v, .int .i64 0]) ∧ BysIn w' v bs ∧ Below w.heap.size w w' :=
  (refUnhex_s s hs w).mono fun e w' ⟨hp, hb⟩ => by
    rw [h] at hp
    obtain ⟨v, he, ho⟩ := hp
    exact ⟨v, he, BysIn.of_owns ho, hb⟩
theorem refUnhex_n (s : ByteArray) (hs : s.size ≤ 4294967280) (h : unhexA s.data.toList = none) (w : World) :
    Calls Tryd.prog 35 #[.string s] w fun e w' => e = .returned (.tuple #[.slice none 0 0, .int .i64 3]) ∧ Below w.heap.size w w' :=
  (refUnhex_s s hs w).mono fun e w' ⟨hp, hb⟩ => by
    rw [h] at hp
    exact ⟨hp, hb⟩
set_option maxRecDepth 100000 in
set_option maxHeartbeats 8000000 in
theorem lawUnhex_s (a : ByteArray) (ha : a.size ≤ maxLen) (w : World) (hg : Gl w) :
    Calls Tryd.prog 10 #[.string a] w fun e w' => e = .returned (.bool true) ∧ Below w.heap.size w w' := by
  have HG := Lib.hid hg
  clear hg
  have kn := fun (w : World) => run_convert_bytes_nil (P := Tryd.prog) w 39 5 Tryd.underlying39 Tryd.underlying5 0 0 9 Tryd.underlying9
  go_enter Tryd.func10, Tryd.ntmps10
  go_wp2_with fail
  refine (cut_s a ha _).mono ?_
  rintro e w0 ⟨rfl, rfl⟩
  have hA := cutB_size a
  generalize cutB a = A at *
  clear ha
  have hl : A.data.toList.length = A.size := by simp
  cases hu : unhexA A.data.toList with
  | none =>
    have HU := Lib.hid hu
    clear hu hl
    go_wp2_with fail
    refine (unhex_n A (by omega) HU.out _).mono ?_
    rintro e w1 ⟨rfl, c1⟩
    go_wp2_with fail
    refine (refUnhex_n A (by omega) HU.out _).mono ?_
    rintro e w2 ⟨rfl, b2⟩
    have c2 := c1.trans (b2.mono c1.size)
    clear b2 c1
    go_wp2_with fail
    refine (known_s _ (HG.out.below c2)).mono ?_
    rintro e w3 ⟨rfl, b3⟩
    have c3 := c2.trans (b3.mono c2.size)
    clear b3 c2
    go_wp2_with fail
    go_ret
    exact ⟨rfl, c3⟩
  | some bs =>
    have HB := Lib.hid (hex_unhex _ _ _ (Nat.le_refl _) hu)
    have hbs : bs.length ≤ 300 := by
      have := congrArg List.length HB.out
      rw [hexL_len] at this
      omega
    have HU := Lib.hid hu
    clear hu hl kn
    go_wp2_with fail
    refine (unhex_x A bs (by omega) HU.out _).mono ?_
    rintro e w1 ⟨v1, rfl, r1, c1⟩
    have R1 := Lib.hid r1
    clear r1
    go_wp2_with fail
    refine (refUnhex_x A bs (by omega) HU.out _).mono ?_
    rintro e w2 ⟨v2, rfl, r2, b2⟩
    have c2 := c1.trans (b2.mono c1.size)
    have r1 := R1.out.below b2
    have k1 := r1.conv
    have k2 := r2.conv
    have R1 := Lib.hid r1
    clear r1 r2 b2 c1
    go_wp2_with fail
    clear k1 k2
    refine (known_s _ (HG.out.below c2)).mono ?_
    rintro e w3 ⟨rfl, b3⟩
    have c3 := c2.trans (b3.mono c2.size)
    go_wp2_with fail
    refine (hex_s v1 bs _ (by omega) (R1.out.below b3)).mono ?_
    rintro e w4 ⟨rfl, b4⟩
    have c4 := c3.trans (b4.mono c3.size)
    rw [HB.out]
    go_wp2_with fail
    go_ret
    exact ⟨ret_bool (by simp), c4⟩
theorem wrapB (c : UInt8) : IntKind.u8.wrap (c.toNat : Int) = (c.toNat : Int) := by
  have := c.toNat_lt
  simp [IntKind.wrap, IntKind.signed, IntKind.bits]
  omega
set_option maxRecDepth 100000 in
set_option maxHeartbeats 8000000 in
theorem lawClasses_s (a : ByteArray) (ha : a.size ≤ maxLen) (w : World) (hg : Gl w) :
    Calls Tryd.prog 11 #[.string a] w fun e w' => e = .returned (.bool true) ∧ Below w.heap.size w w' := by
  have HG := Lib.hid hg
  clear hg
  go_enter Tryd.func11, Tryd.ntmps11
  go_wp2_with fail
  go_loop [3] (fun i => ∃ k : Nat, k ≤ 256 ∧ i = .int .i64 k) (fun i => 256 - (intOf i).toNat)
  case atStart => exact ⟨0, by omega, rfl⟩
  case round =>
    obtain ⟨k, hk, rfl⟩ := hrel
    by_cases hlt : k < 256
    · obtain ⟨c, rfl⟩ : ∃ c : UInt8, c.toNat = k := ⟨UInt8.ofNat k, by rw [UInt8.toNat_ofNat']; omega⟩
      have hw := wrapB c
      have hle : leB c = (loB c || upB c) := rfl
      cases hl : loB c
      · rw [hl, Bool.false_or] at hle
        go_wp2_with fail
        refine (isLower_c c _).mono ?_
        rintro e w0 ⟨rfl, rfl⟩
        go_wp2_with fail
        refine (refLow_c c _).mono ?_
        rintro e w0 ⟨rfl, rfl⟩
        go_wp2_with fail
        refine (isUpper_c c _).mono ?_
        rintro e w0 ⟨rfl, rfl⟩
        go_wp2_with fail
        refine (refUp_c c _).mono ?_
        rintro e w0 ⟨rfl, rfl⟩
        go_wp2_with fail
        refine (isLetter_c c _).mono ?_
        rintro e w0 ⟨rfl, rfl⟩
        go_wp2_with fail
        refine (refLow_c c _).mono ?_
        rintro e w0 ⟨rfl, rfl⟩
        go_wp2_with fail
        refine (refUp_c c _).mono ?_
        rintro e w0 ⟨rfl, rfl⟩
        go_wp2_with fail
        refine (isDigit_c c _).mono ?_
        rintro e w0 ⟨rfl, rfl⟩
        go_wp2_with fail
        refine (refDigit_c c _).mono ?_
        rintro e w0 ⟨rfl, rfl⟩
        go_wp2_with fail
        refine (isVisible_c c _).mono ?_
        rintro e w0 ⟨rfl, rfl⟩
        go_wp2_with fail
        refine (refVis_c c _).mono ?_
        rintro e w0 ⟨rfl, rfl⟩
        go_wp2_with fail
        refine (isBlank_c c _).mono ?_
        rintro e w0 ⟨rfl, rfl⟩
        go_wp2_with fail
        refine (refBlank_c c _).mono ?_
        rintro e w0 ⟨rfl, rfl⟩
        go_wp2_with fail
        go_round
        case rel => exact ⟨c.toNat + 1, by omega, by go_num⟩
        case measure => simp [intOf]; omega
      · rw [hl, Bool.true_or] at hle
        go_wp2_with fail
        refine (isLower_c c _).mono ?_
        rintro e w0 ⟨rfl, rfl⟩
        go_wp2_with fail
        refine (refLow_c c _).mono ?_
        rintro e w0 ⟨rfl, rfl⟩
        go_wp2_with fail
        refine (isUpper_c c _).mono ?_
        rintro e w0 ⟨rfl, rfl⟩
        go_wp2_with fail
        refine (refUp_c c _).mono ?_
        rintro e w0 ⟨rfl, rfl⟩
        go_wp2_with fail
        refine (isLetter_c c _).mono ?_
        rintro e w0 ⟨rfl, rfl⟩
        go_wp2_with fail
        refine (refLow_c c _).mono ?_
        rintro e w0 ⟨rfl, rfl⟩
        go_wp2_with fail
        refine (isDigit_c c _).mono ?_
        rintro e w0 ⟨rfl, rfl⟩
        go_wp2_with fail
        refine (refDigit_c c _).mono ?_
        rintro e w0 ⟨rfl, rfl⟩
        go_wp2_with fail
        refine (isVisible_c c _).mono ?_
        rintro e w0 ⟨rfl, rfl⟩
        go_wp2_with fail
        refine (refVis_c c _).mono ?_
        rintro e w0 ⟨rfl, rfl⟩
        go_wp2_with fail
        refine (isBlank_c c _).mono ?_
        rintro e w0 ⟨rfl, rfl⟩
        go_wp2_with fail
        refine (refBlank_c c _).mono ?_
        rintro e w0 ⟨rfl, rfl⟩
        go_wp2_with fail
        go_round
        case rel => exact ⟨c.toNat + 1, by omega, by go_num⟩
        case measure => simp [intOf]; omega
    · have hA := cutB_size a
      have HA := Lib.hid hA
      clear hA
      go_wp2_with fail
      refine (known_s _ HG.out).mono ?_
      rintro e w1 ⟨rfl, c1⟩
      go_wp2_with fail
      refine (cut_s a ha _).mono ?_
      rintro e w0 ⟨rfl, rfl⟩
      go_wp2_with fail
      refine (printable_s (cutB a) (sizeLe _ (by have := HA.out; omega)) _).mono ?_
      rintro e w0 ⟨rfl, rfl⟩
      go_wp2_with fail
      refine (cut_s a ha _).mono ?_
      rintro e w0 ⟨rfl, rfl⟩
      go_wp2_with fail
      refine (refPrintable_s (cutB a) (by have := HA.out; omega) _).mono ?_
      rintro e w0 ⟨rfl, rfl⟩
      go_wp2_with fail
      go_ret
      exact ⟨ret_bool (by simp), c1⟩
end Go.Proofs.YtgmamplnhechjaaDoor
