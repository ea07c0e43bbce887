/-
  The laws of layer 1 on comparison without regard to case, walked.
-/
import Derived.Test.YtgmamplnhechjaaDoorKnoB
set_option linter.unusedSimpArgs false
set_option linter.unusedVariables false
set_option linter.unnecessarySimpa false
namespace Go.Proofs.YtgmamplnhechjaaDoor
open Go.RowKit Go.Bul
def cutB (s : ByteArray) : ByteArray := s.extract 0 (min s.size 300)
theorem cutB_size (s : ByteArray) : (cutB s).size ≤ 300 := by unfold cutB; rw [extract_size _ _ _ (Nat.min_le_left _ _)]; omega
theorem cut_s (s : ByteArray) (hs : s.size ≤ maxLen) (w : World) : Calls Tryd.prog 12 #[.string s] w fun e w' => e = .returned (.string (cutB s)) ∧ w = w' := by
  unfold maxLen at hs
  go_enter Tryd.func12, Tryd.ntmps12
  go_wp2_with fail
  go_ret
  refine ⟨?_, rfl⟩
  show Ending.returned (.string (s.extract 0 (min (s.size : Int) 300).toNat)) = _
  rw [show (min (s.size : Int) 300).toNat = min s.size 300 by omega]
  rfl

/-! ### the order of bytes -/
theorem cmp_zero : ∀ a b : List UInt8, Lib.compareBytes a b = 0 ↔ a = b
  | [], [] => by simp [Lib.compareBytes]
  | [], _ :: _ => by simp [Lib.compareBytes]
  | _ :: _, [] => by simp [Lib.compareBytes]
  | x :: a, y :: b => by
    unfold Lib.compareBytes
    by_cases h1 : x < y
    · rw [if_pos h1]
      simp
      intro e; subst e; exact absurd h1 (UInt8.lt_irrefl _)
    · rw [if_neg h1]
      by_cases h2 : y < x
      · rw [if_pos h2]
        simp
        intro e; subst e; exact absurd h2 (UInt8.lt_irrefl _)
      · rw [if_neg h2, cmp_zero a b]
        have : x = y := UInt8.le_antisymm (UInt8.not_lt.1 h2) (UInt8.not_lt.1 h1)
        simp [this]
theorem cmp_bd : ∀ a b : List UInt8, -1 ≤ Lib.compareBytes a b ∧ Lib.compareBytes a b ≤ 1
  | [], [] => by simp [Lib.compareBytes]
  | [], _ :: _ => by simp [Lib.compareBytes]
  | _ :: _, [] => by simp [Lib.compareBytes]
  | x :: a, y :: b => by
    unfold Lib.compareBytes
    have := cmp_bd a b
    split
    · omega
    · split <;> omega
theorem cmp_anti : ∀ a b : List UInt8, Lib.compareBytes b a = - Lib.compareBytes a b
  | [], [] => by simp [Lib.compareBytes]
  | [], _ :: _ => by simp [Lib.compareBytes]
  | _ :: _, [] => by simp [Lib.compareBytes]
  | x :: a, y :: b => by
    unfold Lib.compareBytes
    have := cmp_anti a b
    by_cases h1 : x < y
    · have h2 : ¬ y < x := fun h => absurd (UInt8.lt_trans h1 h) (UInt8.lt_irrefl _)
      rw [if_neg h2, if_pos h1, if_pos h1]; rfl
    · by_cases h2 : y < x
      · rw [if_pos h2, if_neg h1, if_pos h2]
      · rw [if_neg h2, if_neg h1, if_neg h1, if_neg h2]; exact this
theorem cmp_trans : ∀ a b c : List UInt8, Lib.compareBytes a b ≤ 0 → Lib.compareBytes b c ≤ 0 → Lib.compareBytes a c ≤ 0
  | [], _, [], _, _ => by simp [Lib.compareBytes]
  | [], _, _ :: _, _, _ => by simp [Lib.compareBytes]
  | _ :: _, [], _, h, _ => by simp [Lib.compareBytes] at h
  | _ :: _, _ :: _, [], _, h => by simp [Lib.compareBytes] at h
  | x :: a, y :: b, z :: c, h, g => by
    unfold Lib.compareBytes at *
    have ih := cmp_trans a b c
    by_cases h1 : x < y
    · by_cases h3 : y < z
      · rw [if_pos (UInt8.lt_trans h1 h3)]; omega
      · rw [if_neg h3] at g
        by_cases h4 : z < y
        · rw [if_pos h4] at g; omega
        · have : y = z := UInt8.le_antisymm (UInt8.not_lt.1 h4) (UInt8.not_lt.1 h3)
          subst this
          rw [if_pos h1]; omega
    · rw [if_neg h1] at h
      by_cases h2 : y < x
      · rw [if_pos h2] at h; omega
      · have : x = y := UInt8.le_antisymm (UInt8.not_lt.1 h2) (UInt8.not_lt.1 h1)
        subst this
        rw [if_neg h2] at h
        by_cases h3 : x < z
        · rw [if_pos h3]; omega
        · rw [if_neg h3] at g
          by_cases h4 : z < x
          · rw [if_pos h4] at g; omega
          · rw [if_neg h4] at g
            rw [if_neg h3, if_neg h4]
            exact ih h g
theorem lowC_idem (c : UInt8) : lowC (lowC c) = lowC c := by
  unfold lowC
  by_cases h : upB c = true
  · rw [if_pos h]
    have h2 : 65 ≤ c.toNat ∧ c.toNat ≤ 90 := by simpa [upB] using h
    have h3 : upB (c + 32) = false := by
      unfold upB
      rw [UInt8.toNat_add]
      have : (32 : UInt8).toNat = 32 := rfl
      simp
      omega
    rw [h3]; simp
  · rw [if_neg h, if_neg h]
theorem lowL_idem (l : List UInt8) : lowL (lowL l) = lowL l := by
  unfold lowL
  rw [List.map_map]
  congr 1
  funext c
  exact lowC_idem c

set_option maxRecDepth 100000 in
set_option maxHeartbeats 8000000 in
theorem lawFold_s (a b : ByteArray) (ha : a.size ≤ maxLen) (hb : b.size ≤ maxLen) (w : World) (hg : Gl w) :
    Calls Tryd.prog 3 #[.string a, .string b] w fun e w' => e = .returned (.bool true) ∧ Below w.heap.size w w' := by
  have HG := Lib.hid hg
  clear hg
  go_enter Tryd.func3, Tryd.ntmps3
  go_wp2_with fail
  refine (cut_s a ha _).mono ?_
  rintro e w0 ⟨rfl, rfl⟩
  go_wp2_with fail
  refine (cut_s b hb _).mono ?_
  rintro e w0 ⟨rfl, rfl⟩
  have hA := cutB_size a
  have hB := cutB_size b
  generalize cutB a = A at *
  generalize cutB b = B at *
  clear ha hb
  have h1 : (cmpFoldL A.data.toList B.data.toList == 0) = (lowL A.data.toList == lowL B.data.toList) := by
    rw [Bool.eq_iff_iff, beq_iff_eq, beq_iff_eq]; exact cmp_zero _ _
  have h2 : (cmpFoldL A.data.toList (lowL A.data.toList) == 0) = true := by
    rw [beq_iff_eq]; unfold cmpFoldL; rw [lowL_idem]; exact (cmp_zero _ _).2 rfl
  have HF := Lib.hid (show cmpFoldL A.data.toList B.data.toList = Lib.compareBytes (lowL A.data.toList) (lowL B.data.toList) from rfl)
  have hs : (⟨(lowL A.data.toList).toArray⟩ : ByteArray).size ≤ 300 := by rw [size_of (lowL A.data.toList)]; unfold lowL; simpa using hA
  have hs2 : (⟨(lowL B.data.toList).toArray⟩ : ByteArray).size ≤ 300 := by rw [size_of (lowL B.data.toList)]; unfold lowL; simpa using hB
  have HS := Lib.hid hs
  have HS2 := Lib.hid hs2
  clear hs hs2
  go_wp2_with fail
  refine (refLower_s A (sizeLe _ (by omega)) _).mono ?_
  rintro e w1 ⟨rfl, b1⟩
  go_wp2_with fail
  refine (refLower_s B (sizeLe _ (by omega)) _).mono ?_
  rintro e w2 ⟨rfl, b2⟩
  have c2 := b1.trans (b2.mono b1.size)
  clear b1 b2
  go_wp2_with fail
  refine (known_s _ (HG.out.below c2)).mono ?_
  rintro e w3 ⟨rfl, b3⟩
  have c3 := c2.trans (b3.mono c2.size)
  clear b3 c2
  go_wp2_with fail
  refine (lower_s A (sizeLe _ (by omega)) _).mono ?_
  rintro e w4 ⟨rfl, b4⟩
  have c4 := c3.trans (b4.mono c3.size)
  clear b4 c3
  go_wp2_with fail
  refine (equalFold_s A B (sizeLe _ (by omega)) (sizeLe _ (by omega)) _).mono ?_
  rintro e w5 ⟨rfl, b5⟩
  have c5 := c4.trans (b5.mono c4.size)
  clear b5 c4
  go_wp2_with fail
  refine (equalFold_s A ⟨(lowL A.data.toList).toArray⟩ (sizeLe _ (by omega)) (sizeLe _ (by have := HS.out; omega)) _).mono ?_
  rintro e w6 ⟨rfl, b6⟩
  have c6 := c5.trans (b6.mono c5.size)
  clear b6 c5
  go_wp2_with fail
  refine (compareFold_s A B (sizeLe _ (by omega)) (sizeLe _ (by omega)) _).mono ?_
  rintro e w7 ⟨rfl, b7⟩
  have c7 := c6.trans (b7.mono c6.size)
  clear b7 c6
  go_wp2_with fail
  refine (refCompare_s ⟨(lowL A.data.toList).toArray⟩ ⟨(lowL B.data.toList).toArray⟩ (by have := HS.out; omega) (by have := HS2.out; omega) _).mono ?_
  rintro e w8 ⟨rfl, b8⟩
  have c8 := c7.trans (b8.mono c7.size)
  clear b8 c7
  rw [HF.out]
  go_wp2_with fail
  go_ret
  exact ⟨ret_bool (by simp), c8⟩
end Go.Proofs.YtgmamplnhechjaaDoor
