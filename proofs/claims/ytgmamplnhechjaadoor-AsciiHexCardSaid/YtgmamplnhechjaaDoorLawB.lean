/-
  The laws AsciiOrder and AsciiIndex, walked.
-/
import Derived.Test.YtgmamplnhechjaaDoorLawA
set_option linter.unusedSimpArgs false
set_option linter.unusedVariables false
set_option linter.unnecessarySimpa false
namespace Go.Proofs.YtgmamplnhechjaaDoor
open Go.RowKit Go.Bul
set_option maxRecDepth 100000 in
set_option maxHeartbeats 8000000 in
theorem lawOrder_s (a b c : ByteArray) (ha : a.size ≤ maxLen) (hb : b.size ≤ maxLen) (hc : c.size ≤ maxLen) (w : World) (hg : Gl w) :
    Calls Tryd.prog 4 #[.string a, .string b, .string c] w fun e w' => e = .returned (.bool true) ∧ Below w.heap.size w w' := by
  have HG := Lib.hid hg
  clear hg
  go_enter Tryd.func4, Tryd.ntmps4
  go_wp2_with fail
  refine (cut_s a ha _).mono ?_
  rintro e w0 ⟨rfl, rfl⟩
  go_wp2_with fail
  refine (cut_s b hb _).mono ?_
  rintro e w0 ⟨rfl, rfl⟩
  go_wp2_with fail
  refine (cut_s c hc _).mono ?_
  rintro e w0 ⟨rfl, rfl⟩
  have hA := cutB_size a
  have hB := cutB_size b
  have hC := cutB_size c
  generalize cutB a = A at *
  generalize cutB b = B at *
  generalize cutB c = C at *
  clear ha hb hc
  have hA := sizeLe _ (show A.size ≤ 4294967280 by omega)
  have hB := sizeLe _ (show B.size ≤ 4294967280 by omega)
  have hC := sizeLe _ (show C.size ≤ 4294967280 by omega)
  have h1 : cmpFoldL B.data.toList A.data.toList = - cmpFoldL A.data.toList B.data.toList := cmp_anti _ _
  have h2 := cmp_bd (lowL A.data.toList) (lowL B.data.toList)
  have h3 : cmpFoldL A.data.toList B.data.toList ≤ 0 → cmpFoldL B.data.toList C.data.toList ≤ 0 → cmpFoldL A.data.toList C.data.toList ≤ 0 := cmp_trans _ _ _
  change -1 ≤ cmpFoldL A.data.toList B.data.toList ∧ cmpFoldL A.data.toList B.data.toList ≤ 1 at h2
  generalize hX : cmpFoldL A.data.toList B.data.toList = X at *
  generalize hY : cmpFoldL B.data.toList C.data.toList = Y at *
  generalize hZ : cmpFoldL A.data.toList C.data.toList = Z at *
  generalize hV : cmpFoldL B.data.toList A.data.toList = V at *
  have HX := Lib.hid hX
  have HY := Lib.hid hY
  have HZ := Lib.hid hZ
  have HV := Lib.hid hV
  have g1 : (V != -X) = false := by rw [h1]; simp
  have h4 : X ≤ 0 ∧ Y ≤ 0 ∧ Z ≤ 0 ∨ X ≤ 0 ∧ ¬ Y ≤ 0 ∨ ¬ X ≤ 0 := by omega
  have hx1 := h2.1
  have hx2 := h2.2
  clear hX hY hZ hV h1 h2 h3
  go_wp2_with fail
  refine (compareFold_s A B hA hB _).mono ?_
  rintro e w1 ⟨rfl, b1⟩
  have c1 := b1
  rw [HX.out]
  go_wp2_with fail
  refine (compareFold_s B C hB hC _).mono ?_
  rintro e w2 ⟨rfl, b2⟩
  have c2 := c1.trans (b2.mono c1.size)
  clear b2 c1
  rw [HY.out]
  go_wp2_with fail
  refine (compareFold_s A C hA hC _).mono ?_
  rintro e w3 ⟨rfl, b3⟩
  have c3 := c2.trans (b3.mono c2.size)
  clear b3 c2
  rw [HZ.out]
  go_wp2_with fail
  refine (compareFold_s B A hB hA _).mono ?_
  rintro e w4 ⟨rfl, b4⟩
  have c4 := c3.trans (b4.mono c3.size)
  clear b4 c3
  rw [HV.out]
  rcases h4 with ⟨p1, p2, p3⟩ | ⟨p1, p2⟩ | p1
  · have q1 : ¬ 0 < Z := by omega
    go_wp2_with fail
    refine (equalFold_s A B hA hB _).mono ?_
    rintro e w5 ⟨rfl, b5⟩
    have c5 := c4.trans (b5.mono c4.size)
    clear b5 c4
    rw [HX.out]
    go_wp2_with fail
    refine (known_s _ (HG.out.below c5)).mono ?_
    rintro e w6 ⟨rfl, b6⟩
    have c6 := c5.trans (b6.mono c5.size)
    clear b6 c5
    go_wp2_with fail
    go_ret
    exact ⟨rfl, c6⟩
  · have q1 : 0 < Y := by omega
    go_wp2_with fail
    refine (equalFold_s A B hA hB _).mono ?_
    rintro e w5 ⟨rfl, b5⟩
    have c5 := c4.trans (b5.mono c4.size)
    clear b5 c4
    rw [HX.out]
    go_wp2_with fail
    refine (known_s _ (HG.out.below c5)).mono ?_
    rintro e w6 ⟨rfl, b6⟩
    have c6 := c5.trans (b6.mono c5.size)
    clear b6 c5
    go_wp2_with fail
    go_ret
    exact ⟨rfl, c6⟩
  · have q1 : 0 < X := by omega
    go_wp2_with fail
    refine (equalFold_s A B hA hB _).mono ?_
    rintro e w5 ⟨rfl, b5⟩
    have c5 := c4.trans (b5.mono c4.size)
    clear b5 c4
    rw [HX.out]
    go_wp2_with fail
    refine (known_s _ (HG.out.below c5)).mono ?_
    rintro e w6 ⟨rfl, b6⟩
    have c6 := c5.trans (b6.mono c5.size)
    clear b6 c5
    go_wp2_with fail
    go_ret
    exact ⟨rfl, c6⟩
theorem idx_fold (a b : List UInt8) (h : 0 ≤ idxFoldL a b) : ∃ i : Nat, idxFoldL a b = i ∧ i + b.length ≤ a.length ∧ cmpFoldL ((a.drop i).take b.length) b = 0 := by
  rcases Lib.index_spec (lowL a) (lowL b) with ⟨h1, _⟩ | ⟨i, h1, h2, h3, _⟩
  · unfold idxFoldL at h; rw [h1] at h; exact absurd h (by decide)
  · refine ⟨i, h1, ?_, ?_⟩
    · unfold Lib.occAt at h3
      have h4 := (List.isPrefixOf_iff_prefix.1 h3).length_le
      have la : (lowL a).length = a.length := by simp [lowL]
      have lb : (lowL b).length = b.length := by simp [lowL]
      rw [List.length_drop, la, lb] at h4
      rw [la] at h2
      omega
    · unfold Lib.occAt at h3
      obtain ⟨t, ht⟩ := List.isPrefixOf_iff_prefix.1 h3
      unfold cmpFoldL
      rw [cmp_zero]
      have : lowL ((a.drop i).take b.length) = ((lowL a).drop i).take b.length := by unfold lowL; rw [List.map_take, List.map_drop]
      rw [this, ← ht]
      rw [List.take_append_of_le_length (by simp [lowL]), List.take_of_length_le (by simp [lowL])]
set_option maxRecDepth 100000 in
set_option maxHeartbeats 8000000 in
theorem lawIndex_s (a b : ByteArray) (ha : a.size ≤ maxLen) (hb : b.size ≤ maxLen) (w : World) (hg : Gl w) :
    Calls Tryd.prog 5 #[.string a, .string b] w fun e w' => e = .returned (.bool true) ∧ Below w.heap.size w w' := by
  have HG := Lib.hid hg
  clear hg
  go_enter Tryd.func5, Tryd.ntmps5
  go_wp2_with fail
  refine (cut_s a ha _).mono ?_
  rintro e w0 ⟨rfl, rfl⟩
  go_wp2_with fail
  refine (cut_s b hb _).mono ?_
  rintro e w0 ⟨rfl, rfl⟩
  have hA := cutB_size a
  have hB := cutB_size b
  generalize cutB a = A at *
  generalize cutB b = B at *
  clear ha hb
  have hA' := sizeLe _ (show A.size ≤ 4294967280 by omega)
  have hB' := sizeLe _ (show B.size ≤ 4294967280 by omega)
  by_cases hn : 0 ≤ idxFoldL A.data.toList B.data.toList
  · obtain ⟨i, hi1, hi2, hi3⟩ := idx_fold _ _ hn
    have la : A.data.toList.length = A.size := by simp
    have lb : B.data.toList.length = B.size := by simp
    rw [la, lb] at hi2
    have HI := Lib.hid hi1
    have h3 : (cmpFoldL (A.extract i (i + B.size)).data.toList B.data.toList == 0) = true := by
      rw [Lib.extract_data, Nat.add_sub_cancel_left, ← lb, hi3]; rfl
    have h4 : (A.extract i (i + B.size)).size ≤ maxLen := sizeLe _ (by rw [extract_size _ _ _ hi2]; omega)
    have i0 : (0 : Int) ≤ (i : Int) := by omega
    have i1 : (i : Int) + B.size ≤ A.size := by omega
    clear hn hi1 hi3 la lb
    go_wp2_with fail
    refine (indexFold_s A B (by omega) hB' _ HG.out).mono ?_
    rintro e w1 ⟨rfl, c1⟩
    rw [HI.out]
    go_wp2_with fail
    refine (equalFold_s (A.extract i (i + B.size)) B h4 hB' _).mono ?_
    rintro e w2 ⟨rfl, b2⟩
    have c2 := c1.trans (b2.mono c1.size)
    clear b2 c1
    rw [h3]
    go_wp2_with fail
    refine (known_s _ (HG.out.below c2)).mono ?_
    rintro e w3 ⟨rfl, b3⟩
    have c3 := c2.trans (b3.mono c2.size)
    clear b3 c2
    go_wp2_with fail
    refine (refIndex_s A B (by omega) (by omega) _).mono ?_
    rintro e w4 ⟨rfl, b4⟩
    have c4 := c3.trans (b4.mono c3.size)
    clear b4 c3
    rw [HI.out]
    go_wp2_with fail
    go_ret
    exact ⟨ret_bool (by simp), c4⟩
  · have hn' : idxFoldL A.data.toList B.data.toList < 0 := by omega
    go_wp2_with fail
    refine (indexFold_s A B (by omega) hB' _ HG.out).mono ?_
    rintro e w1 ⟨rfl, c1⟩
    go_wp2_with fail
    refine (known_s _ (HG.out.below c1)).mono ?_
    rintro e w2 ⟨rfl, b2⟩
    have c2 := c1.trans (b2.mono c1.size)
    clear b2 c1
    go_wp2_with fail
    refine (refIndex_s A B (by omega) (by omega) _).mono ?_
    rintro e w3 ⟨rfl, b3⟩
    have c3 := c2.trans (b3.mono c2.size)
    clear b3 c2
    go_wp2_with fail
    go_ret
    exact ⟨ret_bool (by simp), c3⟩
end Go.Proofs.YtgmamplnhechjaaDoor
