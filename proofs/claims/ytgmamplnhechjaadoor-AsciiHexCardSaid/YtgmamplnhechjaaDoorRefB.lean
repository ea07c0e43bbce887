/-
  The reference of package ascii: Printable, Trim, Index: what they answer.
-/
import Derived.Test.YtgmamplnhechjaaDoorRefA
import Derived.Lib.IndexBytes
set_option linter.unusedSimpArgs false
set_option linter.unusedVariables false
set_option linter.unnecessarySimpa false
namespace Go.Proofs.YtgmamplnhechjaaDoor
open Go.RowKit Go.Bul
def prAt (l : List UInt8) (k : Nat) : Int := if ((l.drop k).takeWhile prB).length = (l.drop k).length then -1 else ((k + ((l.drop k).takeWhile prB).length : Nat) : Int)
theorem prAt_zero (l : List UInt8) : printableL l = prAt l 0 := by unfold printableL prAt; simp
theorem prAt_go (s : ByteArray) (k : Nat) (h : k < s.size) (hp : prB s[k] = true) : prAt s.data.toList k = prAt s.data.toList (k + 1) := by
  unfold prAt
  rw [drop_at s k h, List.takeWhile_cons, if_pos hp]
  simp only [List.length_cons, Nat.add_right_cancel_iff]
  split
  · rfl
  · congr 1; omega
theorem prAt_no (s : ByteArray) (k : Nat) (h : k < s.size) (hp : prB s[k] = false) : prAt s.data.toList k = k := by
  unfold prAt
  rw [drop_at s k h, List.takeWhile_cons, hp]
  simp
theorem prAt_end (s : ByteArray) (k : Nat) (h : s.size ≤ k) : prAt s.data.toList k = -1 := by
  unfold prAt
  rw [List.drop_eq_nil_of_le (by simpa using h)]
  rfl
set_option maxRecDepth 100000 in
set_option maxHeartbeats 400000 in
theorem refPrintable_s (s : ByteArray) (hs : s.size ≤ 4294967280) (w : World) : Calls Tryd.prog 48 #[.string s] w fun e w' => e = .returned (.int .i64 (printableL s.data.toList)) ∧ w = w' := by
  go_enter Tryd.func48, Tryd.ntmps48
  go_wp2_with fail
  go_loop [3] (fun i => ∃ k : Nat, k ≤ s.size ∧ i = .int .i64 k ∧ printableL s.data.toList = prAt s.data.toList k) (fun i => s.size - (intOf i).toNat)
  case atStart => exact ⟨0, Nat.zero_le _, rfl, prAt_zero _⟩
  case round =>
    obtain ⟨k, hk, rfl, hp⟩ := hrel
    have HP := Lib.hid hp
    clear hp
    by_cases hlt : k < s.size
    · have hpr : ((s[k].toNat : Int) != 32) = (s[k].toNat != 32) := by rw [Bool.eq_iff_iff]; simp; omega
      have HPR := Lib.hid hpr
      clear hpr
      cases hv : viB s[k]
      · cases h32 : (s[k].toNat == 32)
        · have h1 : ((s[k].toNat : Int) != 32) = true := by rw [HPR.out]; simp at h32; simpa using h32
          clear h32
          go_wp2_with (go_at_call 44; refine (refVis_c _ _).mono ?_; rintro e w' ⟨rfl, rfl⟩)
          go_ret
          exact ⟨ret_int (HP.out.trans (prAt_no s k hlt (by unfold prB; rw [hv]; rw [HPR.out] at h1; simp at h1; simpa using h1))).symm, rfl⟩
        · have h1 : ((s[k].toNat : Int) != 32) = false := by rw [HPR.out]; simp at h32; simpa using h32
          have h33 := Lib.hid h32
          clear h32
          go_wp2_with (go_at_call 44; refine (refVis_c _ _).mono ?_; rintro e w' ⟨rfl, rfl⟩)
          go_round
          case rel => exact ⟨k + 1, by omega, by go_num, HP.out.trans (prAt_go s k hlt (by unfold prB; rw [h33.out]; rfl))⟩
          case measure => simp [intOf]; omega
      · go_wp2_with (go_at_call 44; refine (refVis_c _ _).mono ?_; rintro e w' ⟨rfl, rfl⟩)
        go_round
        case rel => exact ⟨k + 1, by omega, by go_num, HP.out.trans (prAt_go s k hlt (by unfold prB; rw [hv]; simp))⟩
        case measure => simp [intOf]; omega
    · go_wp2_with fail
      go_ret
      exact ⟨ret_int (by rw [HP.out, prAt_end s k (by omega)]), rfl⟩

/-! ### Trim -/
theorem rtrim_cut (s : ByteArray) (k m : Nat) (hk : k ≤ m) (hm : m < s.size) (hb : blB s[m] = true) : rtrim (s.extract k (m + 1)).data.toList = rtrim (s.extract k m).data.toList := by
  rw [Lib.extract_data, Lib.extract_data, show m + 1 - k = (m - k) + 1 by omega]
  have hl : s.data.toList.length = s.size := by simp
  rw [List.take_succ_eq_append_getElem (by rw [List.length_drop]; omega), rtrim_snoc]
  have : (s.data.toList.drop k)[m - k]'(by rw [List.length_drop]; omega) = s[m] := by
    rw [List.getElem_drop]
    have h2 : k + (m - k) = m := by omega
    simp only [h2]
    rfl
  rw [this, if_pos hb]
theorem rtrim_keep (s : ByteArray) (k m : Nat) (hk : k ≤ m) (hm : m < s.size) (hb : blB s[m] = false) : rtrim (s.extract k (m + 1)).data.toList = (s.extract k (m + 1)).data.toList := by
  rw [Lib.extract_data, show m + 1 - k = (m - k) + 1 by omega]
  have hl : s.data.toList.length = s.size := by simp
  rw [List.take_succ_eq_append_getElem (by rw [List.length_drop]; omega), rtrim_snoc]
  have : (s.data.toList.drop k)[m - k]'(by rw [List.length_drop]; omega) = s[m] := by
    rw [List.getElem_drop]
    have h2 : k + (m - k) = m := by omega
    simp only [h2]
    rfl
  rw [this, if_neg (by simp [hb])]
theorem rtrim_empty (s : ByteArray) (k : Nat) : rtrim (s.extract k k).data.toList = (s.extract k k).data.toList := by
  rw [Lib.extract_data, Nat.sub_self, List.take_zero]; rfl
set_option maxRecDepth 100000 in
set_option maxHeartbeats 400000 in
theorem refTrim_s (s : ByteArray) (hs : s.size ≤ 4294967280) (w : World) : Calls Tryd.prog 27 #[.string s] w fun e w' => e = .returned (St (trimL s.data.toList)) ∧ w = w' := by
  go_enter Tryd.func27, Tryd.ntmps27
  go_wp2_with fail
  go_loop [3] (fun i => ∃ k : Nat, k ≤ s.size ∧ i = .int .i64 k ∧ s.data.toList.dropWhile blB = (s.data.toList.drop k).dropWhile blB) (fun i => s.size - (intOf i).toNat)
  case atStart => exact ⟨0, Nat.zero_le _, rfl, rfl⟩
  case round =>
    obtain ⟨k, hk, rfl, hp⟩ := hrel
    have HP := Lib.hid hp
    clear hp
    have key : (k < s.size ∧ ∃ h : k < s.size, blB s[k] = true) ∨ (trimL s.data.toList = rtrim (s.extract k s.size).data.toList ∧ ((∃ h : k < s.size, blB s[k] = false) ∨ ¬ k < s.size)) := by
      by_cases hlt : k < s.size
      · cases hb : blB s[k]
        · right
          refine ⟨?_, .inl ⟨hlt, hb⟩⟩
          unfold trimL
          rw [HP.out, Lib.extract_to_end, drop_at s k hlt, List.dropWhile_cons, if_neg (by simp [hb])]
        · exact .inl ⟨hlt, hlt, hb⟩
      · right
        refine ⟨?_, .inr hlt⟩
        unfold trimL
        rw [HP.out, Lib.extract_to_end, List.drop_eq_nil_of_le (by simp; omega)]
        rfl
    rcases key with ⟨hlt, _, hb⟩ | ⟨hT, hE⟩
    · go_wp2_with (go_at_call 46; refine (refBlank_c _ _).mono ?_; rintro e w' ⟨rfl, rfl⟩)
      go_round
      case rel => exact ⟨k + 1, by omega, by go_num, by rw [HP.out, drop_at s k hlt, List.dropWhile_cons, if_pos hb]⟩
      case measure => simp [intOf]; omega
    · have HT := Lib.hid hT
      clear hT
      rcases hE with ⟨hlt, hb⟩ | hlt
      all_goals
        go_wp2_with (go_at_call 46; refine (refBlank_c _ _).mono ?_; rintro e w' ⟨rfl, rfl⟩)
        go_loop [4] (fun i => ∃ m : Nat, k ≤ m ∧ m ≤ s.size ∧ i = .int .i64 m ∧ trimL s.data.toList = rtrim (s.extract k m).data.toList) (fun i => (intOf i).toNat)
        case atStart => exact ⟨s.size, hk, Nat.le_refl _, rfl, HT.out⟩
        case round =>
          obtain ⟨m, hm1, hm2, rfl, hp2⟩ := hrel
          have HQ := Lib.hid hp2
          clear hp2
          by_cases hkm : k < m
          · obtain ⟨n, rfl⟩ : ∃ n, m = n + 1 := ⟨m - 1, by omega⟩
            have hn : n < s.size := by omega
            cases hb2 : blB s[n]
            · go_wp2_with (go_at_call 46; refine (refBlank_c _ _).mono ?_; rintro e w' ⟨rfl, rfl⟩)
              all_goals
                go_ret
                exact ⟨ret_str (by rw [HQ.out, rtrim_keep s k n (by omega) hn hb2]), rfl⟩
            · go_wp2_with (go_at_call 46; refine (refBlank_c _ _).mono ?_; rintro e w' ⟨rfl, rfl⟩)
              all_goals
                go_round
                case rel => exact ⟨n, by omega, by omega, by go_num, by rw [HQ.out, rtrim_cut s k n (by omega) hn hb2]⟩
                case measure => simp [intOf]
          · obtain rfl : k = m := by omega
            go_wp2_with fail
            go_ret
            exact ⟨ret_str (by rw [HQ.out, rtrim_empty, Lib.extract_data, Nat.sub_self, List.take_zero]; rfl), rfl⟩
/-! ### Index -/
theorem lib_index_end {X Y : ByteArray} {k : Nat} (h : Lib.NoOccB X Y k) (hi : (X.size : Int) < (k : Int) + Y.size) : Lib.indexB X Y = -1 := by
  rcases Lib.index_spec X.data.toList Y.data.toList with ⟨h1, _⟩ | ⟨i, h1, h2, h3, h4⟩
  · exact h1
  · exfalso
    have hx : X.data.toList.length = X.size := by simp
    have hy : Y.data.toList.length = Y.size := by simp
    by_cases hik : i < k
    · rw [h i hik] at h3; cases h3
    · unfold Lib.occAt at h3
      have := (List.isPrefixOf_iff_prefix.1 h3).length_le
      rw [List.length_drop] at this
      omega
theorem refLower_x (s : ByteArray) (hs : s.size ≤ maxLen) (w : World) : Calls Tryd.prog 13 #[.string s] w fun e w' => ∃ X : ByteArray, e = .returned (.string X) ∧ (X.data.toList = lowL s.data.toList) ∧ X.size = s.size ∧ Below w.heap.size w w' :=
  (refLower_s s hs w).mono fun e w' ⟨he, hb⟩ => ⟨_, he, rfl, by show (lowL s.data.toList).toArray.size = _; simp [lowL], hb⟩
set_option maxRecDepth 100000 in
set_option maxHeartbeats 400000 in
theorem refIndex_s (s p : ByteArray) (hs : s.size ≤ 4294967280) (hp : p.size ≤ 4294967280) (w : World) : Calls Tryd.prog 20 #[.string s, .string p] w fun e w' => e = .returned (.int .i64 (idxFoldL s.data.toList p.data.toList)) ∧ Below w.heap.size w w' := by
  have hm1 : s.size ≤ maxLen := by unfold maxLen; omega
  have hm2 : p.size ≤ maxLen := by unfold maxLen; omega
  go_enter Tryd.func20, Tryd.ntmps20
  go_wp2_with fail
  refine (refLower_x s hm1 _).mono ?_
  rintro e w1 ⟨X, rfl, hX, hXs, hb1⟩
  go_wp2_with fail
  refine (refLower_x p hm2 _).mono ?_
  rintro e w2 ⟨Y, rfl, hY, hYs, hb2⟩
  have HX := Lib.hid hX
  have HY := Lib.hid hY
  have hx1 : X.size ≤ 4294967280 := by omega
  have hy1 : Y.size ≤ 4294967280 := by omega
  have hb : Below w.heap.size w w2 := hb1.trans (hb2.mono hb1.size)
  clear hX hY hXs hYs hb1 hb2 hm1 hm2 hs hp
  go_wp2_with fail
  go_loop [7] (fun i => ∃ k : Nat, k ≤ X.size + 1 ∧ i = .int .i64 k ∧ Lib.NoOccB X Y k) (fun i => X.size + 1 - (intOf i).toNat)
  case atStart => exact ⟨0, Nat.zero_le _, rfl, Lib.NoOcc.zero _ _⟩
  case round =>
    obtain ⟨k, hk, rfl, hno⟩ := hrel
    have HN := Lib.hid hno
    clear hno
    by_cases hlt : k + Y.size ≤ X.size
    · have i1 : (0 : Int) ≤ (k : Int) := by omega
      have i2 : (k : Int) + Y.size ≤ X.size := by omega
      cases hq : ((X.extract k (k + Y.size)).toList == Y.toList)
      · go_wp2_with fail
        go_round
        case rel => exact ⟨k + 1, by omega, by go_num, Lib.miss_piece X Y k HN.out hlt hq⟩
        case measure => simp [intOf]; omega
      · go_wp2_with fail
        go_ret
        exact ⟨ret_int (by have := Lib.hit X Y k HN.out hlt hq; unfold idxFoldL; rw [← HX.out, ← HY.out]; exact this.symm), hb⟩
    · have i2 : (X.size : Int) < (k : Int) + Y.size := by omega
      go_wp2_with fail
      go_ret
      exact ⟨ret_int (by have := lib_index_end HN.out i2; unfold idxFoldL; rw [← HX.out, ← HY.out]; exact this.symm), hb⟩
end Go.Proofs.YtgmamplnhechjaaDoor
