/-
  The reference of package ascii: Printable, Trim, Index: what they answer.
-/
import Derived.Test.YtkiheanpamplpaaDoorRefA
import Derived.Lib.IndexBytes
set_option linter.unusedSimpArgs false
set_option linter.unusedVariables false
set_option linter.unnecessarySimpa false
namespace Go.Proofs.YtkiheanpamplpaaDoor
open Go.RowKit Go.Bul
def prAt (l : List UInt8) (k : Nat) : Int := if ((l.drop k).takeWhile prB).length = (l.drop k).length then -1 else ((k + ((l.drop k).takeWhile prB).length : Nat) : Int)
theorem prAt_zero (l : List UInt8) : printableL l = prAt l 0 := by unfold printableL prAt; simp
theorem prAt_go (s : ByteArray) (k : Nat) (h : k < s.size) (hp : prB s[k] = true) : prAt s.data.toList k = prAt s.data.toList (k + 1) := by
  unfold prAt
  rw [drop_at s k h, List.takeWhile_cons, if_pos hp]
  simp only [List.length_cons, Nat.add_right_cancel_iff]
  split
  · rfl
  · congr 1; omega
theorem prAt_no (s : ByteArray) (k : Nat) (h : k < s.size) (hp : prB s[k] = false) : prAt s.data.toList k = k := by
  unfold prAt
  rw [drop_at s k h, List.takeWhile_cons, hp]
  simp
theorem prAt_end (s : ByteArray) (k : Nat) (h : s.size ≤ k) : prAt s.data.toList k = -1 := by
  unfold prAt
  rw [List.drop_eq_nil_of_le (by simpa using h)]
  rfl
set_option maxRecDepth 100000 in
set_option maxHeartbeats 400000 in
theorem refPrintable_s (s : ByteArray) (hs : s.size ≤ 4294967280) (w : World) : Calls Tryd.prog 69 #[.string s] w fun e w' => e = .returned (.int .i64 (printableL s.data.toList)) ∧ w = w' := by
  go_enter Tryd.func69, Tryd.ntmps69
  go_wp2_with fail
  go_loop [3] (fun i => ∃ k : Nat, k ≤ s.size ∧ i = .int .i64 k ∧ printableL s.data.toList = prAt s.data.toList k) (fun i => s.size - (intOf i).toNat)
  case atStart => exact ⟨0, Nat.zero_le _, rfl, prAt_zero _⟩
  case round =>
    obtain ⟨k, hk, rfl, hp⟩ := hrel
    have HP := Lib.hid hp
    clear hp
    by_cases hlt : k < s.size
    · have hpr : ((s[k].toNat : Int) != 32) = (s[k].toNat != 32) := by rw [Bool.eq_iff_iff]; simp; omega
      have HPR := Lib.hid hpr
      clear hpr
      cases hv : viB s[k]
      · cases h32 : (s[k].toNat == 32)
        · have h1 : ((s[k].toNat : Int) != 32) = true := by rw [HPR.out]; simp at h32; simpa using h32
          clear h32
          go_wp2_with (go_at_call 89; refine (refVis_c _ _).mono ?_; rintro e w' ⟨rfl, rfl⟩)
          go_ret
          exact ⟨ret_int (HP.out.trans (prAt_no s k hlt (by unfold prB; rw [hv]; rw [HPR.out] at h1; simp at h1; simpa using h1))).symm, rfl⟩
        · have h1 : ((s[k].toNat : Int) != 32) = false := by rw [HPR.out]; simp at h32; simpa using h32
          have h33 := Lib.hid h32
          clear h32
          go_wp2_with (go_at_call 89; refine (refVis_c _ _).mono ?_; rintro e w' ⟨rfl, rfl⟩)
          go_round
          case rel => exact ⟨k + 1, by omega, by go_num, HP.out.trans (prAt_go s k hlt (by unfold prB; rw [h33.out]; rfl))⟩
          case measure => simp [intOf]; omega
      · go_wp2_with (go_at_call 89; refine (refVis_c _ _).mono ?_; rintro e w' ⟨rfl, rfl⟩)
        go_round
        case rel => exact ⟨k + 1, by omega, by go_num, HP.out.trans (prAt_go s k hlt (by unfold prB; rw [hv]; simp))⟩
        case measure => simp [intOf]; omega
    · go_wp2_with fail
      go_ret
      exact ⟨ret_int (by rw [HP.out, prAt_end s k (by omega)]), rfl⟩

/-! ### Trim -/
theorem rtrim_cut (s : ByteArray) (k m : Nat) (hk : k ≤ m) (hm : m < s.size) (hb : blB s[m] = true) : rtrim (s.extract k (m + 1)).data.toList = rtrim (s.extract k m).data.toList := by
  rw [Lib.extract_data, Lib.extract_data, show m + 1 - k = (m - k) + 1 by omega]
  have hl : s.data.toList.length = s.size := by simp
  rw [List.take_succ_eq_append_getElem (by rw [List.length_drop]; omega), rtrim_snoc]
  have : (s.data.toList.drop k)[m - k]'(by rw [List.length_drop]; omega) = s[m] := by
    rw [List.getElem_drop]
    have h2 : k + (m - k) = m := by omega
    simp only [h2]
    rfl
  rw [this, if_pos hb]
theorem rtrim_keep (s : ByteArray) (k m : Nat) (hk : k ≤ m) (hm : m < s.size) (hb : blB s[m] = false) : rtrim (s.extract k (m + 1)).data.toList = (s.extract k (m + 1)).data.toList := by
  rw [Lib.extract_data, show m + 1 - k = (m - k) + 1 by omega]
  have hl : s.data.toList.length = s.size := by simp
  rw [List.take_succ_eq_append_getElem (by rw [List.length_drop]; omega), rtrim_snoc]
  have : (s.data.toList.drop k)[m - k]'(by rw [List.length_drop]; omega) = s[m] := by
    rw [List.getElem_drop]
    have h2 : k + (m - k) = m := by omega
    simp only [h2]
    rfl
  rw [this, if_neg (by simp [hb])]
theorem rtrim_empty (s : ByteArray) (k : Nat) : rtrim (s.extract k k).data.toList = (s.extract k k).data.toList := by
  rw [Lib.extract_data, Nat.sub_self, List.take_zero]; rfl
/-! ### Index -/
theorem lib_index_end {X Y : ByteArray} {k : Nat} (h : Lib.NoOccB X Y k) (hi : (X.size : Int) < (k : Int) + Y.size) : Lib.indexB X Y = -1 := by
  rcases Lib.index_spec X.data.toList Y.data.toList with ⟨h1, _⟩ | ⟨i, h1, h2, h3, h4⟩
  · exact h1
  · exfalso
    have hx : X.data.toList.length = X.size := by simp
    have hy : Y.data.toList.length = Y.size := by simp
    by_cases hik : i < k
    · rw [h i hik] at h3; cases h3
    · unfold Lib.occAt at h3
      have := (List.isPrefixOf_iff_prefix.1 h3).length_le
      rw [List.length_drop] at this
      omega
end Go.Proofs.YtkiheanpamplpaaDoor
