/-
  What the functions on single bytes answer.
-/
import Derived.Test.YtgmamplnhechjaaDoorBase
namespace Go.Proofs.YtgmamplnhechjaaDoor
open Go.RowKit Go.Bul

/-- a byte as a Go value -/
abbrev B8 (c : UInt8) : Value := .int .u8 (c.toNat : Int)

theorem ret_bool {a b : Bool} (h : a = b) : Ending.returned (.bool a) = .returned (.bool b) := by rw [h]
theorem ret_int {k : IntKind} {a b : Int} (h : a = b) : Ending.returned (.int k a) = .returned (.int k b) := by rw [h]

def loB (c : UInt8) : Bool := 97 ≤ c.toNat && c.toNat ≤ 122
def upB (c : UInt8) : Bool := 65 ≤ c.toNat && c.toNat ≤ 90
def leB (c : UInt8) : Bool := loB c || upB c
def diB (c : UInt8) : Bool := 48 ≤ c.toNat && c.toNat ≤ 57
def viB (c : UInt8) : Bool := 33 ≤ c.toNat && c.toNat ≤ 126
def blB (c : UInt8) : Bool := c.toNat == 32 || c.toNat == 9
def lowC (c : UInt8) : UInt8 := if upB c then c + 32 else c

theorem isLower_c (c : UInt8) (w : World) : Calls Tryd.prog 36 #[B8 c] w fun e w' => e = .returned (.bool (loB c)) ∧ w = w' := by
  go_enter Tryd.func36, Tryd.ntmps36
  go_wp2
  all_goals
    go_ret
    exact ⟨ret_bool (by rw [Bool.eq_iff_iff]; simp [loB]; try omega), rfl⟩
theorem isUpper_c (c : UInt8) (w : World) : Calls Tryd.prog 38 #[B8 c] w fun e w' => e = .returned (.bool (upB c)) ∧ w = w' := by
  go_enter Tryd.func38, Tryd.ntmps38
  go_wp2
  all_goals
    go_ret
    exact ⟨ret_bool (by rw [Bool.eq_iff_iff]; simp [upB]; try omega), rfl⟩
theorem isDigit_c (c : UInt8) (w : World) : Calls Tryd.prog 41 #[B8 c] w fun e w' => e = .returned (.bool (diB c)) ∧ w = w' := by
  go_enter Tryd.func41, Tryd.ntmps41
  go_wp2
  all_goals
    go_ret
    exact ⟨ret_bool (by rw [Bool.eq_iff_iff]; simp [diB]; try omega), rfl⟩
theorem isVisible_c (c : UInt8) (w : World) : Calls Tryd.prog 43 #[B8 c] w fun e w' => e = .returned (.bool (viB c)) ∧ w = w' := by
  go_enter Tryd.func43, Tryd.ntmps43
  go_wp2
  all_goals
    go_ret
    exact ⟨ret_bool (by rw [Bool.eq_iff_iff]; simp [viB]; try omega), rfl⟩
theorem isBlank_c (c : UInt8) (w : World) : Calls Tryd.prog 45 #[B8 c] w fun e w' => e = .returned (.bool (blB c)) ∧ w = w' := by
  go_enter Tryd.func45, Tryd.ntmps45
  go_wp2
  all_goals
    go_ret
    exact ⟨ret_bool (by rw [Bool.eq_iff_iff]; simp [blB]; try omega), rfl⟩
theorem isLetter_c (c : UInt8) (w : World) : Calls Tryd.prog 40 #[B8 c] w fun e w' => e = .returned (.bool (leB c)) ∧ w = w' := by
  cases hl : loB c
  all_goals
    go_enter Tryd.func40, Tryd.ntmps40
    go_wp2_with (first | (go_at_call 36; refine (isLower_c _ _).mono ?_; rintro e w' ⟨rfl, rfl⟩) | (go_at_call 38; refine (isUpper_c _ _).mono ?_; rintro e w' ⟨rfl, rfl⟩))
    go_ret
    exact ⟨ret_bool (by simp [leB, hl]), rfl⟩
theorem lower_c (c : UInt8) (w : World) : Calls Tryd.prog 49 #[B8 c] w fun e w' => e = .returned (B8 (lowC c)) ∧ w = w' := by
  have hc := c.toNat_lt
  cases hl : upB c
  · go_enter Tryd.func49, Tryd.ntmps49
    go_wp2_with (go_at_call 38; refine (isUpper_c _ _).mono ?_; rintro e w' ⟨rfl, rfl⟩)
    go_ret
    exact ⟨by simp [lowC, hl], rfl⟩
  · have hb : 65 ≤ c.toNat ∧ c.toNat ≤ 90 := by simpa [upB] using hl
    go_enter Tryd.func49, Tryd.ntmps49
    go_wp2_with (go_at_call 38; refine (isUpper_c _ _).mono ?_; rintro e w' ⟨rfl, rfl⟩)
    go_ret
    exact ⟨ret_int (by simp [lowC, hl]; omega), rfl⟩
theorem refLow_c (c : UInt8) (w : World) : Calls Tryd.prog 37 #[B8 c] w fun e w' => e = .returned (.bool (loB c)) ∧ w = w' := by
  go_enter Tryd.func37, Tryd.ntmps37
  go_wp2
  all_goals
    go_ret
    exact ⟨ret_bool (by rw [Bool.eq_iff_iff]; simp [loB]; try omega), rfl⟩
theorem refUp_c (c : UInt8) (w : World) : Calls Tryd.prog 39 #[B8 c] w fun e w' => e = .returned (.bool (upB c)) ∧ w = w' := by
  go_enter Tryd.func39, Tryd.ntmps39
  go_wp2
  all_goals
    go_ret
    exact ⟨ret_bool (by rw [Bool.eq_iff_iff]; simp [upB]; try omega), rfl⟩
theorem refDigit_c (c : UInt8) (w : World) : Calls Tryd.prog 42 #[B8 c] w fun e w' => e = .returned (.bool (diB c)) ∧ w = w' := by
  go_enter Tryd.func42, Tryd.ntmps42
  go_wp2
  all_goals
    go_ret
    exact ⟨ret_bool (by rw [Bool.eq_iff_iff]; simp [diB]; try omega), rfl⟩
theorem refVis_c (c : UInt8) (w : World) : Calls Tryd.prog 44 #[B8 c] w fun e w' => e = .returned (.bool (viB c)) ∧ w = w' := by
  go_enter Tryd.func44, Tryd.ntmps44
  go_wp2
  all_goals
    go_ret
    exact ⟨ret_bool (by rw [Bool.eq_iff_iff]; simp [viB]; try omega), rfl⟩
theorem refBlank_c (c : UInt8) (w : World) : Calls Tryd.prog 46 #[B8 c] w fun e w' => e = .returned (.bool (blB c)) ∧ w = w' := by
  go_enter Tryd.func46, Tryd.ntmps46
  go_wp2
  all_goals
    go_ret
    exact ⟨ret_bool (by rw [Bool.eq_iff_iff]; simp [blB]; try omega), rfl⟩
end Go.Proofs.YtgmamplnhechjaaDoor
