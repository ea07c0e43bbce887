/-
  What the functions on single bytes answer.
-/
import Derived.Test.YtkiheanpamplpaaDoorBase
namespace Go.Proofs.YtkiheanpamplpaaDoor
open Go.RowKit Go.Bul

/-- a byte as a Go value -/
abbrev B8 (c : UInt8) : Value := .int .u8 (c.toNat : Int)

theorem ret_bool {a b : Bool} (h : a = b) : Ending.returned (.bool a) = .returned (.bool b) := by rw [h]
theorem ret_int {k : IntKind} {a b : Int} (h : a = b) : Ending.returned (.int k a) = .returned (.int k b) := by rw [h]

def loB (c : UInt8) : Bool := 97 ≤ c.toNat && c.toNat ≤ 122
def upB (c : UInt8) : Bool := 65 ≤ c.toNat && c.toNat ≤ 90
def leB (c : UInt8) : Bool := loB c || upB c
def diB (c : UInt8) : Bool := 48 ≤ c.toNat && c.toNat ≤ 57
def viB (c : UInt8) : Bool := 33 ≤ c.toNat && c.toNat ≤ 126
def blB (c : UInt8) : Bool := c.toNat == 32 || c.toNat == 9
def lowC (c : UInt8) : UInt8 := if upB c then c + 32 else c

theorem isLower_c (c : UInt8) (w : World) : Calls Tryd.prog 61 #[B8 c] w fun e w' => e = .returned (.bool (loB c)) ∧ w = w' := by
  go_enter Tryd.func61, Tryd.ntmps61
  go_wp2
  all_goals
    go_ret
    exact ⟨ret_bool (by rw [Bool.eq_iff_iff]; simp [loB]; try omega), rfl⟩
theorem isUpper_c (c : UInt8) (w : World) : Calls Tryd.prog 139 #[B8 c] w fun e w' => e = .returned (.bool (upB c)) ∧ w = w' := by
  go_enter Tryd.func139, Tryd.ntmps139
  go_wp2
  all_goals
    go_ret
    exact ⟨ret_bool (by rw [Bool.eq_iff_iff]; simp [upB]; try omega), rfl⟩
theorem isDigit_c (c : UInt8) (w : World) : Calls Tryd.prog 62 #[B8 c] w fun e w' => e = .returned (.bool (diB c)) ∧ w = w' := by
  go_enter Tryd.func62, Tryd.ntmps62
  go_wp2
  all_goals
    go_ret
    exact ⟨ret_bool (by rw [Bool.eq_iff_iff]; simp [diB]; try omega), rfl⟩
theorem isVisible_c (c : UInt8) (w : World) : Calls Tryd.prog 87 #[B8 c] w fun e w' => e = .returned (.bool (viB c)) ∧ w = w' := by
  go_enter Tryd.func87, Tryd.ntmps87
  go_wp2
  all_goals
    go_ret
    exact ⟨ret_bool (by rw [Bool.eq_iff_iff]; simp [viB]; try omega), rfl⟩
theorem isBlank_c (c : UInt8) (w : World) : Calls Tryd.prog 128 #[B8 c] w fun e w' => e = .returned (.bool (blB c)) ∧ w = w' := by
  go_enter Tryd.func128, Tryd.ntmps128
  go_wp2
  all_goals
    go_ret
    exact ⟨ret_bool (by rw [Bool.eq_iff_iff]; simp [blB]; try omega), rfl⟩
theorem isLetter_c (c : UInt8) (w : World) : Calls Tryd.prog 135 #[B8 c] w fun e w' => e = .returned (.bool (leB c)) ∧ w = w' := by
  cases hl : loB c
  all_goals
    go_enter Tryd.func135, Tryd.ntmps135
    go_wp2_with (first | (go_at_call 61; refine (isLower_c _ _).mono ?_; rintro e w' ⟨rfl, rfl⟩) | (go_at_call 139; refine (isUpper_c _ _).mono ?_; rintro e w' ⟨rfl, rfl⟩))
    go_ret
    exact ⟨ret_bool (by simp [leB, hl]), rfl⟩
theorem refLow_c (c : UInt8) (w : World) : Calls Tryd.prog 67 #[B8 c] w fun e w' => e = .returned (.bool (loB c)) ∧ w = w' := by
  go_enter Tryd.func67, Tryd.ntmps67
  go_wp2
  all_goals
    go_ret
    exact ⟨ret_bool (by rw [Bool.eq_iff_iff]; simp [loB]; try omega), rfl⟩
theorem refDigit_c (c : UInt8) (w : World) : Calls Tryd.prog 68 #[B8 c] w fun e w' => e = .returned (.bool (diB c)) ∧ w = w' := by
  go_enter Tryd.func68, Tryd.ntmps68
  go_wp2
  all_goals
    go_ret
    exact ⟨ret_bool (by rw [Bool.eq_iff_iff]; simp [diB]; try omega), rfl⟩
theorem refVis_c (c : UInt8) (w : World) : Calls Tryd.prog 89 #[B8 c] w fun e w' => e = .returned (.bool (viB c)) ∧ w = w' := by
  go_enter Tryd.func89, Tryd.ntmps89
  go_wp2
  all_goals
    go_ret
    exact ⟨ret_bool (by rw [Bool.eq_iff_iff]; simp [viB]; try omega), rfl⟩
theorem refBlank_c (c : UInt8) (w : World) : Calls Tryd.prog 109 #[B8 c] w fun e w' => e = .returned (.bool (blB c)) ∧ w = w' := by
  go_enter Tryd.func109, Tryd.ntmps109
  go_wp2
  all_goals
    go_ret
    exact ⟨ret_bool (by rw [Bool.eq_iff_iff]; simp [blB]; try omega), rfl⟩
end Go.Proofs.YtkiheanpamplpaaDoor
