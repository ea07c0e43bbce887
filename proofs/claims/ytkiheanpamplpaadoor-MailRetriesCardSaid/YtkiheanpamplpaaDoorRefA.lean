/-
  The reference of package ascii: Lower, Compare, Printable, Trim: what they answer.
-/
import Derived.Test.YtkiheanpamplpaaDoorAscI
set_option linter.unusedSimpArgs false
set_option linter.unusedVariables false
set_option linter.unnecessarySimpa false
namespace Go.Proofs.YtkiheanpamplpaaDoor
open Go.RowKit Go.Bul
/-! ### Compare -/
theorem cmp_step (a b : ByteArray) (k : Nat) (h1 : k < a.size) (h2 : k < b.size) : Lib.compareBytes (a.data.toList.drop k) (b.data.toList.drop k) =
    if a[k] < b[k] then -1 else if b[k] < a[k] then 1 else Lib.compareBytes (a.data.toList.drop (k + 1)) (b.data.toList.drop (k + 1)) := by
  rw [drop_at a k h1, drop_at b k h2]; rfl
theorem cmp_endA (a b : ByteArray) (k : Nat) (h1 : a.size ≤ k) (h2 : k < b.size) : Lib.compareBytes (a.data.toList.drop k) (b.data.toList.drop k) = -1 := by
  rw [List.drop_eq_nil_of_le (by simpa using h1), drop_at b k h2]; rfl
theorem cmp_endB (a b : ByteArray) (k : Nat) (h1 : k < a.size) (h2 : b.size ≤ k) : Lib.compareBytes (a.data.toList.drop k) (b.data.toList.drop k) = 1 := by
  have h3 : b.data.toList.drop k = [] := List.drop_eq_nil_of_le (by simpa using h2)
  rw [h3, drop_at a k h1]; rfl
theorem cmp_end (a b : ByteArray) (k : Nat) (h1 : a.size ≤ k) (h2 : b.size ≤ k) : Lib.compareBytes (a.data.toList.drop k) (b.data.toList.drop k) = 0 := by
  rw [List.drop_eq_nil_of_le (by simpa using h1), List.drop_eq_nil_of_le (by simpa using h2)]; rfl
end Go.Proofs.YtkiheanpamplpaaDoor
