/-
  Package date: the text of a minute in a zone.
-/
import Derived.Test.YtiijngjhhcjiaaaDoorDatD
import Derived.Test.YtiijngjhhcjiaaaDoorDatF
import Derived.Test.YtiijngjhhcjiaaaDoorRegQ
set_option linter.unusedSimpArgs false
set_option linter.unusedVariables false
set_option linter.unnecessarySimpa false
namespace Go.Proofs.YtiijngjhhcjiaaaDoor
open Go.RowKit Go.Bul
def dayT : List (List UInt8) := [[77, 111, 110], [84, 117, 101], [87, 101, 100], [84, 104, 117], [70, 114, 105], [83, 97, 116], [83, 117, 110]]
def monT : List (List UInt8) := [[74, 97, 110], [70, 101, 98], [77, 97, 114], [65, 112, 114], [77, 97, 121], [74, 117, 110], [74, 117, 108], [65, 117, 103], [83, 101, 112], [79, 99, 116], [78, 111, 118], [68, 101, 99]]
def dayN (k : Nat) : List UInt8 := dayT.getD k []
def monN (k : Nat) : List UInt8 := monT.getD k []
def dayA : Array Value := (dayT.map Sb).toArray
def monA : Array Value := (monT.map Sb).toArray
set_option maxRecDepth 100000 in
theorem dayNames_s (w : World) : Calls Tryd.prog 34 #[] w fun e w' => e = .returned (.agg dayA) ∧ Below w.heap.size w w' := by
  go_enter Tryd.func34, Tryd.ntmps34
  go_wp2_with fail
  refine bodyPost_ret (results_cell_row rfl _ _ w.heap.size _ _ _ _ rfl (heapNew _ _) Tryd.underlying54 rfl (by kernel_rfl)) rfl ?_
  exact ⟨rfl, (Below.refl _ _).alloc (Nat.le_refl _) _⟩
set_option maxRecDepth 100000 in
theorem monthNames_s (w : World) : Calls Tryd.prog 36 #[] w fun e w' => e = .returned (.agg monA) ∧ Below w.heap.size w w' := by
  go_enter Tryd.func36, Tryd.ntmps36
  go_wp2_with fail
  refine bodyPost_ret (results_cell_row rfl _ _ w.heap.size _ _ _ _ rfl (heapNew _ _) Tryd.underlying56 rfl (by kernel_rfl)) rfl ?_
  exact ⟨rfl, (Below.refl _ _).alloc (Nat.le_refl _) _⟩
theorem weekday_s (n : Nat) (hn : n ≤ 105190559) (w : World) : Calls Tryd.prog 24 #[.int .i64 n] w fun e w' => e = .returned (.tuple #[.int .i64 (((n / 1440 + 5) % 7 : Nat) : Int), .int .i64 0]) ∧ w = w' := by
  have hw : IntKind.i64.wrap ((n : Int) / 1440 + 5) = (n : Int) / 1440 + 5 := IntWalk.i64_in _ (by omega)
  go_enter Tryd.func24, Tryd.ntmps24
  go_wp2_with fail
  refine (valid_s n _).mono ?_
  rintro e w' ⟨rfl, rfl⟩
  rw [show decide ((0 : Int) ≤ n ∧ (n : Int) ≤ 105190559) = true by simp; omega]
  go_wp2_with fail
  go_ret2
  exact ⟨rfl, rfl⟩
theorem weekday_bad (n : Int) (hn : ¬ (0 ≤ n ∧ n ≤ 105190559)) (w : World) : Calls Tryd.prog 24 #[.int .i64 n] w fun e w' => e = .returned (.tuple #[.int .i64 0, .int .i64 2]) ∧ w = w' := by
  go_enter Tryd.func24, Tryd.ntmps24
  go_wp2_with fail
  refine (valid_s n _).mono ?_
  rintro e w' ⟨rfl, rfl⟩
  rw [show decide (0 ≤ n ∧ n ≤ 105190559) = false by simpa using hn]
  go_wp2_with fail
  go_ret2
  exact ⟨rfl, rfl⟩
theorem day_s (n : Nat) (hn : n ≤ 105190559) (w : World) : Calls Tryd.prog 25 #[.int .i64 n] w fun e w' => e = .returned (.tuple #[.int .i64 ((n / 1440 : Nat) : Int), .int .i64 0]) ∧ w = w' := by
  go_enter Tryd.func25, Tryd.ntmps25
  go_wp2_with fail
  refine (valid_s n _).mono ?_
  rintro e w' ⟨rfl, rfl⟩
  rw [show decide ((0 : Int) ≤ n ∧ (n : Int) ≤ 105190559) = true by simp; omega]
  go_wp2_with fail
  go_ret2
  exact ⟨rfl, rfl⟩
theorem day_bad (n : Int) (hn : ¬ (0 ≤ n ∧ n ≤ 105190559)) (w : World) : Calls Tryd.prog 25 #[.int .i64 n] w fun e w' => e = .returned (.tuple #[.int .i64 0, .int .i64 2]) ∧ w = w' := by
  go_enter Tryd.func25, Tryd.ntmps25
  go_wp2_with fail
  refine (valid_s n _).mono ?_
  rintro e w' ⟨rfl, rfl⟩
  rw [show decide (0 ≤ n ∧ n ≤ 105190559) = false by simpa using hn]
  go_wp2_with fail
  go_ret2
  exact ⟨rfl, rfl⟩
end Go.Proofs.YtiijngjhhcjiaaaDoor
