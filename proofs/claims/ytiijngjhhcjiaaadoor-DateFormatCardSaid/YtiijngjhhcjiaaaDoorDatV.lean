/-
  Package date: the second text of known(), as the scan reads it.
-/
import Derived.Test.YtiijngjhhcjiaaaDoorDatT
set_option linter.unusedSimpArgs false
set_option linter.unusedVariables false
set_option linter.unnecessarySimpa false
namespace Go.Proofs.YtiijngjhhcjiaaaDoor
open Go.RowKit Go.Bul
theorem b_peek0 : pkB tB letB 0 0 = false := by decide +kernel
theorem b_num0 : nmS tB 1 ⟨0, 0, 0⟩ = ⟨1, 0, 1⟩ := nm_eq (by decide +kernel)
theorem b_peek1 : pkB tB digB 1 0 = true := by decide +kernel
theorem b_num1 : nmS tB 1 ⟨1, 0, 0⟩ = ⟨2, 0, 6⟩ := nm_eq (by decide +kernel)
theorem b_num7 : nmS tB 4 ⟨7, 0, 0⟩ = ⟨11, 0, 2026⟩ := nm_eq (by decide +kernel)
theorem b_num12' : nmS tB 2 ⟨12, 0, 0⟩ = ⟨13, 3, 238⟩ := nm_eq (by decide +kernel)
theorem b_num13 : nmS tB 2 ⟨13, 3, 0⟩ = ⟨13, 3, 2288⟩ := nm_eq (by decide +kernel)
theorem b_bl2 : skA tB (tkA tB blkB 2 0) (tkE tB blkB 2 0) = 3 ∧ tkE tB blkB 2 0 = 0 := bl_eq (by decide +kernel) (by decide +kernel) (by decide +kernel)
theorem b_bl6 : skA tB (tkA tB blkB 6 0) (tkE tB blkB 6 0) = 7 ∧ tkE tB blkB 6 0 = 0 := bl_eq (by decide +kernel) (by decide +kernel) (by decide +kernel)
theorem b_bl11 : skA tB (tkA tB blkB 11 0) (tkE tB blkB 11 0) = 12 ∧ tkE tB blkB 11 0 = 0 := bl_eq (by decide +kernel) (by decide +kernel) (by decide +kernel)
theorem b_bl13 : skA tB (tkA tB blkB 13 3) (tkE tB blkB 13 3) = 13 ∧ tkE tB blkB 13 3 = 3 := by
  have h1 : tkA tB blkB 13 3 = 13 := by decide +kernel
  have h2 : tkE tB blkB 13 3 = 3 := by decide +kernel
  rw [h1, h2, skA_no (by decide +kernel)]
  exact ⟨rfl, rfl⟩
theorem b_col13 : tkA tB (jusB 58) 13 3 = 13 ∧ tkE tB (jusB 58) 13 3 = 3 := by decide +kernel
theorem b_pk13 : pkB tB (jusB 58) 13 3 = false := by decide +kernel
theorem b_name : naI tB monB 3 0 = 10 ∧ naK tB monB 3 0 = 6 ∧ naE tB monB 3 0 = 0 := by decide +kernel
end Go.Proofs.YtiijngjhhcjiaaaDoor
