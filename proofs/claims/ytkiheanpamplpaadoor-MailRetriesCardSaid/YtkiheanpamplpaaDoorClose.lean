/-
  From the walks to the statements: what a row's start gives (the library's own variables), a start that fits, and the last step.
-/
import Derived.Test.YtkiheanpamplpaaDoorGlob
import Derived.Test.YtkiheanpamplpaaDoorCards
import Derived.Test.YtkiheanpamplpaaDoorTie
import Derived.ProofKit
import Derived.OpenShut
import Derived.JoinedCond
import Derived.Deep.DeepHandedRow
import Derived.Deep.DeepWitnessRowRef
import Derived.LaidMore
import Derived.Lib.LaidTab
set_option linter.unusedSimpArgs false
set_option linter.unusedVariables false
set_option linter.unnecessarySimpa false
namespace Go.Proofs.YtkiheanpamplpaaDoor
open Go.ChangeShapes Go.WideShapes Go.ChangeAt Go.RowKit Go.Bul
open Go.ChangeMaps (open_string shut_string)

theorem own : ownKnob Tryd.prog.godebug = none := by kernel_rfl

theorem laid_mem {P : Program} {w : World} : ∀ {laid : List (String × DataW Unit)} {ps : List MemPlace}, DataW.LaidVars P w laid ps → ∀ {n : String} {d : DataW Unit}, (n, d) ∈ laid →
    ∃ g t cs fuel p, P.globalNamed n = some g ∧ (P.globals[g]?).map (·.type) = some t ∧ w.var? P n = some cs ∧ DataW.trod (fun _ => ()) P w 0 (fun _ => true) false fuel t cs.toList = some (d, p)
  | [], _, _, _, _, h => by cases h
  | (n0, d0) :: r, ps, h, n, d, hm => by
    obtain ⟨g, t, cs, fuel, p, q, h1, h2, h3, h4, h5, _⟩ := h
    rcases List.mem_cons.1 hm with e | hm
    · cases e
      exact ⟨g, t, cs, fuel, p, h1, h2, h3, h4⟩
    · exact laid_mem h5 hm
theorem gType : (Tryd.prog.globals[1]?).map (·.type) = some 164 := by kernel_rfl
theorem cellsPow : Tryd.prog.cellsOf 164 = 20 := by kernel_rfl
theorem cellsU64 : Tryd.prog.cellsOf 99 = 1 := by kernel_rfl
theorem powEq {H : Type} : (Rows.laid_internal_strconv_uint64pow10 : DataW H) = Lib.tabData .u64 Lib.pow10Tab := by kernel_rfl
/-- What the listed variables give a walk. -/
theorem glob_of {laid : List (String × DataW Unit)} {W : World} (hp : (laid.all fun x => x.2.handleName?.isNone) = true) (hL : laidMetH Tryd.prog laid W) (hsh : W.ShapedOpen Tryd.prog)
    (m1 : ("internal/strconv.uint64pow10", Rows.laid_internal_strconv_uint64pow10) ∈ laid)
    : Gl W := by
  rw [MakeChecks.laidMetH_plain _ _ _ hp] at hL
  obtain ⟨ps, hps, _⟩ := hL
  have hmax : ∃ m, W.cell? ⟨0, 0, none⟩ = some (.int .i64 m) :=
    cell_of_shapedOpen_int hsh (of_decide_eq_true (by kernel_rfl)) (zero := #[.int .i64 0]) (t := 3) (by kernel_rfl) rfl (by kernel_rfl) (by kernel_rfl) Tryd.underlying3
  have hsize : Tryd.prog.globals.size ≤ W.heap.size := by
    rcases Nat.lt_or_ge W.heap.size Tryd.prog.globals.size with h | h
    · exfalso
      have hall : ∀ g, g < Tryd.prog.globals.size → ∃ z, ((begin Tryd.prog (fun _ _ => 0) default).world.heap[g]?).bind Obj.row? = some z := by
        have hb : (List.range Tryd.prog.globals.size).all (fun g => (((begin Tryd.prog (fun _ _ => 0) default).world.heap[g]?).bind Obj.row?).isSome) = true := by kernel_rfl
        intro g hg
        have := List.all_eq_true.1 hb g (List.mem_range.2 hg)
        exact Option.isSome_iff_exists.1 this
      obtain ⟨⟨z, t⟩, hz⟩ := hall W.heap.size h
      obtain ⟨cs, hh, _, _⟩ := hsh.1 W.heap.size z t h hz
      simp at hh
    · exact h
  refine ⟨Nat.le_trans (of_decide_eq_true (by kernel_rfl)) hsize, hmax, ?_⟩
  · obtain ⟨g, t, cs, fuel, p, h1, h2, h3, h4⟩ := laid_mem hps m1
    rw [powEq] at h4
    obtain rfl := Option.some.inj (gPow.symm.trans h1)
    obtain rfl := Option.some.inj (gType.symm.trans h2)
    unfold Lib.TabIs
    rw [h3, ← Lib.cells_of_tab Tryd.underlying164 Tryd.underlying99 cellsU64 cellsPow h4]
end Go.Proofs.YtkiheanpamplpaaDoor
