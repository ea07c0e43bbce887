/-
  From the walks to the statements of package date: what a row's start gives (the library's own tables), a start that fits, a calendar date among the arguments.
-/
import Derived.Test.YtiijngjhhcjiaaaDoorDatF
import Derived.Test.YtiijngjhhcjiaaaDoorDatD
import Derived.Test.YtiijngjhhcjiaaaDoorCards
import Derived.Test.YtiijngjhhcjiaaaDoorTie
import Derived.ProofKit
import Derived.OpenShut
import Derived.JoinedCond
import Derived.Carry
import Derived.ChangeArms
import Derived.Deep.DeepHandedRow
import Derived.LaidMore
import Derived.Lay
import Derived.Lib.LaidTab
import Derived.Lib.LaidU8T
import Derived.PinnedBridge
set_option linter.unusedSimpArgs false
set_option linter.unusedVariables false
set_option linter.unnecessarySimpa false
namespace Go.Proofs.YtiijngjhhcjiaaaDoor
open Go.ChangeShapes Go.WideShapes Go.ChangeAt Go.RowKit Go.Bul Go.Shelf Go.Lib
theorem own04 : ownKnob Tryd.prog.godebug = none := by kernel_rfl
theorem laidOut04 : laidOutB Tryd.prog = true := by kernel_rfl
theorem gType04 : (Tryd.prog.globals[1]?).map (·.type) = some 127 := by kernel_rfl
theorem cellsPow04 : Tryd.prog.cellsOf 127 = 20 := by kernel_rfl
theorem cellsU6404 : Tryd.prog.cellsOf 105 = 1 := by kernel_rfl
theorem powEq04 {H : Type} : (Rows.laid_internal_strconv_uint64pow10 : DataW H) = Lib.tabData .u64 Lib.pow10Tab := by kernel_rfl
theorem accEq04 : (Rows.laid_unicode_utf8_acceptRanges : DataW Unit) = acceptData := by kernel_rfl
def ren04 : Ren := ⟨fun n => n, fun | 5 => 5 | 119 => 135 | 138 => 137 | 139 => 138 | n => n, fun | 3 => 3 | 4 => 4 | n => n⟩
theorem u8Types04 : U8Types Tryd.prog ren04 := ⟨Tryd.underlying5, Tryd.underlying135, Tryd.underlying137, Tryd.underlying138⟩
theorem u8Extra04 : U8Extra Tryd.prog ren04 := ⟨by kernel_rfl, by kernel_rfl, by kernel_rfl, by kernel_rfl, by kernel_rfl, by kernel_rfl, by kernel_rfl⟩
/-- What the listed variables give a walk. -/
theorem glob04 {laid : List (String × DataW Unit)} {W : World} (hp : (laid.all fun x => x.2.handleName?.isNone) = true) (hL : laidMetH Tryd.prog laid W) (hsh : W.ShapedOpen Tryd.prog)
    (m1 : ("internal/strconv.uint64pow10", Rows.laid_internal_strconv_uint64pow10) ∈ laid)
    (m2 : ("unicode/utf8.first", Rows.laid_unicode_utf8_first) ∈ laid)
    (m3 : ("unicode/utf8.acceptRanges", Rows.laid_unicode_utf8_acceptRanges) ∈ laid)
    : Gd W := by
  rw [MakeChecks.laidMetH_plain _ _ _ hp] at hL
  have hsize : Tryd.prog.globals.size ≤ W.heap.size := by
    rcases Nat.lt_or_ge W.heap.size Tryd.prog.globals.size with h | h
    · exfalso
      have hall : ∀ g, g < Tryd.prog.globals.size → ∃ z, ((begin Tryd.prog (fun _ _ => 0) default).world.heap[g]?).bind Obj.row? = some z := by
        have hb : (List.range Tryd.prog.globals.size).all (fun g => (((begin Tryd.prog (fun _ _ => 0) default).world.heap[g]?).bind Obj.row?).isSome) = true := by kernel_rfl
        intro g hg
        have := List.all_eq_true.1 hb g (List.mem_range.2 hg)
        exact Option.isSome_iff_exists.1 this
      obtain ⟨⟨z, t⟩, hz⟩ := hall W.heap.size h
      obtain ⟨cs, hh, _, _⟩ := hsh.1 W.heap.size z t h hz
      simp at hh
    · exact h
  refine ⟨Nat.le_trans (of_decide_eq_true (by kernel_rfl)) hsize, ?_, ?_⟩
  · obtain ⟨g, t, cs, fuel, p, h1, h2, h3, h4⟩ := Lib.laidMet.reads hL m1
    rw [powEq04] at h4
    obtain rfl := Option.some.inj (gPowD.symm.trans h1)
    obtain rfl := Option.some.inj (gType04.symm.trans h2)
    unfold Lib.TabIs
    rw [h3, ← Lib.cells_of_tab Tryd.underlying127 Tryd.underlying105 cellsU6404 cellsPow04 h4]
  · exact utf8Tabs_of_readsT u8Types04 u8Extra04 (Pinned.utf8First_eq ▸ Lib.laidMet.reads hL m2) (accEq04 ▸ Lib.laidMet.reads hL m3)
theorem witness_row_zip {H : Type} {enc : TypeId × Value → H} {C : Checked} {os : Os} {f : FuncId} {fn : Func} {s : OpenSpec} {conds : List PathCond} {apart : Bool} {laid : List (String × DataW Unit)} (modest : Bool) (w0 : World) (args : Array Value) (hos : w0.os = os)
    (hv : (w0.forCall (fun _ _ => 0) ⟨#[], args, []⟩).variablesZipB C.prog = true)
    (hr : ((w0.forCall (fun _ _ => 0) ⟨#[], args, []⟩).heap.toList.drop C.prog.globals.size).take ((begin C.prog (fun _ _ => 0) default).world.heap.size - C.prog.globals.size) =
      (begin C.prog (fun _ _ => 0) default).world.heap.toList.drop C.prog.globals.size)
    (hok : Input.okWideB C.prog (w0.forCall (fun _ _ => 0) ⟨#[], args, []⟩) f ⟨#[], args, []⟩ = true)
    (hrow : s.preRow enc C.prog fn conds apart laid (w0.forCall (fun _ _ => 0) ⟨#[], args, []⟩).memory args) :
    ∃ (w : World) (tape : Tape) (i : Input), w.os = os ∧ (w.forCall tape i).Shaped C.prog ∧ i.vars = [] ∧ Input.okWide C.prog (w.forCall tape i) .any w.heap.size f i ∧
      s.preRow enc C.prog fn conds apart laid (w.forCall tape i).memory i.args ∧ ({ modest := modest } : Assume).holds C.prog (lone (Frame.enter C.prog f i.args .normal) [] (w.forCall tape i)) :=
  ⟨w0, fun _ _ => 0, ⟨#[], args, []⟩, hos, World.shaped_of_ZipB hv hr, (Input.okWide_of_okWideB (base := 0) hok).1, (Input.okWide_of_okWideB hok).2, hrow, by
    simp only [Assume.holds]
    exact ⟨by simp, by simp, fun _ => Modest.zero, by simp, by simp⟩⟩
def list04 : List (String × DataW Unit) := Rows.dateCivilRow.laid
noncomputable def start04 (os : Os) : World := World.laidAll Tryd.prog os list04
theorem start04_os (os : Os) : (start04 os).os = os := World.laidAll_os _ _ _
theorem start04_met (os : Os) (args : Array Value) : laidMet Tryd.prog list04 ((start04 os).forCall (fun _ _ => 0) ⟨#[], args, []⟩).memory := laidMet_laidAll _ (by kernel_rfl) (by kernel_rfl)
theorem start04_zip (os : Os) (args : Array Value) : ((start04 os).forCall (fun _ _ => 0) ⟨#[], args, []⟩).variablesZipB Tryd.prog = true := by kernel_rfl
theorem start04_rest (os : Os) (args : Array Value) : (((start04 os).forCall (fun _ _ => 0) ⟨#[], args, []⟩).heap.toList.drop Tryd.prog.globals.size).take ((begin Tryd.prog (fun _ _ => 0) default).world.heap.size - Tryd.prog.globals.size) =
      (begin Tryd.prog (fun _ _ => 0) default).world.heap.toList.drop Tryd.prog.globals.size := by kernel_rfl
theorem cells04 : Tryd.prog.cellsOf 28 = 5 := by kernel_rfl
theorem cellsI04 : Tryd.prog.cellsOf 3 = 1 := by kernel_rfl
section
variable {H : Type} {enc : TypeId × Value → H} {W : World} {base : Nat} {sp : Nat → Bool} {held : Bool}
set_option maxRecDepth 100000 in
theorem open_civ {r : Reach} {b0 : Nat} {v : Value} {d : DataW H} {p : List MemPlace} (hv : Value.okWide Tryd.prog W r b0 28 v) (h : DataW.Trod enc Tryd.prog W base sp held 28 v d p) : ∃ y m d h mi : Int, v = civV y m d h mi := by
  obtain ⟨cs, rfl, hsz⟩ := okWide_struct Tryd.underlying28 hv
  obtain ⟨l⟩ := cs
  match l, hsz.trans cells04 with
  | [c0, c1, c2, c3, c4], _ =>
    obtain ⟨fuel, hf⟩ := h
    obtain ⟨xs, n, _, hx, _, hlen, hg⟩ := DataW.trod_struct Tryd.underlying28 hf
    match xs, hlen with
    | [y0, y1, y2, y3, y4], _ =>
      have g0 : DataW.trod enc Tryd.prog W base sp held n 3 [c0] = some y0 := by have := hg 0 _ rfl; simpa [cellsI04, Value.cells] using this
      have g1 : DataW.trod enc Tryd.prog W base sp held n 3 [c1] = some y1 := by have := hg 1 _ rfl; simpa [cellsI04, Value.cells] using this
      have g2 : DataW.trod enc Tryd.prog W base sp held n 3 [c2] = some y2 := by have := hg 2 _ rfl; simpa [cellsI04, Value.cells] using this
      have g3 : DataW.trod enc Tryd.prog W base sp held n 3 [c3] = some y3 := by have := hg 3 _ rfl; simpa [cellsI04, Value.cells] using this
      have g4 : DataW.trod enc Tryd.prog W base sp held n 3 [c4] = some y4 := by have := hg 4 _ rfl; simpa [cellsI04, Value.cells] using this
      obtain ⟨z0, e0, _, _⟩ := DataW.trod_int Tryd.underlying3 g0
      obtain ⟨z1, e1, _, _⟩ := DataW.trod_int Tryd.underlying3 g1
      obtain ⟨z2, e2, _, _⟩ := DataW.trod_int Tryd.underlying3 g2
      obtain ⟨z3, e3, _, _⟩ := DataW.trod_int Tryd.underlying3 g3
      obtain ⟨z4, e4, _, _⟩ := DataW.trod_int Tryd.underlying3 g4
      obtain rfl : c0 = .int .i64 z0 := by simpa using e0
      obtain rfl : c1 = .int .i64 z1 := by simpa using e1
      obtain rfl : c2 = .int .i64 z2 := by simpa using e2
      obtain rfl : c3 = .int .i64 z3 := by simpa using e3
      obtain rfl : c4 = .int .i64 z4 := by simpa using e4
      exact ⟨z0, z1, z2, z3, z4, rfl⟩
end
end Go.Proofs.YtiijngjhhcjiaaaDoor
