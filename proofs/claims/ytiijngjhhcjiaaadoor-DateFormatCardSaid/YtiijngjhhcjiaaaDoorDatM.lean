/-
  Package date: the scan of a text: names, whatever the case of their letters.
-/
import Derived.Test.YtiijngjhhcjiaaaDoorDatL
set_option linter.unusedSimpArgs false
set_option linter.unusedVariables false
set_option linter.unnecessarySimpa false
namespace Go.Proofs.YtiijngjhhcjiaaaDoor
open Go.RowKit Go.Bul
def lowR (x : Int) : Int := if 65 ≤ x ∧ x ≤ 90 then x + 32 else x
set_option maxRecDepth 100000 in
theorem lowR_at (w : World) : MapAtRunes Tryd.prog 78 #[] lowR w := fun W x hx _ => by
  unfold FnGives encR
  by_cases h1 : (65 : Int) ≤ (x : Int) <;> by_cases h2 : (x : Int) ≤ 90
  all_goals
    have hw1 : IntKind.i32.wrap ((x : Int) + 97) = (x : Int) + 97 := by unfold IntKind.wrap; simp [IntKind.signed, IntKind.bits]; omega
    have hw2 : IntKind.i32.wrap ((x : Int) + 97 - 65) = (x : Int) + 32 := by unfold IntKind.wrap; simp [IntKind.signed, IntKind.bits]; omega
    go_enter Tryd.func78, Tryd.ntmps78
    go_wp2
    all_goals first
      | (exfalso; omega)
      | (go_ret; exact ⟨by unfold lowR; first | (rw [if_pos (And.intro h1 h2)]; rfl) | (rw [if_neg (by omega)]; rfl), 0, rfl⟩)
def lowL (s : ByteArray) : ByteArray := ⟨(Lib.mapD lowR s.data.toList).toArray⟩
set_option maxRecDepth 100000 in
theorem dateLower_s (s : ByteArray) (hs : s.size ≤ 1000000) (w : World) (hg : Gd w) : Calls Tryd.prog 64 #[.string s] w fun e w' => e = .returned (.string (lowL s)) ∧ Below w.heap.size w w' := by
  have hl := Tryd.strings_Map_runes 78 #[] (enters_of Tryd.func78 (by kernel_rfl) rfl) lowR s w (by omega) (lowR_at w) (fun x hx => by unfold lowR; split <;> omega) hg.utf
  go_enter Tryd.func64, Tryd.ntmps64
  go_wp2_with fail
  refine hl.mono ?_
  rintro e w' ⟨rfl, hb⟩
  go_wp2_with fail
  go_ret
  exact ⟨rfl, hb⟩
def nmV (B : Nat) : Value := .func (.func 63) #[] #[.pointer (some ⟨B, 0, none⟩)]
def eqL (x y : ByteArray) : Bool := (lowL x).toList == (lowL y).toList
set_option maxRecDepth 100000 in
theorem nameEq_c (x y : ByteArray) (hx : x.size ≤ 1000000) (hy : y.size ≤ 1000000) (B : Nat) (w : World) (hg : Gd w) (hB : B < w.heap.size) (hc : w.cell? ⟨B, 0, none⟩ = some (.string y)) :
    Calls Tryd.prog 63 #[.string x, .pointer (some ⟨B, 0, none⟩)] w fun e w' => e = .returned (.bool (eqL x y)) ∧ Below w.heap.size w w' := by
  have HGa := Lib.hid (show ∀ z : After w.heap.size w, Gd z.W from fun z => hg.below z.below)
  have x0 : ∀ z : After w.heap.size w, z.W.cell? ⟨B, 0, none⟩ = some (.string y) := fun z => (z.below.cell (p := ⟨B, 0, none⟩) hB).trans hc
  clear hc hg
  go_enter Tryd.func63, Tryd.ntmps63
  go_wp2_with fail
  refine wp_region_after (by kernel_rfl) (by kernel_rfl) ?_
  iterate 6 (go_big_quiet_step ((first
    | (go_at_call 64; with_reducible exact callBelow _ (dateLower_s x hx _ (HGa.out _)))
    | (go_at_call 64; with_reducible exact callBelow _ (dateLower_s y hy _ (HGa.out _))))))
  refine wpQuiet_nil ?_
  rintro w2 ⟨⟨_, hb2⟩, rfl⟩
  clear x0
  go_wp2_with fail
  go_ret
  exact ⟨rfl, hb2⟩
end Go.Proofs.YtiijngjhhcjiaaaDoor
