/-
  Small general laws that the walks of this seat share: a region that draws its order whose calls make memory; contracts of functions of plain data.
-/
import Derived.Test.YtiijngjhhcjiaaaDoorProg
import Derived.WalkKit
import Derived.WalkSpells
import Derived.WalkLawsBesides
import Derived.BigQuiet
import Derived.Lib.Hide
import Derived.Deep.RegionWith
import Derived.Deep.DeepMust
import Derived.Deep.DeepFit
namespace Go.Bul
open Go.RowKit

/-- A world that is as w was below block number B. -/
structure After (B : Nat) (w : World) where
  W : World
  below : Below B w W
instance After.nonempty (B : Nat) (w : World) : Nonempty (After B w) := ⟨⟨w, Below.refl _ _⟩⟩

theorem below_drawn {B : Nat} (w : World) : Below B w { w with drawn := w.drawn + 1 } := ⟨rfl, rfl, rfl, Nat.le_refl _, fun _ _ => rfl⟩

/-- One walk in the order of the text serves every order: calls may make memory; what they give back does not hang on it. -/
theorem wp_region_after {P : Program} {id : Nat} {Q : Exit → Act → World → Prop} {a : Act} {w : World} {l : List Oper} (hm : P.follows .mixedOrders = true) (hB : Region.lexB .any l.toArray = true)
    (h : wpQuiet P l.toArray (fun w' => ∃ x : After w.heap.size w, w' = x.W) (fun a' => ∀ w', (∃ x : After w.heap.size w, w' = x.W) → Q .normal a' w') l a) : (Code.region id l.toArray true).wp P Q a w :=
  wp_region_quiet (C := fun w' => ∃ x : After w.heap.size w, w' = x.W) hm hB ⟨⟨_, below_drawn w⟩, rfl⟩ (by simpa using h)

/-- F called with these arguments returns v and leaves alone what was there. -/
def Rets (P : Program) (f : FuncId) (args : Array Value) (v : Value) : Prop :=
  ∀ w : World, Calls P f args w fun e w' => e = .returned v ∧ Below w.heap.size w w'

theorem Rets.after {P : Program} {f : FuncId} {args : Array Value} {v : Value} {B : Nat} {w : World} (x : After B w) (hB : B ≤ w.heap.size) (h : Rets P f args v) :
    Calls P f args x.W fun e w'' => e = .returned v ∧ ∃ y : After B w, w'' = y.W :=
  (h x.W).mono fun _ w' ⟨he, hb⟩ => ⟨he, ⟨w', x.below.trans (hb.mono (Nat.le_trans hB x.below.size))⟩, rfl⟩

end Go.Bul
