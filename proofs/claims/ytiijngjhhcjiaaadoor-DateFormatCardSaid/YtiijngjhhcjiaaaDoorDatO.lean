/-
  Package date: the named zones.
-/
import Derived.Test.YtiijngjhhcjiaaaDoorDatN
import Derived.Maps.OwnSet
set_option linter.unusedSimpArgs false
set_option linter.unusedVariables false
set_option linter.unnecessarySimpa false
namespace Go.Proofs.YtiijngjhhcjiaaaDoor
open Go.RowKit Go.Bul Go.Maps
theorem wpList_insert_own {H : Type} {P : Program} (w : World) {ops : Array Oper} {rest : List Oper} {o : Oper} {a : Act} {Q : Exit → Act → World → Prop}
    (hg : o.guard = none) (m x v : Operand) (t : TypeId) (hop : o.op = Op.insert t m x v)
    (k e : TypeId) (K : Keyed P k) (ht : P.underlying t = some (.map k e)) (R : Value → Option (DataW H × List MemPlace)) (b n : Nat) (D : DataW H)
    (hm : a.eval m = .map (some b)) (hown : w.ownsMap P k R b n D) (hn : n < maxLen) (key val : Value) (kl : Lit) (hx : a.eval x = key) (hv : a.eval v = val) (hkey : keyOf P k key = some kl)
    (d : DataW H) (ps : List MemPlace) (hval : R val = some (d, ps))
    (hK : ∀ w', w'.ownsMap P k R b (n + 1) (D.put kl d) → w.grownBy w' (some b) → wpList P ops Q rest (a.put o.dst undef) w') :
    wpList P ops Q (o :: rest) a w := by
  refine wpList_plain hg fun K' hK' => ?_
  obtain ⟨w', hrun, r1, r2⟩ := hown.update K ht hn hkey hval
  unfold Oper.wp
  simp [execOp, hop, hm, hx, hv, hrun, Result.andThen]
  exact hK' _ _ (hK w' r1 r2)
def zR : Value → Option (DataW Value × List MemPlace) := fun v => some (.held v, [])
def kZ (l : List UInt8) : Lit := .string l
def zEnt : List (List UInt8 × Int) := [([85, 84], 0), ([85, 84, 67], 0), ([71, 77, 84], 0), ([90], 0), ([69, 83, 84], -300), ([69, 68, 84], -240), ([67, 83, 84], -360), ([67, 68, 84], -300), ([77, 83, 84], -420), ([77, 68, 84], -360), ([80, 83, 84], -480), ([80, 68, 84], -420)]
def zD : DataW Value := zEnt.foldl (fun D x => D.put (kZ x.1) (.held (.int .i64 x.2))) (.map [])
theorem keyedZ : Keyed Tryd.prog 9 := string_keyed Tryd.underlying9
theorem keyOf_z (l : List UInt8) (hs : l.length ≤ 1000) : keyOf Tryd.prog 9 (Sb l) = some (kZ l) := WideMaps.keyOf_string_mk Tryd.underlying9 (by rw [sbSize]; unfold maxLen; omega)
theorem zone_small : 20 < maxLen := by unfold maxLen; omega
theorem insB {w w' w1 : World} (g : w'.grownBy w1 (some w.heap.size)) (h : Below w.heap.size w w') : Below w.heap.size w w1 :=
  h.trans ⟨g.os, g.tape, g.output, g.size, fun k hk => g.block k (Nat.lt_of_lt_of_le hk h.size) (fun e => Nat.lt_irrefl k (by have := Option.some.inj e; omega))⟩
set_option maxRecDepth 100000 in
set_option maxHeartbeats 2000000 in
theorem zones_s (w : World) : Calls Tryd.prog 67 #[] w fun e w' => e = .returned (.map (some w.heap.size)) ∧ w'.ownsMap Tryd.prog 9 zR w.heap.size 12 zD ∧ Below w.heap.size w w' := by
  have hmm := @run_makeMap Tryd.prog
  go_enter Tryd.func67, Tryd.ntmps67
  go_wp2_with (first
    | (refine wpList_insert_own _ rfl _ _ _ 97 rfl 9 3 keyedZ Tryd.underlying97 zR w.heap.size _ _ rfl (by assumption) (Nat.lt_of_le_of_lt (by decide) zone_small) _ _ _ rfl rfl (keyOf_z _ (by decide)) (.held _) [] rfl ?_; intro w1 hown1 hgrow1; have hB1 := insB hgrow1 (by assumption))
    | (refine wpList_insert_own _ rfl _ _ _ 97 rfl 9 3 keyedZ Tryd.underlying97 zR w.heap.size _ _ rfl (World.ownsMap_made w _ _ _) (Nat.lt_of_le_of_lt (by decide) zone_small) _ _ _ rfl rfl (keyOf_z _ (by decide)) (.held _) [] rfl ?_; intro w1 hown1 hgrow1; have hB1 := insB hgrow1 ((Below.refl w.heap.size w).alloc (Nat.le_refl _) _)))
  go_ret
  exact ⟨rfl, hown1, hB1⟩
end Go.Proofs.YtiijngjhhcjiaaaDoor
