/-
  Package mail: queues: copies of messages, new queues, what stands in a queue.
-/
import Derived.Test.YtkiheanpamplpaaDoorPrtB
import Derived.Maps.OwnSet
set_option linter.unusedSimpArgs false
set_option linter.unusedVariables false
set_option linter.unnecessarySimpa false
namespace Go.Proofs.YtkiheanpamplpaaDoor
open Go.RowKit Go.Bul Go.Maps
theorem setCell7_block {w : World} {b b2 : Nat} {o : Obj} (h : w.heap[b2]? = some o) (hne : b2 ≠ b) (u : Value) : (w.setCell ⟨b, 7, none⟩ u).heap[b2]? = some o := (Below.heap_setCell _ _ _ _ (by simpa using hne)).trans h
set_option maxRecDepth 100000 in
set_option maxHeartbeats 2000000 in
theorem copied_s (m : Ms) (v : Value) (hn : m.ho.length ≤ 100000) (w : World) (hh : HopsIn w v m.ho) :
    Calls Tryd.prog 49 #[msgV m v] w fun e w' => ∃ v', e = .returned (msgV m v') ∧ OwnH w.heap.size w' v' m.ho ∧ Below w.heap.size w w' := by
  have HH := Lib.hid hh
  obtain ⟨a0, cap, rfl⟩ := hh.shape
  clear hh
  go_enter Tryd.func49, Tryd.ntmps49
  unfold msgV
  go_wp2_with fail
  refine (clone_s _ m.ho _ hn (HH.out.below (two_allocs _ _ _))).mono ?_
  rintro e w1 ⟨v1, rfl, hown, b1⟩
  obtain ⟨a9, l9, c9, rfl⟩ := owns_slice hown
  have hz := (b1.block (w.heap.size + 1) (by simp only [size_alloc]; omega)).trans (two_last w _ (.cells (msgCells noMs (.slice none 0 0)) 29))
  have hx := (b1.block w.heap.size (by simp only [size_alloc]; omega)).trans ((Below.heap_alloc _ _ _ (by rw [size_alloc]; omega)).trans (heap_alloc_new w (.cells (msgCells m (.slice a0 m.ho.length cap)) 29)))
  have HBw := Lib.hid ((two_allocs w _ _).trans (b1.mono (two_allocs _ _ _).size))
  have HO := Lib.hid (show OwnH (w.heap.size + 2) w1 _ m.ho from owns_mono hown (by simp only [size_alloc]; omega))
  have HZ := Lib.hid hz
  have HX := Lib.hid hx
  obtain ⟨x0, x1, x2, x3, x4, x5, x6, x7, x8⟩ := MsgAt.of_block hx
  obtain ⟨y0, y1, y2, y3, y4, y5, y6, y7, y8⟩ := MsgAt.of_block hz
  have e7 := frozen_of hx 7
  have f0 := frozen_of hz 0
  have f1 := frozen_of hz 1
  have f2 := frozen_of hz 2
  have f3 := frozen_of hz 3
  have f4 := frozen_of hz 4
  have f5 := frozen_of hz 5
  have f6 := frozen_of hz 6
  have f7 := frozen_of hz 7
  have f8 := frozen_of hz 8
  clear hz hx b1 hown
  go_wp2_with fail
  refine bodyPost_ret (results_cell_row rfl _ _ (w.heap.size + 1) _ _ _ _ rfl (set9_block (setCell7_block HZ.out (by omega) _) _ _ _ _ _ _ _ _ _) Tryd.underlying29 rfl (by kernel_rfl)) rfl ?_
  exact ⟨_, rfl, OwnH.set9 (b := w.heap.size + 1) (HO.out.set (b := w.heap.size) (k := 7) (by omega)) (by omega) (by omega) _ _ _ _ _ _ _ _ _, set9_below (B := w.heap.size) (b := w.heap.size + 1) (HBw.out.setCell (p := ⟨w.heap.size, 7, none⟩) (by simp) _) (by omega) _ _ _ _ _ _ _ _ _⟩
/-! ### What stands in a queue -/
abbrev RV : Value → Option (DataW Value × List MemPlace) := fun v => some (.held v, [])
theorem keyed : Keyed Tryd.prog 3 := int_keyed Tryd.underlying3
def kInt (k : Int) : Lit := .int .i64 k
theorem keyOf_k (k : Int) (h0 : -9223372036854775808 ≤ k) (h1 : k ≤ 9223372036854775807) : keyOf Tryd.prog 3 (.int .i64 k) = some (kInt k) :=
  keyOf_int_mk Tryd.underlying3 (by simp [Lit.wf, IntKind.min, IntKind.max, IntKind.signed, IntKind.bits]; omega)
def wtV (m : Ms) (v : Value) (num due fl : Int) : Value := .agg #[.string m.fu, .string m.fs, .string m.tu, .string m.ts, .int .i64 m.nu, .int .i64 m.da, .string m.su, v, .string m.bo, .int .i64 num, .int .i64 due, .int .i64 fl]
def zeroW : Value := wtV noMs (.slice none 0 0) 0 0 0
theorem zeroWaiting (w : World) : (zeroValue 87).run Tryd.prog w = .ok zeroW w := by kernel_rfl
/-- the queue in block qb: its map, of at most n entries, in block mb reads as D -/
structure QAt (w : World) (qb : Nat) (site : ByteArray) (last : Int) (mb n : Nat) (D : DataW Value) : Prop where
  blk : w.heap[qb]? = some (.cells #[.string site, .int .i64 last, .map (some mb)] 84 (0, 0))
  map : w.ownsMap Tryd.prog 3 RV mb n D
theorem QAt.ne {w : World} {qb : Nat} {site : ByteArray} {last : Int} {mb n : Nat} {D : DataW Value} (h : QAt w qb site last mb n D) : qb ≠ mb := by
  intro e
  subst e
  obtain ⟨es, c, h2, _⟩ := h.map
  rw [h.blk] at h2
  cases h2
theorem lt_of_block {w : World} {b : Nat} {o : Obj} (h : w.heap[b]? = some o) : b < w.heap.size := (Array.getElem?_eq_some_iff.1 h).1
theorem QAt.below {w w' : World} {qb : Nat} {site : ByteArray} {last : Int} {mb n : Nat} {D : DataW Value} (h : QAt w qb site last mb n D) (hb : Below w.heap.size w w') : QAt w' qb site last mb n D :=
  ⟨(hb.block qb (lt_of_block h.blk)).trans h.blk, h.map.kept (grownBy_of hb) (by simp)⟩
theorem QAt.cells {w : World} {qb : Nat} {site : ByteArray} {last : Int} {mb n : Nat} {D : DataW Value} (h : QAt w qb site last mb n D) :
    w.cell? ⟨qb, 0, none⟩ = some (.string site) ∧ w.cell? ⟨qb, 1, none⟩ = some (.int .i64 last) ∧ w.cell? ⟨qb, 2, none⟩ = some (.map (some mb)) := by
  refine ⟨?_, ?_, ?_⟩ <;> (unfold World.cell?; rw [h.blk]; rfl)
/-- as it was but for two blocks -/
structure But2 (a b : Nat) (w w' : World) : Prop where
  os : w'.os = w.os
  tape : w'.tape = w.tape
  output : w'.output = w.output
  size : w.heap.size ≤ w'.heap.size
  block : ∀ k, k < w.heap.size → k ≠ a → k ≠ b → w'.heap[k]? = w.heap[k]?
theorem But2.refl (a b : Nat) (w : World) : But2 a b w w := ⟨rfl, rfl, rfl, Nat.le_refl _, fun _ _ _ _ => rfl⟩
theorem But2.trans {a b : Nat} {w w1 w2 : World} (h : But2 a b w w1) (k : But2 a b w1 w2) : But2 a b w w2 :=
  ⟨k.os.trans h.os, k.tape.trans h.tape, k.output.trans h.output, Nat.le_trans h.size k.size, fun i hi ha hb => (k.block i (Nat.lt_of_lt_of_le hi h.size) ha hb).trans (h.block i hi ha hb)⟩
theorem But2.of_below {a b : Nat} {w w' : World} (h : Below w.heap.size w w') : But2 a b w w' := ⟨h.os, h.tape, h.output, h.size, fun k hk _ _ => h.block k hk⟩
theorem But2.of_grown {a b : Nat} {w w' : World} (h : w.grownBy w' (some b)) : But2 a b w w' := ⟨h.os, h.tape, h.output, h.size, fun k hk _ hb => h.block k hk (by simpa using hb)⟩
theorem But2.setCell {a b k : Nat} (w : World) (u : Value) : But2 a b w (w.setCell ⟨a, k, none⟩ u) := ⟨rfl, rfl, rfl, by simp [World.setCell], fun i hi ha _ => Below.heap_setCell _ _ _ _ (by simpa using ha)⟩
theorem But2.to_below {a b B : Nat} {w w' : World} (h : But2 a b w w') (hB : B ≤ w.heap.size) (ha : B ≤ a) (hb : B ≤ b) : Below B w w' := ⟨h.os, h.tape, h.output, h.size, fun k hk => h.block k (by omega) (by omega) (by omega)⟩
theorem HopsIn.but2 {a b : Nat} {w w' : World} {v : Value} {zs : List ByteArray} (h : HopsIn w v zs) (hb : But2 a b w w') (h1 : v.ownBlock ≠ some a) (h2 : v.ownBlock ≠ some b) : HopsIn w' v zs := by
  rcases h with h | ⟨g, off, c, rfl, hg, hc, hcell⟩
  · exact .inl h
  · have hblk := hb.block g hg (fun e => h1 (by rw [← e]; rfl)) (fun e => h2 (by rw [← e]; rfl))
    exact .inr ⟨g, off, c, rfl, Nat.lt_of_lt_of_le hg hb.size, hc, fun j hj => by
      rw [World.cell?_of_block (w := w) (a := ⟨g, off + j, none⟩) hblk]; exact hcell j hj⟩
set_option maxRecDepth 100000 in
theorem newQueue_s (name : ByteArray) (hn : name.size ≤ maxLen) (w : World) (hs : siteE name = 0) :
    Calls Tryd.prog 23 #[.string name] w fun e w' => e = .returned (.tuple #[.pointer (some ⟨w.heap.size + 1, 0, none⟩), .int .i64 0]) ∧ QAt w' (w.heap.size + 1) name 0 w.heap.size 0 (.map []) ∧ Below w.heap.size w w' := by
  have hmm := @run_makeMap Tryd.prog
  go_enter Tryd.func23, Tryd.ntmps23
  go_wp2_with fail
  refine (site_s name hn _).mono ?_
  rintro e w0 ⟨rfl, rfl⟩
  rw [hs]
  clear hs
  go_wp2_with fail
  go_ret2
  exact ⟨rfl, ⟨two_last w _ _, (World.ownsMap_made w _ _ _).alloc _⟩, two_allocs w _ _⟩
theorem newQueue_bad (name : ByteArray) (hn : name.size ≤ maxLen) (w : World) (hs : siteE name ≠ 0) :
    Calls Tryd.prog 23 #[.string name] w fun e w' => e = .returned (.tuple #[.pointer none, .int .i64 (siteE name)]) ∧ w = w' := by
  have hq : (siteE name == 0) = false := by rw [beq_eq_false_iff_ne]; exact hs
  go_enter Tryd.func23, Tryd.ntmps23
  go_wp2_with fail
  refine (site_s name hn _).mono ?_
  rintro e w0 ⟨rfl, rfl⟩
  clear hs
  go_wp2_with fail
  go_ret2
  exact ⟨rfl, rfl⟩
end Go.Proofs.YtkiheanpamplpaaDoor
