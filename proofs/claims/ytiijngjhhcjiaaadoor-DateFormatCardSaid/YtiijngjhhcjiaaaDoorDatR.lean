/-
  Package date: the two texts of known(), as the scan reads them.
-/
import Derived.Test.YtiijngjhhcjiaaaDoorDatP
import Derived.WalkSmall
set_option linter.unusedSimpArgs false
set_option linter.unusedVariables false
set_option linter.unnecessarySimpa false
namespace Go.Proofs.YtiijngjhhcjiaaaDoor
open Go.RowKit Go.Bul
def tA : ByteArray := ⟨#[49, 54, 32, 110, 111, 118, 32, 50, 48, 50, 54, 32, 48, 51, 58, 51, 53, 32, 43, 48, 49, 51, 48]⟩
def tB : ByteArray := ⟨#[49, 54, 32, 110, 111, 118, 32, 50, 48, 50, 54, 32, 51, 58, 51, 53, 32, 43, 48, 49, 51, 48]⟩
def monB : List ByteArray := monT.map (fun l => ⟨l.toArray⟩)
theorem a_peek0 : pkB tA letB 0 0 = false := by decide +kernel
theorem a_num0 : nmS tA 1 ⟨0, 0, 0⟩ = ⟨1, 0, 1⟩ := by
  have : (nmS tA 1 ⟨0, 0, 0⟩).k = 1 ∧ (nmS tA 1 ⟨0, 0, 0⟩).e = 0 ∧ (nmS tA 1 ⟨0, 0, 0⟩).n = 1 := by decide +kernel
  obtain ⟨h1, h2, h3⟩ := this
  generalize nmS tA 1 ⟨0, 0, 0⟩ = x at h1 h2 h3
  cases x
  simp_all
theorem nm_eq {x : Nm} {k : Nat} {e n : Int} (h : x.k = k ∧ x.e = e ∧ x.n = n) : x = ⟨k, e, n⟩ := by
  obtain ⟨h1, h2, h3⟩ := h
  cases x
  simp_all
theorem a_peek1 : pkB tA digB 1 0 = true := by decide +kernel
theorem a_num1 : nmS tA 1 ⟨1, 0, 0⟩ = ⟨2, 0, 6⟩ := nm_eq (by decide +kernel)
theorem a_num7 : nmS tA 4 ⟨7, 0, 0⟩ = ⟨11, 0, 2026⟩ := nm_eq (by decide +kernel)
theorem a_num12' : nmS tA 2 ⟨12, 0, 0⟩ = ⟨14, 0, 3⟩ := nm_eq (by decide +kernel)
theorem a_num15 : nmS tA 2 ⟨15, 0, 0⟩ = ⟨17, 0, 35⟩ := nm_eq (by decide +kernel)
theorem bl_eq {s : ByteArray} {k k' : Nat} (h1 : tkA s blkB k 0 = k') (h2 : tkE s blkB k 0 = 0) (h3 : pkB s blkB k' 0 = false) : skA s (tkA s blkB k 0) (tkE s blkB k 0) = k' ∧ tkE s blkB k 0 = 0 := by
  rw [h1, h2, skA_no h3]
  exact ⟨rfl, rfl⟩
theorem a_bl2 : skA tA (tkA tA blkB 2 0) (tkE tA blkB 2 0) = 3 ∧ tkE tA blkB 2 0 = 0 := bl_eq (by decide +kernel) (by decide +kernel) (by decide +kernel)
theorem a_bl6 : skA tA (tkA tA blkB 6 0) (tkE tA blkB 6 0) = 7 ∧ tkE tA blkB 6 0 = 0 := bl_eq (by decide +kernel) (by decide +kernel) (by decide +kernel)
theorem a_bl11 : skA tA (tkA tA blkB 11 0) (tkE tA blkB 11 0) = 12 ∧ tkE tA blkB 11 0 = 0 := bl_eq (by decide +kernel) (by decide +kernel) (by decide +kernel)
theorem a_bl17 : skA tA (tkA tA blkB 17 0) (tkE tA blkB 17 0) = 18 ∧ tkE tA blkB 17 0 = 0 := bl_eq (by decide +kernel) (by decide +kernel) (by decide +kernel)
theorem a_col14 : tkA tA (jusB 58) 14 0 = 15 ∧ tkE tA (jusB 58) 14 0 = 0 := by decide +kernel
theorem a_col17 : pkB tA (jusB 58) 17 0 = false := by decide +kernel
theorem a_name : naI tA monB 3 0 = 10 ∧ naK tA monB 3 0 = 6 ∧ naE tA monB 3 0 = 0 := by decide +kernel
theorem a_sk : skA tA 3 0 = 3 := by rw [skA_no (by decide +kernel)]
theorem a_num12 : (nmS tA 2 ⟨12, 0, 0⟩).k = 14 ∧ (nmS tA 2 ⟨12, 0, 0⟩).e = 0 ∧ (nmS tA 2 ⟨12, 0, 0⟩).n = 3 := by decide +kernel
theorem b_num12 : (nmS tB 2 ⟨12, 0, 0⟩).k = 13 ∧ (nmS tB 2 ⟨12, 0, 0⟩).e = 3 ∧ (nmS tB 2 ⟨12, 0, 0⟩).n = 238 := by decide +kernel
/-- the scan in block b, the parts in block p, the result in block q -/
structure RdI (w0 : World) (b p q : Nat) (s : ByteArray) (k : Nat) (e : Int) (cs : Array Value) (w : World) : Prop where
  sc : ScAt w b s k e
  pt : w.heap[p]? = some (.cells cs 63 (0, 0))
  rs : w.heap[q]? = some (.cells #[.bool false, .int .i64 0, .int .i64 0, .int .i64 0, .int .i64 0, .int .i64 0, .int .i64 0, .int .i64 0, .int .i64 0, .int .i64 0, .int .i64 0, .int .i64 0, .int .i64 0, .int .i64 0] 63 (0, 0))
  bt : Bt b w0 w
  gd : Gd w
  pb : p ≠ b
  qb : q ≠ b
  pq : p ≠ q
  p0 : w0.heap.size ≤ p
  q0 : w0.heap.size ≤ q
  b7 : 7 ≤ b
  w7 : 7 ≤ w0.heap.size
theorem Gd.at7 {w w' : World} (h : Gd w) (hb : Below 7 w w') : Gd w' :=
  ⟨Nat.le_trans h.size hb.size, var?_below hb gPowD (by decide) h.pow, fun c hc => (hb.cell (p := ⟨3, c, none⟩) (show (3 : Nat) < 7 by decide)).trans (h.utf.1 c hc),
    fun i hi => ⟨(hb.cell (p := ⟨4, 2 * i, none⟩) (show (4 : Nat) < 7 by decide)).trans (h.utf.2 i hi).1, (hb.cell (p := ⟨4, 2 * i + 1, none⟩) (show (4 : Nat) < 7 by decide)).trans (h.utf.2 i hi).2⟩⟩
theorem RdI.go {w0 : World} {b p q : Nat} {s : ByteArray} {k k' : Nat} {e e' : Int} {cs : Array Value} {w w' : World} (h : RdI w0 b p q s k e cs w) (hs : ScAt w' b s k' e') (hb : Bt b w w') : RdI w0 b p q s k' e' cs w' :=
  ⟨hs, (hb.block p (ltBlock h.pt) h.pb).trans h.pt, (hb.block q (ltBlock h.rs) h.qb).trans h.rs, h.bt.trans hb, h.gd.at7 (hb.to_below h.gd.size h.b7), h.pb, h.qb, h.pq, h.p0, h.q0, h.b7, h.w7⟩
theorem RdI.below {w0 : World} {b p q : Nat} {s : ByteArray} {k : Nat} {e : Int} {cs : Array Value} {w w' : World} (h : RdI w0 b p q s k e cs w) (hb : Below w.heap.size w w') : RdI w0 b p q s k e cs w' :=
  h.go (h.sc.below hb) (Bt.of_below hb)
theorem RdI.set {w0 : World} {b p q : Nat} {s : ByteArray} {k : Nat} {e : Int} {cs : Array Value} {w : World} (h : RdI w0 b p q s k e cs w) (i : Nat) (u : Value) : RdI w0 b p q s k e (cs.setIfInBounds i u) (w.setCell ⟨p, i, none⟩ u) :=
  ⟨CRel.far h.sc (fun e => h.pb e.symm), setCell_block h.pt, CRel.far h.rs (fun e => h.pq e.symm),
    ⟨h.bt.os, h.bt.tape, h.bt.output, by have := h.bt.size; simpa [World.setCell] using this, fun k hk hb => (Below.heap_setCell _ _ _ _ (by have := h.p0; show k ≠ p; omega)).trans (h.bt.block k hk hb)⟩,
    h.gd.at7 ((Below.refl 7 w).setCell (p := ⟨p, i, none⟩) (by have := h.p0; have := h.w7; show 7 ≤ p; omega) u), h.pb, h.qb, h.pq, h.p0, h.q0, h.b7, h.w7⟩
theorem strs_mon (w : World) : Strs (w.alloc (.cells monA 56)) w.heap.size monB :=
  ⟨by rw [sizeA]; omega, fun j hj => by
    rw [cellAt (heapNew _ _)]
    have h12 : j < 12 := hj
    obtain rfl | rfl | rfl | rfl | rfl | rfl | rfl | rfl | rfl | rfl | rfl | rfl : j = 0 ∨ j = 1 ∨ j = 2 ∨ j = 3 ∨ j = 4 ∨ j = 5 ∨ j = 6 ∨ j = 7 ∨ j = 8 ∨ j = 9 ∨ j = 10 ∨ j = 11 := by omega
    all_goals rfl⟩
theorem a_zone (w : World) (hg : Gd w) : Calls Tryd.prog 55 #[.string (tA.extract 18 23)] w fun e w' => e = .returned (.tuple #[.int .i64 90, .int .i64 0]) ∧ Below w.heap.size w w' := by
  have h := zone_s (tA.extract 18 23) (by decide +kernel) (.inl (by decide +kernel)) (fun k h1 h2 => by
    obtain rfl | rfl | rfl | rfl : k = 1 ∨ k = 2 ∨ k = 3 ∨ k = 4 := by omega
    all_goals decide +kernel) w hg
  rw [show zoneV (byteAt (tA.extract 18 23) 0) (zAcc (tA.extract 18 23) 4) = 90 by decide +kernel, show zoneE (zAcc (tA.extract 18 23) 4) = 0 by decide +kernel] at h
  exact h
set_option maxHeartbeats 2000000 in
theorem SB14 {w : World} {b : Nat} {c0 c1 c2 c3 c4 c5 c6 c7 c8 c9 c10 c11 c12 c13 : Value} {t : TypeId} (h : w.heap[b]? = some (.cells #[c0, c1, c2, c3, c4, c5, c6, c7, c8, c9, c10, c11, c12, c13] t (0, 0))) (a0 a1 a2 a3 a4 a5 a6 a7 a8 a9 a10 a11 a12 a13 : Value) :
    ((((((((((((((w.setCell ⟨b, 0, none⟩ a0).setCell ⟨b, 1, none⟩ a1).setCell ⟨b, 2, none⟩ a2).setCell ⟨b, 3, none⟩ a3).setCell ⟨b, 4, none⟩ a4).setCell ⟨b, 5, none⟩ a5).setCell ⟨b, 6, none⟩ a6).setCell ⟨b, 7, none⟩ a7).setCell ⟨b, 8, none⟩ a8).setCell ⟨b, 9, none⟩ a9).setCell ⟨b, 10, none⟩ a10).setCell ⟨b, 11, none⟩ a11).setCell ⟨b, 12, none⟩ a12).setCell ⟨b, 13, none⟩ a13).heap[b]? = some (.cells #[a0, a1, a2, a3, a4, a5, a6, a7, a8, a9, a10, a11, a12, a13] t (0, 0)) := by
  have e0 := setCell_block (k := 0) (u := a0) h
  simp only [List.setIfInBounds_toArray, List.set_cons_zero, List.set_cons_succ] at e0
  have e1 := setCell_block (k := 1) (u := a1) e0
  simp only [List.setIfInBounds_toArray, List.set_cons_zero, List.set_cons_succ] at e1
  have e2 := setCell_block (k := 2) (u := a2) e1
  simp only [List.setIfInBounds_toArray, List.set_cons_zero, List.set_cons_succ] at e2
  have e3 := setCell_block (k := 3) (u := a3) e2
  simp only [List.setIfInBounds_toArray, List.set_cons_zero, List.set_cons_succ] at e3
  have e4 := setCell_block (k := 4) (u := a4) e3
  simp only [List.setIfInBounds_toArray, List.set_cons_zero, List.set_cons_succ] at e4
  have e5 := setCell_block (k := 5) (u := a5) e4
  simp only [List.setIfInBounds_toArray, List.set_cons_zero, List.set_cons_succ] at e5
  have e6 := setCell_block (k := 6) (u := a6) e5
  simp only [List.setIfInBounds_toArray, List.set_cons_zero, List.set_cons_succ] at e6
  have e7 := setCell_block (k := 7) (u := a7) e6
  simp only [List.setIfInBounds_toArray, List.set_cons_zero, List.set_cons_succ] at e7
  have e8 := setCell_block (k := 8) (u := a8) e7
  simp only [List.setIfInBounds_toArray, List.set_cons_zero, List.set_cons_succ] at e8
  have e9 := setCell_block (k := 9) (u := a9) e8
  simp only [List.setIfInBounds_toArray, List.set_cons_zero, List.set_cons_succ] at e9
  have e10 := setCell_block (k := 10) (u := a10) e9
  simp only [List.setIfInBounds_toArray, List.set_cons_zero, List.set_cons_succ] at e10
  have e11 := setCell_block (k := 11) (u := a11) e10
  simp only [List.setIfInBounds_toArray, List.set_cons_zero, List.set_cons_succ] at e11
  have e12 := setCell_block (k := 12) (u := a12) e11
  simp only [List.setIfInBounds_toArray, List.set_cons_zero, List.set_cons_succ] at e12
  have e13 := setCell_block (k := 13) (u := a13) e12
  simp only [List.setIfInBounds_toArray, List.set_cons_zero, List.set_cons_succ] at e13
  exact e13
theorem Bt.far {b q k : Nat} {w0 w1 : World} {u : Value} (h : Bt b w0 w1) (hq : w0.heap.size ≤ q) : Bt b w0 (w1.setCell ⟨q, k, none⟩ u) :=
  ⟨h.os, h.tape, h.output, by have := h.size; simpa [World.setCell] using this, fun i hi hb => (Below.heap_setCell _ _ _ _ (by show i ≠ q; omega)).trans (h.block i hi hb)⟩
end Go.Proofs.YtiijngjhhcjiaaaDoor
