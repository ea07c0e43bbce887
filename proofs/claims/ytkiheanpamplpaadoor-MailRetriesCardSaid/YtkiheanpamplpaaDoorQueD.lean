/-
  Package mail: a delivery fails.
-/
import Derived.Test.YtkiheanpamplpaaDoorQueC
set_option linter.unusedSimpArgs false
set_option linter.unusedVariables false
set_option linter.unnecessarySimpa false
namespace Go.Proofs.YtkiheanpamplpaaDoor
open Go.RowKit Go.Bul Go.Maps
def delayI (f : Nat) : Int := 5 * 2 ^ f
theorem QAt.blkSet {w : World} {qb : Nat} {site : ByteArray} {last : Int} {mb n : Nat} {D : DataW Value} (h : QAt w qb site last mb n D) {a : Addr} (h1 : a.block ≠ qb) (h2 : a.block ≠ mb) (u : Value) : QAt (w.setCell a u) qb site last mb n D :=
  ⟨(Below.heap_setCell _ _ _ _ (fun e => h1 e.symm)).trans h.blk, h.map.setCell (fun e => h2 e.symm) u⟩
theorem delay_bd (f : Nat) (hf : f ≤ 6) : 0 ≤ delayI f ∧ delayI f ≤ 320 := by
  have : f = 0 ∨ f = 1 ∨ f = 2 ∨ f = 3 ∨ f = 4 ∨ f = 5 ∨ f = 6 := by omega
  rcases this with rfl | rfl | rfl | rfl | rfl | rfl | rfl <;> simp [delayI]
theorem due_eq (f : Nat) (hf : f ≤ 6) (now : Int) (h0 : 0 ≤ now) (h1 : now ≤ 105190559) : wrap64 (now + wrap64 (5 * 2 ^ f)) = now + delayI f := by
  have : f = 0 ∨ f = 1 ∨ f = 2 ∨ f = 3 ∨ f = 4 ∨ f = 5 ∨ f = 6 := by omega
  rcases this with rfl | rfl | rfl | rfl | rfl | rfl | rfl <;> simp [delayI, wrap64] <;> omega
theorem QAt.mlt {w : World} {qb : Nat} {site : ByteArray} {last : Int} {mb n : Nat} {D : DataW Value} (h : QAt w qb site last mb n D) : mb < w.heap.size := h.map.lt
set_option maxRecDepth 100000 in
set_option maxHeartbeats 4000000 in
theorem fail_keep (m : Ms) (hv : Value) (num due : Int) (f : Nat) (hf : f ≤ 6) (k : Int) (h0 : -9223372036854775808 ≤ k) (h1 : k ≤ 9223372036854775807) (now code : Int) (w : World) (qb : Nat) (site : ByteArray) (last : Int) (mb n : Nat) (D : DataW Value) (hq : QAt w qb site last mb n D)
    (hhas : Maps.has D (kInt k) = true) (hat : D.atKey (kInt k) (.held zeroW) = .held (wtV m hv num due f)) (hsl : ∃ a l c, hv = .slice a l c) (hm : 0 ≤ now ∧ now ≤ 105190559) (hn9 : n ≤ 1000000) :
    Calls Tryd.prog 26 #[.pointer (some ⟨qb, 0, none⟩), .int .i64 k, .int .i64 now, .int .i64 code, .bool false] w fun e w' => e = .returned (.tuple #[.int .i64 0, .bool false, .int .i64 0]) ∧ QAt w' qb site last mb (n + 1) (D.put (kInt k) (.held (wtV m hv num (now + delayI f) (f + 1)))) ∧ But2 qb mb w w' := by
  have HQ := Lib.hid hq
  obtain ⟨sa, sl, sc, rfl⟩ := hsl
  have HK := Lib.hid (keyOf_k k h0 h1)
  have HA := Lib.hid hat
  have HS := Lib.hid hhas
  have HK0 := Lib.hid h0
  have HK1 := Lib.hid h1
  obtain ⟨q0, q1, q2⟩ := hq.cells
  have hqb := lt_of_block hq.blk
  have hmb := hq.mlt
  clear hq hat hhas h0 h1
  obtain ⟨d0, d1⟩ := delay_bd f hf
  have hw1 : IntKind.i64.wrap ((f : Int) + 1) = (f : Int) + 1 := IntWalk.i64_in _ (by omega)
  have hw2 : (f : Int) + 1 < 8 := by omega
  go_enter Tryd.func26, Tryd.ntmps26
  go_wp2_with (at_lookup; refine wpList_lookup_own_ok _ rfl _ _ 82 rfl 3 87 keyed Tryd.underlying82 RV (zeroWaiting _) (.held zeroW) [] rfl mb n D rfl HQ.out.map _ _ rfl HK.out ?_; intro vv ps hvv; have hv2 := (Prod.mk.inj (Option.some.inj hvv)).1; rw [HA.out] at hv2; obtain rfl := (DataW.held.inj hv2); rw [HS.out]; clear hvv hv2; simp only [wtV])
  refine (minute_s now _).mono ?_
  rintro e w' ⟨rfl, rfl⟩
  rw [show decide (0 ≤ now ∧ now ≤ 105190559) = true by simp; exact hm]
  obtain ⟨m0, m1⟩ := hm
  go_wp2_with fail
  obtain ⟨wq, hwq⟩ : ∃ wq, wq = w.alloc (.cells (wtCells m (.slice sa sl sc) num (wrap64 (now + wrap64 (5 * 2 ^ f))) ((f : Int) + 1)) 87) := ⟨_, rfl⟩
  have HW := Lib.hid (show wq.heap[w.heap.size]? = some (.cells (wtCells m (.slice sa sl sc) num (wrap64 (now + wrap64 (5 * 2 ^ f))) ((f : Int) + 1)) 87 (0, 0)) by rw [hwq]; exact heap_alloc_new _ _)
  have HQ1 := Lib.hid (show QAt wq qb site last mb n D by rw [hwq]; exact HQ.out.new _)
  have HB1 := Lib.hid (show Below w.heap.size w wq by rw [hwq]; exact (Below.refl _ _).alloc (Nat.le_refl _) _)
  have hs1 : w.heap.size < wq.heap.size := by rw [hwq, size_alloc]; omega
  have HE := Lib.hid (due_eq f hf now m0 m1)
  unfold wtCells at hwq
  rw [← hwq]
  clear hwq q0 q1 q2
  have HWa : ∀ x : After wq.heap.size wq, x.W.heap[w.heap.size]? = some (.cells (wtCells m (.slice sa sl sc) num (wrap64 (now + wrap64 (5 * 2 ^ f))) ((f : Int) + 1)) 87 (0, 0)) := fun x => (x.below.block _ hs1).trans HW.out
  have HQa : ∀ x : After wq.heap.size wq, QAt x.W qb site last mb n D := fun x => HQ1.out.below x.below
  have qa : ∀ x : After wq.heap.size wq, x.W.cell? ⟨qb, 2, none⟩ = _ := fun x => (HQa x).cells.2.2
  have x0 : ∀ x : After wq.heap.size wq, x.W.cell? ⟨w.heap.size, 0, none⟩ = some (.string m.fu) := fun x => wt_cell (HWa x) 0
  have x1 : ∀ x : After wq.heap.size wq, x.W.cell? ⟨w.heap.size, 1, none⟩ = some (.string m.fs) := fun x => wt_cell (HWa x) 1
  have x2 : ∀ x : After wq.heap.size wq, x.W.cell? ⟨w.heap.size, 2, none⟩ = some (.string m.tu) := fun x => wt_cell (HWa x) 2
  have x3 : ∀ x : After wq.heap.size wq, x.W.cell? ⟨w.heap.size, 3, none⟩ = some (.string m.ts) := fun x => wt_cell (HWa x) 3
  have x4 : ∀ x : After wq.heap.size wq, x.W.cell? ⟨w.heap.size, 4, none⟩ = some (.int .i64 m.nu) := fun x => wt_cell (HWa x) 4
  have x5 : ∀ x : After wq.heap.size wq, x.W.cell? ⟨w.heap.size, 5, none⟩ = some (.int .i64 m.da) := fun x => wt_cell (HWa x) 5
  have x6 : ∀ x : After wq.heap.size wq, x.W.cell? ⟨w.heap.size, 6, none⟩ = some (.string m.su) := fun x => wt_cell (HWa x) 6
  have x7 : ∀ x : After wq.heap.size wq, x.W.cell? ⟨w.heap.size, 7, none⟩ = some (.slice sa sl sc) := fun x => wt_cell (HWa x) 7
  have x8 : ∀ x : After wq.heap.size wq, x.W.cell? ⟨w.heap.size, 8, none⟩ = some (.string m.bo) := fun x => wt_cell (HWa x) 8
  have x9 : ∀ x : After wq.heap.size wq, x.W.cell? ⟨w.heap.size, 9, none⟩ = some (.int .i64 num) := fun x => wt_cell (HWa x) 9
  have x10 : ∀ x : After wq.heap.size wq, x.W.cell? ⟨w.heap.size, 10, none⟩ = some (.int .i64 (wrap64 (now + wrap64 (5 * 2 ^ f)))) := fun x => wt_cell (HWa x) 10
  have x11 : ∀ x : After wq.heap.size wq, x.W.cell? ⟨w.heap.size, 11, none⟩ = some (.int .i64 ((f : Int) + 1)) := fun x => wt_cell (HWa x) 11
  clear HWa HQa hw1
  refine wp_region_after_tail 6 (by kernel_rfl) (by kernel_rfl) ?_
  simp only [List.take_succ_cons, List.take_zero, List.drop_succ_cons, List.drop_zero]
  iterate 6 go_big_quiet_step (fail)
  refine wpQuiet_nil ?_
  rintro w2 ⟨⟨_, hb2⟩, rfl⟩
  clear qa x0 x1 x2 x3 x4 x5 x6 x7 x8 x9 x10 x11
  have HQ2 := Lib.hid (HQ1.out.below hb2)
  have HB2 := Lib.hid (HB1.out.trans (hb2.mono (Nat.le_of_lt hs1)))
  clear hb2
  go_wp2_with (at_mapUpdate; refine wpList_mapUpdate_in _ rfl _ _ _ 82 rfl 3 87 keyed Tryd.underlying82 RV mb n D rfl HQ2.out.map (n_small (by omega)) _ _ _ rfl rfl HK.out _ _ rfl ?_; intro w3 hm3 ht3; have HM3 := Lib.hid hm3; have HT3 := Lib.hid ht3; clear hm3 ht3)
  go_ret3
  refine ⟨rfl, ⟨?_, ?_⟩, (But2.of_below HB2.out).trans (But2.of_grown HT3.out.grown)⟩
  · exact (HT3.out.grown.block qb (lt_of_block HQ2.out.blk) (fun e => HQ2.out.ne (Option.some.inj e))).trans HQ2.out.blk
  · have h := HM3.out
    rw [HE.out] at h
    exact h
end Go.Proofs.YtkiheanpamplpaaDoor
