/-
  The law MailPasses, walked: where a message is passed on.
-/
import Derived.Test.YtkiheanpamplpaaDoorLpsA
set_option linter.unusedSimpArgs false
set_option linter.unusedVariables false
set_option linter.unnecessarySimpa false
namespace Go.Proofs.YtkiheanpamplpaaDoor
open Go.RowKit Go.Bul Go.Maps
structure RowRel (g : Nat) (zs : List ByteArray) (ws : World) (k : Nat) (wr : World) : Prop where
  row : ∃ cur : Array Value, wr.heap[g]? = some (.cells cur 9 (0, 0)) ∧ zs.length ≤ cur.size ∧ ∀ j (h : j < zs.length), k ≤ j → cur[j]? = some (.string zs[j])
  but : But2 g g ws wr
theorem RowRel.start {B g c : Nat} {zs : List ByteArray} {w : World} (h : OwnH B w (.slice (some ⟨g, 0, none⟩) zs.length c) zs) : RowRel g zs w 0 w := by
  refine ⟨?_, But2.refl _ _ _⟩
  rcases h.2 with ⟨h1, _⟩ | ⟨g', cap, cur, h1, _, h3, h4, _, h5, h6⟩
  · cases h1
  · injection h1 with e1 e2 e3
    obtain rfl : g = g' := by injection (Option.some.inj e1)
    refine ⟨cur, h3, by omega, fun j hj _ => ?_⟩
    have h7 : (cur.toList.take (zs.length * 1))[j]? = some (.string zs[j]) := by rw [h6]; simp [hj]
    rw [List.getElem?_take_of_lt (by omega)] at h7
    simpa using h7
theorem RowRel.cell {g k : Nat} {zs : List ByteArray} {ws wr : World} (h : RowRel g zs ws k wr) (hk : k < zs.length) : wr.cell? ⟨g, k, none⟩ = some (.string zs[k]) ∧ wr.frozen? ⟨g, k, none⟩ = false := by
  obtain ⟨cur, h1, h2, h3⟩ := h.row
  exact ⟨by unfold World.cell?; rw [h1]; exact h3 k hk (Nat.le_refl _), frozen_of h1 k⟩
theorem RowRel.drewN {g k : Nat} {zs : List ByteArray} {ws wr : World} (h : RowRel g zs ws k wr) (n : Nat) : RowRel g zs ws k (wr.drewN n) := ⟨h.row, h.but.trans (But2.of_below (below_drewN (Below.refl _ _) n))⟩
theorem RowRel.step {g k : Nat} {zs : List ByteArray} {ws wr : World} (h : RowRel g zs ws k wr) (u : Value) : RowRel g zs ws (k + 1) (wr.setCell ⟨g, k, none⟩ u) := by
  obtain ⟨cur, h1, h2, h3⟩ := h.row
  refine ⟨⟨cur.setIfInBounds k u, by simp [World.setCell, Array.getElem?_modify, h1], by simpa using h2, fun j hj hk => ?_⟩, h.but.trans (But2.setCell _ _)⟩
  rw [Array.getElem?_setIfInBounds_ne (by omega)]
  exact h3 j hj (by omega)
theorem RowRel.at0 {g k : Nat} {zs : List ByteArray} {ws wr : World} (h : RowRel g zs ws 0 wr) (hk : k < zs.length) : wr.cell? ⟨g, k, none⟩ = some (.string zs[k]) := by
  obtain ⟨cur, h1, h2, h3⟩ := h.row
  unfold World.cell?; rw [h1]; exact h3 k hk (Nat.zero_le _)
theorem own_form {B : Nat} {w : World} {v : Value} {zs : List ByteArray} (h : OwnH B w v zs) (hz : 0 < zs.length) : ∃ g c, v = .slice (some ⟨g, 0, none⟩) zs.length c ∧ B ≤ g ∧ g < w.heap.size := by
  obtain ⟨g, c, h1, h2, h3⟩ := World.ownsRow.form h hz
  exact ⟨g, c, h1, h2, h3⟩
set_option maxRecDepth 100000 in
set_option maxHeartbeats 8000000 in
theorem lawPasses_good (m : Ms) (v : Value) (hm : m.Big) (site : ByteArray) (hs : site.size ≤ maxLen) (hgood : passE (toM m) (cut60 site) = 0) (w : World) (hg : Gl w) (hh : HopsIn w v m.ho) :
    Calls Tryd.prog 5 #[msgV m v, .string site] w fun e w' => e = .returned (.bool true) ∧ Below w.heap.size w w' := by
  unfold maxLen at hs
  have HG := Lib.hid hg
  have HH := Lib.hid hh
  have hz := cut60_size site
  have hz1 : (min (site.size : Int) 60).toNat = min site.size 60 := by omega
  have hz2 : (0 : Int) ≤ min (site.size : Int) 60 := by omega
  have hz3 : min (site.size : Int) 60 ≤ site.size := by omega
  have HT := Lib.hid (toM_ok hm)
  obtain ⟨zs, hzs⟩ : ∃ zs, zs = (toM m).ho ++ [cut60 site] := ⟨_, rfl⟩
  have hz0 : 0 < zs.length := by rw [hzs]; simp
  have hzl : zs.length ≤ 30 := by rw [hzs, List.length_append]; have : (toM m).ho.length ≤ 20 := by { show (m.ho.take 20).length ≤ 20; rw [List.length_take]; omega }; simp only [List.length_singleton]; omega
  have hF1 : ∀ (u : Value) (W : World), HopsIn W u (toM m).ho → Calls Tryd.prog 18 #[msgV (toM m) u, .string (cut60 site)] W fun e w' => ∃ v', e = .returned (.tuple #[msgV (toM m) v', .int .i64 0]) ∧ OwnH W.heap.size w' v' zs ∧ Below W.heap.size W w' :=
    fun u W h => by rw [hzs]; exact pass_c (toM m) u (toM_ok hm) (cut60 site) (sizeLe49 _ (by omega)) W h hgood
  have hF2 : ∀ (u : Value) (W : World), HopsIn W u (toM m).ho → Calls Tryd.prog 19 #[msgV (toM m) u, .string (cut60 site)] W fun e w' => ∃ v', e = .returned (.tuple #[msgV (toM m) v', .int .i64 0]) ∧ OwnH W.heap.size w' v' zs ∧ Below W.heap.size W w' :=
    fun u W h => by rw [hzs]; exact refPass_c (toM m) u (toM_ok hm) (cut60 site) (sizeLe49 _ (by omega)) W h hgood
  have HF1 := Lib.hid hF1
  have HF2 := Lib.hid hF2
  have HZS := Lib.hid hzs
  have HMB := Lib.hid hm
  clear hg hh hm hF1 hF2 hgood hzs
  have hnX := HT.out.hn
  have HZlen := Lib.hid hzl
  go_enter Tryd.func5, Tryd.ntmps5
  unfold msgV
  go_wp2_with fail
  refine (toM_s m v HMB.out _ (HH.out.below ((Below.refl _ _).alloc (Nat.le_refl _) _))).mono ?_
  rintro e w1 ⟨a1, c1, rfl, hh1, b1⟩
  have HH1 := Lib.hid hh1
  have HW1 := Lib.hid (((Below.refl _ _).alloc (Nat.le_refl _) _).trans (b1.mono (by rw [size_alloc]; omega)))
  have HA1 := Lib.hid ((MsgAt.new w m v 26).below b1 (by rw [size_alloc]; omega))
  have hs1 : w.heap.size < w1.heap.size := by have := b1.size; rw [size_alloc] at this; omega
  clear hh1 b1
  simp only [msgV]
  go_wp2_with fail
  refine (HF1.out _ _ (HH1.out.below ((Below.refl _ _).alloc (Nat.le_refl _) _))).mono ?_
  rintro e w2 ⟨v5, rfl, ho5, b2⟩
  obtain ⟨g5, k5, rfl, hg5, hg5s⟩ := own_form ho5 hz0
  have hg5' : w1.heap.size < g5 := by rw [size_alloc] at hg5; omega
  have HO5 := Lib.hid ho5
  clear hg5 ho5
  have hx2 := (MsgAt.new w1 (toM m) (.slice a1 (toM m).ho.length c1) 29).below b2 (by rw [size_alloc]; omega)
  have HW12 := Lib.hid (show Below w1.heap.size w1 w2 from ((Below.refl _ _).alloc (Nat.le_refl _) _).trans (b2.mono (by rw [size_alloc]; omega)))
  have hs2 : w1.heap.size < w2.heap.size := by have := b2.size; rw [size_alloc] at this; omega
  have HX2 := Lib.hid hx2
  obtain ⟨x0, x1, x2, x3, x4, x5, x6, x7, x8⟩ := hx2
  clear b2
  simp only [msgV]
  go_wp2_with fail
  refine (ofM_s (toM m) _ hnX _ ((HH1.out.below HW12.out).below ((Below.refl _ _).alloc (Nat.le_refl _) _))).mono ?_
  rintro e w3 ⟨a3, c3, rfl, hh3, b3⟩
  have HH3 := Lib.hid hh3
  have HB3 := Lib.hid b3
  clear hh3 b3 x0 x1 x2 x3 x4 x5 x6 x7 x8
  simp only [msgV]
  go_wp2_with fail
  refine (HF2.out _ _ HH3.out).mono ?_
  rintro e w4 ⟨v6, rfl, ho6, b4⟩
  obtain ⟨g6, k6, rfl, hg6, hg6s⟩ := own_form ho6 hz0
  have HO6 := Lib.hid ho6
  clear ho6
  have HW23 := Lib.hid (show Below w2.heap.size w2 w3 from ((Below.refl _ _).alloc (Nat.le_refl _) _).trans (HB3.out.mono (by rw [size_alloc]; omega)))
  have hs3 : w2.heap.size < w3.heap.size := by have := HB3.out.size; rw [size_alloc] at this; omega
  have HX4 := Lib.hid ((HX2.out.below HW23.out hs2).below b4 (by omega))
  have hy4 := (b4.block w2.heap.size hs3).trans ((HB3.out.block w2.heap.size (by rw [size_alloc]; omega)).trans (heap_alloc_new w2 (.cells (msgCells (toM m) (.slice (some ⟨g5, 0, none⟩) zs.length k5)) 29)))
  have HY4 := Lib.hid hy4
  have HW24 := Lib.hid (HW23.out.trans (b4.mono (Nat.le_of_lt hs3)))
  have HW14 := Lib.hid (HW12.out.trans (HW24.out.mono (Nat.le_of_lt hs2)))
  have HA4 := Lib.hid (HA1.out.below HW14.out hs1)
  have HW4 := Lib.hid (HW1.out.trans (HW14.out.mono HW1.out.size))
  have hs4 := b4.size
  have hs24 : w2.heap.size < w4.heap.size := by omega
  have HO5s := Lib.hid (show OwnH (w1.heap.size + 1) w4 _ zs from (owns_mono HO5.out (by rw [size_alloc]; omega)).kept (grownBy_of HW24.out) (by cases hv : Value.ownBlock _ <;> simp))
  clear b4 hy4
  simp only [msgV]
  go_wp2_with fail
  obtain ⟨ws, hws⟩ : ∃ ws, ws = w4.alloc (.cells (msgCells (toM m) (.slice (some ⟨g6, 0, none⟩) zs.length k6)) 26) := ⟨_, rfl⟩
  have hss : ws.heap.size = w4.heap.size + 1 := by rw [hws, size_alloc]
  have HB4s := Lib.hid (show Below w4.heap.size w4 ws by rw [hws]; exact (Below.refl _ _).alloc (Nat.le_refl _) _)
  have HYs := Lib.hid (show ws.heap[w2.heap.size]? = some (.cells (msgCells (toM m) (.slice (some ⟨g5, 0, none⟩) zs.length k5)) 29 (0, 0)) from (HB4s.out.block w2.heap.size hs24).trans HY4.out)
  have HZs := Lib.hid (show ws.heap[w4.heap.size]? = some (.cells (msgCells (toM m) (.slice (some ⟨g6, 0, none⟩) zs.length k6)) 26 (0, 0)) by rw [hws]; exact heap_alloc_new _ _)
  have HR0 := Lib.hid (RowRel.start (owns_mono (HO5s.out.kept (grownBy_of HB4s.out) (by cases hv : Value.ownBlock _ <;> simp)) (Nat.zero_le _)))
  have hR6 := RowRel.start HO6.out
  have HC6 := Lib.hid (show ∀ k (hk : k < zs.length), ws.cell? ⟨g6, k, none⟩ = some (.string zs[k]) from fun k hk => (HB4s.out.cell (p := ⟨g6, k, none⟩) hg6s).trans ((RowRel.start HO6.out).at0 hk))
  clear hR6
  have HFy := Lib.hid (show ∀ k wr, RowRel g5 zs ws k wr → wr.heap[w2.heap.size]? = some (.cells (msgCells (toM m) (.slice (some ⟨g5, 0, none⟩) zs.length k5)) 29 (0, 0)) from fun k wr h => (h.but.block w2.heap.size (by omega) (by omega) (by omega)).trans HYs.out)
  have HFz := Lib.hid (show ∀ k wr, RowRel g5 zs ws k wr → wr.heap[w4.heap.size]? = some (.cells (msgCells (toM m) (.slice (some ⟨g6, 0, none⟩) zs.length k6)) 26 (0, 0)) from fun k wr h => (h.but.block w4.heap.size (by omega) (by omega) (by omega)).trans HZs.out)
  have hzl := HZlen.out
  unfold msgCells at hws
  rw [← hws]
  clear hws
  go_loopw [10] (fun i wr => ∃ k : Nat, k ≤ zs.length ∧ i = .int .i64 k ∧ RowRel g5 zs ws k wr) (fun i _ => zs.length - (intOf i).toNat)
  case atStart => exact ⟨0, Nat.zero_le _, rfl, HR0.out⟩
  case round =>
    obtain ⟨k, hk, rfl, hR⟩ := hrel
    have HR := Lib.hid hR
    have hY := HFy.out _ _ hR
    have hZ := HFz.out _ _ hR
    have y7 := (MsgAt.of_block hY).2.2.2.2.2.2.2.1
    have z7 := (MsgAt.of_block hZ).2.2.2.2.2.2.2.1
    have fy7 := frozen_of hY 7
    have fz7 := frozen_of hZ 7
    have HYk := Lib.hid hY
    have HZk := Lib.hid hZ
    clear hY hZ
    by_cases hlt : k < zs.length
    · obtain ⟨c5, f5⟩ := hR.cell hlt
      have c6 := (hR.but.cell (p := ⟨g6, k, none⟩) (show g6 < ws.heap.size by omega) (show g6 ≠ g5 by omega) (show g6 ≠ g5 by omega)).trans (HC6.out k hlt)
      have i1 : (0 : Int) ≤ (k : Int) := by omega
      have i2 : (k : Int) < zs.length := by omega
      clear hR
      go_wp2_with fail
      go_quiet (fail)
      go_wp2_with fail
      refine ⟨⟨k + 1, hlt, by push_cast; rfl, ?_⟩, ?_⟩
      · exact (HR.out.drewN _).step _
      · simp only [intOf]; omega
    · obtain rfl : k = zs.length := by omega
      clear hR
      go_wp2_with fail
      obtain ⟨wq, hwq⟩ : ∃ wq, wq = (wr.setCell ⟨w2.heap.size, 7, none⟩ (.slice none 0 0)).setCell ⟨w4.heap.size, 7, none⟩ (.slice none 0 0) := ⟨_, rfl⟩
      obtain ⟨Y, hY⟩ : ∃ Y : Ms, Y = { toM m with ho := [] } := ⟨_, rfl⟩
      have hnY : Y.ho.length ≤ 100000 := by rw [hY]; exact Nat.zero_le _
      have HNil := Lib.hid (show ∀ W : World, HopsIn W (.slice none 0 0) Y.ho from fun W => by rw [hY]; exact .inl ⟨rfl, none, 0, rfl, fun _ => rfl⟩)
      have hsr : ws.heap.size ≤ wr.heap.size := HR.out.but.size
      have hsq : wq.heap.size = wr.heap.size := by rw [hwq, size_setCell, size_setCell]
      have HBs := Lib.hid (show Below w1.heap.size w1 wr from (HW14.out.trans (HB4s.out.mono (by omega))).trans (HR.out.but.to_below (by omega) (by omega) (by omega)))
      have HYq := Lib.hid (show MsgAt wq w2.heap.size Y (.slice none 0 0) by rw [hwq, hY]; exact (show MsgAt (wr.setCell ⟨w2.heap.size, 7, none⟩ (.slice none 0 0)) w2.heap.size { toM m with ho := [] } (.slice none 0 0) from MsgAt.set7 HYk.out _).far7 (by omega) _)
      have HZq := Lib.hid (show MsgAt wq w4.heap.size Y (.slice none 0 0) by rw [hwq, hY]; exact (show MsgAt ((wr.setCell ⟨w2.heap.size, 7, none⟩ (.slice none 0 0)).setCell ⟨w4.heap.size, 7, none⟩ (.slice none 0 0)) w4.heap.size { toM m with ho := [] } (.slice none 0 0) from MsgAt.set7 ((Below.heap_setCell _ _ _ _ (by show w4.heap.size ≠ w2.heap.size; omega)).trans HZk.out) _))
      have HXr := Lib.hid (((HX4.out.below HB4s.out (by omega)).but2 HR.out.but (by omega) (by omega) (by omega)))
      have HAr := Lib.hid (((HA4.out.below HB4s.out (by omega)).but2 HR.out.but (by omega) (by omega) (by omega)))
      have HXq := Lib.hid (show MsgAt wq w1.heap.size (toM m) (.slice a1 (toM m).ho.length c1) by rw [hwq]; exact (HXr.out.far7 (by omega) _).far7 (by omega) _)
      have HAq := Lib.hid (show MsgAt wq w.heap.size m v by rw [hwq]; exact (HAr.out.far7 (by omega) _).far7 (by omega) _)
      have HBq1 := Lib.hid (show Below w1.heap.size w1 wq by rw [hwq]; exact (HBs.out.setCell (p := ⟨w2.heap.size, 7, none⟩) (by show w1.heap.size ≤ w2.heap.size; omega) _).setCell (p := ⟨w4.heap.size, 7, none⟩) (by show w1.heap.size ≤ w4.heap.size; omega) _)
      have HWq := Lib.hid (HW1.out.trans (HBq1.out.mono HW1.out.size))
      have HHx := Lib.hid (HH1.out.below HBq1.out)
      have HHa := Lib.hid (HH.out.below HWq.out)
      have HGq := Lib.hid (HG.out.below HWq.out)
      have hq0 : w.heap.size < wq.heap.size := by omega
      have hq1 : w1.heap.size < wq.heap.size := by omega
      have hq2 : w2.heap.size < wq.heap.size := by omega
      have hq4 : w4.heap.size < wq.heap.size := by omega
      rw [← hwq]
      clear hwq hY
      have HP := Lib.hid (show ∀ x, Below wq.heap.size wq x → x.cell? ⟨w2.heap.size, 0, none⟩ = some (.string Y.fu) ∧ x.cell? ⟨w2.heap.size, 1, none⟩ = some (.string Y.fs) ∧ x.cell? ⟨w2.heap.size, 2, none⟩ = some (.string Y.tu) ∧ x.cell? ⟨w2.heap.size, 3, none⟩ = some (.string Y.ts) ∧ x.cell? ⟨w2.heap.size, 4, none⟩ = some (.int .i64 Y.nu) ∧ x.cell? ⟨w2.heap.size, 5, none⟩ = some (.int .i64 Y.da) ∧ x.cell? ⟨w2.heap.size, 6, none⟩ = some (.string Y.su) ∧ x.cell? ⟨w2.heap.size, 7, none⟩ = some (.slice none 0 0) ∧ x.cell? ⟨w2.heap.size, 8, none⟩ = some (.string Y.bo) ∧ x.cell? ⟨w4.heap.size, 0, none⟩ = some (.string Y.fu) ∧ x.cell? ⟨w4.heap.size, 1, none⟩ = some (.string Y.fs) ∧ x.cell? ⟨w4.heap.size, 2, none⟩ = some (.string Y.tu) ∧ x.cell? ⟨w4.heap.size, 3, none⟩ = some (.string Y.ts) ∧ x.cell? ⟨w4.heap.size, 4, none⟩ = some (.int .i64 Y.nu) ∧ x.cell? ⟨w4.heap.size, 5, none⟩ = some (.int .i64 Y.da) ∧ x.cell? ⟨w4.heap.size, 6, none⟩ = some (.string Y.su) ∧ x.cell? ⟨w4.heap.size, 7, none⟩ = some (.slice none 0 0) ∧ x.cell? ⟨w4.heap.size, 8, none⟩ = some (.string Y.bo) ∧ x.cell? ⟨w1.heap.size, 0, none⟩ = some (.string (toM m).fu) ∧ x.cell? ⟨w1.heap.size, 1, none⟩ = some (.string (toM m).fs) ∧ x.cell? ⟨w1.heap.size, 2, none⟩ = some (.string (toM m).tu) ∧ x.cell? ⟨w1.heap.size, 3, none⟩ = some (.string (toM m).ts) ∧ x.cell? ⟨w1.heap.size, 4, none⟩ = some (.int .i64 (toM m).nu) ∧ x.cell? ⟨w1.heap.size, 5, none⟩ = some (.int .i64 (toM m).da) ∧ x.cell? ⟨w1.heap.size, 6, none⟩ = some (.string (toM m).su) ∧ x.cell? ⟨w1.heap.size, 7, none⟩ = some (.slice a1 (toM m).ho.length c1) ∧ x.cell? ⟨w1.heap.size, 8, none⟩ = some (.string (toM m).bo) ∧ x.cell? ⟨w.heap.size, 0, none⟩ = some (.string m.fu) ∧ x.cell? ⟨w.heap.size, 1, none⟩ = some (.string m.fs) ∧ x.cell? ⟨w.heap.size, 2, none⟩ = some (.string m.tu) ∧ x.cell? ⟨w.heap.size, 3, none⟩ = some (.string m.ts) ∧ x.cell? ⟨w.heap.size, 4, none⟩ = some (.int .i64 m.nu) ∧ x.cell? ⟨w.heap.size, 5, none⟩ = some (.int .i64 m.da) ∧ x.cell? ⟨w.heap.size, 6, none⟩ = some (.string m.su) ∧ x.cell? ⟨w.heap.size, 7, none⟩ = some (v) ∧ x.cell? ⟨w.heap.size, 8, none⟩ = some (.string m.bo) ∧ Below wq.heap.size wq x from fun x hx => by
        obtain ⟨p0, p1, p2, p3, p4, p5, p6, p7, p8⟩ := HYq.out.below hx hq2
        obtain ⟨r0, r1, r2, r3, r4, r5, r6, r7, r8⟩ := HZq.out.below hx hq4
        obtain ⟨s0, s1, s2, s3, s4, s5, s6, s7, s8⟩ := HXq.out.below hx hq1
        obtain ⟨t0, t1, t2, t3, t4, t5, t6, t7, t8⟩ := HAq.out.below hx hq0
        exact ⟨p0, p1, p2, p3, p4, p5, p6, p7, p8, r0, r1, r2, r3, r4, r5, r6, r7, r8, s0, s1, s2, s3, s4, s5, s6, s7, s8, t0, t1, t2, t3, t4, t5, t6, t7, t8, hx⟩)
      have hlast : ∀ x, (x.cell? ⟨w2.heap.size, 0, none⟩ = some (.string Y.fu) ∧ x.cell? ⟨w2.heap.size, 1, none⟩ = some (.string Y.fs) ∧ x.cell? ⟨w2.heap.size, 2, none⟩ = some (.string Y.tu) ∧ x.cell? ⟨w2.heap.size, 3, none⟩ = some (.string Y.ts) ∧ x.cell? ⟨w2.heap.size, 4, none⟩ = some (.int .i64 Y.nu) ∧ x.cell? ⟨w2.heap.size, 5, none⟩ = some (.int .i64 Y.da) ∧ x.cell? ⟨w2.heap.size, 6, none⟩ = some (.string Y.su) ∧ x.cell? ⟨w2.heap.size, 7, none⟩ = some (.slice none 0 0) ∧ x.cell? ⟨w2.heap.size, 8, none⟩ = some (.string Y.bo) ∧ x.cell? ⟨w4.heap.size, 0, none⟩ = some (.string Y.fu) ∧ x.cell? ⟨w4.heap.size, 1, none⟩ = some (.string Y.fs) ∧ x.cell? ⟨w4.heap.size, 2, none⟩ = some (.string Y.tu) ∧ x.cell? ⟨w4.heap.size, 3, none⟩ = some (.string Y.ts) ∧ x.cell? ⟨w4.heap.size, 4, none⟩ = some (.int .i64 Y.nu) ∧ x.cell? ⟨w4.heap.size, 5, none⟩ = some (.int .i64 Y.da) ∧ x.cell? ⟨w4.heap.size, 6, none⟩ = some (.string Y.su) ∧ x.cell? ⟨w4.heap.size, 7, none⟩ = some (.slice none 0 0) ∧ x.cell? ⟨w4.heap.size, 8, none⟩ = some (.string Y.bo) ∧ x.cell? ⟨w1.heap.size, 0, none⟩ = some (.string (toM m).fu) ∧ x.cell? ⟨w1.heap.size, 1, none⟩ = some (.string (toM m).fs) ∧ x.cell? ⟨w1.heap.size, 2, none⟩ = some (.string (toM m).tu) ∧ x.cell? ⟨w1.heap.size, 3, none⟩ = some (.string (toM m).ts) ∧ x.cell? ⟨w1.heap.size, 4, none⟩ = some (.int .i64 (toM m).nu) ∧ x.cell? ⟨w1.heap.size, 5, none⟩ = some (.int .i64 (toM m).da) ∧ x.cell? ⟨w1.heap.size, 6, none⟩ = some (.string (toM m).su) ∧ x.cell? ⟨w1.heap.size, 7, none⟩ = some (.slice a1 (toM m).ho.length c1) ∧ x.cell? ⟨w1.heap.size, 8, none⟩ = some (.string (toM m).bo) ∧ x.cell? ⟨w.heap.size, 0, none⟩ = some (.string m.fu) ∧ x.cell? ⟨w.heap.size, 1, none⟩ = some (.string m.fs) ∧ x.cell? ⟨w.heap.size, 2, none⟩ = some (.string m.tu) ∧ x.cell? ⟨w.heap.size, 3, none⟩ = some (.string m.ts) ∧ x.cell? ⟨w.heap.size, 4, none⟩ = some (.int .i64 m.nu) ∧ x.cell? ⟨w.heap.size, 5, none⟩ = some (.int .i64 m.da) ∧ x.cell? ⟨w.heap.size, 6, none⟩ = some (.string m.su) ∧ x.cell? ⟨w.heap.size, 7, none⟩ = some (v) ∧ x.cell? ⟨w.heap.size, 8, none⟩ = some (.string m.bo) ∧ Below wq.heap.size wq x) → Below wq.heap.size wq x := fun x h => h.2.2.2.2.2.2.2.2.2.2.2.2.2.2.2.2.2.2.2.2.2.2.2.2.2.2.2.2.2.2.2.2.2.2.2.2
      have HL := Lib.hid hlast
      clear hlast
      have hoy := fun (W : World) => ofM_s Y (.slice none 0 0) hnY W (HNil.out W)
      have hox := fun (W : World) (h : Below wq.heap.size wq W) => ofM_s (toM m) (.slice a1 (toM m).ho.length c1) hnX W (HHx.out.below h)
      have htm := fun (W : World) (h : Below wq.heap.size wq W) => toM_s m v HMB.out W (HHa.out.below h)
      have ho3 := fun (a : Option Addr) (c : Nat) (W : World) (h : HopsIn W (.slice a (toM m).ho.length c) (toM m).ho) => ofM_s (toM m) (.slice a (toM m).ho.length c) hnX W h
      have he1 := fun (a : Option Addr) (c : Nat) (W : World) (h : HopsIn W (.slice a Y.ho.length c) Y.ho) => refEqual_s Y Y (.slice a Y.ho.length c) (.slice none 0 0) hnY hnY W h (HNil.out W)
      have he2 := fun (a : Option Addr) (c : Nat) (a' : Option Addr) (c' : Nat) (W : World) (h : HopsIn W (.slice a (toM m).ho.length c) (toM m).ho) (h' : HopsIn W (.slice a' (toM m).ho.length c') (toM m).ho) => refEqual_s (toM m) (toM m) (.slice a (toM m).ho.length c) (.slice a' (toM m).ho.length c') hnX hnX W h h'
      simp only [msgV] at hoy hox htm ho3
      simp only [msgV, decide_true] at he1 he2
      have HOY := Lib.hid hoy
      have HOX := Lib.hid hox
      have HTM := Lib.hid htm
      have HO3 := Lib.hid ho3
      have HE1 := Lib.hid he1
      have HE2 := Lib.hid he2
      clear hoy hox htm ho3 he1 he2
      go_region_held3 (fun x => x.cell? ⟨w2.heap.size, 0, none⟩ = some (.string Y.fu) ∧ x.cell? ⟨w2.heap.size, 1, none⟩ = some (.string Y.fs) ∧ x.cell? ⟨w2.heap.size, 2, none⟩ = some (.string Y.tu) ∧ x.cell? ⟨w2.heap.size, 3, none⟩ = some (.string Y.ts) ∧ x.cell? ⟨w2.heap.size, 4, none⟩ = some (.int .i64 Y.nu) ∧ x.cell? ⟨w2.heap.size, 5, none⟩ = some (.int .i64 Y.da) ∧ x.cell? ⟨w2.heap.size, 6, none⟩ = some (.string Y.su) ∧ x.cell? ⟨w2.heap.size, 7, none⟩ = some (.slice none 0 0) ∧ x.cell? ⟨w2.heap.size, 8, none⟩ = some (.string Y.bo) ∧ x.cell? ⟨w4.heap.size, 0, none⟩ = some (.string Y.fu) ∧ x.cell? ⟨w4.heap.size, 1, none⟩ = some (.string Y.fs) ∧ x.cell? ⟨w4.heap.size, 2, none⟩ = some (.string Y.tu) ∧ x.cell? ⟨w4.heap.size, 3, none⟩ = some (.string Y.ts) ∧ x.cell? ⟨w4.heap.size, 4, none⟩ = some (.int .i64 Y.nu) ∧ x.cell? ⟨w4.heap.size, 5, none⟩ = some (.int .i64 Y.da) ∧ x.cell? ⟨w4.heap.size, 6, none⟩ = some (.string Y.su) ∧ x.cell? ⟨w4.heap.size, 7, none⟩ = some (.slice none 0 0) ∧ x.cell? ⟨w4.heap.size, 8, none⟩ = some (.string Y.bo) ∧ x.cell? ⟨w1.heap.size, 0, none⟩ = some (.string (toM m).fu) ∧ x.cell? ⟨w1.heap.size, 1, none⟩ = some (.string (toM m).fs) ∧ x.cell? ⟨w1.heap.size, 2, none⟩ = some (.string (toM m).tu) ∧ x.cell? ⟨w1.heap.size, 3, none⟩ = some (.string (toM m).ts) ∧ x.cell? ⟨w1.heap.size, 4, none⟩ = some (.int .i64 (toM m).nu) ∧ x.cell? ⟨w1.heap.size, 5, none⟩ = some (.int .i64 (toM m).da) ∧ x.cell? ⟨w1.heap.size, 6, none⟩ = some (.string (toM m).su) ∧ x.cell? ⟨w1.heap.size, 7, none⟩ = some (.slice a1 (toM m).ho.length c1) ∧ x.cell? ⟨w1.heap.size, 8, none⟩ = some (.string (toM m).bo) ∧ x.cell? ⟨w.heap.size, 0, none⟩ = some (.string m.fu) ∧ x.cell? ⟨w.heap.size, 1, none⟩ = some (.string m.fs) ∧ x.cell? ⟨w.heap.size, 2, none⟩ = some (.string m.tu) ∧ x.cell? ⟨w.heap.size, 3, none⟩ = some (.string m.ts) ∧ x.cell? ⟨w.heap.size, 4, none⟩ = some (.int .i64 m.nu) ∧ x.cell? ⟨w.heap.size, 5, none⟩ = some (.int .i64 m.da) ∧ x.cell? ⟨w.heap.size, 6, none⟩ = some (.string m.su) ∧ x.cell? ⟨w.heap.size, 7, none⟩ = some (v) ∧ x.cell? ⟨w.heap.size, 8, none⟩ = some (.string m.bo) ∧ Below wq.heap.size wq x)
        (first
          | exact HP.out _ ((Below.refl _ _).drew)
          | exact HP.out _ ((HL.out _ (by assumption)).trans (hb9.mono (HL.out _ (by assumption)).size)))
        ((first
          | (go_at_call 14; with_reducible refine (known49_s _ (HGq.out.below (HL.out _ (by assumption)))).mono ?_; rintro e wk ⟨rfl, hb9⟩)
          | (go_at_call 12; with_reducible refine (HOY.out _).mono ?_; rintro e wk ⟨a5, c5, rfl, hh5, hb9⟩; have hH1 := Lib.hid hh5; clear hh5)
          | (go_at_call 12; with_reducible refine (HOX.out _ (HL.out _ (by assumption))).mono ?_; rintro e wk ⟨a6, c6, rfl, hh6, hb9⟩; have hH2 := Lib.hid hh6; clear hh6)
          | (go_at_call 9; with_reducible refine (HTM.out _ (HL.out _ (by assumption))).mono ?_; rintro e wk ⟨a7, c7, rfl, hh7, hb9⟩; have hH3 := Lib.hid hh7; have hH4 := Lib.hid (hH2.out.below hb9); clear hh7)
          | (go_at_call 12; with_reducible refine (HO3.out _ _ _ hH3.out).mono ?_; rintro e wk ⟨a8, c8, rfl, hh8, hb9⟩; have hH5 := Lib.hid hh8; have hH6 := Lib.hid (hH4.out.below hb9); clear hh8)
          | (go_at_call 13; with_reducible refine (HE1.out _ _ _ hH1.out).mono ?_; rintro e wk ⟨rfl, hb9⟩)
          | (go_at_call 13; with_reducible refine (HE2.out _ _ _ _ _ hH6.out hH5.out).mono ?_; rintro e wk ⟨rfl, hb9⟩)))
      all_goals
        have HBl := Lib.hid (HWq.out.trans ((HL.out _ (by assumption)).mono HWq.out.size))
        go_wp2_with fail
        go_ret
        exact ⟨rfl, HBl.out⟩
theorem lawPasses_c (m : Ms) (v : Value) (site : ByteArray) (hm : m.Big) (hs : site.size ≤ maxLen) (w : World) (hg : Gl w) (hh : HopsIn w v m.ho) :
    Calls Tryd.prog 5 #[msgV m v, .string site] w fun e w' => e = .returned (.bool true) ∧ Below w.heap.size w w' := by
  by_cases h : passE (toM m) (cut60 site) = 0
  · exact lawPasses_good m v hm site hs h w hg hh
  · exact lawPasses_bad m v hm site hs h w hg hh
end Go.Proofs.YtkiheanpamplpaaDoor
