/-
  The law MailPasses, walked: where a message is not passed on.
-/
import Derived.Test.YtkiheanpamplpaaDoorLbnB
set_option linter.unusedSimpArgs false
set_option linter.unusedVariables false
set_option linter.unnecessarySimpa false
namespace Go.Proofs.YtkiheanpamplpaaDoor
open Go.RowKit Go.Bul Go.Maps
theorem MsgAt.set7 {w : World} {b : Nat} {m : Ms} {v : Value} {t : TypeId} (h : w.heap[b]? = some (.cells (msgCells m v) t (0, 0))) (u : Value) : MsgAt (w.setCell ⟨b, 7, none⟩ u) b m u := MsgAt.of_block (heap_setCell_msg h)
theorem MsgAt.far7 {w : World} {b b' : Nat} {m : Ms} {v : Value} (h : MsgAt w b m v) (hne : b ≠ b') (u : Value) : MsgAt (w.setCell ⟨b', 7, none⟩ u) b m v := by
  obtain ⟨h0, h1, h2, h3, h4, h5, h6, h7, h8⟩ := h
  have k : ∀ i, (w.setCell ⟨b', 7, none⟩ u).cell? ⟨b, i, none⟩ = w.cell? ⟨b, i, none⟩ := fun i => World.cell?_setCell_other _ _ _ _ (fun e => hne (by injection e with e1 _ _; exact e1.symm))
  unfold MsgAt
  rw [k 0, k 1, k 2, k 3, k 4, k 5, k 6, k 7, k 8]
  exact ⟨h0, h1, h2, h3, h4, h5, h6, h7, h8⟩
set_option maxRecDepth 100000 in
set_option maxHeartbeats 8000000 in
theorem lawPasses_bad (m : Ms) (v : Value) (hm : m.Big) (site : ByteArray) (hs : site.size ≤ maxLen) (hbad : passE (toM m) (cut60 site) ≠ 0) (w : World) (hg : Gl w) (hh : HopsIn w v m.ho) :
    Calls Tryd.prog 5 #[msgV m v, .string site] w fun e w' => e = .returned (.bool true) ∧ Below w.heap.size w w' := by
  unfold maxLen at hs
  have HG := Lib.hid hg
  have HH := Lib.hid hh
  have hz := cut60_size site
  have hz1 : (min (site.size : Int) 60).toNat = min site.size 60 := by omega
  have hz2 : (0 : Int) ≤ min (site.size : Int) 60 := by omega
  have hz3 : min (site.size : Int) 60 ≤ site.size := by omega
  have HT := Lib.hid (toM_ok hm)
  have hF1 : ∀ (u : Value) (W : World), HopsIn W u (toM m).ho → Calls Tryd.prog 18 #[msgV (toM m) u, .string (cut60 site)] W fun e w' => e = .returned (.tuple #[msgV noMs (.slice none 0 0), .int .i64 (passE (toM m) (cut60 site))]) ∧ Below W.heap.size W w' :=
    fun u W h => pass_a (toM m) u (toM_ok hm) (cut60 site) (sizeLe49 _ (by omega)) W h hbad
  have hF2 : ∀ (u : Value) (W : World), HopsIn W u (toM m).ho → Calls Tryd.prog 19 #[msgV (toM m) u, .string (cut60 site)] W fun e w' => e = .returned (.tuple #[msgV noMs (.slice none 0 0), .int .i64 (passE (toM m) (cut60 site))]) ∧ Below W.heap.size W w' :=
    fun u W h => refPass_a (toM m) u (toM_ok hm) (cut60 site) (sizeLe49 _ (by omega)) W h hbad
  have hyh : noMs.ho = [] := rfl
  generalize noMs = Y at hF1 hF2 hyh
  generalize hEE : passE (toM m) (cut60 site) = E at hF1 hF2 hbad
  have HF1 := Lib.hid hF1
  have HF2 := Lib.hid hF2
  have HYH := Lib.hid hyh
  have HBad := Lib.hid hbad
  have hq0' : (E == 0) = false := by rw [beq_eq_false_iff_ne]; exact hbad
  have HMB := Lib.hid hm
  clear hg hh hm hF1 hF2 hyh hEE hbad
  have hnX := HT.out.hn
  have hnY : Y.ho.length ≤ 100000 := by rw [HYH.out]; exact Nat.zero_le _
  have HNil := Lib.hid (show ∀ W : World, HopsIn W (.slice none 0 0) Y.ho from fun W => by rw [HYH.out]; exact .inl ⟨rfl, none, 0, rfl, fun _ => rfl⟩)
  go_enter Tryd.func5, Tryd.ntmps5
  unfold msgV
  go_wp2_with fail
  refine (toM_s m v HMB.out _ (HH.out.below ((Below.refl _ _).alloc (Nat.le_refl _) _))).mono ?_
  rintro e w1 ⟨a1, c1, rfl, hh1, b1⟩
  have HH1 := Lib.hid hh1
  have HW1 := Lib.hid (((Below.refl _ _).alloc (Nat.le_refl _) _).trans (b1.mono (by rw [size_alloc]; omega)))
  have HA1 := Lib.hid ((MsgAt.new w m v 26).below b1 (by rw [size_alloc]; omega))
  have hs1 : w.heap.size < w1.heap.size := by have := b1.size; rw [size_alloc] at this; omega
  clear hh1 b1
  simp only [msgV]
  go_wp2_with fail
  refine (HF1.out _ _ (HH1.out.below ((Below.refl _ _).alloc (Nat.le_refl _) _))).mono ?_
  rintro e w2 ⟨rfl, b2⟩
  have hx2 := (MsgAt.new w1 (toM m) (.slice a1 (toM m).ho.length c1) 29).below b2 (by rw [size_alloc]; omega)
  have HW12 := Lib.hid (show Below w1.heap.size w1 w2 from ((Below.refl _ _).alloc (Nat.le_refl _) _).trans (b2.mono (by rw [size_alloc]; omega)))
  have hs2 : w1.heap.size < w2.heap.size := by have := b2.size; rw [size_alloc] at this; omega
  have HX2 := Lib.hid hx2
  obtain ⟨x0, x1, x2, x3, x4, x5, x6, x7, x8⟩ := hx2
  clear b2
  simp only [msgV]
  go_wp2_with fail
  refine (ofM_s (toM m) _ hnX _ ((HH1.out.below HW12.out).below ((Below.refl _ _).alloc (Nat.le_refl _) _))).mono ?_
  rintro e w3 ⟨a3, c3, rfl, hh3, b3⟩
  have HH3 := Lib.hid hh3
  have HB3 := Lib.hid b3
  clear hh3 b3 x0 x1 x2 x3 x4 x5 x6 x7 x8
  simp only [msgV]
  go_wp2_with fail
  refine (HF2.out _ _ HH3.out).mono ?_
  rintro e w4 ⟨rfl, b4⟩
  have HW23 := Lib.hid (show Below w2.heap.size w2 w3 from ((Below.refl _ _).alloc (Nat.le_refl _) _).trans (HB3.out.mono (by rw [size_alloc]; omega)))
  have hs3 : w2.heap.size < w3.heap.size := by have := HB3.out.size; rw [size_alloc] at this; omega
  have HX4 := Lib.hid ((HX2.out.below HW23.out hs2).below b4 (by omega))
  have hy4 := (b4.block w2.heap.size hs3).trans ((HB3.out.block w2.heap.size (by rw [size_alloc]; omega)).trans (heap_alloc_new w2 (.cells (msgCells Y (.slice none 0 0)) 29)))
  have HY4 := Lib.hid hy4
  have HW24 := Lib.hid (HW23.out.trans (b4.mono (Nat.le_of_lt hs3)))
  have HW14 := Lib.hid (HW12.out.trans (HW24.out.mono (Nat.le_of_lt hs2)))
  have HA4 := Lib.hid (HA1.out.below HW14.out hs1)
  have HW4 := Lib.hid (HW1.out.trans (HW14.out.mono HW1.out.size))
  have hs4 := b4.size
  have hs24 : w2.heap.size < w4.heap.size := by omega
  have y7 := (MsgAt.of_block hy4).2.2.2.2.2.2.2.1
  have f7 := frozen_of hy4 7
  clear b4 hy4
  simp only [msgV]
  have hy0 : (Y.ho.length : Int) = 0 := by rw [HYH.out]; rfl
  go_wp2_with fail
  refine wp_loop_rounds 1 ?_
  rw [rounds_succ]
  go_wp2_with fail
  obtain ⟨wq, hwq⟩ : ∃ wq, wq = (w4.setCell ⟨w2.heap.size, 7, none⟩ (.slice none 0 0)).alloc (.cells (msgCells Y (.slice none 0 0)) 26) := ⟨_, rfl⟩
  have hsq : wq.heap.size = w4.heap.size + 1 := by rw [hwq, size_alloc, size_setCell]
  have HYq := Lib.hid (show MsgAt wq w2.heap.size Y (.slice none 0 0) by rw [hwq]; exact (MsgAt.set7 HY4.out _).below ((Below.refl _ _).alloc (Nat.le_refl _) _) (by rw [size_setCell]; omega))
  have HZq := Lib.hid (show MsgAt wq w4.heap.size Y (.slice none 0 0) by rw [hwq, ← size_setCell w4 ⟨w2.heap.size, 7, none⟩ (.slice none 0 0)]; exact MsgAt.new _ _ _ _)
  have HXq := Lib.hid (show MsgAt wq w1.heap.size (toM m) (.slice a1 (toM m).ho.length c1) by rw [hwq]; exact (HX4.out.far7 (by omega) _).below ((Below.refl _ _).alloc (Nat.le_refl _) _) (by rw [size_setCell]; omega))
  have HAq := Lib.hid (show MsgAt wq w.heap.size m v by rw [hwq]; exact (HA4.out.far7 (by omega) _).below ((Below.refl _ _).alloc (Nat.le_refl _) _) (by rw [size_setCell]; omega))
  have HBq1 := Lib.hid (show Below w1.heap.size w1 wq by rw [hwq]; exact (HW14.out.setCell (p := ⟨w2.heap.size, 7, none⟩) (by show w1.heap.size ≤ w2.heap.size; omega) _).alloc (by rw [size_setCell]; omega) _)
  have HWq := Lib.hid (HW1.out.trans (HBq1.out.mono HW1.out.size))
  have HHx := Lib.hid (HH1.out.below HBq1.out)
  have HHa := Lib.hid (HH.out.below HWq.out)
  have HGq := Lib.hid (HG.out.below HWq.out)
  have hq0 : w.heap.size < wq.heap.size := by omega
  have hq1 : w1.heap.size < wq.heap.size := by omega
  have hq2 : w2.heap.size < wq.heap.size := by omega
  have hq4 : w4.heap.size < wq.heap.size := by omega
  unfold msgCells at hwq
  rw [← hwq]
  clear hwq
  have HP := Lib.hid (show ∀ x, Below wq.heap.size wq x → x.cell? ⟨w2.heap.size, 0, none⟩ = some (.string Y.fu) ∧ x.cell? ⟨w2.heap.size, 1, none⟩ = some (.string Y.fs) ∧ x.cell? ⟨w2.heap.size, 2, none⟩ = some (.string Y.tu) ∧ x.cell? ⟨w2.heap.size, 3, none⟩ = some (.string Y.ts) ∧ x.cell? ⟨w2.heap.size, 4, none⟩ = some (.int .i64 Y.nu) ∧ x.cell? ⟨w2.heap.size, 5, none⟩ = some (.int .i64 Y.da) ∧ x.cell? ⟨w2.heap.size, 6, none⟩ = some (.string Y.su) ∧ x.cell? ⟨w2.heap.size, 7, none⟩ = some (.slice none 0 0) ∧ x.cell? ⟨w2.heap.size, 8, none⟩ = some (.string Y.bo) ∧ x.cell? ⟨w4.heap.size, 0, none⟩ = some (.string Y.fu) ∧ x.cell? ⟨w4.heap.size, 1, none⟩ = some (.string Y.fs) ∧ x.cell? ⟨w4.heap.size, 2, none⟩ = some (.string Y.tu) ∧ x.cell? ⟨w4.heap.size, 3, none⟩ = some (.string Y.ts) ∧ x.cell? ⟨w4.heap.size, 4, none⟩ = some (.int .i64 Y.nu) ∧ x.cell? ⟨w4.heap.size, 5, none⟩ = some (.int .i64 Y.da) ∧ x.cell? ⟨w4.heap.size, 6, none⟩ = some (.string Y.su) ∧ x.cell? ⟨w4.heap.size, 7, none⟩ = some (.slice none 0 0) ∧ x.cell? ⟨w4.heap.size, 8, none⟩ = some (.string Y.bo) ∧ x.cell? ⟨w1.heap.size, 0, none⟩ = some (.string (toM m).fu) ∧ x.cell? ⟨w1.heap.size, 1, none⟩ = some (.string (toM m).fs) ∧ x.cell? ⟨w1.heap.size, 2, none⟩ = some (.string (toM m).tu) ∧ x.cell? ⟨w1.heap.size, 3, none⟩ = some (.string (toM m).ts) ∧ x.cell? ⟨w1.heap.size, 4, none⟩ = some (.int .i64 (toM m).nu) ∧ x.cell? ⟨w1.heap.size, 5, none⟩ = some (.int .i64 (toM m).da) ∧ x.cell? ⟨w1.heap.size, 6, none⟩ = some (.string (toM m).su) ∧ x.cell? ⟨w1.heap.size, 7, none⟩ = some (.slice a1 (toM m).ho.length c1) ∧ x.cell? ⟨w1.heap.size, 8, none⟩ = some (.string (toM m).bo) ∧ x.cell? ⟨w.heap.size, 0, none⟩ = some (.string m.fu) ∧ x.cell? ⟨w.heap.size, 1, none⟩ = some (.string m.fs) ∧ x.cell? ⟨w.heap.size, 2, none⟩ = some (.string m.tu) ∧ x.cell? ⟨w.heap.size, 3, none⟩ = some (.string m.ts) ∧ x.cell? ⟨w.heap.size, 4, none⟩ = some (.int .i64 m.nu) ∧ x.cell? ⟨w.heap.size, 5, none⟩ = some (.int .i64 m.da) ∧ x.cell? ⟨w.heap.size, 6, none⟩ = some (.string m.su) ∧ x.cell? ⟨w.heap.size, 7, none⟩ = some (v) ∧ x.cell? ⟨w.heap.size, 8, none⟩ = some (.string m.bo) ∧ Below wq.heap.size wq x from fun x hx => by
    obtain ⟨p0, p1, p2, p3, p4, p5, p6, p7, p8⟩ := HYq.out.below hx hq2
    obtain ⟨r0, r1, r2, r3, r4, r5, r6, r7, r8⟩ := HZq.out.below hx hq4
    obtain ⟨s0, s1, s2, s3, s4, s5, s6, s7, s8⟩ := HXq.out.below hx hq1
    obtain ⟨t0, t1, t2, t3, t4, t5, t6, t7, t8⟩ := HAq.out.below hx hq0
    exact ⟨p0, p1, p2, p3, p4, p5, p6, p7, p8, r0, r1, r2, r3, r4, r5, r6, r7, r8, s0, s1, s2, s3, s4, s5, s6, s7, s8, t0, t1, t2, t3, t4, t5, t6, t7, t8, hx⟩)
  have hlast : ∀ x, (x.cell? ⟨w2.heap.size, 0, none⟩ = some (.string Y.fu) ∧ x.cell? ⟨w2.heap.size, 1, none⟩ = some (.string Y.fs) ∧ x.cell? ⟨w2.heap.size, 2, none⟩ = some (.string Y.tu) ∧ x.cell? ⟨w2.heap.size, 3, none⟩ = some (.string Y.ts) ∧ x.cell? ⟨w2.heap.size, 4, none⟩ = some (.int .i64 Y.nu) ∧ x.cell? ⟨w2.heap.size, 5, none⟩ = some (.int .i64 Y.da) ∧ x.cell? ⟨w2.heap.size, 6, none⟩ = some (.string Y.su) ∧ x.cell? ⟨w2.heap.size, 7, none⟩ = some (.slice none 0 0) ∧ x.cell? ⟨w2.heap.size, 8, none⟩ = some (.string Y.bo) ∧ x.cell? ⟨w4.heap.size, 0, none⟩ = some (.string Y.fu) ∧ x.cell? ⟨w4.heap.size, 1, none⟩ = some (.string Y.fs) ∧ x.cell? ⟨w4.heap.size, 2, none⟩ = some (.string Y.tu) ∧ x.cell? ⟨w4.heap.size, 3, none⟩ = some (.string Y.ts) ∧ x.cell? ⟨w4.heap.size, 4, none⟩ = some (.int .i64 Y.nu) ∧ x.cell? ⟨w4.heap.size, 5, none⟩ = some (.int .i64 Y.da) ∧ x.cell? ⟨w4.heap.size, 6, none⟩ = some (.string Y.su) ∧ x.cell? ⟨w4.heap.size, 7, none⟩ = some (.slice none 0 0) ∧ x.cell? ⟨w4.heap.size, 8, none⟩ = some (.string Y.bo) ∧ x.cell? ⟨w1.heap.size, 0, none⟩ = some (.string (toM m).fu) ∧ x.cell? ⟨w1.heap.size, 1, none⟩ = some (.string (toM m).fs) ∧ x.cell? ⟨w1.heap.size, 2, none⟩ = some (.string (toM m).tu) ∧ x.cell? ⟨w1.heap.size, 3, none⟩ = some (.string (toM m).ts) ∧ x.cell? ⟨w1.heap.size, 4, none⟩ = some (.int .i64 (toM m).nu) ∧ x.cell? ⟨w1.heap.size, 5, none⟩ = some (.int .i64 (toM m).da) ∧ x.cell? ⟨w1.heap.size, 6, none⟩ = some (.string (toM m).su) ∧ x.cell? ⟨w1.heap.size, 7, none⟩ = some (.slice a1 (toM m).ho.length c1) ∧ x.cell? ⟨w1.heap.size, 8, none⟩ = some (.string (toM m).bo) ∧ x.cell? ⟨w.heap.size, 0, none⟩ = some (.string m.fu) ∧ x.cell? ⟨w.heap.size, 1, none⟩ = some (.string m.fs) ∧ x.cell? ⟨w.heap.size, 2, none⟩ = some (.string m.tu) ∧ x.cell? ⟨w.heap.size, 3, none⟩ = some (.string m.ts) ∧ x.cell? ⟨w.heap.size, 4, none⟩ = some (.int .i64 m.nu) ∧ x.cell? ⟨w.heap.size, 5, none⟩ = some (.int .i64 m.da) ∧ x.cell? ⟨w.heap.size, 6, none⟩ = some (.string m.su) ∧ x.cell? ⟨w.heap.size, 7, none⟩ = some (v) ∧ x.cell? ⟨w.heap.size, 8, none⟩ = some (.string m.bo) ∧ Below wq.heap.size wq x) → Below wq.heap.size wq x := fun x h => h.2.2.2.2.2.2.2.2.2.2.2.2.2.2.2.2.2.2.2.2.2.2.2.2.2.2.2.2.2.2.2.2.2.2.2.2
  have HL := Lib.hid hlast
  clear hlast
  have hoy := fun (W : World) => ofM_s Y (.slice none 0 0) hnY W (HNil.out W)
  have hox := fun (W : World) (h : Below wq.heap.size wq W) => ofM_s (toM m) (.slice a1 (toM m).ho.length c1) hnX W (HHx.out.below h)
  have htm := fun (W : World) (h : Below wq.heap.size wq W) => toM_s m v HMB.out W (HHa.out.below h)
  have ho3 := fun (a : Option Addr) (c : Nat) (W : World) (h : HopsIn W (.slice a (toM m).ho.length c) (toM m).ho) => ofM_s (toM m) (.slice a (toM m).ho.length c) hnX W h
  have he1 := fun (a : Option Addr) (c : Nat) (W : World) (h : HopsIn W (.slice a Y.ho.length c) Y.ho) => refEqual_s Y Y (.slice a Y.ho.length c) (.slice none 0 0) hnY hnY W h (HNil.out W)
  have he2 := fun (a : Option Addr) (c : Nat) (a' : Option Addr) (c' : Nat) (W : World) (h : HopsIn W (.slice a (toM m).ho.length c) (toM m).ho) (h' : HopsIn W (.slice a' (toM m).ho.length c') (toM m).ho) => refEqual_s (toM m) (toM m) (.slice a (toM m).ho.length c) (.slice a' (toM m).ho.length c') hnX hnX W h h'
  simp only [msgV] at hoy hox htm ho3
  simp only [msgV, decide_true] at he1 he2
  have HOY := Lib.hid hoy
  have HOX := Lib.hid hox
  have HTM := Lib.hid htm
  have HO3 := Lib.hid ho3
  have HE1 := Lib.hid he1
  have HE2 := Lib.hid he2
  clear hoy hox htm ho3 he1 he2
  go_region_held3 (fun x => x.cell? ⟨w2.heap.size, 0, none⟩ = some (.string Y.fu) ∧ x.cell? ⟨w2.heap.size, 1, none⟩ = some (.string Y.fs) ∧ x.cell? ⟨w2.heap.size, 2, none⟩ = some (.string Y.tu) ∧ x.cell? ⟨w2.heap.size, 3, none⟩ = some (.string Y.ts) ∧ x.cell? ⟨w2.heap.size, 4, none⟩ = some (.int .i64 Y.nu) ∧ x.cell? ⟨w2.heap.size, 5, none⟩ = some (.int .i64 Y.da) ∧ x.cell? ⟨w2.heap.size, 6, none⟩ = some (.string Y.su) ∧ x.cell? ⟨w2.heap.size, 7, none⟩ = some (.slice none 0 0) ∧ x.cell? ⟨w2.heap.size, 8, none⟩ = some (.string Y.bo) ∧ x.cell? ⟨w4.heap.size, 0, none⟩ = some (.string Y.fu) ∧ x.cell? ⟨w4.heap.size, 1, none⟩ = some (.string Y.fs) ∧ x.cell? ⟨w4.heap.size, 2, none⟩ = some (.string Y.tu) ∧ x.cell? ⟨w4.heap.size, 3, none⟩ = some (.string Y.ts) ∧ x.cell? ⟨w4.heap.size, 4, none⟩ = some (.int .i64 Y.nu) ∧ x.cell? ⟨w4.heap.size, 5, none⟩ = some (.int .i64 Y.da) ∧ x.cell? ⟨w4.heap.size, 6, none⟩ = some (.string Y.su) ∧ x.cell? ⟨w4.heap.size, 7, none⟩ = some (.slice none 0 0) ∧ x.cell? ⟨w4.heap.size, 8, none⟩ = some (.string Y.bo) ∧ x.cell? ⟨w1.heap.size, 0, none⟩ = some (.string (toM m).fu) ∧ x.cell? ⟨w1.heap.size, 1, none⟩ = some (.string (toM m).fs) ∧ x.cell? ⟨w1.heap.size, 2, none⟩ = some (.string (toM m).tu) ∧ x.cell? ⟨w1.heap.size, 3, none⟩ = some (.string (toM m).ts) ∧ x.cell? ⟨w1.heap.size, 4, none⟩ = some (.int .i64 (toM m).nu) ∧ x.cell? ⟨w1.heap.size, 5, none⟩ = some (.int .i64 (toM m).da) ∧ x.cell? ⟨w1.heap.size, 6, none⟩ = some (.string (toM m).su) ∧ x.cell? ⟨w1.heap.size, 7, none⟩ = some (.slice a1 (toM m).ho.length c1) ∧ x.cell? ⟨w1.heap.size, 8, none⟩ = some (.string (toM m).bo) ∧ x.cell? ⟨w.heap.size, 0, none⟩ = some (.string m.fu) ∧ x.cell? ⟨w.heap.size, 1, none⟩ = some (.string m.fs) ∧ x.cell? ⟨w.heap.size, 2, none⟩ = some (.string m.tu) ∧ x.cell? ⟨w.heap.size, 3, none⟩ = some (.string m.ts) ∧ x.cell? ⟨w.heap.size, 4, none⟩ = some (.int .i64 m.nu) ∧ x.cell? ⟨w.heap.size, 5, none⟩ = some (.int .i64 m.da) ∧ x.cell? ⟨w.heap.size, 6, none⟩ = some (.string m.su) ∧ x.cell? ⟨w.heap.size, 7, none⟩ = some (v) ∧ x.cell? ⟨w.heap.size, 8, none⟩ = some (.string m.bo) ∧ Below wq.heap.size wq x)
    (first
      | exact HP.out _ ((Below.refl _ _).drew)
      | exact HP.out _ ((HL.out _ (by assumption)).trans (hb9.mono (HL.out _ (by assumption)).size)))
    ((first
      | (go_at_call 14; with_reducible refine (known49_s _ (HGq.out.below (HL.out _ (by assumption)))).mono ?_; rintro e wk ⟨rfl, hb9⟩)
      | (go_at_call 12; with_reducible refine (HOY.out _).mono ?_; rintro e wk ⟨a5, c5, rfl, hh5, hb9⟩; have hH1 := Lib.hid hh5; clear hh5)
      | (go_at_call 12; with_reducible refine (HOX.out _ (HL.out _ (by assumption))).mono ?_; rintro e wk ⟨a6, c6, rfl, hh6, hb9⟩; have hH2 := Lib.hid hh6; clear hh6)
      | (go_at_call 9; with_reducible refine (HTM.out _ (HL.out _ (by assumption))).mono ?_; rintro e wk ⟨a7, c7, rfl, hh7, hb9⟩; have hH3 := Lib.hid hh7; have hH4 := Lib.hid (hH2.out.below hb9); clear hh7)
      | (go_at_call 12; with_reducible refine (HO3.out _ _ _ hH3.out).mono ?_; rintro e wk ⟨a8, c8, rfl, hh8, hb9⟩; have hH5 := Lib.hid hh8; have hH6 := Lib.hid (hH4.out.below hb9); clear hh8)
      | (go_at_call 13; with_reducible refine (HE1.out _ _ _ hH1.out).mono ?_; rintro e wk ⟨rfl, hb9⟩)
      | (go_at_call 13; with_reducible refine (HE2.out _ _ _ _ _ hH6.out hH5.out).mono ?_; rintro e wk ⟨rfl, hb9⟩)))
  all_goals
    have HBl := Lib.hid (HWq.out.trans ((HL.out _ (by assumption)).mono HWq.out.size))
    go_wp2_with fail
    go_ret
    exact ⟨rfl, HBl.out⟩
end Go.Proofs.YtkiheanpamplpaaDoor
