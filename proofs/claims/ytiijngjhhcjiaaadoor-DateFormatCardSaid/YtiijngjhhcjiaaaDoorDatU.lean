/-
  Package date: read, at the second text of known().
-/
import Derived.Test.YtiijngjhhcjiaaaDoorDatV
set_option linter.unusedSimpArgs false
set_option linter.unusedVariables false
set_option linter.unnecessarySimpa false
namespace Go.Proofs.YtiijngjhhcjiaaaDoor
open Go.RowKit Go.Bul
set_option maxRecDepth 100000 in
set_option maxHeartbeats 8000000 in
theorem read_b (b : Nat) (w : World) (hb7 : 7 ≤ b) (hg : Gd w) (h : ScAt w b tB (0 : Nat) 0) :
    Calls Tryd.prog 38 #[.pointer (some ⟨b, 0, none⟩)] w fun r w' => r = .returned (.agg #[.bool false, .int .i64 0, .int .i64 2026, .int .i64 11, .int .i64 16, .int .i64 238, .int .i64 2288, .int .i64 0, .int .i64 0, .int .i64 7, .int .i64 12, .int .i64 13, .int .i64 0, .int .i64 0]) ∧ ScAt w' b tB (13 : Nat) 3 ∧ Bt b w w' := by
  have hsz : tB.size ≤ 1000000 := by decide
  have hlt := ltBlock h
  have H := Lib.hid h
  have HG := Lib.hid hg
  clear h hg
  go_enter Tryd.func38, Tryd.ntmps38
  go_wp2_with fail
  obtain ⟨w1, hw1⟩ : ∃ w1, w1 = (w.alloc (.cells #[.bool false, .int .i64 0, .int .i64 0, .int .i64 0, .int .i64 0, .int .i64 0, .int .i64 0, .int .i64 0, .int .i64 0, .int .i64 0, .int .i64 0, .int .i64 0, .int .i64 0, .int .i64 0] 63)).alloc (.cells #[.bool false, .int .i64 0, .int .i64 0, .int .i64 0, .int .i64 0, .int .i64 0, .int .i64 0, .int .i64 0, .int .i64 0, .int .i64 0, .int .i64 0, .int .i64 0, .int .i64 0, .int .i64 0] 63) := ⟨_, rfl⟩
  have hbw : Below w.heap.size w w1 := by rw [hw1]; exact ((Below.refl _ _).alloc (Nat.le_refl _) _).alloc (by rw [sizeA]; omega) _
  have HR1 := Lib.hid (show RdI w b (w.heap.size + 1) w.heap.size tB 0 0 #[.bool false, .int .i64 0, .int .i64 0, .int .i64 0, .int .i64 0, .int .i64 0, .int .i64 0, .int .i64 0, .int .i64 0, .int .i64 0, .int .i64 0, .int .i64 0, .int .i64 0, .int .i64 0] w1 from
    ⟨H.out.below hbw, by rw [hw1, ← sizeA w (.cells #[.bool false, .int .i64 0, .int .i64 0, .int .i64 0, .int .i64 0, .int .i64 0, .int .i64 0, .int .i64 0, .int .i64 0, .int .i64 0, .int .i64 0, .int .i64 0, .int .i64 0, .int .i64 0] 63)]; exact heapNew _ _,
      by rw [hw1]; exact (Below.heap_alloc _ _ _ (by rw [sizeA]; omega)).trans (heapNew _ _), Bt.of_below hbw, HG.out.below hbw, by omega, by omega, by omega, by omega, Nat.le_refl _, hb7, HG.out.size⟩)
  rw [← hw1]
  clear hw1 hbw
  refine (peek_letter b tB 0 0 w1 HR1.out.sc).mono ?_
  rintro r w2 ⟨rfl, n2, hw2⟩
  rw [b_peek0]
  have HR2 := Lib.hid (show RdI w b (w.heap.size + 1) w.heap.size tB 0 0 _ w2 by rw [hw2]; exact HR1.out.below ⟨rfl, rfl, rfl, Nat.le_refl _, fun _ _ => rfl⟩)
  clear hw2
  have z0 := cellAt HR2.out.pt 0
  have f0 := frozenAt HR2.out.pt 0
  go_wp2_with fail
  have HR3 := Lib.hid (show RdI w b (w.heap.size + 1) w.heap.size tB 0 0 #[.bool false, .int .i64 0, .int .i64 0, .int .i64 0, .int .i64 0, .int .i64 0, .int .i64 0, .int .i64 0, .int .i64 0, .int .i64 0, .int .i64 0, .int .i64 0, .int .i64 0, .int .i64 0] (w2.setCell ⟨w.heap.size + 1, 0, none⟩ (.bool false)) from HR2.out.set 0 (.bool false))
  refine (scanNumber_s b tB 0 0 1 (by decide) hsz (by decide) _ HR3.out.sc).mono ?_
  rintro r w3 ⟨rfl, hs3, hb3⟩
  rw [b_num0] at hs3 ⊢
  have HR4 := Lib.hid (HR3.out.go hs3 hb3)
  clear hs3 hb3 z0 f0
  have z4 := cellAt HR4.out.pt 4
  have f4 := frozenAt HR4.out.pt 4
  have f8 := frozenAt HR4.out.pt 8
  have z8 := cellAt HR4.out.pt 8
  go_wp2_with fail
  have HR5 := Lib.hid (show RdI w b (w.heap.size + 1) w.heap.size tB 1 0 #[.bool false, .int .i64 0, .int .i64 0, .int .i64 0, .int .i64 1, .int .i64 0, .int .i64 0, .int .i64 0, .int .i64 0, .int .i64 0, .int .i64 0, .int .i64 0, .int .i64 0, .int .i64 0] ((w3.setCell ⟨w.heap.size + 1, 4, none⟩ (.int .i64 1)).setCell ⟨w.heap.size + 1, 8, none⟩ (.int .i64 0)) from (HR4.out.set 4 (.int .i64 1)).set 8 (.int .i64 0))
  obtain ⟨w5, hw5⟩ : ∃ w5, w5 = (w3.setCell ⟨w.heap.size + 1, 4, none⟩ (.int .i64 1)).setCell ⟨w.heap.size + 1, 8, none⟩ (.int .i64 0) := ⟨_, rfl⟩
  rw [← hw5] at HR5 ⊢
  clear hw5 z4 f4 f8 z8
  refine (peek_digit b tB 1 0 w5 HR5.out.sc).mono ?_
  rintro r w6 ⟨rfl, n6, hw6⟩
  rw [b_peek1]
  have HR6 := Lib.hid (show RdI w b (w.heap.size + 1) w.heap.size tB 1 0 #[.bool false, .int .i64 0, .int .i64 0, .int .i64 0, .int .i64 1, .int .i64 0, .int .i64 0, .int .i64 0, .int .i64 0, .int .i64 0, .int .i64 0, .int .i64 0, .int .i64 0, .int .i64 0] w6 by rw [hw6]; exact HR5.out.below ⟨rfl, rfl, rfl, Nat.le_refl _, fun _ _ => rfl⟩)
  clear hw6
  go_wp2_with fail
  refine (scanNumber_s b tB 1 0 1 (by decide) hsz (by decide) _ HR6.out.sc).mono ?_
  rintro r w7 ⟨rfl, hs7, hb7'⟩
  rw [b_num1] at hs7 ⊢
  have HR7 := Lib.hid (HR6.out.go hs7 hb7')
  clear hs7 hb7'
  have z4 := cellAt HR7.out.pt 4
  have f4 := frozenAt HR7.out.pt 4
  go_wp2_with fail
  have HR8 := Lib.hid (show RdI w b (w.heap.size + 1) w.heap.size tB 2 0 #[.bool false, .int .i64 0, .int .i64 0, .int .i64 0, .int .i64 16, .int .i64 0, .int .i64 0, .int .i64 0, .int .i64 0, .int .i64 0, .int .i64 0, .int .i64 0, .int .i64 0, .int .i64 0] (w7.setCell ⟨w.heap.size + 1, 4, none⟩ (.int .i64 16)) from HR7.out.set 4 (.int .i64 16))
  obtain ⟨w8, hw8⟩ : ∃ w8, w8 = w7.setCell ⟨w.heap.size + 1, 4, none⟩ (.int .i64 16) := ⟨_, rfl⟩
  rw [← hw8] at HR8 ⊢
  clear hw8 z4 f4
  refine (blanks_sc b tB 2 0 hsz (by decide) w8 HR8.out.sc).mono ?_
  rintro r w9 ⟨rfl, hs9, hb9⟩
  rw [b_bl2.1, b_bl2.2] at hs9
  have HR9 := Lib.hid (HR8.out.go hs9 hb9)
  clear hs9 hb9
  go_wp2_with fail
  refine (monthNames_s w9).mono ?_
  rintro r w10 ⟨rfl, b10⟩
  have HR10 := Lib.hid (HR9.out.below b10)
  clear b10
  have HS11 := strs_mon w10
  have HR11 := HR10.out.below ((Below.refl w10.heap.size w10).alloc (Nat.le_refl _) (.cells monA 56))
  have hne10 : w10.heap.size ≠ b := by have := HR10.out.bt.size; omega
  simp only [monA, monT, List.map_cons, List.map_nil] at HS11 HR11 ⊢
  go_wp2_with fail
  have HN := (name_s b tB 3 0 w10.heap.size 12 monB hsz (by decide) (by decide) (by decide) _ HR11.gd HR11.sc HS11 hne10)
  refine HN.mono ?_
  clear HN
  rintro r w12 ⟨rfl, hs, hb⟩
  rw [b_name.2.1, b_name.2.2] at hs
  rw [b_name.1]
  have HR12 := Lib.hid (HR11.go hs hb)
  clear hs hb HS11 HR11 hne10
  have z3 := cellAt HR12.out.pt 3
  have f3 := frozenAt HR12.out.pt 3
  go_wp2_with fail
  have HR13 := Lib.hid (show RdI w b (w.heap.size + 1) w.heap.size tB 6 0 #[.bool false, .int .i64 0, .int .i64 0, .int .i64 11, .int .i64 16, .int .i64 0, .int .i64 0, .int .i64 0, .int .i64 0, .int .i64 0, .int .i64 0, .int .i64 0, .int .i64 0, .int .i64 0] (w12.setCell ⟨w.heap.size + 1, 3, none⟩ (.int .i64 11)) from (HR12.out.set 3 (.int .i64 11)))
  obtain ⟨w13, hw13⟩ : ∃ w13, w13 = (w12.setCell ⟨w.heap.size + 1, 3, none⟩ (.int .i64 11)) := ⟨_, rfl⟩
  rw [← hw13] at HR13 ⊢
  clear hw13 z3 f3
  refine (blanks_sc b tB 6 0 hsz (by decide) w13 HR13.out.sc).mono ?_
  rintro r w14 ⟨rfl, hs, hb⟩
  rw [b_bl6.1, b_bl6.2] at hs
  have HR14 := Lib.hid (HR13.out.go hs hb)
  clear hs hb
  go_wp2_with fail
  refine (scanNumber_s b tB 7 0 4 (by decide) hsz (by decide) _ HR14.out.sc).mono ?_
  rintro r w15 ⟨rfl, hs, hb⟩
  rw [b_num7] at hs ⊢
  have HR15 := Lib.hid (HR14.out.go hs hb)
  clear hs hb
  have z2 := cellAt HR15.out.pt 2
  have f2 := frozenAt HR15.out.pt 2
  have z9 := cellAt HR15.out.pt 9
  have f9 := frozenAt HR15.out.pt 9
  go_wp2_with fail
  have HR16 := Lib.hid (show RdI w b (w.heap.size + 1) w.heap.size tB 11 0 #[.bool false, .int .i64 0, .int .i64 2026, .int .i64 11, .int .i64 16, .int .i64 0, .int .i64 0, .int .i64 0, .int .i64 0, .int .i64 7, .int .i64 0, .int .i64 0, .int .i64 0, .int .i64 0] ((w15.setCell ⟨w.heap.size + 1, 2, none⟩ (.int .i64 2026)).setCell ⟨w.heap.size + 1, 9, none⟩ (.int .i64 7)) from ((HR15.out.set 2 (.int .i64 2026)).set 9 (.int .i64 7)))
  obtain ⟨w16, hw16⟩ : ∃ w16, w16 = ((w15.setCell ⟨w.heap.size + 1, 2, none⟩ (.int .i64 2026)).setCell ⟨w.heap.size + 1, 9, none⟩ (.int .i64 7)) := ⟨_, rfl⟩
  rw [← hw16] at HR16 ⊢
  clear hw16 z2 f2 z9 f9
  refine (blanks_sc b tB 11 0 hsz (by decide) w16 HR16.out.sc).mono ?_
  rintro r w17 ⟨rfl, hs, hb⟩
  rw [b_bl11.1, b_bl11.2] at hs
  have HR17 := Lib.hid (HR16.out.go hs hb)
  clear hs hb
  go_wp2_with fail
  refine (scanNumber_s b tB 12 0 2 (by decide) hsz (by decide) _ HR17.out.sc).mono ?_
  rintro r w18 ⟨rfl, hs, hb⟩
  rw [b_num12'] at hs ⊢
  have HR18 := Lib.hid (HR17.out.go hs hb)
  clear hs hb
  have z5 := cellAt HR18.out.pt 5
  have f5 := frozenAt HR18.out.pt 5
  have z10 := cellAt HR18.out.pt 10
  have f10 := frozenAt HR18.out.pt 10
  go_wp2_with fail
  have HR19 := Lib.hid (show RdI w b (w.heap.size + 1) w.heap.size tB 13 3 #[.bool false, .int .i64 0, .int .i64 2026, .int .i64 11, .int .i64 16, .int .i64 238, .int .i64 0, .int .i64 0, .int .i64 0, .int .i64 7, .int .i64 12, .int .i64 0, .int .i64 0, .int .i64 0] ((w18.setCell ⟨w.heap.size + 1, 5, none⟩ (.int .i64 238)).setCell ⟨w.heap.size + 1, 10, none⟩ (.int .i64 12)) from ((HR18.out.set 5 (.int .i64 238)).set 10 (.int .i64 12)))
  obtain ⟨w19, hw19⟩ : ∃ w19, w19 = ((w18.setCell ⟨w.heap.size + 1, 5, none⟩ (.int .i64 238)).setCell ⟨w.heap.size + 1, 10, none⟩ (.int .i64 12)) := ⟨_, rfl⟩
  rw [← hw19] at HR19 ⊢
  clear hw19 z5 f5 z10 f10
  have hj := just_s 58 w19
  have HR20 := Lib.hid (HR19.out.below ((Below.refl w19.heap.size w19).alloc (Nat.le_refl _) (.cells #[B8 58] 5)))
  have hB := cellAt (heapNew w19 (.cells #[B8 58] 5)) 0
  refine hj.mono ?_
  rintro r w20 ⟨rfl, rfl⟩
  clear hj
  unfold jusV
  go_wp2_with fail
  have ht := take_just b tB 13 3 hsz (by decide) _ HR20.out.sc w19.heap.size 58 hB
  unfold jusV at ht
  refine ht.mono ?_
  clear ht
  rintro r w21 ⟨rfl, hs, hb⟩
  rw [b_col13.1, b_col13.2] at hs
  have HR21 := Lib.hid (HR20.out.go hs hb)
  clear hs hb hB
  unfold B8
  go_wp2_with fail
  refine (scanNumber_s b tB 13 3 2 (by decide) hsz (by decide) _ HR21.out.sc).mono ?_
  rintro r w22 ⟨rfl, hs, hb⟩
  rw [b_num13] at hs ⊢
  have HR22 := Lib.hid (HR21.out.go hs hb)
  clear hs hb
  have z6 := cellAt HR22.out.pt 6
  have f6 := frozenAt HR22.out.pt 6
  have z11 := cellAt HR22.out.pt 11
  have f11 := frozenAt HR22.out.pt 11
  go_wp2_with fail
  have HR23 := Lib.hid (show RdI w b (w.heap.size + 1) w.heap.size tB 13 3 #[.bool false, .int .i64 0, .int .i64 2026, .int .i64 11, .int .i64 16, .int .i64 238, .int .i64 2288, .int .i64 0, .int .i64 0, .int .i64 7, .int .i64 12, .int .i64 13, .int .i64 0, .int .i64 0] ((w22.setCell ⟨w.heap.size + 1, 6, none⟩ (.int .i64 2288)).setCell ⟨w.heap.size + 1, 11, none⟩ (.int .i64 13)) from ((HR22.out.set 6 (.int .i64 2288)).set 11 (.int .i64 13)))
  obtain ⟨w23, hw23⟩ : ∃ w23, w23 = ((w22.setCell ⟨w.heap.size + 1, 6, none⟩ (.int .i64 2288)).setCell ⟨w.heap.size + 1, 11, none⟩ (.int .i64 13)) := ⟨_, rfl⟩
  rw [← hw23] at HR23 ⊢
  clear hw23 z6 f6 z11 f11
  have hj := just_s 58 w23
  have HR24 := Lib.hid (HR23.out.below ((Below.refl w23.heap.size w23).alloc (Nat.le_refl _) (.cells #[B8 58] 5)))
  have hB := cellAt (heapNew w23 (.cells #[B8 58] 5)) 0
  refine hj.mono ?_
  rintro r w24 ⟨rfl, rfl⟩
  clear hj
  unfold jusV
  go_wp2_with fail
  have ht := peek_just b tB 13 3 _ HR24.out.sc w23.heap.size 58 hB
  unfold jusV at ht
  refine ht.mono ?_
  clear ht
  rintro r w25 ⟨rfl, nn, hw⟩
  rw [b_pk13]
  have HR25 := Lib.hid (show RdI w b (w.heap.size + 1) w.heap.size tB 13 3 #[.bool false, .int .i64 0, .int .i64 2026, .int .i64 11, .int .i64 16, .int .i64 238, .int .i64 2288, .int .i64 0, .int .i64 0, .int .i64 7, .int .i64 12, .int .i64 13, .int .i64 0, .int .i64 0] w25 by rw [hw]; exact HR24.out.below ⟨rfl, rfl, rfl, Nat.le_refl _, fun _ _ => rfl⟩)
  clear hw hB
  go_wp2_with fail
  refine (blanks_sc b tB 13 3 hsz (by decide) w25 HR25.out.sc).mono ?_
  rintro r w26 ⟨rfl, hs, hb⟩
  rw [b_bl13.1, b_bl13.2] at hs
  have HR26 := Lib.hid (HR25.out.go hs hb)
  clear hs hb
  go_wp2_with fail
  have x0 : ∀ q, (w26.drewN q).cell? ⟨b, 0, none⟩ = some (.string tB) := fun q => cellAt HR26.out.sc 0
  have x1 : ∀ q, (w26.drewN q).cell? ⟨b, 1, none⟩ = some (.int .i64 (13 : Nat)) := fun q => cellAt HR26.out.sc 1
  have x2 : ∀ q, (w26.drewN q).cell? ⟨b, 2, none⟩ = some (.int .i64 3) := fun q => cellAt HR26.out.sc 2
  go_quiet (fail)
  obtain ⟨wz, hwz⟩ : ∃ wz, wz = w26.drewN nq := ⟨_, rfl⟩
  have HRt := Lib.hid (show RdI w b (w.heap.size + 1) w.heap.size tB 13 3 #[.bool false, .int .i64 0, .int .i64 2026, .int .i64 11, .int .i64 16, .int .i64 238, .int .i64 2288, .int .i64 0, .int .i64 0, .int .i64 7, .int .i64 12, .int .i64 13, .int .i64 0, .int .i64 0] wz by rw [hwz]; exact HR26.out.below ⟨rfl, rfl, rfl, Nat.le_refl _, fun _ _ => rfl⟩)
  rw [← hwz]
  clear hwz x0 x1 x2
  have y2 := cellAt HRt.out.sc 2
  have p0 := cellAt HRt.out.pt 0
  have q0 := cellAt HRt.out.rs 0
  have g0 := frozenAt HRt.out.rs 0
  have p1 := cellAt HRt.out.pt 1
  have q1 := cellAt HRt.out.rs 1
  have g1 := frozenAt HRt.out.rs 1
  have p2 := cellAt HRt.out.pt 2
  have q2 := cellAt HRt.out.rs 2
  have g2 := frozenAt HRt.out.rs 2
  have p3 := cellAt HRt.out.pt 3
  have q3 := cellAt HRt.out.rs 3
  have g3 := frozenAt HRt.out.rs 3
  have p4 := cellAt HRt.out.pt 4
  have q4 := cellAt HRt.out.rs 4
  have g4 := frozenAt HRt.out.rs 4
  have p5 := cellAt HRt.out.pt 5
  have q5 := cellAt HRt.out.rs 5
  have g5 := frozenAt HRt.out.rs 5
  have p6 := cellAt HRt.out.pt 6
  have q6 := cellAt HRt.out.rs 6
  have g6 := frozenAt HRt.out.rs 6
  have p7 := cellAt HRt.out.pt 7
  have q7 := cellAt HRt.out.rs 7
  have g7 := frozenAt HRt.out.rs 7
  have p8 := cellAt HRt.out.pt 8
  have q8 := cellAt HRt.out.rs 8
  have g8 := frozenAt HRt.out.rs 8
  have p9 := cellAt HRt.out.pt 9
  have q9 := cellAt HRt.out.rs 9
  have g9 := frozenAt HRt.out.rs 9
  have p10 := cellAt HRt.out.pt 10
  have q10 := cellAt HRt.out.rs 10
  have g10 := frozenAt HRt.out.rs 10
  have p11 := cellAt HRt.out.pt 11
  have q11 := cellAt HRt.out.rs 11
  have g11 := frozenAt HRt.out.rs 11
  have p12 := cellAt HRt.out.pt 12
  have q12 := cellAt HRt.out.rs 12
  have g12 := frozenAt HRt.out.rs 12
  have p13 := cellAt HRt.out.pt 13
  have q13 := cellAt HRt.out.rs 13
  have g13 := frozenAt HRt.out.rs 13
  go_wp2_with fail
  refine bodyPost_ret (results_cell_row rfl _ _ w.heap.size _ _ _ _ rfl (SB14 HRt.out.rs _ _ _ _ _ _ _ _ _ _ _ _ _ _) Tryd.underlying63 rfl (by kernel_rfl)) rfl ?_
  have hqb := HRt.out.qb
  refine ⟨rfl, ?_, ?_⟩
  · iterate 14 (refine CRel.far ?_ (fun e => hqb e.symm))
    exact HRt.out.sc
  · iterate 14 (refine Bt.far ?_ (Nat.le_refl _))
    exact HRt.out.bt
end Go.Proofs.YtiijngjhhcjiaaaDoor
