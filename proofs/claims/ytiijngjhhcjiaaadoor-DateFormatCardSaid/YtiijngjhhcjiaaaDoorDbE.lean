/-
  Package date: read, at every text.
-/
import Derived.Test.YtiijngjhhcjiaaaDoorDbA
import Derived.Test.YtiijngjhhcjiaaaDoorDbZ
import Derived.Deep.CutRange
set_option linter.unusedSimpArgs false
set_option linter.unusedVariables false
set_option linter.unnecessarySimpa false
namespace Go.Proofs.YtiijngjhhcjiaaaDoor
open Go.RowKit Go.Bul
theorem strs_day (w : World) : Strs (w.alloc (.cells dayA 54)) w.heap.size dayB :=
  ⟨by rw [sizeA]; omega, fun j hj => by
    rw [cellAt (heapNew _ _)]
    have h12 : j < 7 := hj
    obtain rfl | rfl | rfl | rfl | rfl | rfl | rfl : j = 0 ∨ j = 1 ∨ j = 2 ∨ j = 3 ∨ j = 4 ∨ j = 5 ∨ j = 6 := by omega
    all_goals rfl⟩
theorem RdI.drewN {w0 : World} {b p q : Nat} {s : ByteArray} {k : Nat} {e : Int} {cs : Array Value} {w w' : World} (h : RdI w0 b p q s k e cs w) {n : Nat} (hw : w' = w.drewN n) : RdI w0 b p q s k e cs w' := by
  rw [hw]; exact h.below ⟨rfl, rfl, rfl, Nat.le_refl _, fun _ _ => rfl⟩
theorem rdB_no {s : ByteArray} {k : Nat} {e : Int} {x : Nm} (hx : nmS s 1 ⟨k, e, 0⟩ = x) (hp : pkB s digB x.k x.e = false) : rdB s k e = x := by
  unfold rdB
  simp only [hx]
  rw [hp]
  rfl
theorem rdB_yes {s : ByteArray} {k : Nat} {e : Int} {x y : Nm} (hx : nmS s 1 ⟨k, e, 0⟩ = x) (hp : pkB s digB x.k x.e = true) (hy : nmS s 1 ⟨x.k, x.e, 0⟩ = y) : rdB s k e = ⟨y.k, y.e, 10 * x.n + y.n⟩ := by
  unfold rdB
  simp only [hx]
  rw [hp, hy]
  rfl
theorem rdC_no {s : ByteArray} {k : Nat} {e : Int} (hp : pkB s (jusB 58) k e = false) : rdC s k e = ⟨0, 0, k, e⟩ := by
  unfold rdC
  rw [hp]
  rfl
theorem rdC_yes {s : ByteArray} {k : Nat} {e : Int} {y : Nm} (hp : pkB s (jusB 58) k e = true) (hy : nmS s 2 ⟨k + 1, e, 0⟩ = y) : rdC s k e = ⟨y.n, (k + 1 : Nat), y.k, y.e⟩ := by
  unfold rdC
  rw [hp, hy]
  rfl
theorem blanks_S (b : Nat) (s : ByteArray) (k : Nat) (e : Int) (hs : s.size ≤ 1000000) (hk : k ≤ s.size) (w0 : World) (h : ScAt w0 b s k e) :
    Calls Tryd.prog 51 #[.pointer (some ⟨b, 0, none⟩), .bool false] w0 fun r w' => r = .returned (.tuple #[]) ∧ ScAt w' b s ((blS s k e).k : Nat) (blS s k e).e ∧ Bt b w0 w' := blanks_sc b s k e hs hk w0 h
theorem take_J (b : Nat) (s : ByteArray) (k : Nat) (e : Int) (hs : s.size ≤ 1000000) (hk : k ≤ s.size) (w : World) (h : ScAt w b s k e) (B : Nat) (c0 : UInt8) (hB : w.cell? ⟨B, 0, none⟩ = some (B8 c0)) :
    Calls Tryd.prog 49 #[.pointer (some ⟨b, 0, none⟩), jusV B] w fun r w' => r = .returned (B8 (tkC s (jusB c0) k e)) ∧ ScAt w' b s ((tkS s (jusB c0) k e).k : Nat) (tkS s (jusB c0) k e).e ∧ Bt b w w' := take_just b s k e hs hk w h B c0 hB
set_option maxRecDepth 100000 in
set_option maxHeartbeats 16000000 in
theorem read_g (b : Nat) (s : ByteArray) (hsz : s.size ≤ 1000000) (w : World) (hb7 : 7 ≤ b) (hg : Gd w) (hcv : ∀ W, Bt b w W → Go.Lib.CaseVar 2 Go.Lib.caseA W) (h : ScAt w b s (0 : Nat) 0)
    (P0 : Bool) (hP0 : pkB s letB 0 0 = P0) (A : Hd) (hA : rdA s = A) (B : Nm) (hB : rdB s A.k A.e = B) (c1 : Sc) (h1 : blS s B.k B.e = c1) (mI : Int) (hmI : naI s monB c1.k c1.e = mI) (k2 : Nat) (hk2 : naK s monB c1.k c1.e = k2) (e2 : Int) (he2 : naE s monB c1.k c1.e = e2)
    (c3 : Sc) (h3 : blS s k2 e2 = c3) (Y : Nm) (hY : nmS s 4 ⟨c3.k, c3.e, 0⟩ = Y) (c4 : Sc) (h4 : blS s Y.k Y.e = c4) (H : Nm) (hH : nmS s 2 ⟨c4.k, c4.e, 0⟩ = H) (c5 : Sc) (h5 : tkS s (jusB 58) H.k H.e = c5) (M : Nm) (hM : nmS s 2 ⟨c5.k, c5.e, 0⟩ = M)
    (C : Se) (hC : rdC s M.k M.e = C) (c6 : Sc) (h6 : blS s C.k C.e = c6) (z e7 : Int) (hz : rdDz s c6.k c6.e = z) (he7 : rdDe s c6.k c6.e = e7) :
    Calls Tryd.prog 38 #[.pointer (some ⟨b, 0, none⟩)] w fun r w' => r = .returned (.agg #[.bool P0, .int .i64 A.wd, .int .i64 Y.n, .int .i64 (1 + mI), .int .i64 B.n, .int .i64 H.n, .int .i64 M.n, .int .i64 C.n, .int .i64 A.k, .int .i64 c3.k, .int .i64 c4.k, .int .i64 c5.k, .int .i64 C.at0, .int .i64 z]) ∧ ScAt w' b s c6.k e7 ∧ Bt b w w' := by
  have hlt := ltBlock h
  have kA : A.k ≤ s.size := by rw [← hA]; exact rdA_le.1
  have kB := hB ▸ rdB_le (s := s) (e := A.e) kA
  have k1 : c1.k ≤ s.size := by rw [← h1]; exact blS_le kB.1
  have kI := hmI ▸ naI_bd (s := s) (xs := monB) (k := c1.k) (e := c1.e) (by decide)
  have kk2 : k2 ≤ s.size := by rw [← hk2]; exact naK_le k1
  have k3 : c3.k ≤ s.size := by rw [← h3]; exact blS_le kk2
  have kY : Y.k ≤ s.size := by rw [← hY]; exact nmS_size 4 _ k3
  have k4 : c4.k ≤ s.size := by rw [← h4]; exact blS_le kY
  have kH : H.k ≤ s.size := by rw [← hH]; exact nmS_size 2 _ k4
  have k5 : c5.k ≤ s.size := by rw [← h5]; exact (tkA_le kH).1
  have kM : M.k ≤ s.size := by rw [← hM]; exact nmS_size 2 _ k5
  have kC := hC ▸ rdC_le (s := s) (e := M.e) kM
  have k6 : c6.k ≤ s.size := by rw [← h6]; exact blS_le kC.1
  have hmon : (monB.length : Int) = 12 := rfl
  rw [hmon] at kI
  have kI0 := kI.1
  have kI1 := kI.2
  have HSC := Lib.hid h
  have HG := Lib.hid hg
  have HCV := Lib.hid hcv
  have XP0 := Lib.hid hP0
  have XA := Lib.hid hA
  have XB := Lib.hid hB
  have X1 := Lib.hid h1
  have XI := Lib.hid hmI
  have Xk2 := Lib.hid hk2
  have Xe2 := Lib.hid he2
  have X3 := Lib.hid h3
  have XY := Lib.hid hY
  have X4 := Lib.hid h4
  have XH := Lib.hid hH
  have X5 := Lib.hid h5
  have XM := Lib.hid hM
  have XC := Lib.hid hC
  have X6 := Lib.hid h6
  have Xz := Lib.hid hz
  have Xe7 := Lib.hid he7
  have KA := Lib.hid kA
  have KB := Lib.hid kB
  have K1 := Lib.hid k1
  have K2 := Lib.hid kk2
  have K3 := Lib.hid k3
  have KY := Lib.hid kY
  have K4 := Lib.hid k4
  have KH := Lib.hid kH
  have K5 := Lib.hid k5
  have KM := Lib.hid kM
  have KC := Lib.hid kC
  have K6 := Lib.hid k6
  have HSZ := Lib.hid hsz
  have wI : IntKind.i64.wrap (1 + mI) = 1 + mI := IntWalk.i64_in _ (by omega)
  clear h hg hcv hP0 hA hB h1 hmI hk2 he2 h3 hY h4 hH h5 hM hC h6 hz he7 kA kB k1 kI kk2 k3 kY k4 kH k5 kM kC k6 hmon kI0 kI1 hsz
  go_enter Tryd.func38, Tryd.ntmps38
  go_wp2_with fail
  obtain ⟨w1, hw1⟩ : ∃ w1, w1 = (w.alloc (.cells #[.bool false, .int .i64 0, .int .i64 0, .int .i64 0, .int .i64 0, .int .i64 0, .int .i64 0, .int .i64 0, .int .i64 0, .int .i64 0, .int .i64 0, .int .i64 0, .int .i64 0, .int .i64 0] 63)).alloc (.cells #[.bool false, .int .i64 0, .int .i64 0, .int .i64 0, .int .i64 0, .int .i64 0, .int .i64 0, .int .i64 0, .int .i64 0, .int .i64 0, .int .i64 0, .int .i64 0, .int .i64 0, .int .i64 0] 63) := ⟨_, rfl⟩
  have hbw : Below w.heap.size w w1 := by rw [hw1]; exact ((Below.refl _ _).alloc (Nat.le_refl _) _).alloc (by rw [sizeA]; omega) _
  have HR1 := Lib.hid (show RdI w b (w.heap.size + 1) w.heap.size s (0 : Nat) 0 #[.bool false, .int .i64 0, .int .i64 0, .int .i64 0, .int .i64 0, .int .i64 0, .int .i64 0, .int .i64 0, .int .i64 0, .int .i64 0, .int .i64 0, .int .i64 0, .int .i64 0, .int .i64 0] w1 from
    ⟨HSC.out.below hbw, by rw [hw1, ← sizeA w (.cells #[.bool false, .int .i64 0, .int .i64 0, .int .i64 0, .int .i64 0, .int .i64 0, .int .i64 0, .int .i64 0, .int .i64 0, .int .i64 0, .int .i64 0, .int .i64 0, .int .i64 0, .int .i64 0] 63)]; exact heapNew _ _,
      by rw [hw1]; exact (Below.heap_alloc _ _ _ (by rw [sizeA]; omega)).trans (heapNew _ _), Bt.of_below hbw, HG.out.below hbw, by omega, by omega, by omega, by omega, Nat.le_refl _, hb7, HG.out.size⟩)
  rw [← hw1]
  clear hw1 hbw
  refine (peek_letter b s 0 0 w1 HR1.out.sc).mono ?_
  rintro r w2 ⟨rfl, n2, hw2⟩
  rw [XP0.out]
  have HR2 := Lib.hid (HR1.out.drewN hw2)
  clear hw2
  have z0 := cellAt HR2.out.pt 0
  have f0 := frozenAt HR2.out.pt 0
  go_upto_if 14 with fail
  have HR3 := Lib.hid (show RdI w b (w.heap.size + 1) w.heap.size s (0 : Nat) 0 #[.bool P0, .int .i64 0, .int .i64 0, .int .i64 0, .int .i64 0, .int .i64 0, .int .i64 0, .int .i64 0, .int .i64 0, .int .i64 0, .int .i64 0, .int .i64 0, .int .i64 0, .int .i64 0] (w2.setCell ⟨w.heap.size + 1, 0, none⟩ (.bool P0)) from HR2.out.set 0 (.bool P0))
  obtain ⟨w3, hw3⟩ : ∃ w3, w3 = w2.setCell ⟨w.heap.size + 1, 0, none⟩ (.bool P0) := ⟨_, rfl⟩
  rw [← hw3] at HR3 ⊢
  clear hw3 z0 f0
  go_cut [4] from 15 to 24 (fun v4 wx => RdI w b (w.heap.size + 1) w.heap.size s A.k A.e #[.bool P0, .int .i64 A.wd, .int .i64 0, .int .i64 0, .int .i64 0, .int .i64 0, .int .i64 0, .int .i64 0, .int .i64 0, .int .i64 0, .int .i64 0, .int .i64 0, .int .i64 0, .int .i64 0] wx)
  case first =>
    cases P0
    · have hA := XA.out
      unfold rdA at hA
      rw [XP0.out] at hA
      rw [if_neg (by decide)] at hA
      have HX := Lib.hid (show RdI w b (w.heap.size + 1) w.heap.size s A.k A.e #[.bool false, .int .i64 A.wd, .int .i64 0, .int .i64 0, .int .i64 0, .int .i64 0, .int .i64 0, .int .i64 0, .int .i64 0, .int .i64 0, .int .i64 0, .int .i64 0, .int .i64 0, .int .i64 0] w3 by rw [← hA]; exact HR3.out)
      clear hA
      go_wp2_with fail
      go_meet
      exact HX.out
    · have hA := XA.out
      unfold rdA at hA
      rw [XP0.out] at hA
      rw [if_pos rfl] at hA
      have HA1 := Lib.hid hA
      clear hA
      go_wp2_with fail
      refine (dayNames_s w3).mono ?_
      rintro r w4 ⟨rfl, b4⟩
      have HR4 := Lib.hid (HR3.out.below b4)
      clear b4
      have HS5 := strs_day w4
      have HR5 := HR4.out.below ((Below.refl w4.heap.size w4).alloc (Nat.le_refl _) (.cells dayA 54))
      have hne5 : w4.heap.size ≠ b := by have := HR4.out.bt.size; omega
      simp only [dayA, dayT, List.map_cons, List.map_nil] at HS5 HR5 ⊢
      go_wp2_with fail
      have HN := (name_s b s 0 0 w4.heap.size 7 dayB HSZ.out (Nat.zero_le _) (by decide) (by decide) _ HR5.gd HR5.sc HS5 hne5)
      refine HN.mono ?_
      clear HN
      rintro r w6 ⟨rfl, hs, hb⟩
      have HR6 := Lib.hid (HR5.go hs hb)
      clear hs hb HS5 HR5 hne5
      have hnk := naK_le (s := s) (xs := dayB) (k := 0) (e := 0) (Nat.zero_le _)
      obtain ⟨nI, hnI⟩ : ∃ nI, naI s dayB 0 0 = nI := ⟨_, rfl⟩
      obtain ⟨nK, hnK⟩ : ∃ nK, naK s dayB 0 0 = nK := ⟨_, rfl⟩
      obtain ⟨nE, hnE⟩ : ∃ nE, naE s dayB 0 0 = nE := ⟨_, rfl⟩
      have HA2 := HA1.out
      rw [hnI, hnK, hnE] at HA2
      rw [hnK] at hnk
      have HNK := Lib.hid hnk
      have HA3 := Lib.hid HA2
      rw [hnK, hnE] at HR6
      rw [hnI]
      clear hnI hnK hnE HA2 hnk
      have z1 := cellAt HR6.out.pt 1
      have f1 := frozenAt HR6.out.pt 1
      go_wp2_with fail
      have HR7 := Lib.hid (HR6.out.set 1 (.int .i64 nI))
      obtain ⟨w7, hw7⟩ : ∃ w7, w7 = w6.setCell ⟨w.heap.size + 1, 1, none⟩ (.int .i64 nI) := ⟨_, rfl⟩
      rw [← hw7] at HR7 ⊢
      clear hw7 z1 f1
      have hj := just_s 44 w7
      have HR8 := Lib.hid (HR7.out.below ((Below.refl w7.heap.size w7).alloc (Nat.le_refl _) (.cells #[B8 44] 5)))
      have hBB := cellAt (heapNew w7 (.cells #[B8 44] 5)) 0
      refine hj.mono ?_
      rintro r w8 ⟨rfl, rfl⟩
      clear hj
      unfold jusV
      go_wp2_with fail
      have ht := take_just b s nK nE HSZ.out HNK.out _ HR8.out.sc w7.heap.size 44 hBB
      unfold jusV at ht
      refine ht.mono ?_
      clear ht
      rintro r w9 ⟨rfl, hs, hb⟩
      have HR9 := Lib.hid (HR8.out.go hs hb)
      clear hs hb hBB
      unfold B8
      go_wp2_with fail
      refine (skip_s b s _ _ HSZ.out (tkA_le HNK.out).1 _ HR9.out.sc).mono ?_
      rintro r w10 ⟨rfl, hs, hb⟩
      have HR10 := Lib.hid (HR9.out.go hs hb)
      clear hs hb
      have HX := Lib.hid (show RdI w b (w.heap.size + 1) w.heap.size s A.k A.e #[.bool true, .int .i64 A.wd, .int .i64 0, .int .i64 0, .int .i64 0, .int .i64 0, .int .i64 0, .int .i64 0, .int .i64 0, .int .i64 0, .int .i64 0, .int .i64 0, .int .i64 0, .int .i64 0] w10 by rw [← HA3.out]; exact HR10.out)
      go_wp2_with fail
      go_meet
      exact HX.out
  case rest =>
    have HR10 := Lib.hid hcut
    clear hcut HR3 HR2 HR1
    go_wp2_with fail
    refine (scanNumber_s b s A.k A.e 1 (by decide) HSZ.out KA.out _ HR10.out.sc).mono ?_
    rintro r w11 ⟨rfl, hs, hb⟩
    obtain ⟨x1, hx1⟩ : ∃ x, nmS s 1 ⟨A.k, A.e, 0⟩ = x := ⟨_, rfl⟩
    have hx1b := nm_bd (s := s) (d := 1) (k := A.k) (e := A.e)
    have hx1s := nmS_size (s := s) 1 ⟨A.k, A.e, 0⟩ KA.out
    rw [hx1] at hs hx1b hx1s ⊢
    have HX1 := Lib.hid hx1
    have HX1B := Lib.hid hx1b
    have HX1S := Lib.hid hx1s
    clear hx1 hx1b hx1s
    have HR11 := Lib.hid (HR10.out.go hs hb)
    clear hs hb
    have z4 := cellAt HR11.out.pt 4
    have f4 := frozenAt HR11.out.pt 4
    have z8 := cellAt HR11.out.pt 8
    have f8 := frozenAt HR11.out.pt 8
    go_wp2_with fail
    have HR12 := Lib.hid (show RdI w b (w.heap.size + 1) w.heap.size s x1.k x1.e #[.bool P0, .int .i64 A.wd, .int .i64 0, .int .i64 0, .int .i64 x1.n, .int .i64 0, .int .i64 0, .int .i64 0, .int .i64 A.k, .int .i64 0, .int .i64 0, .int .i64 0, .int .i64 0, .int .i64 0] ((w11.setCell ⟨w.heap.size + 1, 4, none⟩ (.int .i64 x1.n)).setCell ⟨w.heap.size + 1, 8, none⟩ (.int .i64 A.k)) from ((HR11.out.set 4 (.int .i64 x1.n)).set 8 (.int .i64 A.k)))
    obtain ⟨w12, hw12⟩ : ∃ w12, w12 = ((w11.setCell ⟨w.heap.size + 1, 4, none⟩ (.int .i64 x1.n)).setCell ⟨w.heap.size + 1, 8, none⟩ (.int .i64 A.k)) := ⟨_, rfl⟩
    rw [← hw12] at HR12 ⊢
    clear hw12 z4 f4 z8 f8
    refine (peek_digit b s x1.k x1.e w12 HR12.out.sc).mono ?_
    rintro r w13 ⟨rfl, nn, hw⟩
    obtain ⟨P1, hP1⟩ : ∃ p, pkB s digB x1.k x1.e = p := ⟨_, rfl⟩
    rw [hP1]
    have XP1 := Lib.hid hP1
    have HR13 := Lib.hid (HR12.out.drewN hw)
    clear hw hP1
    go_upto_if 34 with fail
    go_cut [5, 6] from 35 to 47 (fun v5 v6 wx => RdI w b (w.heap.size + 1) w.heap.size s B.k B.e #[.bool P0, .int .i64 A.wd, .int .i64 0, .int .i64 0, .int .i64 B.n, .int .i64 0, .int .i64 0, .int .i64 0, .int .i64 A.k, .int .i64 0, .int .i64 0, .int .i64 0, .int .i64 0, .int .i64 0] wx)
    case first =>
      cases P1
      · have HX := Lib.hid (show RdI w b (w.heap.size + 1) w.heap.size s B.k B.e #[.bool P0, .int .i64 A.wd, .int .i64 0, .int .i64 0, .int .i64 B.n, .int .i64 0, .int .i64 0, .int .i64 0, .int .i64 A.k, .int .i64 0, .int .i64 0, .int .i64 0, .int .i64 0, .int .i64 0] w13 by rw [← XB.out, rdB_no HX1.out XP1.out]; exact HR13.out)
        go_wp2_with fail
        go_meet
        exact HX.out
      · go_wp2_with fail
        refine (scanNumber_s b s x1.k x1.e 1 (by decide) HSZ.out HX1S.out _ HR13.out.sc).mono ?_
        rintro r wy ⟨rfl, hs, hb⟩
        obtain ⟨y1, hy1⟩ : ∃ x, nmS s 1 ⟨x1.k, x1.e, 0⟩ = x := ⟨_, rfl⟩
        have hy1b := nm_bd (s := s) (d := 1) (k := x1.k) (e := x1.e)
        rw [hy1] at hs hy1b ⊢
        have HY1 := Lib.hid hy1
        have HRy := Lib.hid (HR13.out.go hs hb)
        have hb1 := HX1B.out
        rw [show nmB 1 = 255 from rfl] at hb1 hy1b
        have hwa : IntKind.i64.wrap (10 * x1.n) = 10 * x1.n := IntWalk.i64_in _ (by omega)
        have hwb : IntKind.i64.wrap (10 * x1.n + y1.n) = 10 * x1.n + y1.n := IntWalk.i64_in _ (by omega)
        clear hs hb hy1 hy1b hb1
        have z4 := cellAt HRy.out.pt 4
        have f4 := frozenAt HRy.out.pt 4
        have HX := Lib.hid (show RdI w b (w.heap.size + 1) w.heap.size s B.k B.e #[.bool P0, .int .i64 A.wd, .int .i64 0, .int .i64 0, .int .i64 B.n, .int .i64 0, .int .i64 0, .int .i64 0, .int .i64 A.k, .int .i64 0, .int .i64 0, .int .i64 0, .int .i64 0, .int .i64 0] (wy.setCell ⟨w.heap.size + 1, 4, none⟩ (.int .i64 (10 * x1.n + y1.n))) by rw [← XB.out, rdB_yes HX1.out XP1.out HY1.out]; exact HRy.out.set 4 (.int .i64 (10 * x1.n + y1.n)))
        go_wp2_with fail
        go_meet
        exact HX.out
    case rest =>
      have HR14 := Lib.hid hcut
      clear hcut HR10 HR11 HR12 HR13
      go_wp2_with fail
      refine (blanks_S b s B.k B.e HSZ.out KB.out.1 _ HR14.out.sc).mono ?_
      rintro r w15 ⟨rfl, hs, hb⟩
      rw [X1.out] at hs
      have HR15 := Lib.hid (HR14.out.go hs hb)
      clear hs hb
      go_wp2_with fail
      refine (monthNames_s w15).mono ?_
      rintro r w16 ⟨rfl, b4⟩
      have HR16 := Lib.hid (HR15.out.below b4)
      clear b4
      have HSm := strs_mon w16
      have HRm := HR16.out.below ((Below.refl w16.heap.size w16).alloc (Nat.le_refl _) (.cells monA 56))
      have hnem : w16.heap.size ≠ b := by have := HR16.out.bt.size; omega
      simp only [monA, monT, List.map_cons, List.map_nil] at HSm HRm ⊢
      go_wp2_with fail
      have HN := (name_s b s c1.k c1.e w16.heap.size 12 monB HSZ.out K1.out (by decide) (by decide) _ HRm.gd HRm.sc HSm hnem)
      refine HN.mono ?_
      clear HN
      rintro r w17 ⟨rfl, hs, hb⟩
      rw [Xk2.out, Xe2.out] at hs
      rw [XI.out]
      have HR17 := Lib.hid (HRm.go hs hb)
      clear hs hb HSm HRm hnem
      have z3 := cellAt HR17.out.pt 3
      have f3 := frozenAt HR17.out.pt 3
      go_wp2_with fail
      have HR18 := Lib.hid (show RdI w b (w.heap.size + 1) w.heap.size s k2 e2 #[.bool P0, .int .i64 A.wd, .int .i64 0, .int .i64 (1 + mI), .int .i64 B.n, .int .i64 0, .int .i64 0, .int .i64 0, .int .i64 A.k, .int .i64 0, .int .i64 0, .int .i64 0, .int .i64 0, .int .i64 0] (w17.setCell ⟨w.heap.size + 1, 3, none⟩ (.int .i64 (1 + mI))) from (HR17.out.set 3 (.int .i64 (1 + mI))))
      obtain ⟨w18, hw18⟩ : ∃ w18, w18 = (w17.setCell ⟨w.heap.size + 1, 3, none⟩ (.int .i64 (1 + mI))) := ⟨_, rfl⟩
      rw [← hw18] at HR18 ⊢
      clear hw18 z3 f3
      clear wI
      refine (blanks_S b s k2 e2 HSZ.out K2.out _ HR18.out.sc).mono ?_
      rintro r w19 ⟨rfl, hs, hb⟩
      rw [X3.out] at hs
      have HR19 := Lib.hid (HR18.out.go hs hb)
      clear hs hb
      go_wp2_with fail
      refine (scanNumber_s b s c3.k c3.e 4 (by decide) HSZ.out K3.out _ HR19.out.sc).mono ?_
      rintro r w20 ⟨rfl, hs, hb⟩
      rw [XY.out] at hs ⊢
      have HR20 := Lib.hid (HR19.out.go hs hb)
      clear hs hb
      have z2 := cellAt HR20.out.pt 2
      have f2 := frozenAt HR20.out.pt 2
      have z9 := cellAt HR20.out.pt 9
      have f9 := frozenAt HR20.out.pt 9
      go_wp2_with fail
      have HR21 := Lib.hid (show RdI w b (w.heap.size + 1) w.heap.size s Y.k Y.e #[.bool P0, .int .i64 A.wd, .int .i64 Y.n, .int .i64 (1 + mI), .int .i64 B.n, .int .i64 0, .int .i64 0, .int .i64 0, .int .i64 A.k, .int .i64 c3.k, .int .i64 0, .int .i64 0, .int .i64 0, .int .i64 0] ((w20.setCell ⟨w.heap.size + 1, 2, none⟩ (.int .i64 Y.n)).setCell ⟨w.heap.size + 1, 9, none⟩ (.int .i64 c3.k)) from ((HR20.out.set 2 (.int .i64 Y.n)).set 9 (.int .i64 c3.k)))
      obtain ⟨w21, hw21⟩ : ∃ w21, w21 = ((w20.setCell ⟨w.heap.size + 1, 2, none⟩ (.int .i64 Y.n)).setCell ⟨w.heap.size + 1, 9, none⟩ (.int .i64 c3.k)) := ⟨_, rfl⟩
      rw [← hw21] at HR21 ⊢
      clear hw21 z2 f2 z9 f9
      refine (blanks_S b s Y.k Y.e HSZ.out KY.out _ HR21.out.sc).mono ?_
      rintro r w22 ⟨rfl, hs, hb⟩
      rw [X4.out] at hs
      have HR22 := Lib.hid (HR21.out.go hs hb)
      clear hs hb
      go_wp2_with fail
      refine (scanNumber_s b s c4.k c4.e 2 (by decide) HSZ.out K4.out _ HR22.out.sc).mono ?_
      rintro r w23 ⟨rfl, hs, hb⟩
      rw [XH.out] at hs ⊢
      have HR23 := Lib.hid (HR22.out.go hs hb)
      clear hs hb
      have z5 := cellAt HR23.out.pt 5
      have f5 := frozenAt HR23.out.pt 5
      have z10 := cellAt HR23.out.pt 10
      have f10 := frozenAt HR23.out.pt 10
      go_wp2_with fail
      have HR24 := Lib.hid (show RdI w b (w.heap.size + 1) w.heap.size s H.k H.e #[.bool P0, .int .i64 A.wd, .int .i64 Y.n, .int .i64 (1 + mI), .int .i64 B.n, .int .i64 H.n, .int .i64 0, .int .i64 0, .int .i64 A.k, .int .i64 c3.k, .int .i64 c4.k, .int .i64 0, .int .i64 0, .int .i64 0] ((w23.setCell ⟨w.heap.size + 1, 5, none⟩ (.int .i64 H.n)).setCell ⟨w.heap.size + 1, 10, none⟩ (.int .i64 c4.k)) from ((HR23.out.set 5 (.int .i64 H.n)).set 10 (.int .i64 c4.k)))
      obtain ⟨w24, hw24⟩ : ∃ w24, w24 = ((w23.setCell ⟨w.heap.size + 1, 5, none⟩ (.int .i64 H.n)).setCell ⟨w.heap.size + 1, 10, none⟩ (.int .i64 c4.k)) := ⟨_, rfl⟩
      rw [← hw24] at HR24 ⊢
      clear hw24 z5 f5 z10 f10
      have hj := just_s 58 w24
      have HR25 := Lib.hid (HR24.out.below ((Below.refl w24.heap.size w24).alloc (Nat.le_refl _) (.cells #[B8 58] 5)))
      have hBB := cellAt (heapNew w24 (.cells #[B8 58] 5)) 0
      refine hj.mono ?_
      rintro r w25 ⟨rfl, rfl⟩
      clear hj
      unfold jusV
      go_wp2_with fail
      have ht := take_J b s H.k H.e HSZ.out KH.out _ HR25.out.sc w24.heap.size 58 hBB
      unfold jusV at ht
      refine ht.mono ?_
      clear ht
      rintro r w26 ⟨rfl, hs, hb⟩
      rw [X5.out] at hs
      have HR26 := Lib.hid (HR25.out.go hs hb)
      clear hs hb hBB
      unfold B8
      go_wp2_with fail
      refine (scanNumber_s b s c5.k c5.e 2 (by decide) HSZ.out K5.out _ HR26.out.sc).mono ?_
      rintro r w27 ⟨rfl, hs, hb⟩
      rw [XM.out] at hs ⊢
      have HR27 := Lib.hid (HR26.out.go hs hb)
      clear hs hb
      have z6 := cellAt HR27.out.pt 6
      have f6 := frozenAt HR27.out.pt 6
      have z11 := cellAt HR27.out.pt 11
      have f11 := frozenAt HR27.out.pt 11
      go_wp2_with fail
      have HR28 := Lib.hid (show RdI w b (w.heap.size + 1) w.heap.size s M.k M.e #[.bool P0, .int .i64 A.wd, .int .i64 Y.n, .int .i64 (1 + mI), .int .i64 B.n, .int .i64 H.n, .int .i64 M.n, .int .i64 0, .int .i64 A.k, .int .i64 c3.k, .int .i64 c4.k, .int .i64 c5.k, .int .i64 0, .int .i64 0] ((w27.setCell ⟨w.heap.size + 1, 6, none⟩ (.int .i64 M.n)).setCell ⟨w.heap.size + 1, 11, none⟩ (.int .i64 c5.k)) from ((HR27.out.set 6 (.int .i64 M.n)).set 11 (.int .i64 c5.k)))
      obtain ⟨w28, hw28⟩ : ∃ w28, w28 = ((w27.setCell ⟨w.heap.size + 1, 6, none⟩ (.int .i64 M.n)).setCell ⟨w.heap.size + 1, 11, none⟩ (.int .i64 c5.k)) := ⟨_, rfl⟩
      rw [← hw28] at HR28 ⊢
      clear hw28 z6 f6 z11 f11
      have hj := just_s 58 w28
      have HR29 := Lib.hid (HR28.out.below ((Below.refl w28.heap.size w28).alloc (Nat.le_refl _) (.cells #[B8 58] 5)))
      have hBB := cellAt (heapNew w28 (.cells #[B8 58] 5)) 0
      refine hj.mono ?_
      rintro r w29 ⟨rfl, rfl⟩
      clear hj
      unfold jusV
      go_wp2_with fail
      have ht := peek_just b s M.k M.e _ HR29.out.sc w28.heap.size 58 hBB
      unfold jusV at ht
      refine ht.mono ?_
      clear ht
      rintro r w30 ⟨rfl, nn, hw⟩
      obtain ⟨P2, hP2⟩ : ∃ p, pkB s (jusB 58) M.k M.e = p := ⟨_, rfl⟩
      rw [hP2]
      have XP2 := Lib.hid hP2
      have HR30 := Lib.hid (HR29.out.drewN hw)
      clear hw hP2 hBB
      go_upto_if 90 with fail
      go_cut [] from 91 to 104 (fun wx => RdI w b (w.heap.size + 1) w.heap.size s C.k C.e #[.bool P0, .int .i64 A.wd, .int .i64 Y.n, .int .i64 (1 + mI), .int .i64 B.n, .int .i64 H.n, .int .i64 M.n, .int .i64 C.n, .int .i64 A.k, .int .i64 c3.k, .int .i64 c4.k, .int .i64 c5.k, .int .i64 C.at0, .int .i64 0] wx)
      case first =>
        cases P2
        · have HX := Lib.hid (show RdI w b (w.heap.size + 1) w.heap.size s C.k C.e #[.bool P0, .int .i64 A.wd, .int .i64 Y.n, .int .i64 (1 + mI), .int .i64 B.n, .int .i64 H.n, .int .i64 M.n, .int .i64 C.n, .int .i64 A.k, .int .i64 c3.k, .int .i64 c4.k, .int .i64 c5.k, .int .i64 C.at0, .int .i64 0] w30 by rw [← XC.out, rdC_no XP2.out]; exact HR30.out)
          go_wp2_with fail
          go_meet
          exact HX.out
        · have hMs := KM.out
          have hMl := (pk_lt XP2.out).1
          have hsz9 := HSZ.out
          have y1 := cellAt HR30.out.sc 1
          have g1 := frozenAt HR30.out.sc 1
          have hwa : IntKind.i64.wrap ((M.k : Int) + 1) = (M.k : Int) + 1 := IntWalk.i64_in _ (by omega)
          have HML := Lib.hid hMl
          clear hMs hMl hsz9
          go_wp2_with fail
          have HRs := Lib.hid (HR30.out.go (show ScAt (w30.setCell ⟨b, 1, none⟩ (.int .i64 ((M.k : Int) + 1))) b s (M.k + 1 : Nat) M.e by push_cast; exact setCell_block HR30.out.sc) (Bt.set _ _))
          clear y1 g1
          obtain ⟨ws, hws⟩ : ∃ ws, ws = w30.setCell ⟨b, 1, none⟩ (.int .i64 ((M.k : Int) + 1)) := ⟨_, rfl⟩
          rw [← hws] at HRs ⊢
          clear hws
          refine (scanNumber_s b s (M.k + 1) M.e 2 (by decide) HSZ.out HML.out _ HRs.out.sc).mono ?_
          rintro r wy ⟨rfl, hs, hb⟩
          obtain ⟨y1, hy1⟩ : ∃ x, nmS s 2 ⟨M.k + 1, M.e, 0⟩ = x := ⟨_, rfl⟩
          rw [hy1] at hs ⊢
          have HY1 := Lib.hid hy1
          have HRy := Lib.hid (HRs.out.go hs hb)
          clear hs hb hy1
          have z7 := cellAt HRy.out.pt 7
          have f7 := frozenAt HRy.out.pt 7
          have z12 := cellAt HRy.out.pt 12
          have f12 := frozenAt HRy.out.pt 12
          have HX := Lib.hid (show RdI w b (w.heap.size + 1) w.heap.size s C.k C.e #[.bool P0, .int .i64 A.wd, .int .i64 Y.n, .int .i64 (1 + mI), .int .i64 B.n, .int .i64 H.n, .int .i64 M.n, .int .i64 C.n, .int .i64 A.k, .int .i64 c3.k, .int .i64 c4.k, .int .i64 c5.k, .int .i64 C.at0, .int .i64 0] ((wy.setCell ⟨w.heap.size + 1, 7, none⟩ (.int .i64 y1.n)).setCell ⟨w.heap.size + 1, 12, none⟩ (.int .i64 ((M.k + 1 : Nat) : Int))) by rw [← XC.out, rdC_yes XP2.out HY1.out]; exact (HRy.out.set 7 (.int .i64 y1.n)).set 12 (.int .i64 ((M.k + 1 : Nat) : Int)))
          go_wp2_with fail
          go_meet
          exact HX.out
      case rest =>
        have HR31 := Lib.hid hcut
        clear hcut HR14 HR15 HR16 HR17 HR18 HR19 HR20 HR21 HR22 HR23 HR24 HR25 HR26 HR27 HR28 HR29 HR30
        go_wp2_with fail
        refine (blanks_S b s C.k C.e HSZ.out KC.out.1 _ HR31.out.sc).mono ?_
        rintro r w32 ⟨rfl, hs, hb⟩
        rw [X6.out] at hs
        have HR32 := Lib.hid (HR31.out.go hs hb)
        clear hs hb
        go_wp2_with fail
        by_cases h60 : c6.e = 0
        case neg =>
          have hq : (c6.e == 0) = false := by rw [beq_eq_false_iff_ne]; exact h60
          have XZ := Lib.hid (show (0 : Int) = z by rw [← Xz.out]; unfold rdDz; rw [if_pos h60])
          have XE := Lib.hid (show e7 = c6.e by rw [← Xe7.out]; unfold rdDe; rw [if_pos h60])
          clear h60
          have x0 : ∀ q, (w32.drewN q).cell? ⟨b, 0, none⟩ = some (.string s) := fun q => cellAt HR32.out.sc 0
          have x1' : ∀ q, (w32.drewN q).cell? ⟨b, 1, none⟩ = some (.int .i64 c6.k) := fun q => cellAt HR32.out.sc 1
          have x2 : ∀ q, (w32.drewN q).cell? ⟨b, 2, none⟩ = some (.int .i64 c6.e) := fun q => cellAt HR32.out.sc 2
          go_quiet (fail)
          obtain ⟨wz, hwz⟩ : ∃ wz, wz = w32.drewN nq := ⟨_, rfl⟩
          have HRz := Lib.hid (HR32.out.drewN hwz)
          rw [← hwz]
          clear hwz x0 x1' x2
          have y2 := cellAt HRz.out.sc 2
          have p0 := cellAt HRz.out.pt 0
          have q0 := cellAt HRz.out.rs 0
          have g0 := frozenAt HRz.out.rs 0
          have p1 := cellAt HRz.out.pt 1
          have q1 := cellAt HRz.out.rs 1
          have g1 := frozenAt HRz.out.rs 1
          have p2 := cellAt HRz.out.pt 2
          have q2 := cellAt HRz.out.rs 2
          have g2 := frozenAt HRz.out.rs 2
          have p3 := cellAt HRz.out.pt 3
          have q3 := cellAt HRz.out.rs 3
          have g3 := frozenAt HRz.out.rs 3
          have p4 := cellAt HRz.out.pt 4
          have q4 := cellAt HRz.out.rs 4
          have g4 := frozenAt HRz.out.rs 4
          have p5 := cellAt HRz.out.pt 5
          have q5 := cellAt HRz.out.rs 5
          have g5 := frozenAt HRz.out.rs 5
          have p6 := cellAt HRz.out.pt 6
          have q6 := cellAt HRz.out.rs 6
          have g6 := frozenAt HRz.out.rs 6
          have p7 := cellAt HRz.out.pt 7
          have q7 := cellAt HRz.out.rs 7
          have g7 := frozenAt HRz.out.rs 7
          have p8 := cellAt HRz.out.pt 8
          have q8 := cellAt HRz.out.rs 8
          have g8 := frozenAt HRz.out.rs 8
          have p9 := cellAt HRz.out.pt 9
          have q9 := cellAt HRz.out.rs 9
          have g9 := frozenAt HRz.out.rs 9
          have p10 := cellAt HRz.out.pt 10
          have q10 := cellAt HRz.out.rs 10
          have g10 := frozenAt HRz.out.rs 10
          have p11 := cellAt HRz.out.pt 11
          have q11 := cellAt HRz.out.rs 11
          have g11 := frozenAt HRz.out.rs 11
          have p12 := cellAt HRz.out.pt 12
          have q12 := cellAt HRz.out.rs 12
          have g12 := frozenAt HRz.out.rs 12
          have p13 := cellAt HRz.out.pt 13
          have q13 := cellAt HRz.out.rs 13
          have g13 := frozenAt HRz.out.rs 13
          go_wp2_with fail
          refine bodyPost_ret (results_cell_row rfl _ _ w.heap.size _ _ _ _ rfl (SB14 HRz.out.rs _ _ _ _ _ _ _ _ _ _ _ _ _ _) Tryd.underlying63 rfl (by kernel_rfl)) rfl ?_
          have hqb := HRz.out.qb
          refine ⟨by first | rfl | rw [XZ.out], ?_, ?_⟩
          · iterate 14 (refine CRel.far ?_ (fun e => hqb e.symm))
            first | exact HRz.out.sc | (rw [XE.out]; exact HRz.out.sc)
          · iterate 14 (refine Bt.far ?_ (Nat.le_refl _))
            exact HRz.out.bt
        have HR0 := Lib.hid (show RdI w b (w.heap.size + 1) w.heap.size s c6.k 0 #[.bool P0, .int .i64 A.wd, .int .i64 Y.n, .int .i64 (1 + mI), .int .i64 B.n, .int .i64 H.n, .int .i64 M.n, .int .i64 C.n, .int .i64 A.k, .int .i64 c3.k, .int .i64 c4.k, .int .i64 c5.k, .int .i64 C.at0, .int .i64 0] w32 by have h := HR32.out; rw [h60] at h; exact h)
        have x0 : ∀ q, (w32.drewN q).cell? ⟨b, 0, none⟩ = some (.string s) := fun q => cellAt HR0.out.sc 0
        have x1' : ∀ q, (w32.drewN q).cell? ⟨b, 1, none⟩ = some (.int .i64 c6.k) := fun q => cellAt HR0.out.sc 1
        have x2 : ∀ q, (w32.drewN q).cell? ⟨b, 2, none⟩ = some (.int .i64 0) := fun q => cellAt HR0.out.sc 2
        by_cases hks : c6.k = s.size
        case pos =>
          have XZ := Lib.hid (show (0 : Int) = z by rw [← Xz.out]; unfold rdDz; rw [if_neg (by simpa using h60), if_pos hks])
          have XE := Lib.hid (show e7 = 4 by rw [← Xe7.out]; unfold rdDe; rw [if_neg (by simpa using h60), if_pos hks])
          have hq : ((c6.k : Int) == (s.size : Int)) = true := by rw [beq_iff_eq]; omega
          clear h60 hks
          go_quiet (fail)
          obtain ⟨wz, hwz⟩ : ∃ wz, wz = w32.drewN nq := ⟨_, rfl⟩
          have HRz := Lib.hid (HR0.out.drewN hwz)
          rw [← hwz]
          clear hwz x0 x1' x2 hq
          have y1 := cellAt HRz.out.sc 1
          go_wp2_with fail
          clear y1
          refine (fail_s b s c6.k 0 c6.k 4 _ HRz.out.sc).mono ?_
          rintro r wu ⟨rfl, hs, hb⟩
          have HRu := Lib.hid (HRz.out.go (k' := c6.k) (e' := 4) hs hb)
          clear hs hb
          have y2 := cellAt HRu.out.sc 2
          have p0 := cellAt HRu.out.pt 0
          have q0 := cellAt HRu.out.rs 0
          have g0 := frozenAt HRu.out.rs 0
          have p1 := cellAt HRu.out.pt 1
          have q1 := cellAt HRu.out.rs 1
          have g1 := frozenAt HRu.out.rs 1
          have p2 := cellAt HRu.out.pt 2
          have q2 := cellAt HRu.out.rs 2
          have g2 := frozenAt HRu.out.rs 2
          have p3 := cellAt HRu.out.pt 3
          have q3 := cellAt HRu.out.rs 3
          have g3 := frozenAt HRu.out.rs 3
          have p4 := cellAt HRu.out.pt 4
          have q4 := cellAt HRu.out.rs 4
          have g4 := frozenAt HRu.out.rs 4
          have p5 := cellAt HRu.out.pt 5
          have q5 := cellAt HRu.out.rs 5
          have g5 := frozenAt HRu.out.rs 5
          have p6 := cellAt HRu.out.pt 6
          have q6 := cellAt HRu.out.rs 6
          have g6 := frozenAt HRu.out.rs 6
          have p7 := cellAt HRu.out.pt 7
          have q7 := cellAt HRu.out.rs 7
          have g7 := frozenAt HRu.out.rs 7
          have p8 := cellAt HRu.out.pt 8
          have q8 := cellAt HRu.out.rs 8
          have g8 := frozenAt HRu.out.rs 8
          have p9 := cellAt HRu.out.pt 9
          have q9 := cellAt HRu.out.rs 9
          have g9 := frozenAt HRu.out.rs 9
          have p10 := cellAt HRu.out.pt 10
          have q10 := cellAt HRu.out.rs 10
          have g10 := frozenAt HRu.out.rs 10
          have p11 := cellAt HRu.out.pt 11
          have q11 := cellAt HRu.out.rs 11
          have g11 := frozenAt HRu.out.rs 11
          have p12 := cellAt HRu.out.pt 12
          have q12 := cellAt HRu.out.rs 12
          have g12 := frozenAt HRu.out.rs 12
          have p13 := cellAt HRu.out.pt 13
          have q13 := cellAt HRu.out.rs 13
          have g13 := frozenAt HRu.out.rs 13
          go_wp2_with fail
          refine bodyPost_ret (results_cell_row rfl _ _ w.heap.size _ _ _ _ rfl (SB14 HRu.out.rs _ _ _ _ _ _ _ _ _ _ _ _ _ _) Tryd.underlying63 rfl (by kernel_rfl)) rfl ?_
          have hqb := HRu.out.qb
          refine ⟨by first | rfl | rw [XZ.out], ?_, ?_⟩
          · iterate 14 (refine CRel.far ?_ (fun e => hqb e.symm))
            first | exact HRu.out.sc | (rw [XE.out]; exact HRu.out.sc)
          · iterate 14 (refine Bt.far ?_ (Nat.le_refl _))
            exact HRu.out.bt
        have XZ := Lib.hid (show zF (s.extract c6.k s.size) = z by rw [← Xz.out]; unfold rdDz; rw [if_neg (by simpa using h60), if_neg hks])
        have XE := Lib.hid (show zE (s.extract c6.k s.size) = e7 by rw [← Xe7.out]; unfold rdDe; rw [if_neg (by simpa using h60), if_neg hks])
        have hq : ((c6.k : Int) == (s.size : Int)) = false := by rw [beq_eq_false_iff_ne]; omega
        have hz9 := fun W hg hc => zone_g (s.extract c6.k s.size) (by rw [ByteArray.size_extract]; have := HSZ.out; omega) W hg hc
        rw [XZ.out, XE.out] at hz9
        have HZG := Lib.hid hz9
        clear hz9 h60 hks
        go_quiet (fail)
        obtain ⟨wz, hwz⟩ : ∃ wz, wz = w32.drewN nq := ⟨_, rfl⟩
        have HRz := Lib.hid (HR0.out.drewN hwz)
        rw [← hwz]
        clear hwz x0 x1' x2 hq
        have y2 := cellAt HRz.out.sc 2
        go_wp2_with fail
        clear y2
        have hk6 := K6.out
        have j0 : (0 : Int) ≤ (c6.k : Int) := by omega
        have j1 : (c6.k : Int) ≤ (s.size : Int) := by omega
        clear hk6
        have x0 : ∀ z : After wz.heap.size wz, z.W.cell? ⟨b, 0, none⟩ = some (.string s) := fun z => cellAt (HRz.out.below z.below).sc 0
        have x1' : ∀ z : After wz.heap.size wz, z.W.cell? ⟨b, 1, none⟩ = some (.int .i64 c6.k) := fun z => cellAt (HRz.out.below z.below).sc 1
        have HGa := Lib.hid (show ∀ z : After wz.heap.size wz, Gd z.W from fun z => HRz.out.gd.below z.below)
        have HCa := Lib.hid (show ∀ z : After wz.heap.size wz, Go.Lib.CaseVar 2 Go.Lib.caseA z.W from fun z => HCV.out _ (HRz.out.bt.trans (Bt.of_below z.below)))
        refine wp_region_after (by kernel_rfl) (by kernel_rfl) ?_
        iterate 15 (go_big_quiet_step ((go_at_call 55; with_reducible exact callBelow _ (HZG.out _ (HGa.out _) (HCa.out _)))))
        refine wpQuiet_nil ?_
        rintro wv ⟨⟨_, hbv⟩, rfl⟩
        have HRv := Lib.hid (HRz.out.below hbv)
        clear hbv x0 x1' j0 j1
        have z13 := cellAt HRv.out.pt 13
        have f13 := frozenAt HRv.out.pt 13
        have y1 := cellAt HRv.out.sc 1
        go_wp2_with fail
        have HRw := Lib.hid (show RdI w b (w.heap.size + 1) w.heap.size s c6.k 0 #[.bool P0, .int .i64 A.wd, .int .i64 Y.n, .int .i64 (1 + mI), .int .i64 B.n, .int .i64 H.n, .int .i64 M.n, .int .i64 C.n, .int .i64 A.k, .int .i64 c3.k, .int .i64 c4.k, .int .i64 c5.k, .int .i64 C.at0, .int .i64 z] (wv.setCell ⟨w.heap.size + 1, 13, none⟩ (.int .i64 z)) from HRv.out.set 13 (.int .i64 z))
        clear z13 f13 y1
        obtain ⟨ok, hok⟩ : ∃ ok, (e7 == 0) = ok := ⟨_, rfl⟩
        rw [hok]
        have XO := Lib.hid (show scC ok 0 (c6.k : Int) (c6.k : Int) = c6.k ∧ scC ok 0 e7 0 = e7 by
          unfold scC
          refine ⟨by split <;> rfl, ?_⟩
          cases ok
          · rfl
          · rw [if_pos rfl]; exact (by simpa using hok : e7 = 0).symm)
        clear hok
        refine (check_sc b s c6.k 0 c6.k e7 ok _ HRw.out.sc).mono ?_
        rintro r wt ⟨rfl, hs, hb⟩
        rw [XO.out.1, XO.out.2] at hs
        have HRt := Lib.hid (HRw.out.go (k' := c6.k) (e' := e7) hs hb)
        clear hs hb
        have XZ := Lib.hid (show (0 : Int) = 0 from rfl)
        have XE := Lib.hid (show e7 = e7 from rfl)
        have p0 := cellAt HRt.out.pt 0
        have q0 := cellAt HRt.out.rs 0
        have g0 := frozenAt HRt.out.rs 0
        have p1 := cellAt HRt.out.pt 1
        have q1 := cellAt HRt.out.rs 1
        have g1 := frozenAt HRt.out.rs 1
        have p2 := cellAt HRt.out.pt 2
        have q2 := cellAt HRt.out.rs 2
        have g2 := frozenAt HRt.out.rs 2
        have p3 := cellAt HRt.out.pt 3
        have q3 := cellAt HRt.out.rs 3
        have g3 := frozenAt HRt.out.rs 3
        have p4 := cellAt HRt.out.pt 4
        have q4 := cellAt HRt.out.rs 4
        have g4 := frozenAt HRt.out.rs 4
        have p5 := cellAt HRt.out.pt 5
        have q5 := cellAt HRt.out.rs 5
        have g5 := frozenAt HRt.out.rs 5
        have p6 := cellAt HRt.out.pt 6
        have q6 := cellAt HRt.out.rs 6
        have g6 := frozenAt HRt.out.rs 6
        have p7 := cellAt HRt.out.pt 7
        have q7 := cellAt HRt.out.rs 7
        have g7 := frozenAt HRt.out.rs 7
        have p8 := cellAt HRt.out.pt 8
        have q8 := cellAt HRt.out.rs 8
        have g8 := frozenAt HRt.out.rs 8
        have p9 := cellAt HRt.out.pt 9
        have q9 := cellAt HRt.out.rs 9
        have g9 := frozenAt HRt.out.rs 9
        have p10 := cellAt HRt.out.pt 10
        have q10 := cellAt HRt.out.rs 10
        have g10 := frozenAt HRt.out.rs 10
        have p11 := cellAt HRt.out.pt 11
        have q11 := cellAt HRt.out.rs 11
        have g11 := frozenAt HRt.out.rs 11
        have p12 := cellAt HRt.out.pt 12
        have q12 := cellAt HRt.out.rs 12
        have g12 := frozenAt HRt.out.rs 12
        have p13 := cellAt HRt.out.pt 13
        have q13 := cellAt HRt.out.rs 13
        have g13 := frozenAt HRt.out.rs 13
        go_wp2_with fail
        refine bodyPost_ret (results_cell_row rfl _ _ w.heap.size _ _ _ _ rfl (SB14 HRt.out.rs _ _ _ _ _ _ _ _ _ _ _ _ _ _) Tryd.underlying63 rfl (by kernel_rfl)) rfl ?_
        have hqb := HRt.out.qb
        refine ⟨by first | rfl | rw [XZ.out], ?_, ?_⟩
        · iterate 14 (refine CRel.far ?_ (fun e => hqb e.symm))
          first | exact HRt.out.sc | (rw [XE.out]; exact HRt.out.sc)
        · iterate 14 (refine Bt.far ?_ (Nat.le_refl _))
          exact HRt.out.bt
end Go.Proofs.YtiijngjhhcjiaaaDoor
