/-
  Package date: Parse, at every text.
-/
import Derived.Test.YtiijngjhhcjiaaaDoorDbF
set_option linter.unusedSimpArgs false
set_option linter.unusedVariables false
set_option linter.unnecessarySimpa false
namespace Go.Proofs.YtiijngjhhcjiaaaDoor
open Go.RowKit Go.Bul
def prV (p : Pr) : Value := .tuple #[.int .i64 p.m, .int .i64 p.at0, .int .i64 p.e]
/-- the scan in block b, the parts in block p -/
structure PaI (w0 : World) (b p : Nat) (s : ByteArray) (c : Ck) (cs : Array Value) (w : World) : Prop where
  sc : ScAt w b s c.at0 c.e
  pt : w.heap[p]? = some (.cells cs 63 (0, 0))
  below : Below w0.heap.size w0 w
  gd : Gd w
  pb : p ≠ b
  b0 : w0.heap.size ≤ b
  w7 : 7 ≤ w0.heap.size
theorem PaI.go {w0 : World} {b p : Nat} {s : ByteArray} {c c' : Ck} {cs : Array Value} {w w' : World} (h : PaI w0 b p s c cs w) (hs : ScAt w' b s c'.at0 c'.e) (hb : Bt b w w') : PaI w0 b p s c' cs w' :=
  ⟨hs, (hb.block p (ltBlock h.pt) h.pb).trans h.pt, h.below.trans (hb.to_below h.below.size h.b0), h.gd.at7 (hb.to_below h.gd.size (Nat.le_trans h.w7 h.b0)), h.pb, h.b0, h.w7⟩
theorem PaI.go_below {w0 : World} {b p : Nat} {s : ByteArray} {c : Ck} {cs : Array Value} {w w' : World} (h : PaI w0 b p s c cs w) (hb : Below w.heap.size w w') : PaI w0 b p s c cs w' :=
  h.go (h.sc.below hb) (Bt.of_below hb)
theorem PaI.drewN {w0 : World} {b p : Nat} {s : ByteArray} {c : Ck} {cs : Array Value} {w w' : World} (h : PaI w0 b p s c cs w) {n : Nat} (hw : w' = w.drewN n) : PaI w0 b p s c cs w' := by
  rw [hw]; exact h.go_below ⟨rfl, rfl, rfl, Nat.le_refl _, fun _ _ => rfl⟩
theorem check_C (b : Nat) (s : ByteArray) (x : Ck) (na ne : Int) (ok : Bool) (w : World) (h : ScAt w b s x.at0 x.e) :
    Calls Tryd.prog 39 #[.pointer (some ⟨b, 0, none⟩), .bool ok, .int .i64 na, .int .i64 ne] w fun r w' => r = .returned (.tuple #[]) ∧ ScAt w' b s (ckS x ok na ne).at0 (ckS x ok na ne).e ∧ Bt b w w' := check_sc b s x.at0 x.e na ne ok w h
set_option maxRecDepth 100000 in
theorem parse_long (s : ByteArray) (hs : 64 < s.size) (w : World) : Calls Tryd.prog 20 #[.string s] w fun r w' => r = .returned (prV ⟨0, 64, 5⟩) ∧ w = w' := by
  have h1 : decide (64 < s.size) = true := decide_eq_true hs
  have h2 : decide ((64 : Int) < (s.size : Int)) = true := decide_eq_true (by omega)
  go_enter Tryd.func20, Tryd.ntmps20
  go_wp2_with fail
  refine bodyPost_ret (results_tmp3 rfl _ _ _) rfl ?_
  exact ⟨rfl, rfl⟩
set_option maxRecDepth 100000 in
set_option maxHeartbeats 16000000 in
theorem parse_w (s : ByteArray) (hs : s.size ≤ 64) (w : World) (hg : Gd w) (hcv : Go.Lib.CaseVar 2 Go.Lib.caseA w) (named : Bool) (wd y mo d h mi sec dA yA hA miA sA z : Int) (k : Nat) (e : Int)
    (hr : readS s = ⟨named, wd, y, mo, d, h, mi, sec, dA, yA, hA, miA, sA, z, k, e⟩) :
    Calls Tryd.prog 20 #[.string s] w fun r w' => r = .returned (prV (parseF s)) ∧ Below w.heap.size w w' := by
  have hok := readS_ok s
  have HG := Lib.hid hg
  have HCV := Lib.hid hcv
  have hrd := fun (W : World) h7 hg hc hs => read_S w.heap.size s (by omega) W h7 hg hc hs
  have e1 : ∀ c1, ckS ⟨k, e⟩ (decide (2000 ≤ y) && decide (y ≤ 2199)) yA 2 = c1 → pk1 (readS s) = c1 := fun c1 hc => by rw [hr]; exact hc
  have e2 : ∀ c1 c2, pk1 (readS s) = c1 → ckS c1 (decide (1 ≤ d) && decide (d ≤ (monthD y.toNat mo.toNat : Nat))) dA 13 = c2 → pk2 (readS s) = c2 := fun c1 c2 hc1 hc => by unfold pk2; rw [hc1, hr]; exact hc
  have e3 : ∀ c1 c2, pk2 (readS s) = c1 → ckS c1 (decide (h ≤ 23)) hA 13 = c2 → pk3 (readS s) = c2 := fun c1 c2 hc1 hc => by unfold pk3; rw [hc1, hr]; exact hc
  have e4 : ∀ c1 c2, pk3 (readS s) = c1 → ckS c1 (decide (mi ≤ 59)) miA 13 = c2 → pk4 (readS s) = c2 := fun c1 c2 hc1 hc => by unfold pk4; rw [hc1, hr]; exact hc
  have e5 : ∀ c1 c2, pk4 (readS s) = c1 → ckS c1 (decide (sec ≤ 60)) sA 13 = c2 → pk5 (readS s) = c2 := fun c1 c2 hc1 hc => by unfold pk5; rw [hc1, hr]; exact hc
  have e6 : ∀ c1 c2 L, locS (readS s) = L → pk5 (readS s) = c1 → ckS c1 (!named || decide ((((L / 1440 + 5) % 7 : Nat) : Int) = wd)) 0 13 = c2 → pk6 (readS s) = c2 := fun c1 c2 L hL hc1 hc => by unfold pk6; rw [hc1, hL, hr]; exact hc
  have e7 : ∀ c1 c2 L, locS (readS s) = L → pk6 (readS s) = c1 → ckS c1 (decide (0 ≤ (L : Int) - z ∧ (L : Int) - z ≤ 105190559)) 0 2 = c2 → pk7 (readS s) = c2 := fun c1 c2 L hL hc1 hc => by unfold pk7; rw [hc1, hL, hr]; exact hc
  have h5 : (pk5 (readS s)).e = 0 → (∀ W : World, Calls Tryd.prog 14 #[.agg #[.int .i64 y, .int .i64 mo, .int .i64 d, .int .i64 h, .int .i64 mi]] W fun r w' => r = .returned (.tuple #[.int .i64 (locS (readS s) : Nat), .int .i64 0]) ∧ Below W.heap.size W w') ∧ locS (readS s) ≤ 105190559 := fun h5 => by
    obtain ⟨o1, o2, o3, o4, o5, o6, o7, o8, o9⟩ := pk5_ok hok h5
    have hm := minOf_le o1 (by show (readS s).y.toNat ≤ 2199; omega)
    refine ⟨fun W => ?_, hm⟩
    have hf := from_good (readS s).y.toNat (readS s).mo.toNat (readS s).d.toNat (readS s).h.toNat (readS s).mi.toNat o1.y0 (by omega) o1.m0 o1.m1 o1.d0 o1.d1 o1.h1 o1.mi1 W
    have g1 := hok.y0
    have g2 := hok.mo0
    have g3 := hok.d0
    have g4 := hok.h0
    have g5 := hok.mi0
    unfold civV at hf
    rw [Int.toNat_of_nonneg g1, Int.toNat_of_nonneg (by omega), Int.toNat_of_nonneg g3, Int.toNat_of_nonneg g4, Int.toNat_of_nonneg g5] at hf
    have hq : #[Value.int .i64 (readS s).y, .int .i64 (readS s).mo, .int .i64 (readS s).d, .int .i64 (readS s).h, .int .i64 (readS s).mi] = #[Value.int .i64 y, .int .i64 mo, .int .i64 d, .int .i64 h, .int .i64 mi] := by rw [hr]
    rw [hq] at hf
    exact hf
  have hcells : rdCells (readS s) = #[.bool named, .int .i64 wd, .int .i64 y, .int .i64 mo, .int .i64 d, .int .i64 h, .int .i64 mi, .int .i64 sec, .int .i64 dA, .int .i64 yA, .int .i64 hA, .int .i64 miA, .int .i64 sA, .int .i64 z] := by rw [hr]; rfl
  rw [hcells] at hrd
  have hk : (readS s).k = k := by rw [hr]
  have he : (readS s).e = e := by rw [hr]
  have hzz : (readS s).z = z := by rw [hr]
  rw [hk, he] at hrd
  rw [hr] at hok
  have HRD := Lib.hid hrd
  have E1 := Lib.hid e1
  have E2 := Lib.hid e2
  have E3 := Lib.hid e3
  have E4 := Lib.hid e4
  have E5 := Lib.hid e5
  have E6 := Lib.hid e6
  have E7 := Lib.hid e7
  have H5 := Lib.hid h5
  have HOK := Lib.hid hok
  have HZZ := Lib.hid hzz
  obtain ⟨R, hR⟩ : ∃ R, parseF s = R := ⟨_, rfl⟩
  rw [hR]
  have XR := Lib.hid hR
  have HS64 := Lib.hid hs
  have h7 := hg.size
  have h1 : decide (64 < s.size) = false := decide_eq_false (by omega)
  have h2 : decide ((64 : Int) < (s.size : Int)) = false := decide_eq_false (by omega)
  clear hg hcv hrd e1 e2 e3 e4 e5 e6 e7 h5 hcells hk he hzz hr hok hR hs
  go_enter Tryd.func20, Tryd.ntmps20
  go_wp2_with fail
  clear h1 h2
  obtain ⟨w1, hw1⟩ : ∃ w1, w1 = w.alloc (.cells #[.string s, .int .i64 0, .int .i64 0] 61) := ⟨_, rfl⟩
  have hb1 : Below w.heap.size w w1 := by rw [hw1]; exact (Below.refl _ _).alloc (Nat.le_refl _) _
  have hs1 : ScAt w1 w.heap.size s (0 : Nat) 0 := by rw [hw1]; exact heapNew _ _
  have hz1 : w.heap.size < w1.heap.size := ltBlock hs1
  have hG1 := HG.out.below hb1
  rw [← hw1]
  clear hw1
  refine (HRD.out w1 h7 hG1 (fun W hW => Go.Lib.CaseVar_below HCV.out (hb1.trans (hW.to_below (Nat.le_of_lt hz1) (Nat.le_refl _)))) hs1).mono ?_
  rintro r w2 ⟨rfl, hs2, hb2⟩
  go_upto_region 5 with fail
  obtain ⟨w3, hw3⟩ : ∃ w3, w3 = w2.alloc (.cells #[.bool named, .int .i64 wd, .int .i64 y, .int .i64 mo, .int .i64 d, .int .i64 h, .int .i64 mi, .int .i64 sec, .int .i64 dA, .int .i64 yA, .int .i64 hA, .int .i64 miA, .int .i64 sA, .int .i64 z] 63) := ⟨_, rfl⟩
  have HP3 := Lib.hid (show PaI w w.heap.size w2.heap.size s ⟨k, e⟩ #[.bool named, .int .i64 wd, .int .i64 y, .int .i64 mo, .int .i64 d, .int .i64 h, .int .i64 mi, .int .i64 sec, .int .i64 dA, .int .i64 yA, .int .i64 hA, .int .i64 miA, .int .i64 sA, .int .i64 z] w3 from
    ⟨by rw [hw3]; exact hs2.below ((Below.refl _ _).alloc (Nat.le_refl _) _), by rw [hw3]; exact heapNew _ _, by rw [hw3]; exact (hb1.trans (hb2.to_below (Nat.le_of_lt hz1) (Nat.le_refl _))).alloc (Nat.le_trans (Nat.le_of_lt hz1) hb2.size) _,
      by rw [hw3]; exact (HG.out.below (hb1.trans (hb2.to_below (Nat.le_of_lt hz1) (Nat.le_refl _)))).below ((Below.refl _ _).alloc (Nat.le_refl _) _), by have := hb2.size; omega, Nat.le_refl _, h7⟩)
  rw [← hw3]
  clear hw3 hs2 hb2 hs1 hG1 hb1 hz1
  obtain ⟨p, hp⟩ : ∃ p, p = w2.heap.size := ⟨_, rfl⟩
  rw [← hp] at HP3 ⊢
  clear hp
  obtain ⟨c1, hc1⟩ : ∃ c1, ckS ⟨k, e⟩ (decide (2000 ≤ y) && decide (y ≤ 2199)) yA 2 = c1 := ⟨_, rfl⟩
  have F1 := Lib.hid (E1.out _ hc1)
  by_cases hy0 : 2000 ≤ y
  case neg =>
    have hcf : ckS ⟨k, e⟩ false yA 2 = c1 := by rw [← hc1, show decide (2000 ≤ y) = false from decide_eq_false hy0]; rfl
    have hce : c1.e ≠ 0 := by rw [← hcf]; exact ckS_no (by decide)
    have HCF := Lib.hid hcf
    clear hc1 hcf
    have hc9 : (c1.e == 0) = false := by rw [beq_eq_false_iff_ne]; exact hce
    have hc8 : (c1.e != 0) = true := by rw [bne_iff_ne]; exact hce
    have p2 := cellAt HP3.out.pt 2
    have p9 := cellAt HP3.out.pt 9
    go_wp2_with fail
    clear p2 p9
    refine (check_C w.heap.size s ⟨k, e⟩ _ _ false _ HP3.out.sc).mono ?_
    rintro r w4 ⟨rfl, hq, hb⟩
    rw [HCF.out] at hq
    have HP4 := Lib.hid (HP3.out.go hq hb)
    clear hq hb
    have y2 := cellAt HP4.out.sc 2
    go_wp2_with fail
    clear y2
    have x1 : ∀ q, (w4.drewN q).cell? ⟨w.heap.size, 1, none⟩ = some (.int .i64 c1.at0) := fun q => cellAt HP4.out.sc 1
    have x2 : ∀ q, (w4.drewN q).cell? ⟨w.heap.size, 2, none⟩ = some (.int .i64 c1.e) := fun q => cellAt HP4.out.sc 2
    go_quiet (fail)
    go_wp2_with fail
    (try simp only [Exit.inBlock, Exit.then])
    refine bodyPost_ret (results_tmp3 rfl _ _ _) rfl ?_
    refine ⟨?_, HP4.out.below.trans ⟨rfl, rfl, rfl, Nat.le_refl _, fun _ _ => rfl⟩⟩
    rw [← XR.out]
    have h64 := HS64.out
    unfold parseF
    rw [if_neg (by omega)]
    rw [if_pos (by rw [F1.out]; exact hce), F1.out]
    rfl
  by_cases hy1 : y ≤ 2199
  case neg =>
    have hcf : ckS ⟨k, e⟩ false yA 2 = c1 := by rw [← hc1, show decide (y ≤ 2199) = false from decide_eq_false hy1, Bool.and_false]
    have hce : c1.e ≠ 0 := by rw [← hcf]; exact ckS_no (by decide)
    have HCF := Lib.hid hcf
    clear hc1 hcf
    have hc9 : (c1.e == 0) = false := by rw [beq_eq_false_iff_ne]; exact hce
    have hc8 : (c1.e != 0) = true := by rw [bne_iff_ne]; exact hce
    have p2 := cellAt HP3.out.pt 2
    have p9 := cellAt HP3.out.pt 9
    go_wp2_with fail
    clear p2 p9
    refine (check_C w.heap.size s ⟨k, e⟩ _ _ false _ HP3.out.sc).mono ?_
    rintro r w4 ⟨rfl, hq, hb⟩
    rw [HCF.out] at hq
    have HP4 := Lib.hid (HP3.out.go hq hb)
    clear hq hb
    have y2 := cellAt HP4.out.sc 2
    go_wp2_with fail
    clear y2
    have x1 : ∀ q, (w4.drewN q).cell? ⟨w.heap.size, 1, none⟩ = some (.int .i64 c1.at0) := fun q => cellAt HP4.out.sc 1
    have x2 : ∀ q, (w4.drewN q).cell? ⟨w.heap.size, 2, none⟩ = some (.int .i64 c1.e) := fun q => cellAt HP4.out.sc 2
    go_quiet (fail)
    go_wp2_with fail
    (try simp only [Exit.inBlock, Exit.then])
    refine bodyPost_ret (results_tmp3 rfl _ _ _) rfl ?_
    refine ⟨?_, HP4.out.below.trans ⟨rfl, rfl, rfl, Nat.le_refl _, fun _ _ => rfl⟩⟩
    rw [← XR.out]
    have h64 := HS64.out
    unfold parseF
    rw [if_neg (by omega)]
    rw [if_pos (by rw [F1.out]; exact hce), F1.out]
    rfl
  have hcf : ckS ⟨k, e⟩ true yA 2 = c1 := by rw [← hc1, show decide (2000 ≤ y) = true from decide_eq_true hy0, show decide (y ≤ 2199) = true from decide_eq_true hy1]; rfl
  have HCF := Lib.hid hcf
  by_cases hce : c1.e = 0
  case neg =>
    clear hc1 hcf
    have hc9 : (c1.e == 0) = false := by rw [beq_eq_false_iff_ne]; exact hce
    have hc8 : (c1.e != 0) = true := by rw [bne_iff_ne]; exact hce
    have p2 := cellAt HP3.out.pt 2
    have p9 := cellAt HP3.out.pt 9
    go_wp2_with fail
    clear p2 p9
    refine (check_C w.heap.size s ⟨k, e⟩ _ _ true _ HP3.out.sc).mono ?_
    rintro r w4 ⟨rfl, hq, hb⟩
    rw [HCF.out] at hq
    have HP4 := Lib.hid (HP3.out.go hq hb)
    clear hq hb
    have y2 := cellAt HP4.out.sc 2
    go_wp2_with fail
    clear y2
    have x1 : ∀ q, (w4.drewN q).cell? ⟨w.heap.size, 1, none⟩ = some (.int .i64 c1.at0) := fun q => cellAt HP4.out.sc 1
    have x2 : ∀ q, (w4.drewN q).cell? ⟨w.heap.size, 2, none⟩ = some (.int .i64 c1.e) := fun q => cellAt HP4.out.sc 2
    go_quiet (fail)
    go_wp2_with fail
    (try simp only [Exit.inBlock, Exit.then])
    refine bodyPost_ret (results_tmp3 rfl _ _ _) rfl ?_
    refine ⟨?_, HP4.out.below.trans ⟨rfl, rfl, rfl, Nat.le_refl _, fun _ _ => rfl⟩⟩
    rw [← XR.out]
    have h64 := HS64.out
    unfold parseF
    rw [if_neg (by omega)]
    rw [if_pos (by rw [F1.out]; exact hce), F1.out]
    rfl
  have he0 : e = 0 := by rw [← hcf, ckS_true] at hce; exact hce
  clear hc1 hcf
  have HCE := Lib.hid hce
  have hc9 : (c1.e == 0) = true := by rw [hce]; rfl
  have hc8 : (c1.e != 0) = false := by rw [hce]; rfl
  clear hce he0
  have p2 := cellAt HP3.out.pt 2
  have p9 := cellAt HP3.out.pt 9
  go_wp2_with fail
  clear p2 p9
  refine (check_C w.heap.size s ⟨k, e⟩ _ _ true _ HP3.out.sc).mono ?_
  rintro r w4 ⟨rfl, hq, hb⟩
  rw [HCF.out] at hq
  have HP4 := Lib.hid (HP3.out.go hq hb)
  clear hq hb
  have y2 := cellAt HP4.out.sc 2
  go_wp2_with fail
  clear y2 hc9 hc8
  obtain ⟨c2, hc2⟩ : ∃ c2, ckS c1 (decide (1 ≤ d) && decide (d ≤ (monthD y.toNat mo.toNat : Nat))) dA 13 = c2 := ⟨_, rfl⟩
  have F2 := Lib.hid (E2.out _ _ F1.out hc2)
  obtain ⟨c3, hc3⟩ : ∃ c3, ckS c2 (decide (h ≤ 23)) hA 13 = c3 := ⟨_, rfl⟩
  have F3 := Lib.hid (E3.out _ _ F2.out hc3)
  obtain ⟨c4, hc4⟩ : ∃ c4, ckS c3 (decide (mi ≤ 59)) miA 13 = c4 := ⟨_, rfl⟩
  have F4 := Lib.hid (E4.out _ _ F3.out hc4)
  obtain ⟨c5, hc5⟩ : ∃ c5, ckS c4 (decide (sec ≤ 60)) sA 13 = c5 := ⟨_, rfl⟩
  have F5 := Lib.hid (E5.out _ _ F4.out hc5)
  have G3 := Lib.hid hc3
  have G4 := Lib.hid hc4
  have G5 := Lib.hid hc5
  clear hc3 hc4 hc5
  have hlp := ltBlock HP4.out.pt
  have x4 : ∀ v : After w4.heap.size w4, v.W.cell? ⟨p, 4, none⟩ = some (.int .i64 d) := fun v => cellAt ((v.below.block _ hlp).trans HP4.out.pt) 4
  have x8 : ∀ v : After w4.heap.size w4, v.W.cell? ⟨p, 8, none⟩ = some (.int .i64 dA) := fun v => cellAt ((v.below.block _ hlp).trans HP4.out.pt) 8
  by_cases hd0 : 1 ≤ d
  case neg =>
    have hcf : ckS c1 false dA 13 = c2 := by rw [← hc2, show decide (1 ≤ d) = false from decide_eq_false hd0]; rfl
    have hce : c5.e ≠ 0 := by
      rw [← G5.out, ← G4.out, ← G3.out, ← hcf]
      exact ckS_err (ckS_err (ckS_err (ckS_no (by decide))))
    have HCF := Lib.hid hcf
    clear hc2 hcf
    have hc9 : (c5.e == 0) = false := by rw [beq_eq_false_iff_ne]; exact hce
    have hc8 : (c5.e != 0) = true := by rw [bne_iff_ne]; exact hce
    refine wp_region_after_tail 20 (by kernel_rfl) (by kernel_rfl) ?_
    simp only [List.take_succ_cons, List.take_zero, List.drop_succ_cons, List.drop_zero]
    iterate 20 (go_big_quiet_step (fail))
    refine wpQuiet_nil ?_
    rintro w5 ⟨⟨_, hbv⟩, rfl⟩
    have HP5 := Lib.hid (HP4.out.go_below hbv)
    clear hbv x4 x8 hlp
    go_wp2_with fail
    refine (check_C w.heap.size s c1 _ _ false _ HP5.out.sc).mono ?_
    rintro r w6 ⟨rfl, hq, hb⟩
    rw [HCF.out] at hq
    have HP6 := Lib.hid (HP5.out.go hq hb)
    clear hq hb
    have p5 := cellAt HP6.out.pt 5
    have p10 := cellAt HP6.out.pt 10
    go_wp2_with fail
    clear p5 p10
    refine (check_C w.heap.size s c2 _ _ _ _ HP6.out.sc).mono ?_
    rintro r w7 ⟨rfl, hq, hb⟩
    rw [G3.out] at hq
    have HP7 := Lib.hid (HP6.out.go hq hb)
    clear hq hb
    have p6 := cellAt HP7.out.pt 6
    have p11 := cellAt HP7.out.pt 11
    go_wp2_with fail
    clear p6 p11
    refine (check_C w.heap.size s c3 _ _ _ _ HP7.out.sc).mono ?_
    rintro r w8 ⟨rfl, hq, hb⟩
    rw [G4.out] at hq
    have HP8 := Lib.hid (HP7.out.go hq hb)
    clear hq hb
    have p7 := cellAt HP8.out.pt 7
    have p12 := cellAt HP8.out.pt 12
    go_wp2_with fail
    clear p7 p12
    refine (check_C w.heap.size s c4 _ _ _ _ HP8.out.sc).mono ?_
    rintro r w9 ⟨rfl, hq, hb⟩
    rw [G5.out] at hq
    have HP9 := Lib.hid (HP8.out.go hq hb)
    clear hq hb
    have y2 := cellAt HP9.out.sc 2
    go_wp2_with fail
    clear y2
    have x1 : ∀ q, (w9.drewN q).cell? ⟨w.heap.size, 1, none⟩ = some (.int .i64 c5.at0) := fun q => cellAt HP9.out.sc 1
    have x2 : ∀ q, (w9.drewN q).cell? ⟨w.heap.size, 2, none⟩ = some (.int .i64 c5.e) := fun q => cellAt HP9.out.sc 2
    go_quiet (fail)
    go_wp2_with fail
    (try simp only [Exit.inBlock, Exit.then])
    refine bodyPost_ret (results_tmp3 rfl _ _ _) rfl ?_
    refine ⟨?_, HP9.out.below.trans ⟨rfl, rfl, rfl, Nat.le_refl _, fun _ _ => rfl⟩⟩
    rw [← XR.out]
    have h64 := HS64.out
    unfold parseF
    rw [if_neg (by omega)]
    rw [if_neg (by rw [F1.out, HCE.out]; simp), if_pos (by rw [F5.out]; exact hce), F5.out]
    rfl
  have hcf : ckS c1 (decide (d ≤ (monthD y.toNat mo.toNat : Nat))) dA 13 = c2 := by rw [← hc2, show decide (1 ≤ d) = true from decide_eq_true hd0]; rfl
  have HCF := Lib.hid hcf
  have x2 : ∀ v : After w4.heap.size w4, v.W.cell? ⟨p, 2, none⟩ = some (.int .i64 y) := fun v => cellAt ((v.below.block _ hlp).trans HP4.out.pt) 2
  have x3 : ∀ v : After w4.heap.size w4, v.W.cell? ⟨p, 3, none⟩ = some (.int .i64 mo) := fun v => cellAt ((v.below.block _ hlp).trans HP4.out.pt) 3
  have o1 : 1 ≤ mo := HOK.out.mo0
  have o2 : mo ≤ 12 := HOK.out.mo1
  have o3 : 0 ≤ y := HOK.out.y0
  have hmd := fun (W : World) => monthDays_s y.toNat mo.toNat (by omega) (by omega) W
  rw [Int.toNat_of_nonneg o3, Int.toNat_of_nonneg (by omega)] at hmd
  clear o1 o2 o3
  obtain ⟨MD, hMD⟩ : ∃ MD, monthD y.toNat mo.toNat = MD := ⟨_, rfl⟩
  simp only [hMD] at hmd HCF
  have HMD := Lib.hid hmd
  clear hc2 hcf hmd hMD
  refine wp_region_after_tail 20 (by kernel_rfl) (by kernel_rfl) ?_
  simp only [List.take_succ_cons, List.take_zero, List.drop_succ_cons, List.drop_zero]
  iterate 20 (go_big_quiet_step ((go_at_call 28; with_reducible exact callBelow _ (HMD.out _))))
  refine wpQuiet_nil ?_
  rintro w5 ⟨⟨_, hbv⟩, rfl⟩
  have HP5 := Lib.hid (HP4.out.go_below hbv)
  clear hbv x4 x8 x2 x3 hlp
  go_wp2_with fail
  refine (check_C w.heap.size s c1 _ _ _ _ HP5.out.sc).mono ?_
  rintro r w6 ⟨rfl, hq, hb⟩
  rw [HCF.out] at hq
  have HP6 := Lib.hid (HP5.out.go hq hb)
  clear hq hb
  have p5 := cellAt HP6.out.pt 5
  have p10 := cellAt HP6.out.pt 10
  go_wp2_with fail
  clear p5 p10
  refine (check_C w.heap.size s c2 _ _ _ _ HP6.out.sc).mono ?_
  rintro r w7 ⟨rfl, hq, hb⟩
  rw [G3.out] at hq
  have HP7 := Lib.hid (HP6.out.go hq hb)
  clear hq hb
  have p6 := cellAt HP7.out.pt 6
  have p11 := cellAt HP7.out.pt 11
  go_wp2_with fail
  clear p6 p11
  refine (check_C w.heap.size s c3 _ _ _ _ HP7.out.sc).mono ?_
  rintro r w8 ⟨rfl, hq, hb⟩
  rw [G4.out] at hq
  have HP8 := Lib.hid (HP7.out.go hq hb)
  clear hq hb
  have p7 := cellAt HP8.out.pt 7
  have p12 := cellAt HP8.out.pt 12
  go_wp2_with fail
  clear p7 p12
  refine (check_C w.heap.size s c4 _ _ _ _ HP8.out.sc).mono ?_
  rintro r w9 ⟨rfl, hq, hb⟩
  rw [G5.out] at hq
  have HP9 := Lib.hid (HP8.out.go hq hb)
  clear hq hb
  by_cases hce : c5.e = 0
  case neg =>
    have hc9 : (c5.e == 0) = false := by rw [beq_eq_false_iff_ne]; exact hce
    have hc8 : (c5.e != 0) = true := by rw [bne_iff_ne]; exact hce
    have y2 := cellAt HP9.out.sc 2
    go_wp2_with fail
    clear y2
    have x1 : ∀ q, (w9.drewN q).cell? ⟨w.heap.size, 1, none⟩ = some (.int .i64 c5.at0) := fun q => cellAt HP9.out.sc 1
    have x2 : ∀ q, (w9.drewN q).cell? ⟨w.heap.size, 2, none⟩ = some (.int .i64 c5.e) := fun q => cellAt HP9.out.sc 2
    go_quiet (fail)
    go_wp2_with fail
    (try simp only [Exit.inBlock, Exit.then])
    refine bodyPost_ret (results_tmp3 rfl _ _ _) rfl ?_
    refine ⟨?_, HP9.out.below.trans ⟨rfl, rfl, rfl, Nat.le_refl _, fun _ _ => rfl⟩⟩
    rw [← XR.out]
    have h64 := HS64.out
    unfold parseF
    rw [if_neg (by omega)]
    rw [if_neg (by rw [F1.out, HCE.out]; simp), if_pos (by rw [F5.out]; exact hce), F5.out]
    rfl
  have hc9 : (c5.e == 0) = true := by rw [hce]; rfl
  have hc8 : (c5.e != 0) = false := by rw [hce]; rfl
  have HC5 := Lib.hid hce
  obtain ⟨hfr, hL9⟩ := H5.out (by rw [F5.out]; exact hce)
  obtain ⟨L, hL⟩ : ∃ L, locS (readS s) = L := ⟨_, rfl⟩
  rw [hL] at hL9
  simp only [hL] at hfr
  have HFR := Lib.hid hfr
  have XL := Lib.hid hL
  clear hce hfr hL
  obtain ⟨WD, hWD⟩ : ∃ WD : Nat, (L / 1440 + 5) % 7 = WD := ⟨_, rfl⟩
  have hwk := weekday_s L hL9
  simp only [hWD] at hwk
  have HWK := Lib.hid hwk
  have HWD := Lib.hid hWD
  clear hwk hWD
  obtain ⟨c6, hc6⟩ : ∃ c6, ckS c5 (!named || decide ((((L / 1440 + 5) % 7 : Nat) : Int) = wd)) 0 13 = c6 := ⟨_, rfl⟩
  have F6 := Lib.hid (E6.out _ _ _ XL.out F5.out hc6)
  rw [HWD.out] at hc6
  have z0 := HOK.out.z0
  have z1 := HOK.out.z1
  have z0' : -1000 ≤ z := z0
  have z1' : z ≤ 1000 := z1
  clear z0 z1
  have hwz : IntKind.i64.wrap ((L : Int) - z) = (L : Int) - z := IntWalk.i64_in _ (by omega)
  obtain ⟨c7, hc7⟩ : ∃ c7, ckS c6 (decide (0 ≤ (L : Int) - z ∧ (L : Int) - z ≤ 105190559)) 0 2 = c7 := ⟨_, rfl⟩
  have F7 := Lib.hid (E7.out _ _ _ XL.out F6.out hc7)
  have hv := valid_s ((L : Int) - z)
  obtain ⟨vb, hvb⟩ : ∃ vb, decide (0 ≤ (L : Int) - z ∧ (L : Int) - z ≤ 105190559) = vb := ⟨_, rfl⟩
  simp only [hvb] at hv
  rw [hvb] at hc7
  have G7 := Lib.hid hc7
  have HV := Lib.hid hv
  clear hc7 hv hvb
  have y2 := cellAt HP9.out.sc 2
  have p2 := cellAt HP9.out.pt 2
  have p3 := cellAt HP9.out.pt 3
  have p4 := cellAt HP9.out.pt 4
  have p5 := cellAt HP9.out.pt 5
  have p6 := cellAt HP9.out.pt 6
  go_wp2_with fail
  refine (HFR.out _).mono ?_
  rintro r w10 ⟨rfl, hb⟩
  have HP10 := Lib.hid (HP9.out.go_below hb)
  clear hb y2 p2 p3 p4 p5 p6 hc9 hc8
  go_wp2_with fail
  refine (HWK.out _).mono ?_
  rintro r w' ⟨rfl, rfl⟩
  cases named
  case false =>
    have G6 := Lib.hid (show ckS c5 true 0 13 = c6 from hc6)
    clear hc6
    have p0 := cellAt HP10.out.pt 0
    go_wp2_with fail
    clear p0
    refine (check_C w.heap.size s c5 _ _ true _ HP10.out.sc).mono ?_
    rintro r w11 ⟨rfl, hq, hb⟩
    rw [G6.out] at hq
    have HP11 := Lib.hid (HP10.out.go hq hb)
    clear hq hb
    have p13 := cellAt HP11.out.pt 13
    go_wp2_with fail
    refine (HV.out _).mono ?_
    rintro r w' ⟨rfl, rfl⟩
    clear p13
    go_wp2_with fail
    refine (check_C w.heap.size s c6 _ _ _ _ HP11.out.sc).mono ?_
    rintro r w12 ⟨rfl, hq, hb⟩
    rw [G7.out] at hq
    have HP12 := Lib.hid (HP11.out.go hq hb)
    clear hq hb
    by_cases hce : c7.e = 0
    case neg =>
      have hc9 : (c7.e == 0) = false := by rw [beq_eq_false_iff_ne]; exact hce
      have hc8 : (c7.e != 0) = true := by rw [bne_iff_ne]; exact hce
      have y2 := cellAt HP12.out.sc 2
      go_wp2_with fail
      clear y2
      have x1 : ∀ q, (w12.drewN q).cell? ⟨w.heap.size, 1, none⟩ = some (.int .i64 c7.at0) := fun q => cellAt HP12.out.sc 1
      have x2 : ∀ q, (w12.drewN q).cell? ⟨w.heap.size, 2, none⟩ = some (.int .i64 c7.e) := fun q => cellAt HP12.out.sc 2
      go_quiet (fail)
      go_wp2_with fail
      (try simp only [Exit.inBlock, Exit.then])
      refine bodyPost_ret (results_tmp3 rfl _ _ _) rfl ?_
      refine ⟨?_, HP12.out.below.trans ⟨rfl, rfl, rfl, Nat.le_refl _, fun _ _ => rfl⟩⟩
      rw [← XR.out]
      have h64 := HS64.out
      unfold parseF
      rw [if_neg (by omega)]
      rw [if_neg (by rw [F1.out, HCE.out]; simp), if_neg (by rw [F5.out, HC5.out]; simp), if_pos (by rw [F7.out]; exact hce), F7.out]
      rfl
    have hc9 : (c7.e == 0) = true := by rw [hce]; rfl
    have hc8 : (c7.e != 0) = false := by rw [hce]; rfl
    have y2 := cellAt HP12.out.sc 2
    have p13 := cellAt HP12.out.pt 13
    have HC7 := Lib.hid hce
    clear hce
    go_wp2_with fail
    (try simp only [Exit.inBlock, Exit.then])
    refine bodyPost_ret (results_tmp3 rfl _ _ _) rfl ?_
    refine ⟨?_, HP12.out.below⟩
    rw [← XR.out]
    have h64 := HS64.out
    unfold parseF
    rw [if_neg (by omega), if_neg (by rw [F1.out, HCE.out]; simp), if_neg (by rw [F5.out, HC5.out]; simp), if_neg (by rw [F7.out, HC7.out]; simp), XL.out, HZZ.out]
    rfl
  case true =>
    have G6 := Lib.hid (show ckS c5 ((WD : Int) == wd) 0 13 = c6 by rw [← hc6]; congr 1)
    clear hc6
    have p0 := cellAt HP10.out.pt 0
    have p1 := cellAt HP10.out.pt 1
    go_wp2_with fail
    clear p0 p1
    refine (check_C w.heap.size s c5 _ _ _ _ HP10.out.sc).mono ?_
    rintro r w11 ⟨rfl, hq, hb⟩
    rw [G6.out] at hq
    have HP11 := Lib.hid (HP10.out.go hq hb)
    clear hq hb
    have p13 := cellAt HP11.out.pt 13
    go_wp2_with fail
    refine (HV.out _).mono ?_
    rintro r w' ⟨rfl, rfl⟩
    clear p13
    go_wp2_with fail
    refine (check_C w.heap.size s c6 _ _ _ _ HP11.out.sc).mono ?_
    rintro r w12 ⟨rfl, hq, hb⟩
    rw [G7.out] at hq
    have HP12 := Lib.hid (HP11.out.go hq hb)
    clear hq hb
    by_cases hce : c7.e = 0
    case neg =>
      have hc9 : (c7.e == 0) = false := by rw [beq_eq_false_iff_ne]; exact hce
      have hc8 : (c7.e != 0) = true := by rw [bne_iff_ne]; exact hce
      have y2 := cellAt HP12.out.sc 2
      go_wp2_with fail
      clear y2
      have x1 : ∀ q, (w12.drewN q).cell? ⟨w.heap.size, 1, none⟩ = some (.int .i64 c7.at0) := fun q => cellAt HP12.out.sc 1
      have x2 : ∀ q, (w12.drewN q).cell? ⟨w.heap.size, 2, none⟩ = some (.int .i64 c7.e) := fun q => cellAt HP12.out.sc 2
      go_quiet (fail)
      go_wp2_with fail
      (try simp only [Exit.inBlock, Exit.then])
      refine bodyPost_ret (results_tmp3 rfl _ _ _) rfl ?_
      refine ⟨?_, HP12.out.below.trans ⟨rfl, rfl, rfl, Nat.le_refl _, fun _ _ => rfl⟩⟩
      rw [← XR.out]
      have h64 := HS64.out
      unfold parseF
      rw [if_neg (by omega)]
      rw [if_neg (by rw [F1.out, HCE.out]; simp), if_neg (by rw [F5.out, HC5.out]; simp), if_pos (by rw [F7.out]; exact hce), F7.out]
      rfl
    have hc9 : (c7.e == 0) = true := by rw [hce]; rfl
    have hc8 : (c7.e != 0) = false := by rw [hce]; rfl
    have y2 := cellAt HP12.out.sc 2
    have p13 := cellAt HP12.out.pt 13
    have HC7 := Lib.hid hce
    clear hce
    go_wp2_with fail
    (try simp only [Exit.inBlock, Exit.then])
    refine bodyPost_ret (results_tmp3 rfl _ _ _) rfl ?_
    refine ⟨?_, HP12.out.below⟩
    rw [← XR.out]
    have h64 := HS64.out
    unfold parseF
    rw [if_neg (by omega), if_neg (by rw [F1.out, HCE.out]; simp), if_neg (by rw [F5.out, HC5.out]; simp), if_neg (by rw [F7.out, HC7.out]; simp), XL.out, HZZ.out]
    rfl
theorem parse_g (s : ByteArray) (hs : s.size ≤ 1000000) (w : World) (hg : Gd w) (hcv : Go.Lib.CaseVar 2 Go.Lib.caseA w) :
    Calls Tryd.prog 20 #[.string s] w fun r w' => r = .returned (prV (parseF s)) ∧ Below w.heap.size w w' := by
  by_cases h : 64 < s.size
  · have : parseF s = ⟨0, 64, 5⟩ := by unfold parseF; rw [if_pos h]
    rw [this]
    exact (parse_long s h w).mono fun r w' ⟨h1, h2⟩ => ⟨h1, h2 ▸ Below.refl _ _⟩
  · exact parse_w s (by omega) w hg hcv (readS s).named (readS s).wd (readS s).y (readS s).mo (readS s).d (readS s).h (readS s).mi (readS s).sec (readS s).dA (readS s).yA (readS s).hA (readS s).miA (readS s).sA (readS s).z (readS s).k (readS s).e rfl
end Go.Proofs.YtiijngjhhcjiaaaDoor
