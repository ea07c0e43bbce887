/-
  The reference's FormatZone; the law DateFormat, walked.
-/
import Derived.Test.YtiijngjhhcjiaaaDoorDbJ
import Derived.Test.YtiijngjhhcjiaaaDoorFct
import Derived.Test.YtiijngjhhcjiaaaDoorDbB
import Derived.Deep.CutRange
set_option linter.unusedSimpArgs false
set_option linter.unusedVariables false
set_option linter.unnecessarySimpa false
namespace Go.Proofs.YtiijngjhhcjiaaaDoor
open Go.RowKit Go.Bul
theorem strs_of {w : World} {g : Nat} {xs : List ByteArray} {cs : Array Value} {t : TypeId} {fr : Nat × Nat} (h : w.heap[g]? = some (.cells cs t fr)) (hc : ∀ j (hj : j < xs.length), cs[j]? = some (.string xs[j])) : Strs w g xs :=
  ⟨ltBlock h, fun j hj => (cellAt h j).trans (hc j hj)⟩
theorem refDayNames_s (w : World) : Calls Tryd.prog 31 #[] w fun e w' => e = .returned (.slice (some ⟨w.heap.size, 0, none⟩) 7 7) ∧ Strs w' w.heap.size dayB ∧ Below w.heap.size w w' := by
  go_enter Tryd.func31, Tryd.ntmps31
  go_wp2_with fail
  go_ret
  exact ⟨rfl, strs_of (heapNew _ _) (fun j hj => by
    have h12 : j < 7 := hj
    obtain rfl | rfl | rfl | rfl | rfl | rfl | rfl : j = 0 ∨ j = 1 ∨ j = 2 ∨ j = 3 ∨ j = 4 ∨ j = 5 ∨ j = 6 := by omega
    all_goals rfl), (Below.refl _ _).alloc (Nat.le_refl _) _⟩
theorem refMonthNames_s (w : World) : Calls Tryd.prog 33 #[] w fun e w' => e = .returned (.slice (some ⟨w.heap.size, 0, none⟩) 12 12) ∧ Strs w' w.heap.size monB ∧ Below w.heap.size w w' := by
  go_enter Tryd.func33, Tryd.ntmps33
  go_wp2_with fail
  go_ret
  exact ⟨rfl, strs_of (heapNew _ _) (fun j hj => by
    have h12 : j < 12 := hj
    obtain rfl | rfl | rfl | rfl | rfl | rfl | rfl | rfl | rfl | rfl | rfl | rfl : j = 0 ∨ j = 1 ∨ j = 2 ∨ j = 3 ∨ j = 4 ∨ j = 5 ∨ j = 6 ∨ j = 7 ∨ j = 8 ∨ j = 9 ∨ j = 10 ∨ j = 11 := by omega
    all_goals rfl), (Below.refl _ _).alloc (Nat.le_refl _) _⟩

structure FzP where
  n : Int
  o : Int
  t : Nat
  wd : Nat
  m1 : Nat
  c : Civ
  sz : Nat
  q : Nat
  D : ByteArray
  DD : ByteArray
  MM : ByteArray
  YY : ByteArray
  HH : ByteArray
  II : ByteArray
  SG : ByteArray
  QQ : ByteArray
  s47 : ByteArray
  s51 : ByteArray
  s52 : ByteArray
  s59 : ByteArray
  s60 : ByteArray
  s64 : ByteArray
  s65 : ByteArray
  s69 : ByteArray
  s70 : ByteArray
  s74 : ByteArray
  s75 : ByteArray
  s77 : ByteArray
  s85 : ByteArray

def fzFact (p : FzP) (b : Nat) : Nat → World → Value → Prop
  | 0 => fun W v => ∃ g, v = .slice (some ⟨g, 0, none⟩) 7 7 ∧ Strs W g dayB
  | 1 => fun _ v => v = .int .i64 p.n
  | 2 => fun _ v => v = .int .i64 p.o
  | 3 => fun _ v => v = .int .i64 p.t
  | 4 => fun _ v => v = .int .i64 p.wd
  | 5 => fun W v => ∃ g, v = .pointer (some ⟨g, p.wd, none⟩) ∧ Strs W g dayB
  | 6 => fun _ v => v = .string p.D
  | 7 => fun _ v => v = .string p.s47
  | 8 => fun _ v => v = .pointer (some ⟨b, 2, none⟩)
  | 9 => fun _ v => v = .int .i64 p.c.d
  | 10 => fun _ v => v = .string p.DD
  | 11 => fun _ v => v = .string p.s51
  | 12 => fun _ v => v = .string p.s52
  | 13 => fun W v => ∃ g, v = .slice (some ⟨g, 0, none⟩) 12 12 ∧ Strs W g monB
  | 14 => fun _ v => v = .pointer (some ⟨b, 1, none⟩)
  | 15 => fun _ v => v = .int .i64 p.c.m
  | 16 => fun _ v => v = .int .i64 p.m1
  | 17 => fun W v => ∃ g, v = .pointer (some ⟨g, p.m1, none⟩) ∧ Strs W g monB
  | 18 => fun _ v => v = .string p.MM
  | 19 => fun _ v => v = .string p.s59
  | 20 => fun _ v => v = .string p.s60
  | 21 => fun _ v => v = .pointer (some ⟨b, 0, none⟩)
  | 22 => fun _ v => v = .int .i64 p.c.y
  | 23 => fun _ v => v = .string p.YY
  | 24 => fun _ v => v = .string p.s64
  | 25 => fun _ v => v = .string p.s65
  | 26 => fun _ v => v = .pointer (some ⟨b, 3, none⟩)
  | 27 => fun _ v => v = .int .i64 p.c.h
  | 28 => fun _ v => v = .string p.HH
  | 29 => fun _ v => v = .string p.s69
  | 30 => fun _ v => v = .string p.s70
  | 31 => fun _ v => v = .pointer (some ⟨b, 4, none⟩)
  | 32 => fun _ v => v = .int .i64 p.c.mi
  | 33 => fun _ v => v = .string p.II
  | 34 => fun _ v => v = .string p.s74
  | 35 => fun _ v => v = .string p.s75
  | 36 => fun _ v => v = .string p.SG
  | 37 => fun _ v => v = .string p.s77
  | 38 => fun _ v => v = .int .i64 p.sz
  | 39 => fun _ v => v = .int .i64 ((p.sz : Int) / 60)
  | 40 => fun _ v => v = .int .i64 ((p.sz : Int) / 60 * 100)
  | 41 => fun _ v => v = .int .i64 p.sz
  | 42 => fun _ v => v = .int .i64 ((p.sz : Int) % 60)
  | 43 => fun _ v => v = .int .i64 p.q
  | 44 => fun _ v => v = .string p.QQ
  | 45 => fun _ v => v = .string p.s85
  | 46 => fun _ v => v = .string p.s85
  | 47 => fun _ v => v = .int .i64 0
  | _ => fun _ _ => True
theorem fzFact_mono (p : FzP) (b : Nat) : ∀ i W W' v, fzFact p b i W v → Below W.heap.size W W' → fzFact p b i W' v := by
  intro i W W' v h hb
  rcases i with _ | _ | _ | _ | _ | _ | _ | _ | _ | _ | _ | _ | _ | _ | _ | _ | _ | _ | _ | _ | _ | _ | _ | _ | _ | _ | _ | _ | _ | _ | _ | _ | _ | _ | _ | _ | _ | _ | _ | _ | _ | _ | _ | _ | _ | _ | _ | _ | i
  · obtain ⟨g, h1, h2⟩ := h
    exact ⟨g, h1, h2.below hb⟩
  · exact h
  · exact h
  · exact h
  · exact h
  · obtain ⟨g, h1, h2⟩ := h
    exact ⟨g, h1, h2.below hb⟩
  · exact h
  · exact h
  · exact h
  · exact h
  · exact h
  · exact h
  · exact h
  · obtain ⟨g, h1, h2⟩ := h
    exact ⟨g, h1, h2.below hb⟩
  · exact h
  · exact h
  · exact h
  · obtain ⟨g, h1, h2⟩ := h
    exact ⟨g, h1, h2.below hb⟩
  · exact h
  · exact h
  · exact h
  · exact h
  · exact h
  · exact h
  · exact h
  · exact h
  · exact h
  · exact h
  · exact h
  · exact h
  · exact h
  · exact h
  · exact h
  · exact h
  · exact h
  · exact h
  · exact h
  · exact h
  · exact h
  · exact h
  · exact h
  · exact h
  · exact h
  · exact h
  · exact h
  · exact h
  · exact h
  · exact h
  · trivial
structure FzOk (p : FzP) : Prop where
  wrap : IntKind.i64.wrap (p.n + p.o) = p.t
  m1 : IntKind.i64.wrap ((p.c.m : Int) - 1) = p.m1
  m12 : p.m1 < 12
  wd : (p.t / 1440 + 5) % 7 = p.wd
  wd7 : p.wd < 7
  t9 : p.t ≤ 105190559
  sz : p.sz ≤ 840
  q : (p.sz : Int) / 60 * 100 + (p.sz : Int) % 60 = p.q
  q9 : p.q < 10000
  D : dayB[p.wd]? = some p.D
  MM : monB[p.m1]? = some p.MM
  DD : (⟨(dg2 p.c.d).toArray⟩ : ByteArray) = p.DD
  YY : (⟨(dg4 p.c.y).toArray⟩ : ByteArray) = p.YY
  HH : (⟨(dg2 p.c.h).toArray⟩ : ByteArray) = p.HH
  II : (⟨(dg2 p.c.mi).toArray⟩ : ByteArray) = p.II
  QQ : (⟨(dg4 p.q).toArray⟩ : ByteArray) = p.QQ
  d9 : p.c.d < 100
  y9 : p.c.y < 10000
  h9 : p.c.h < 100
  i9 : p.c.mi < 100
  r47 : ∀ w : World, (Op.stringOp .add p.D (⟨#[44, 32]⟩ : ByteArray)).run Tryd.prog w = .ok (.string p.s47) w
  r51 : ∀ w : World, (Op.stringOp .add p.s47 p.DD).run Tryd.prog w = .ok (.string p.s51) w
  r52 : ∀ w : World, (Op.stringOp .add p.s51 (⟨#[32]⟩ : ByteArray)).run Tryd.prog w = .ok (.string p.s52) w
  r59 : ∀ w : World, (Op.stringOp .add p.s52 p.MM).run Tryd.prog w = .ok (.string p.s59) w
  r60 : ∀ w : World, (Op.stringOp .add p.s59 (⟨#[32]⟩ : ByteArray)).run Tryd.prog w = .ok (.string p.s60) w
  r64 : ∀ w : World, (Op.stringOp .add p.s60 p.YY).run Tryd.prog w = .ok (.string p.s64) w
  r65 : ∀ w : World, (Op.stringOp .add p.s64 (⟨#[32]⟩ : ByteArray)).run Tryd.prog w = .ok (.string p.s65) w
  r69 : ∀ w : World, (Op.stringOp .add p.s65 p.HH).run Tryd.prog w = .ok (.string p.s69) w
  r70 : ∀ w : World, (Op.stringOp .add p.s69 (⟨#[58]⟩ : ByteArray)).run Tryd.prog w = .ok (.string p.s70) w
  r74 : ∀ w : World, (Op.stringOp .add p.s70 p.II).run Tryd.prog w = .ok (.string p.s74) w
  r75 : ∀ w : World, (Op.stringOp .add p.s74 (⟨#[32]⟩ : ByteArray)).run Tryd.prog w = .ok (.string p.s75) w
  r77 : ∀ w : World, (Op.stringOp .add p.s75 p.SG).run Tryd.prog w = .ok (.string p.s77) w
  r85 : ∀ w : World, (Op.stringOp .add p.s77 p.QQ).run Tryd.prog w = .ok (.string p.s85) w
set_option maxRecDepth 100000 in
set_option maxHeartbeats 16000000 in
theorem refFz_run (p : FzP) (w : World) (ho : FzOk p) (hcv : civOf p.t = p.c) (n0 : 0 ≤ p.n) (n1 : p.n ≤ 105190559) (o0 : -840 ≤ p.o) (o1 : p.o ≤ 840)
    (hneg : p.o < 0 → p.SG = ⟨#[45]⟩ ∧ -p.o = p.sz) (hpos : 0 ≤ p.o → p.SG = ⟨#[43]⟩ ∧ p.o = p.sz) :
    Calls Tryd.prog 17 #[.int .i64 p.n, .int .i64 p.o] w fun e w' => e = .returned (.tuple #[.string p.s85, .int .i64 0]) ∧ Below w.heap.size w w' := by
  have HO := Lib.hid ho
  have hv1 := refValid_s p.n
  rw [decide_eq_true (show 0 ≤ p.n ∧ p.n ≤ 105190559 from ⟨n0, n1⟩)] at hv1
  have hv2 := refValid_s p.t
  rw [decide_eq_true (show (0 : Int) ≤ p.t ∧ (p.t : Int) ≤ 105190559 by have := ho.t9; omega)] at hv2
  have htc := refToCivil_s p.t ho.t9
  rw [hcv] at htc
  have V1 := Lib.hid hv1
  have V2 := Lib.hid hv2
  have HT := Lib.hid htc
  have HN := Lib.hid hneg
  have HP := Lib.hid hpos
  have a1 : ¬ p.o < -840 := by omega
  have a2 : ¬ 840 < p.o := by omega
  have hwr := ho.wrap
  clear ho hcv hv1 hv2 htc hneg hpos
  go_enter Tryd.func17, Tryd.ntmps17
  go_wp2_with fail
  refine (V1.out w).mono ?_
  rintro r w' ⟨rfl, rfl⟩
  go_wp2_with fail
  refine (V2.out w).mono ?_
  rintro r w' ⟨rfl, rfl⟩
  go_wp2_with fail
  refine (HT.out w).mono ?_
  rintro r w1 ⟨rfl, b1⟩
  have HB1 := Lib.hid b1
  clear b1
  simp only [civCells]
  go_upto_region 4 with fail
  obtain ⟨w2, hw2⟩ : ∃ w2, w2 = w1.alloc (.cells #[.int .i64 p.c.y, .int .i64 p.c.m, .int .i64 p.c.d, .int .i64 p.c.h, .int .i64 p.c.mi] 28) := ⟨_, rfl⟩
  have HLT := Lib.hid (show w1.heap.size < w2.heap.size by rw [hw2, sizeA]; omega)
  have HZ := Lib.hid (show w2.heap[w1.heap.size]? = some (.cells #[.int .i64 p.c.y, .int .i64 p.c.m, .int .i64 p.c.d, .int .i64 p.c.h, .int .i64 p.c.mi] 28 (0, 0)) by rw [hw2]; exact heapNew _ _)
  have HB2 := Lib.hid (show Below w.heap.size w w2 by rw [hw2]; exact HB1.out.alloc HB1.out.size _)
  rw [← hw2]
  clear hw2 hwr
  obtain ⟨b, hb⟩ : ∃ b, b = w1.heap.size := ⟨_, rfl⟩
  rw [← hb] at HZ HLT ⊢
  clear hb
  go_upto_if 37 with fail
  go_cut [8, 9] from 38 to 39 (fun v8 v9 wx => v8 = .string p.SG ∧ v9 = .int .i64 p.sz ∧ w2 = wx)
  case first =>
    by_cases h0 : p.o < 0
    · obtain ⟨g1, g2⟩ := HN.out h0
      have g3 := HO.out.sz
      have hwn : IntKind.i64.wrap (-p.o) = p.sz := by rw [g2]; exact IntWalk.i64_in _ (by omega)
      have G1 := Lib.hid g1
      clear g1 g2 g3
      go_wp2_with fail
      go_meet
      exact ⟨by rw [G1.out], rfl, rfl⟩
    · obtain ⟨g1, g2⟩ := HP.out (by omega)
      have G1 := Lib.hid g1
      have G2 := Lib.hid g2
      clear g1 g2
      go_wp2_with fail
      go_meet
      exact ⟨by rw [G1.out], by rw [G2.out], rfl⟩
  case rest =>
    obtain ⟨rfl, rfl, rfl⟩ := hcut
    go_wp2_with fail
    refine wp_region_facts (Good := fun W => Below w2.heap.size w2 W) (Le := fun W W' => Below W.heap.size W W') (Fact := fzFact p b) (by kernel_rfl) (by kernel_rfl) ⟨rfl, rfl, rfl, Nat.le_refl _, fun _ _ => rfl⟩ (fun W => Below.refl _ _) (fzFact_mono p b) ?step ?done
    case step =>
      rintro i o d ho hd a' W hW hfree hdeps K hK
      have HK := Lib.hid hK
      clear hK
      rcases i with _ | _ | _ | _ | _ | _ | _ | _ | _ | _ | _ | _ | _ | _ | _ | _ | _ | _ | _ | _ | _ | _ | _ | _ | _ | _ | _ | _ | _ | _ | _ | _ | _ | _ | _ | _ | _ | _ | _ | _ | _ | _ | _ | _ | _ | _ | _ | _ | i
      · simp only [List.getElem?_toArray, List.getElem?_cons_succ, List.getElem?_cons_zero, Option.some.injEq] at ho
        subst ho
        obtain rfl := Option.some.inj hd
        clear hd hfree hdeps
        rw [if_pos (by rfl)]
        go_wp2_with fail
        refine (refDayNames_s W).mono ?_
        rintro r W' ⟨rfl, hs, hb⟩
        exact HK.out _ W' (hW.trans (hb.mono hW.size)) hb ⟨_, rfl, hs⟩
      · simp only [List.getElem?_toArray, List.getElem?_cons_succ, List.getElem?_cons_zero, Option.some.injEq] at ho
        subst ho
        obtain rfl := Option.some.inj hd
        have e0 : a'.tmps.getD 0 undef = .int .i64 p.n := hfree 0 (by kernel_rfl)
        clear hd hfree hdeps
        rw [if_pos (by rfl)]
        go_simp
        exact HK.out _ W hW (Below.refl _ _) rfl
      · simp only [List.getElem?_toArray, List.getElem?_cons_succ, List.getElem?_cons_zero, Option.some.injEq] at ho
        subst ho
        obtain rfl := Option.some.inj hd
        have e1 : a'.tmps.getD 1 undef = .int .i64 p.o := hfree 1 (by kernel_rfl)
        clear hd hfree hdeps
        rw [if_pos (by rfl)]
        go_simp
        exact HK.out _ W hW (Below.refl _ _) rfl
      · simp only [List.getElem?_toArray, List.getElem?_cons_succ, List.getElem?_cons_zero, Option.some.injEq] at ho
        subst ho
        obtain rfl := Option.some.inj hd
        have e41 : a'.tmps.getD 41 undef = .int .i64 p.n := hdeps 1 .data (by simp) rfl 41 rfl
        have e42 : a'.tmps.getD 42 undef = .int .i64 p.o := hdeps 2 .data (by simp) rfl 42 rfl
        clear hd hfree hdeps
        have hwr := HO.out.wrap
        rw [if_pos (by rfl)]
        go_simp
        exact HK.out _ W hW (Below.refl _ _) rfl
      · simp only [List.getElem?_toArray, List.getElem?_cons_succ, List.getElem?_cons_zero, Option.some.injEq] at ho
        subst ho
        obtain rfl := Option.some.inj hd
        have e43 : a'.tmps.getD 43 undef = .int .i64 p.t := hdeps 3 .data (by simp) rfl 43 rfl
        clear hd hfree hdeps
        rw [if_pos (by rfl)]
        go_wp2_with fail
        have hwk := refWeekday_s p.t HO.out.t9 W
        rw [HO.out.wd] at hwk
        refine hwk.mono ?_
        rintro r W' ⟨rfl, rfl⟩
        exact HK.out _ W hW (Below.refl _ _) rfl
      · simp only [List.getElem?_toArray, List.getElem?_cons_succ, List.getElem?_cons_zero, Option.some.injEq] at ho
        subst ho
        obtain rfl := Option.some.inj hd
        obtain ⟨g, hg, hS⟩ : ∃ g, a'.tmps.getD 40 undef = .slice (some ⟨g, 0, none⟩) 7 7 ∧ Strs W g dayB := hdeps 0 .data (by simp) rfl 40 rfl
        have e40 : a'.tmps.getD 40 undef = .slice (some ⟨g, 0, none⟩) 7 7 := hg
        have e44 : a'.tmps.getD 44 undef = .int .i64 p.wd := hdeps 4 .data (by simp) rfl 44 rfl
        clear hd hfree hdeps
        have i0 := HO.out.wd7
        have i1 : (p.wd : Int) < 7 := by omega
        have i2 : (0 : Int) ≤ (p.wd : Int) := by omega
        clear hg
        rw [if_pos (by rfl)]
        go_simp
        exact HK.out _ W hW (Below.refl _ _) ⟨g, rfl, hS⟩
      · simp only [List.getElem?_toArray, List.getElem?_cons_succ, List.getElem?_cons_zero, Option.some.injEq] at ho
        subst ho
        obtain rfl := Option.some.inj hd
        obtain ⟨g, hg, hS⟩ : ∃ g, a'.tmps.getD 45 undef = .pointer (some ⟨g, p.wd, none⟩) ∧ Strs W g dayB := hdeps 5 .data (by simp) rfl 45 rfl
        have e45 : a'.tmps.getD 45 undef = .pointer (some ⟨g, p.wd, none⟩) := hg
        clear hd hfree hdeps
        have hc := hS.cell p.wd HO.out.wd7
        rw [show dayB[p.wd]'(HO.out.wd7) = p.D from Option.some.inj ((List.getElem?_eq_getElem _).symm.trans HO.out.D)] at hc
        clear hg
        rw [if_pos (by rfl)]
        go_simp
        exact HK.out _ W hW (Below.refl _ _) rfl
      · simp only [List.getElem?_toArray, List.getElem?_cons_succ, List.getElem?_cons_zero, Option.some.injEq] at ho
        subst ho
        obtain rfl := Option.some.inj hd
        have e46 : a'.tmps.getD 46 undef = .string p.D := hdeps 6 .data (by simp) rfl 46 rfl
        clear hd hfree hdeps
        have ra := HO.out.r47
        rw [if_pos (by rfl)]
        go_simp
        exact HK.out _ W hW (Below.refl _ _) rfl
      · simp only [List.getElem?_toArray, List.getElem?_cons_succ, List.getElem?_cons_zero, Option.some.injEq] at ho
        subst ho
        obtain rfl := Option.some.inj hd
        have e6 : a'.tmps.getD 6 undef = .pointer (some ⟨b, 0, none⟩) := hfree 6 (by kernel_rfl)
        clear hd hfree hdeps
        rw [if_pos (by rfl)]
        go_simp
        exact HK.out _ W hW (Below.refl _ _) rfl
      · simp only [List.getElem?_toArray, List.getElem?_cons_succ, List.getElem?_cons_zero, Option.some.injEq] at ho
        subst ho
        obtain rfl := Option.some.inj hd
        have e48 : a'.tmps.getD 48 undef = .pointer (some ⟨b, 2, none⟩) := hdeps 8 .data (by simp) rfl 48 rfl
        clear hd hfree hdeps
        have hc := cellAt ((hW.block _ HLT.out).trans HZ.out) 2
        rw [if_pos (by rfl)]
        go_simp
        exact HK.out _ W hW (Below.refl _ _) rfl
      · simp only [List.getElem?_toArray, List.getElem?_cons_succ, List.getElem?_cons_zero, Option.some.injEq] at ho
        subst ho
        obtain rfl := Option.some.inj hd
        have e49 : a'.tmps.getD 49 undef = .int .i64 p.c.d := hdeps 9 .data (by simp) rfl 49 rfl
        clear hd hfree hdeps
        rw [if_pos (by rfl)]
        go_wp2_with fail
        refine (digL2_c (n := p.c.d) HO.out.d9 W).mono ?_
        rintro r W' ⟨rfl, hb⟩
        exact HK.out _ W' (hW.trans (hb.mono hW.size)) hb (congrArg Value.string HO.out.DD)
      · simp only [List.getElem?_toArray, List.getElem?_cons_succ, List.getElem?_cons_zero, Option.some.injEq] at ho
        subst ho
        obtain rfl := Option.some.inj hd
        have e47 : a'.tmps.getD 47 undef = .string p.s47 := hdeps 7 .data (by simp) rfl 47 rfl
        have e50 : a'.tmps.getD 50 undef = .string p.DD := hdeps 10 .data (by simp) rfl 50 rfl
        clear hd hfree hdeps
        have ra := HO.out.r51
        rw [if_pos (by rfl)]
        go_simp
        exact HK.out _ W hW (Below.refl _ _) rfl
      · simp only [List.getElem?_toArray, List.getElem?_cons_succ, List.getElem?_cons_zero, Option.some.injEq] at ho
        subst ho
        obtain rfl := Option.some.inj hd
        have e51 : a'.tmps.getD 51 undef = .string p.s51 := hdeps 11 .data (by simp) rfl 51 rfl
        clear hd hfree hdeps
        have ra := HO.out.r52
        rw [if_pos (by rfl)]
        go_simp
        exact HK.out _ W hW (Below.refl _ _) rfl
      · simp only [List.getElem?_toArray, List.getElem?_cons_succ, List.getElem?_cons_zero, Option.some.injEq] at ho
        subst ho
        obtain rfl := Option.some.inj hd
        clear hd hfree hdeps
        rw [if_pos (by rfl)]
        go_wp2_with fail
        refine (refMonthNames_s W).mono ?_
        rintro r W' ⟨rfl, hs, hb⟩
        exact HK.out _ W' (hW.trans (hb.mono hW.size)) hb ⟨_, rfl, hs⟩
      · simp only [List.getElem?_toArray, List.getElem?_cons_succ, List.getElem?_cons_zero, Option.some.injEq] at ho
        subst ho
        obtain rfl := Option.some.inj hd
        have e6 : a'.tmps.getD 6 undef = .pointer (some ⟨b, 0, none⟩) := hfree 6 (by kernel_rfl)
        clear hd hfree hdeps
        rw [if_pos (by rfl)]
        go_simp
        exact HK.out _ W hW (Below.refl _ _) rfl
      · simp only [List.getElem?_toArray, List.getElem?_cons_succ, List.getElem?_cons_zero, Option.some.injEq] at ho
        subst ho
        obtain rfl := Option.some.inj hd
        have e54 : a'.tmps.getD 54 undef = .pointer (some ⟨b, 1, none⟩) := hdeps 14 .data (by simp) rfl 54 rfl
        clear hd hfree hdeps
        have hc := cellAt ((hW.block _ HLT.out).trans HZ.out) 1
        rw [if_pos (by rfl)]
        go_simp
        exact HK.out _ W hW (Below.refl _ _) rfl
      · simp only [List.getElem?_toArray, List.getElem?_cons_succ, List.getElem?_cons_zero, Option.some.injEq] at ho
        subst ho
        obtain rfl := Option.some.inj hd
        have e55 : a'.tmps.getD 55 undef = .int .i64 p.c.m := hdeps 15 .data (by simp) rfl 55 rfl
        clear hd hfree hdeps
        have hwr := HO.out.m1
        rw [if_pos (by rfl)]
        go_simp
        exact HK.out _ W hW (Below.refl _ _) rfl
      · simp only [List.getElem?_toArray, List.getElem?_cons_succ, List.getElem?_cons_zero, Option.some.injEq] at ho
        subst ho
        obtain rfl := Option.some.inj hd
        obtain ⟨g, hg, hS⟩ : ∃ g, a'.tmps.getD 53 undef = .slice (some ⟨g, 0, none⟩) 12 12 ∧ Strs W g monB := hdeps 13 .data (by simp) rfl 53 rfl
        have e53 : a'.tmps.getD 53 undef = .slice (some ⟨g, 0, none⟩) 12 12 := hg
        have e56 : a'.tmps.getD 56 undef = .int .i64 p.m1 := hdeps 16 .data (by simp) rfl 56 rfl
        clear hd hfree hdeps
        have i0 := HO.out.m12
        have i1 : (p.m1 : Int) < 12 := by omega
        have i2 : (0 : Int) ≤ (p.m1 : Int) := by omega
        clear hg
        rw [if_pos (by rfl)]
        go_simp
        exact HK.out _ W hW (Below.refl _ _) ⟨g, rfl, hS⟩
      · simp only [List.getElem?_toArray, List.getElem?_cons_succ, List.getElem?_cons_zero, Option.some.injEq] at ho
        subst ho
        obtain rfl := Option.some.inj hd
        obtain ⟨g, hg, hS⟩ : ∃ g, a'.tmps.getD 57 undef = .pointer (some ⟨g, p.m1, none⟩) ∧ Strs W g monB := hdeps 17 .data (by simp) rfl 57 rfl
        have e57 : a'.tmps.getD 57 undef = .pointer (some ⟨g, p.m1, none⟩) := hg
        clear hd hfree hdeps
        have hc := hS.cell p.m1 HO.out.m12
        rw [show monB[p.m1]'(HO.out.m12) = p.MM from Option.some.inj ((List.getElem?_eq_getElem _).symm.trans HO.out.MM)] at hc
        clear hg
        rw [if_pos (by rfl)]
        go_simp
        exact HK.out _ W hW (Below.refl _ _) rfl
      · simp only [List.getElem?_toArray, List.getElem?_cons_succ, List.getElem?_cons_zero, Option.some.injEq] at ho
        subst ho
        obtain rfl := Option.some.inj hd
        have e52 : a'.tmps.getD 52 undef = .string p.s52 := hdeps 12 .data (by simp) rfl 52 rfl
        have e58 : a'.tmps.getD 58 undef = .string p.MM := hdeps 18 .data (by simp) rfl 58 rfl
        clear hd hfree hdeps
        have ra := HO.out.r59
        rw [if_pos (by rfl)]
        go_simp
        exact HK.out _ W hW (Below.refl _ _) rfl
      · simp only [List.getElem?_toArray, List.getElem?_cons_succ, List.getElem?_cons_zero, Option.some.injEq] at ho
        subst ho
        obtain rfl := Option.some.inj hd
        have e59 : a'.tmps.getD 59 undef = .string p.s59 := hdeps 19 .data (by simp) rfl 59 rfl
        clear hd hfree hdeps
        have ra := HO.out.r60
        rw [if_pos (by rfl)]
        go_simp
        exact HK.out _ W hW (Below.refl _ _) rfl
      · simp only [List.getElem?_toArray, List.getElem?_cons_succ, List.getElem?_cons_zero, Option.some.injEq] at ho
        subst ho
        obtain rfl := Option.some.inj hd
        have e6 : a'.tmps.getD 6 undef = .pointer (some ⟨b, 0, none⟩) := hfree 6 (by kernel_rfl)
        clear hd hfree hdeps
        rw [if_pos (by rfl)]
        go_simp
        exact HK.out _ W hW (Below.refl _ _) rfl
      · simp only [List.getElem?_toArray, List.getElem?_cons_succ, List.getElem?_cons_zero, Option.some.injEq] at ho
        subst ho
        obtain rfl := Option.some.inj hd
        have e61 : a'.tmps.getD 61 undef = .pointer (some ⟨b, 0, none⟩) := hdeps 21 .data (by simp) rfl 61 rfl
        clear hd hfree hdeps
        have hc := cellAt ((hW.block _ HLT.out).trans HZ.out) 0
        rw [if_pos (by rfl)]
        go_simp
        exact HK.out _ W hW (Below.refl _ _) rfl
      · simp only [List.getElem?_toArray, List.getElem?_cons_succ, List.getElem?_cons_zero, Option.some.injEq] at ho
        subst ho
        obtain rfl := Option.some.inj hd
        have e62 : a'.tmps.getD 62 undef = .int .i64 p.c.y := hdeps 22 .data (by simp) rfl 62 rfl
        clear hd hfree hdeps
        rw [if_pos (by rfl)]
        go_wp2_with fail
        refine (digL4_c (n := p.c.y) HO.out.y9 W).mono ?_
        rintro r W' ⟨rfl, hb⟩
        exact HK.out _ W' (hW.trans (hb.mono hW.size)) hb (congrArg Value.string HO.out.YY)
      · simp only [List.getElem?_toArray, List.getElem?_cons_succ, List.getElem?_cons_zero, Option.some.injEq] at ho
        subst ho
        obtain rfl := Option.some.inj hd
        have e60 : a'.tmps.getD 60 undef = .string p.s60 := hdeps 20 .data (by simp) rfl 60 rfl
        have e63 : a'.tmps.getD 63 undef = .string p.YY := hdeps 23 .data (by simp) rfl 63 rfl
        clear hd hfree hdeps
        have ra := HO.out.r64
        rw [if_pos (by rfl)]
        go_simp
        exact HK.out _ W hW (Below.refl _ _) rfl
      · simp only [List.getElem?_toArray, List.getElem?_cons_succ, List.getElem?_cons_zero, Option.some.injEq] at ho
        subst ho
        obtain rfl := Option.some.inj hd
        have e64 : a'.tmps.getD 64 undef = .string p.s64 := hdeps 24 .data (by simp) rfl 64 rfl
        clear hd hfree hdeps
        have ra := HO.out.r65
        rw [if_pos (by rfl)]
        go_simp
        exact HK.out _ W hW (Below.refl _ _) rfl
      · simp only [List.getElem?_toArray, List.getElem?_cons_succ, List.getElem?_cons_zero, Option.some.injEq] at ho
        subst ho
        obtain rfl := Option.some.inj hd
        have e6 : a'.tmps.getD 6 undef = .pointer (some ⟨b, 0, none⟩) := hfree 6 (by kernel_rfl)
        clear hd hfree hdeps
        rw [if_pos (by rfl)]
        go_simp
        exact HK.out _ W hW (Below.refl _ _) rfl
      · simp only [List.getElem?_toArray, List.getElem?_cons_succ, List.getElem?_cons_zero, Option.some.injEq] at ho
        subst ho
        obtain rfl := Option.some.inj hd
        have e66 : a'.tmps.getD 66 undef = .pointer (some ⟨b, 3, none⟩) := hdeps 26 .data (by simp) rfl 66 rfl
        clear hd hfree hdeps
        have hc := cellAt ((hW.block _ HLT.out).trans HZ.out) 3
        rw [if_pos (by rfl)]
        go_simp
        exact HK.out _ W hW (Below.refl _ _) rfl
      · simp only [List.getElem?_toArray, List.getElem?_cons_succ, List.getElem?_cons_zero, Option.some.injEq] at ho
        subst ho
        obtain rfl := Option.some.inj hd
        have e67 : a'.tmps.getD 67 undef = .int .i64 p.c.h := hdeps 27 .data (by simp) rfl 67 rfl
        clear hd hfree hdeps
        rw [if_pos (by rfl)]
        go_wp2_with fail
        refine (digL2_c (n := p.c.h) HO.out.h9 W).mono ?_
        rintro r W' ⟨rfl, hb⟩
        exact HK.out _ W' (hW.trans (hb.mono hW.size)) hb (congrArg Value.string HO.out.HH)
      · simp only [List.getElem?_toArray, List.getElem?_cons_succ, List.getElem?_cons_zero, Option.some.injEq] at ho
        subst ho
        obtain rfl := Option.some.inj hd
        have e65 : a'.tmps.getD 65 undef = .string p.s65 := hdeps 25 .data (by simp) rfl 65 rfl
        have e68 : a'.tmps.getD 68 undef = .string p.HH := hdeps 28 .data (by simp) rfl 68 rfl
        clear hd hfree hdeps
        have ra := HO.out.r69
        rw [if_pos (by rfl)]
        go_simp
        exact HK.out _ W hW (Below.refl _ _) rfl
      · simp only [List.getElem?_toArray, List.getElem?_cons_succ, List.getElem?_cons_zero, Option.some.injEq] at ho
        subst ho
        obtain rfl := Option.some.inj hd
        have e69 : a'.tmps.getD 69 undef = .string p.s69 := hdeps 29 .data (by simp) rfl 69 rfl
        clear hd hfree hdeps
        have ra := HO.out.r70
        rw [if_pos (by rfl)]
        go_simp
        exact HK.out _ W hW (Below.refl _ _) rfl
      · simp only [List.getElem?_toArray, List.getElem?_cons_succ, List.getElem?_cons_zero, Option.some.injEq] at ho
        subst ho
        obtain rfl := Option.some.inj hd
        have e6 : a'.tmps.getD 6 undef = .pointer (some ⟨b, 0, none⟩) := hfree 6 (by kernel_rfl)
        clear hd hfree hdeps
        rw [if_pos (by rfl)]
        go_simp
        exact HK.out _ W hW (Below.refl _ _) rfl
      · simp only [List.getElem?_toArray, List.getElem?_cons_succ, List.getElem?_cons_zero, Option.some.injEq] at ho
        subst ho
        obtain rfl := Option.some.inj hd
        have e71 : a'.tmps.getD 71 undef = .pointer (some ⟨b, 4, none⟩) := hdeps 31 .data (by simp) rfl 71 rfl
        clear hd hfree hdeps
        have hc := cellAt ((hW.block _ HLT.out).trans HZ.out) 4
        rw [if_pos (by rfl)]
        go_simp
        exact HK.out _ W hW (Below.refl _ _) rfl
      · simp only [List.getElem?_toArray, List.getElem?_cons_succ, List.getElem?_cons_zero, Option.some.injEq] at ho
        subst ho
        obtain rfl := Option.some.inj hd
        have e72 : a'.tmps.getD 72 undef = .int .i64 p.c.mi := hdeps 32 .data (by simp) rfl 72 rfl
        clear hd hfree hdeps
        rw [if_pos (by rfl)]
        go_wp2_with fail
        refine (digL2_c (n := p.c.mi) HO.out.i9 W).mono ?_
        rintro r W' ⟨rfl, hb⟩
        exact HK.out _ W' (hW.trans (hb.mono hW.size)) hb (congrArg Value.string HO.out.II)
      · simp only [List.getElem?_toArray, List.getElem?_cons_succ, List.getElem?_cons_zero, Option.some.injEq] at ho
        subst ho
        obtain rfl := Option.some.inj hd
        have e70 : a'.tmps.getD 70 undef = .string p.s70 := hdeps 30 .data (by simp) rfl 70 rfl
        have e73 : a'.tmps.getD 73 undef = .string p.II := hdeps 33 .data (by simp) rfl 73 rfl
        clear hd hfree hdeps
        have ra := HO.out.r74
        rw [if_pos (by rfl)]
        go_simp
        exact HK.out _ W hW (Below.refl _ _) rfl
      · simp only [List.getElem?_toArray, List.getElem?_cons_succ, List.getElem?_cons_zero, Option.some.injEq] at ho
        subst ho
        obtain rfl := Option.some.inj hd
        have e74 : a'.tmps.getD 74 undef = .string p.s74 := hdeps 34 .data (by simp) rfl 74 rfl
        clear hd hfree hdeps
        have ra := HO.out.r75
        rw [if_pos (by rfl)]
        go_simp
        exact HK.out _ W hW (Below.refl _ _) rfl
      · simp only [List.getElem?_toArray, List.getElem?_cons_succ, List.getElem?_cons_zero, Option.some.injEq] at ho
        subst ho
        obtain rfl := Option.some.inj hd
        have e8 : a'.tmps.getD 8 undef = .string p.SG := hfree 8 (by kernel_rfl)
        clear hd hfree hdeps
        rw [if_pos (by rfl)]
        go_simp
        exact HK.out _ W hW (Below.refl _ _) rfl
      · simp only [List.getElem?_toArray, List.getElem?_cons_succ, List.getElem?_cons_zero, Option.some.injEq] at ho
        subst ho
        obtain rfl := Option.some.inj hd
        have e75 : a'.tmps.getD 75 undef = .string p.s75 := hdeps 35 .data (by simp) rfl 75 rfl
        have e76 : a'.tmps.getD 76 undef = .string p.SG := hdeps 36 .data (by simp) rfl 76 rfl
        clear hd hfree hdeps
        have ra := HO.out.r77
        rw [if_pos (by rfl)]
        go_simp
        exact HK.out _ W hW (Below.refl _ _) rfl
      · simp only [List.getElem?_toArray, List.getElem?_cons_succ, List.getElem?_cons_zero, Option.some.injEq] at ho
        subst ho
        obtain rfl := Option.some.inj hd
        have e9 : a'.tmps.getD 9 undef = .int .i64 p.sz := hfree 9 (by kernel_rfl)
        clear hd hfree hdeps
        rw [if_pos (by rfl)]
        go_simp
        exact HK.out _ W hW (Below.refl _ _) rfl
      · simp only [List.getElem?_toArray, List.getElem?_cons_succ, List.getElem?_cons_zero, Option.some.injEq] at ho
        subst ho
        obtain rfl := Option.some.inj hd
        have e78 : a'.tmps.getD 78 undef = .int .i64 p.sz := hdeps 38 .data (by simp) rfl 78 rfl
        clear hd hfree hdeps
        have z9 := HO.out.sz
        have ht : ((p.sz : Nat) : Int).tdiv 60 = (p.sz : Int) / 60 := Int.tdiv_eq_ediv_of_nonneg (by omega)
        have hwr : IntKind.i64.wrap ((p.sz : Int) / 60) = (p.sz : Int) / 60 := IntWalk.i64_in _ (by omega)
        rw [if_pos (by rfl)]
        go_simp
        exact HK.out _ W hW (Below.refl _ _) rfl
      · simp only [List.getElem?_toArray, List.getElem?_cons_succ, List.getElem?_cons_zero, Option.some.injEq] at ho
        subst ho
        obtain rfl := Option.some.inj hd
        have e79 : a'.tmps.getD 79 undef = .int .i64 ((p.sz : Int) / 60) := hdeps 39 .data (by simp) rfl 79 rfl
        clear hd hfree hdeps
        have z9 := HO.out.sz
        have hwr : IntKind.i64.wrap ((p.sz : Int) / 60 * 100) = (p.sz : Int) / 60 * 100 := IntWalk.i64_in _ (by omega)
        rw [if_pos (by rfl)]
        go_simp
        exact HK.out _ W hW (Below.refl _ _) rfl
      · simp only [List.getElem?_toArray, List.getElem?_cons_succ, List.getElem?_cons_zero, Option.some.injEq] at ho
        subst ho
        obtain rfl := Option.some.inj hd
        have e9 : a'.tmps.getD 9 undef = .int .i64 p.sz := hfree 9 (by kernel_rfl)
        clear hd hfree hdeps
        rw [if_pos (by rfl)]
        go_simp
        exact HK.out _ W hW (Below.refl _ _) rfl
      · simp only [List.getElem?_toArray, List.getElem?_cons_succ, List.getElem?_cons_zero, Option.some.injEq] at ho
        subst ho
        obtain rfl := Option.some.inj hd
        have e81 : a'.tmps.getD 81 undef = .int .i64 p.sz := hdeps 41 .data (by simp) rfl 81 rfl
        clear hd hfree hdeps
        have z9 := HO.out.sz
        have ht : ((p.sz : Nat) : Int).tmod 60 = (p.sz : Int) % 60 := Int.tmod_eq_emod_of_nonneg (by omega)
        have hwr : IntKind.i64.wrap ((p.sz : Int) % 60) = (p.sz : Int) % 60 := IntWalk.i64_in _ (by omega)
        rw [if_pos (by rfl)]
        go_simp
        exact HK.out _ W hW (Below.refl _ _) rfl
      · simp only [List.getElem?_toArray, List.getElem?_cons_succ, List.getElem?_cons_zero, Option.some.injEq] at ho
        subst ho
        obtain rfl := Option.some.inj hd
        have e80 : a'.tmps.getD 80 undef = .int .i64 ((p.sz : Int) / 60 * 100) := hdeps 40 .data (by simp) rfl 80 rfl
        have e82 : a'.tmps.getD 82 undef = .int .i64 ((p.sz : Int) % 60) := hdeps 42 .data (by simp) rfl 82 rfl
        clear hd hfree hdeps
        have z9 := HO.out.sz
        have hwr : IntKind.i64.wrap ((p.sz : Int) / 60 * 100 + (p.sz : Int) % 60) = p.q := by rw [← HO.out.q]; exact IntWalk.i64_in _ (by omega)
        rw [if_pos (by rfl)]
        go_simp
        exact HK.out _ W hW (Below.refl _ _) rfl
      · simp only [List.getElem?_toArray, List.getElem?_cons_succ, List.getElem?_cons_zero, Option.some.injEq] at ho
        subst ho
        obtain rfl := Option.some.inj hd
        have e83 : a'.tmps.getD 83 undef = .int .i64 p.q := hdeps 43 .data (by simp) rfl 83 rfl
        clear hd hfree hdeps
        rw [if_pos (by rfl)]
        go_wp2_with fail
        refine (digL4_c (n := p.q) HO.out.q9 W).mono ?_
        rintro r W' ⟨rfl, hb⟩
        exact HK.out _ W' (hW.trans (hb.mono hW.size)) hb (congrArg Value.string HO.out.QQ)
      · simp only [List.getElem?_toArray, List.getElem?_cons_succ, List.getElem?_cons_zero, Option.some.injEq] at ho
        subst ho
        obtain rfl := Option.some.inj hd
        have e77 : a'.tmps.getD 77 undef = .string p.s77 := hdeps 37 .data (by simp) rfl 77 rfl
        have e84 : a'.tmps.getD 84 undef = .string p.QQ := hdeps 44 .data (by simp) rfl 84 rfl
        clear hd hfree hdeps
        have ra := HO.out.r85
        rw [if_pos (by rfl)]
        go_simp
        exact HK.out _ W hW (Below.refl _ _) rfl
      · simp only [List.getElem?_toArray, List.getElem?_cons_succ, List.getElem?_cons_zero, Option.some.injEq] at ho
        subst ho
        obtain rfl := Option.some.inj hd
        have e85 : a'.tmps.getD 85 undef = .string p.s85 := hdeps 45 .data (by simp) rfl 85 rfl
        clear hd hfree hdeps
        rw [if_pos (by rfl)]
        go_simp
        exact HK.out _ W hW (Below.refl _ _) rfl
      · simp only [List.getElem?_toArray, List.getElem?_cons_succ, List.getElem?_cons_zero, Option.some.injEq] at ho
        subst ho
        obtain rfl := Option.some.inj hd
        clear hd hfree hdeps
        rw [if_pos (by rfl)]
        go_simp
        exact HK.out _ W hW (Below.refl _ _) rfl
      · exact absurd ho (by simp)
    case done =>
      intro a' W hdf hsz hW hfree hall
      have e4 : a'.tmps.getD 4 undef = .string p.s85 := hall 46 4 rfl
      have e5 : a'.tmps.getD 5 undef = .int .i64 0 := hall 47 5 rfl
      clear hfree hall
      have hsz' : a'.tmps.size = 86 := hsz
      have hdf' : a'.defers = [] := hdf
      clear hsz hdf
      obtain ⟨ts, ds⟩ := a'
      obtain rfl : ds = [] := hdf'
      go_wp2_with fail
      go_ret2
      exact ⟨by rw [e4, e5], HB2.out.trans (hW.mono HB2.out.size)⟩

end Go.Proofs.YtiijngjhhcjiaaaDoor
