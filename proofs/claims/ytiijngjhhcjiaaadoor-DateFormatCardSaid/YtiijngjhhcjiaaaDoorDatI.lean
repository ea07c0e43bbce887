/-
  Package date: FormatZone with a zone west of UTC, and Format.
-/
import Derived.Test.YtiijngjhhcjiaaaDoorDatH
set_option linter.unusedSimpArgs false
set_option linter.unusedVariables false
set_option linter.unnecessarySimpa false
namespace Go.Proofs.YtiijngjhhcjiaaaDoor
open Go.RowKit Go.Bul
set_option maxRecDepth 100000 in
theorem format_s (n : Nat) (hn : n ≤ 105190559) (w : World) (hg : Gd w) : Calls Tryd.prog 16 #[.int .i64 n] w fun e w' => e = .returned (.tuple #[Sb (fmtL n 43 0), .int .i64 0]) ∧ Below w.heap.size w w' := by
  go_enter Tryd.func16, Tryd.ntmps16
  go_wp2_with fail
  refine (formatZone_p n n 0 hn (by omega) (by omega) hn w hg).mono ?_
  rintro e w1 ⟨rfl, b1⟩
  go_wp2_with fail
  go_ret2
  exact ⟨rfl, b1⟩
set_option maxRecDepth 100000 in
set_option maxHeartbeats 8000000 in
theorem formatZone_n (n t sz : Nat) (hn : n ≤ 105190559) (ho : sz ≤ 840) (hs1 : 1 ≤ sz) (ht : t + sz = n) (ht9 : t ≤ 105190559) (w : World) (hg : Gd w) :
    Calls Tryd.prog 18 #[.int .i64 n, .int .i64 (-(sz : Int))] w fun e w' => e = .returned (.tuple #[Sb (fmtL t 45 sz), .int .i64 0]) ∧ Below w.heap.size w w' := by
  have HG := Lib.hid hg
  have hw : IntKind.i64.wrap ((n : Int) + -(sz : Int)) = (t : Int) := by rw [IntWalk.i64_in _ (by omega)]; omega
  have hneg : IntKind.i64.wrap (-(-(sz : Int))) = (sz : Int) := by rw [IntWalk.i64_in _ (by omega)]; omega
  have a1 : ¬ -(sz : Int) < -840 := by omega
  have a2 : ¬ (840 : Int) < -(sz : Int) := by omega
  have a3 : -(sz : Int) < 0 := by omega
  have HOK := Lib.hid (civOf_ok t)
  have hy9 := year_le ht9
  have hwd : wdOf t < 7 := Nat.mod_lt _ (by decide)
  have hfm : fmtL t 45 sz = Lib.join (partsL (civOf t) (wdOf t) 45 sz) [32] := rfl
  have HF := Lib.hid hfm
  clear hg hfm
  go_enter Tryd.func18, Tryd.ntmps18
  go_wp2_with fail
  refine (valid_s n _).mono ?_
  rintro e w' ⟨rfl, rfl⟩
  rw [show decide ((0 : Int) ≤ n ∧ (n : Int) ≤ 105190559) = true by simp; omega]
  go_wp2_with fail
  refine (valid_s t _).mono ?_
  rintro e w' ⟨rfl, rfl⟩
  rw [show decide ((0 : Int) ≤ t ∧ (t : Int) ≤ 105190559) = true by simp; omega]
  go_wp2_with fail
  refine (toCivil_s t ht9 w).mono ?_
  rintro e w1 ⟨rfl, b1⟩
  have HB1 := Lib.hid b1
  obtain ⟨c, hc⟩ : ∃ c, civOf t = c := ⟨_, rfl⟩
  rw [hc] at HF HOK hy9 ⊢
  clear hc b1
  simp only [civCells]
  go_wp2_with fail
  refine (weekday_s t ht9 _).mono ?_
  rintro e w' ⟨rfl, rfl⟩
  rw [show ((t / 1440 + 5) % 7 : Nat) = wdOf t from rfl]
  go_wp2_with fail
  obtain ⟨w2, hw2⟩ : ∃ w2, w2 = w1.alloc (.cells #[.int .i64 c.y, .int .i64 c.m, .int .i64 c.d, .int .i64 c.h, .int .i64 c.mi] 24) := ⟨_, rfl⟩
  have hs2 : w1.heap.size < w2.heap.size := by rw [hw2, sizeA]; omega
  have HZ := Lib.hid (show w2.heap[w1.heap.size]? = some (.cells #[.int .i64 c.y, .int .i64 c.m, .int .i64 c.d, .int .i64 c.h, .int .i64 c.mi] 24 (0, 0)) by rw [hw2]; exact heapNew _ _)
  have HB2 := Lib.hid (show Below w.heap.size w w2 by rw [hw2]; exact HB1.out.alloc HB1.out.size _)
  rw [← hw2]
  clear hw2
  have HZa := Lib.hid (show ∀ x : After w2.heap.size w2, x.W.heap[w1.heap.size]? = some (.cells #[.int .i64 c.y, .int .i64 c.m, .int .i64 c.d, .int .i64 c.h, .int .i64 c.mi] 24 (0, 0)) from fun x => (x.below.block _ hs2).trans HZ.out)
  have HGa := Lib.hid (show ∀ x : After w2.heap.size w2, Gd x.W from fun x => (HG.out.below HB2.out).below x.below)
  have x0 : ∀ x : After w2.heap.size w2, x.W.cell? ⟨w1.heap.size, 0, none⟩ = some (.int .i64 c.y) := fun x => cellAt (HZa.out x) 0
  have x1 : ∀ x : After w2.heap.size w2, x.W.cell? ⟨w1.heap.size, 1, none⟩ = some (.int .i64 c.m) := fun x => cellAt (HZa.out x) 1
  have x2 : ∀ x : After w2.heap.size w2, x.W.cell? ⟨w1.heap.size, 2, none⟩ = some (.int .i64 c.d) := fun x => cellAt (HZa.out x) 2
  have x3 : ∀ x : After w2.heap.size w2, x.W.cell? ⟨w1.heap.size, 3, none⟩ = some (.int .i64 c.h) := fun x => cellAt (HZa.out x) 3
  have x4 : ∀ x : After w2.heap.size w2, x.W.cell? ⟨w1.heap.size, 4, none⟩ = some (.int .i64 c.mi) := fun x => cellAt (HZa.out x) 4
  have hd := HOK.out.d1
  have hd2 := monthD_le c.y c.m
  have hp5 := fun (W : World) (h : Gd W) => padded2_s (sz / 60) (by omega) W h
  have hp6 := fun (W : World) (h : Gd W) => padded2_s (sz % 60) (by omega) W h
  rw [show ((sz / 60 : Nat) : Int) = (sz : Int) / 60 by push_cast; rfl] at hp5
  rw [show ((sz % 60 : Nat) : Int) = (sz : Int) % 60 by push_cast; rfl] at hp6
  have HP5 := Lib.hid hp5
  have HP6 := Lib.hid hp6
  clear hp5 hp6
  obtain ⟨m1, hm1⟩ : ∃ m1, c.m = m1 + 1 := ⟨c.m - 1, by have := HOK.out.m0; omega⟩
  have hm9 : c.m - 1 = m1 := by omega
  have hm11 : m1 < 12 := by have := HOK.out.m1; omega
  have hwm : IntKind.i64.wrap ((c.m : Int) - 1) = (m1 : Int) := by rw [IntWalk.i64_in _ (by omega)]; omega
  have gd := ixD hwd
  have gm := ixM hm11
  have hdn := dayNames_s
  have hmn := monthNames_s
  generalize dayA = DA at gd hdn
  generalize monA = MA at gm hmn
  have HDN := Lib.hid hdn
  have HMN := Lib.hid hmn
  clear hdn hmn
  have bz : ∀ l : List UInt8, (⟨l.toArray⟩ : ByteArray).size = l.length := sbSize
  have l2 : ∀ k, (dg2 k).length = 2 := fun k => rfl
  have ld := dayN_len hwd
  have ka1 := fun (w : World) => run_string_add_sum (P := Tryd.prog) w ⟨(dayN (wdOf t)).toArray⟩ ⟨#[44]⟩ (by rw [bz, bz]; simp only [l2, ld, List.length_cons, List.length_nil]; omega)
  have ka2 := fun (w : World) => run_string_add_sum (P := Tryd.prog) w ⟨(dg2 c.h).toArray⟩ ⟨#[58]⟩ (by rw [bz, bz]; simp only [l2, ld, List.length_cons, List.length_nil]; omega)
  have ka3 := fun (w : World) => run_string_add_sum (P := Tryd.prog) w (⟨(dg2 c.h).toArray⟩ ++ ⟨#[58]⟩) ⟨(dg2 c.mi).toArray⟩ (by rw [ByteArray.size_append, bz, bz, bz]; simp only [l2, ld, List.length_cons, List.length_nil]; omega)
  have ka4 := fun (w : World) => run_string_add_sum (P := Tryd.prog) w ⟨#[45]⟩ ⟨(dg2 (sz / 60)).toArray⟩ (by rw [bz, bz]; simp only [l2, ld, List.length_cons, List.length_nil]; omega)
  have ka5 := fun (w : World) => run_string_add_sum (P := Tryd.prog) w (⟨#[45]⟩ ++ ⟨(dg2 (sz / 60)).toArray⟩) ⟨(dg2 (sz % 60)).toArray⟩ (by rw [ByteArray.size_append, bz, bz, bz]; simp only [l2, ld, List.length_cons, List.length_nil]; omega)
  clear bz l2 ld
  refine wp_region_after_tail 32 (by kernel_rfl) (by kernel_rfl) ?_
  simp only [List.take_succ_cons, List.take_zero, List.drop_succ_cons, List.drop_zero]
  iterate 32 (go_big_quiet_step ((first
    | (go_at_call 34; with_reducible exact callBelow _ (HDN.out _))
    | (go_at_call 36; with_reducible exact callBelow _ (HMN.out _))
    | (go_at_call 35; with_reducible exact callBelow _ (padded2_s c.d (by omega) _ (HGa.out _)))
    | (go_at_call 35; with_reducible exact callBelow _ (padded4_s c.y (by have := HOK.out.y0; omega) (by omega) _ (HGa.out _)))
    | (go_at_call 35; with_reducible exact callBelow _ (padded2_s c.h (by have := HOK.out.h1; omega) _ (HGa.out _)))
    | (go_at_call 35; with_reducible exact callBelow _ (padded2_s c.mi (by have := HOK.out.mi1; omega) _ (HGa.out _)))
    | (go_at_call 35; with_reducible exact callBelow _ (HP5.out _ (HGa.out _)))
    | (go_at_call 35; with_reducible exact callBelow _ (HP6.out _ (HGa.out _))))))
  refine wpQuiet_nil ?_
  rintro w3 ⟨⟨_, hb3⟩, rfl⟩
  have HB3 := Lib.hid (HB2.out.trans (hb3.mono HB2.out.size))
  clear hb3 x0 x1 x2 x3 x4 ka1 ka2 ka3 ka4 ka5 gd gm
  go_wp2_with fail
  have hj := Tryd.strings_Join w3.heap.size 0 6 [⟨(dayN (wdOf t)).toArray⟩ ++ ⟨#[44]⟩, ⟨(dg2 c.d).toArray⟩, ⟨(monN m1).toArray⟩, ⟨(dg4 c.y).toArray⟩, (⟨(dg2 c.h).toArray⟩ ++ ⟨#[58]⟩) ++ ⟨(dg2 c.mi).toArray⟩, (⟨#[45]⟩ ++ ⟨(dg2 (sz / 60)).toArray⟩) ++ ⟨(dg2 (sz % 60)).toArray⟩] ⟨#[32]⟩
    (w3.alloc (.cells #[.string (⟨(dayN (wdOf t)).toArray⟩ ++ ⟨#[44]⟩), .string ⟨(dg2 c.d).toArray⟩, .string ⟨(monN m1).toArray⟩, .string ⟨(dg4 c.y).toArray⟩, .string ((⟨(dg2 c.h).toArray⟩ ++ ⟨#[58]⟩) ++ ⟨(dg2 c.mi).toArray⟩), .string ((⟨#[45]⟩ ++ ⟨(dg2 (sz / 60)).toArray⟩) ++ ⟨(dg2 (sz % 60)).toArray⟩)] 9))
    (fun j x hx => by
      rw [Nat.zero_add, cellAt (heapNew _ _)]
      rcases j with _ | _ | _ | _ | _ | _ | j
      all_goals first
        | (have hx := Option.some.inj hx; subst hx; rfl)
        | cases hx) (by rw [sizeA]; omega) (by show (6 : Nat) ≤ _; omega) (by show (6 : Nat) ≤ 6; omega) (by rw [partsB, ← hm9]; exact Nat.le_trans (fmt_len c (wdOf t) 45 sz hwd (by omega)) (by decide))
  rw [partsB] at hj
  simp only [List.length_cons, List.length_nil, Nat.zero_add, Nat.reduceAdd] at hj
  refine hj.mono ?_
  rintro e w4 ⟨rfl, b4⟩
  have HB4 := Lib.hid (HB3.out.trans (((Below.refl w3.heap.size w3).alloc (Nat.le_refl _) _).trans (b4.mono (by rw [sizeA]; omega)) |>.mono HB3.out.size))
  go_wp2_with fail
  go_ret2
  refine ⟨?_, HB4.out⟩
  rw [HF.out]
  unfold partsL
  rw [hm9]
  simp only [List.append_assoc, List.cons_append, List.nil_append]
  rfl
end Go.Proofs.YtiijngjhhcjiaaaDoor
