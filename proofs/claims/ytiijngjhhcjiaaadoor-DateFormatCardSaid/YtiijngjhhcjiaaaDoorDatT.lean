/-
  Package date: Parse, at the first text of known().
-/
import Derived.Test.YtiijngjhhcjiaaaDoorDatS
set_option linter.unusedSimpArgs false
set_option linter.unusedVariables false
set_option linter.unnecessarySimpa false
namespace Go.Proofs.YtiijngjhhcjiaaaDoor
open Go.RowKit Go.Bul
set_option maxRecDepth 100000 in
theorem check_true (b : Nat) (na ne : Int) (w : World) :
    Calls Tryd.prog 39 #[.pointer (some ⟨b, 0, none⟩), .bool true, .int .i64 na, .int .i64 ne] w fun r w' => r = .returned (.tuple #[]) ∧ Below w.heap.size w w' := by
  go_enter Tryd.func39, Tryd.ntmps39
  go_wp2_with fail
  go_end0
  exact ⟨rfl, Below.refl _ _⟩
def pA : Array Value := #[.bool false, .int .i64 0, .int .i64 2026, .int .i64 11, .int .i64 16, .int .i64 3, .int .i64 35, .int .i64 0, .int .i64 0, .int .i64 7, .int .i64 12, .int .i64 15, .int .i64 0, .int .i64 90]
theorem md_a : monthD 2026 11 = 30 := by decide
theorem min_a : minOf ⟨2026, 11, 16, 3, 35⟩ = 14135255 := by decide +kernel
theorem monthDays_a (w : World) : Calls Tryd.prog 28 #[.int .i64 2026, .int .i64 11] w fun e w' => e = .returned (.int .i64 30) ∧ Below w.heap.size w w' := by
  have h := monthDays_s 2026 11 (by decide) (by decide) w
  rw [md_a] at h
  exact h
theorem from_a (w : World) : Calls Tryd.prog 14 #[.agg #[.int .i64 2026, .int .i64 11, .int .i64 16, .int .i64 3, .int .i64 35]] w fun e w' => e = .returned (.tuple #[.int .i64 14135255, .int .i64 0]) ∧ Below w.heap.size w w' := by
  have h := from_good 2026 11 16 3 35 (by decide) (by decide) (by decide) (by decide) (by decide) (by rw [md_a]; decide) (by decide) (by decide) w
  rw [min_a] at h
  exact h
theorem weekday_a (w : World) : Calls Tryd.prog 24 #[.int .i64 14135255] w fun e w' => e = .returned (.tuple #[.int .i64 0, .int .i64 0]) ∧ w = w' := weekday_s 14135255 (by decide) w
set_option maxRecDepth 100000 in
set_option maxHeartbeats 8000000 in
theorem parse_a (w : World) (hg : Gd w) :
    Calls Tryd.prog 20 #[.string tA] w fun r w' => r = .returned (.tuple #[.int .i64 14135165, .int .i64 0, .int .i64 0]) ∧ Below w.heap.size w w' := by
  have hts : tA.size = 23 := rfl
  have HG := Lib.hid hg
  have h7 := hg.size
  clear hg
  go_enter Tryd.func20, Tryd.ntmps20
  go_wp2_with fail
  obtain ⟨w1, hw1⟩ : ∃ w1, w1 = w.alloc (.cells #[.string tA, .int .i64 0, .int .i64 0] 61) := ⟨_, rfl⟩
  have hb1 : Below w.heap.size w w1 := by rw [hw1]; exact (Below.refl _ _).alloc (Nat.le_refl _) _
  have hs1 : ScAt w1 w.heap.size tA (0 : Nat) 0 := by rw [hw1]; exact heapNew _ _
  have hz1 : w.heap.size < w1.heap.size := ltBlock hs1
  have hG1 := HG.out.below hb1
  rw [← hw1]
  clear hw1
  refine (read_a w.heap.size w1 h7 hG1 hs1).mono ?_
  rintro r w2 ⟨rfl, hs2, hb2⟩
  go_wp2_with fail
  obtain ⟨w3, hw3⟩ : ∃ w3, w3 = w2.alloc (.cells #[.bool false, .int .i64 0, .int .i64 2026, .int .i64 11, .int .i64 16, .int .i64 3, .int .i64 35, .int .i64 0, .int .i64 0, .int .i64 7, .int .i64 12, .int .i64 15, .int .i64 0, .int .i64 90] 63) := ⟨_, rfl⟩
  have HS := Lib.hid (show ScAt w3 w.heap.size tA (18 : Nat) 0 by rw [hw3]; exact hs2.below ((Below.refl _ _).alloc (Nat.le_refl _) _))
  have HP := Lib.hid (show w3.heap[w2.heap.size]? = some (.cells #[.bool false, .int .i64 0, .int .i64 2026, .int .i64 11, .int .i64 16, .int .i64 3, .int .i64 35, .int .i64 0, .int .i64 0, .int .i64 7, .int .i64 12, .int .i64 15, .int .i64 0, .int .i64 90] 63 (0, 0)) by rw [hw3]; exact heapNew _ _)
  have HW := Lib.hid (show Below w.heap.size w w3 by rw [hw3]; exact (hb1.trans (hb2.to_below (Nat.le_of_lt hz1) (Nat.le_refl _))).alloc (Nat.le_trans (Nat.le_of_lt hz1) hb2.size) _)
  have HB3 := Lib.hid (Below.refl w3.heap.size w3)
  have hlp : w2.heap.size < w3.heap.size := ltBlock HP.out
  rw [← hw3]
  clear hw3 hs2 hb2 hs1 hG1 hb1
  refine (check_true w.heap.size 7 2 _).mono ?_
  rintro r w4 ⟨rfl, b4⟩
  have HB4 := Lib.hid (HB3.out.trans (b4.mono HB3.out.size))
  clear b4
  have y2 := cellAt ((HS.out).below HB4.out) 2
  go_wp2_with fail
  clear y2
  have x4 : ∀ z : After w4.heap.size w4, z.W.cell? ⟨w2.heap.size, 4, none⟩ = some (.int .i64 16) := fun z => cellAt ((z.below.block _ (Nat.lt_of_lt_of_le hlp HB4.out.size)).trans ((HB4.out.block _ hlp).trans HP.out)) 4
  have x2 : ∀ z : After w4.heap.size w4, z.W.cell? ⟨w2.heap.size, 2, none⟩ = some (.int .i64 2026) := fun z => cellAt ((z.below.block _ (Nat.lt_of_lt_of_le hlp HB4.out.size)).trans ((HB4.out.block _ hlp).trans HP.out)) 2
  have x3 : ∀ z : After w4.heap.size w4, z.W.cell? ⟨w2.heap.size, 3, none⟩ = some (.int .i64 11) := fun z => cellAt ((z.below.block _ (Nat.lt_of_lt_of_le hlp HB4.out.size)).trans ((HB4.out.block _ hlp).trans HP.out)) 3
  have x8 : ∀ z : After w4.heap.size w4, z.W.cell? ⟨w2.heap.size, 8, none⟩ = some (.int .i64 0) := fun z => cellAt ((z.below.block _ (Nat.lt_of_lt_of_le hlp HB4.out.size)).trans ((HB4.out.block _ hlp).trans HP.out)) 8
  refine wp_region_after (by kernel_rfl) (by kernel_rfl) ?_
  iterate 21 (go_big_quiet_step ((first
    | (go_at_call 28; with_reducible exact callBelow _ (monthDays_a _))
    | (go_at_call 39; with_reducible exact callBelow _ (check_true _ _ _ _)))))
  refine wpQuiet_nil ?_
  rintro w5 ⟨⟨_, hb5⟩, rfl⟩
  have HB5 := Lib.hid (HB4.out.trans (hb5.mono HB4.out.size))
  clear hb5 x4 x2 x3 x8
  have p5 := cellAt ((HB5.out.block _ hlp).trans HP.out) 5
  have p10 := cellAt ((HB5.out.block _ hlp).trans HP.out) 10
  go_wp2_with fail
  clear p5 p10
  refine (check_true w.heap.size 12 13 _).mono ?_
  rintro r w6 ⟨rfl, b6⟩
  have HB6 := Lib.hid (HB5.out.trans (b6.mono HB5.out.size))
  clear b6
  have p6 := cellAt ((HB6.out.block _ hlp).trans HP.out) 6
  have p11 := cellAt ((HB6.out.block _ hlp).trans HP.out) 11
  go_wp2_with fail
  clear p6 p11
  refine (check_true w.heap.size 15 13 _).mono ?_
  rintro r w7 ⟨rfl, b7⟩
  have HB7 := Lib.hid (HB6.out.trans (b7.mono HB6.out.size))
  clear b7
  have p7 := cellAt ((HB7.out.block _ hlp).trans HP.out) 7
  have p12 := cellAt ((HB7.out.block _ hlp).trans HP.out) 12
  go_wp2_with fail
  clear p7 p12
  refine (check_true w.heap.size 0 13 _).mono ?_
  rintro r w8 ⟨rfl, b8⟩
  have HB8 := Lib.hid (HB7.out.trans (b8.mono HB7.out.size))
  clear b8
  have y2 := cellAt ((HS.out).below HB8.out) 2
  have p2 := cellAt ((HB8.out.block _ hlp).trans HP.out) 2
  have p3 := cellAt ((HB8.out.block _ hlp).trans HP.out) 3
  have p4 := cellAt ((HB8.out.block _ hlp).trans HP.out) 4
  have p5 := cellAt ((HB8.out.block _ hlp).trans HP.out) 5
  have p6 := cellAt ((HB8.out.block _ hlp).trans HP.out) 6
  go_wp2_with fail
  refine (from_a _).mono ?_
  rintro r w9 ⟨rfl, b9⟩
  have HB9 := Lib.hid (HB8.out.trans (b9.mono HB8.out.size))
  clear b9 y2 p2 p3 p4 p5 p6
  go_wp2_with fail
  refine (weekday_a _).mono ?_
  rintro r w9' ⟨rfl, rfl⟩
  have p0 := cellAt ((HB9.out.block _ hlp).trans HP.out) 0
  have p1 := cellAt ((HB9.out.block _ hlp).trans HP.out) 1
  go_wp2_with fail
  clear p0 p1
  refine (check_true w.heap.size 0 13 _).mono ?_
  rintro r w10 ⟨rfl, b10⟩
  have HB10 := Lib.hid (HB9.out.trans (b10.mono HB9.out.size))
  clear b10
  have p13 := cellAt ((HB10.out.block _ hlp).trans HP.out) 13
  go_wp2_with fail
  refine (valid_s 14135165 _).mono ?_
  rintro r w10' ⟨rfl, rfl⟩
  rw [show decide ((0 : Int) ≤ 14135165 ∧ (14135165 : Int) ≤ 105190559) = true by decide]
  clear p13
  go_wp2_with fail
  refine (check_true w.heap.size 0 2 _).mono ?_
  rintro r w11 ⟨rfl, b11⟩
  have HB11 := Lib.hid (HB10.out.trans (b11.mono HB10.out.size))
  clear b11
  have y2 := cellAt ((HS.out).below HB11.out) 2
  have p13 := cellAt ((HB11.out.block _ hlp).trans HP.out) 13
  go_wp2_with fail
  (try simp only [Exit.inBlock, Exit.then])
  refine bodyPost_ret (results_tmp3 rfl _ _ _) rfl ?_
  exact ⟨rfl, HW.out.trans (HB11.out.mono HW.out.size)⟩
end Go.Proofs.YtiijngjhhcjiaaaDoor
