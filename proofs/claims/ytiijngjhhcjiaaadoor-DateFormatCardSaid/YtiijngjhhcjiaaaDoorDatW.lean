/-
  Package date: Parse at the second text of known(), and known() itself.
-/
import Derived.Test.YtiijngjhhcjiaaaDoorDatU
set_option linter.unusedSimpArgs false
set_option linter.unusedVariables false
set_option linter.unnecessarySimpa false
namespace Go.Proofs.YtiijngjhhcjiaaaDoor
open Go.RowKit Go.Bul
set_option maxRecDepth 100000 in
set_option maxHeartbeats 8000000 in
theorem parse_b (w : World) (hg : Gd w) :
    Calls Tryd.prog 20 #[.string tB] w fun r w' => r = .returned (.tuple #[.int .i64 0, .int .i64 13, .int .i64 3]) ∧ Below w.heap.size w w' := by
  have hts : tB.size = 22 := rfl
  have HG := Lib.hid hg
  have h7 := hg.size
  clear hg
  go_enter Tryd.func20, Tryd.ntmps20
  go_wp2_with fail
  obtain ⟨w1, hw1⟩ : ∃ w1, w1 = w.alloc (.cells #[.string tB, .int .i64 0, .int .i64 0] 61) := ⟨_, rfl⟩
  have hb1 : Below w.heap.size w w1 := by rw [hw1]; exact (Below.refl _ _).alloc (Nat.le_refl _) _
  have hs1 : ScAt w1 w.heap.size tB (0 : Nat) 0 := by rw [hw1]; exact heapNew _ _
  have hz1 : w.heap.size < w1.heap.size := ltBlock hs1
  have hG1 := HG.out.below hb1
  rw [← hw1]
  clear hw1
  refine (read_b w.heap.size w1 h7 hG1 hs1).mono ?_
  rintro r w2 ⟨rfl, hs2, hb2⟩
  go_wp2_with fail
  obtain ⟨w3, hw3⟩ : ∃ w3, w3 = w2.alloc (.cells #[.bool false, .int .i64 0, .int .i64 2026, .int .i64 11, .int .i64 16, .int .i64 238, .int .i64 2288, .int .i64 0, .int .i64 0, .int .i64 7, .int .i64 12, .int .i64 13, .int .i64 0, .int .i64 0] 63) := ⟨_, rfl⟩
  have HS := Lib.hid (show ScAt w3 w.heap.size tB (13 : Nat) 3 by rw [hw3]; exact hs2.below ((Below.refl _ _).alloc (Nat.le_refl _) _))
  have HW := Lib.hid (show Below w.heap.size w w3 by rw [hw3]; exact (hb1.trans (hb2.to_below (Nat.le_of_lt hz1) (Nat.le_refl _))).alloc (Nat.le_trans (Nat.le_of_lt hz1) hb2.size) _)
  rw [← hw3]
  clear hw3 hs2 hb2 hs1 hG1 hb1
  refine (check_true w.heap.size 7 2 _).mono ?_
  rintro r w4 ⟨rfl, b4⟩
  have HS4 := Lib.hid (HS.out.below b4)
  have HW4 := Lib.hid (HW.out.trans (b4.mono HW.out.size))
  clear b4
  have y2 := cellAt HS4.out 2
  go_wp2_with fail
  clear y2
  have x1 : ∀ q, (w4.drewN q).cell? ⟨w.heap.size, 1, none⟩ = some (.int .i64 (13 : Nat)) := fun q => cellAt HS4.out 1
  have x2 : ∀ q, (w4.drewN q).cell? ⟨w.heap.size, 2, none⟩ = some (.int .i64 3) := fun q => cellAt HS4.out 2
  go_quiet (fail)
  go_wp2_with fail
  (try simp only [Exit.inBlock, Exit.then])
  refine bodyPost_ret (results_tmp3 rfl _ _ _) rfl ?_
  exact ⟨rfl, HW4.out.trans ⟨rfl, rfl, rfl, Nat.le_refl _, fun _ _ => rfl⟩⟩
def fA : ByteArray := ⟨#[77, 111, 110, 44, 32, 49, 54, 32, 78, 111, 118, 32, 50, 48, 50, 54, 32, 48, 50, 58, 48, 53, 32, 43, 48, 48, 48, 48]⟩
theorem fmt_a : fmtL 14135165 43 0 = fA.data.toList := by decide +kernel
theorem formatA (w : World) (hg : Gd w) : Calls Tryd.prog 16 #[.int .i64 14135165] w fun e w' => e = .returned (.tuple #[.string fA, .int .i64 0]) ∧ Below w.heap.size w w' := by
  have h := format_s 14135165 (by decide) w hg
  rw [fmt_a] at h
  exact h
set_option maxRecDepth 100000 in
set_option maxHeartbeats 4000000 in
theorem known04_s (w : World) (hg : Gd w) : Calls Tryd.prog 10 #[] w fun e w' => e = .returned (.bool true) ∧ Below w.heap.size w w' := by
  have HG := Lib.hid hg
  clear hg
  go_enter Tryd.func10, Tryd.ntmps10
  go_wp2_with fail
  refine (formatA w HG.out).mono ?_
  rintro e w1 ⟨rfl, b1⟩
  have HB1 := Lib.hid b1
  clear b1
  go_wp2_with fail
  refine (parse_a w1 (HG.out.below HB1.out)).mono ?_
  rintro e w2 ⟨rfl, b2⟩
  have HB2 := Lib.hid (HB1.out.trans (b2.mono HB1.out.size))
  clear b2
  go_wp2_with fail
  refine (parse_b w2 (HG.out.below HB2.out)).mono ?_
  rintro e w3 ⟨rfl, b3⟩
  have HB3 := Lib.hid (HB2.out.trans (b3.mono HB2.out.size))
  clear b3
  have hfa : fA.toList = [77, 111, 110, 44, 32, 49, 54, 32, 78, 111, 118, 32, 50, 48, 50, 54, 32, 48, 50, 58, 48, 53, 32, 43, 48, 48, 48, 48] := by decide +kernel
  go_wp2_with fail
  go_ret
  exact ⟨by first | rfl | (simp; done) | (decide +kernel), HB3.out⟩
end Go.Proofs.YtiijngjhhcjiaaaDoor
