/-
  The reference of package mail: Bounce.
-/
import Derived.Test.YtkiheanpamplpaaDoorMaiH
set_option linter.unusedSimpArgs false
set_option linter.unusedVariables false
set_option linter.unnecessarySimpa false
namespace Go.Proofs.YtkiheanpamplpaaDoor
open Go.RowKit Go.Bul
set_option maxRecDepth 100000 in
set_option maxHeartbeats 2000000 in
theorem refBounce_a (m : Ms) (v : Value) (name : ByteArray) (code now : Int) (w : World) (h : m.fu.size = 0) :
    Calls Tryd.prog 11 #[msgV m v, .string name, .int .i64 code, .int .i64 now] w fun e w' => e = .returned (.tuple #[msgV noMs (.slice none 0 0), .bool false]) ∧ Below w.heap.size w w' := by
  have ze := empty_yes h
  have zn := toList_nil h
  clear h
  go_enter Tryd.func11, Tryd.ntmps11
  unfold msgV
  go_wp2_with fail
  refine bodyPost_ret (results_cell2 rfl _ _ (w.heap.size + 1) _ _ _ _ rfl (two_last _ _ _) Tryd.underlying26 rfl (by kernel_rfl)) rfl ⟨rfl, two_allocs _ _ _⟩
set_option maxRecDepth 100000 in
set_option maxHeartbeats 2000000 in
theorem refBounce_b (m : Ms) (v : Value) (ok : m.Ok) (name : ByteArray) (hname : name.size ≤ maxLen) (code now : Int) (w : World) (h : m.fu.size ≠ 0) (hh : HopsIn w v m.ho) (hbad : checkE m ≠ 0 ∨ siteE name ≠ 0 ∨ ¬ (0 ≤ now ∧ now ≤ 105190559)) :
    Calls Tryd.prog 11 #[msgV m v, .string name, .int .i64 code, .int .i64 now] w fun e w' => e = .returned (.tuple #[msgV noMs (.slice none 0 0), .bool false]) ∧ Below w.heap.size w w' := by
  have ze := empty_no h
  have HH := Lib.hid hh
  have OK := Lib.hid ok
  have HBad := Lib.hid hbad
  clear h hh ok hbad
  go_enter Tryd.func11, Tryd.ntmps11
  unfold msgV
  go_wp2_with fail
  refine (refCheck_s m v OK.out _ (HH.out.below (two_allocs _ _ _))).mono ?_
  rintro e w1 ⟨rfl, b1⟩
  have hz : w1.heap[w.heap.size + 1]? = some (.cells (msgCells noMs (.slice none 0 0)) 26 (0, 0)) := (b1.block (w.heap.size + 1) (by simp only [size_alloc]; omega)).trans (two_last w _ _)
  have HBw := Lib.hid ((two_allocs w _ _).trans (b1.mono (two_allocs _ _ _).size))
  have f0 := frozen_of hz 0
  have f1 := frozen_of hz 1
  have f2 := frozen_of hz 2
  have f3 := frozen_of hz 3
  have f4 := frozen_of hz 4
  have f5 := frozen_of hz 5
  have f6 := frozen_of hz 6
  have f7 := frozen_of hz 7
  have f8 := frozen_of hz 8
  obtain ⟨y0, y1, y2, y3, y4, y5, y6, y7, y8⟩ := MsgAt.of_block hz
  have HZ := Lib.hid hz
  clear hz b1
  by_cases c1 : checkE m = 0
  case neg =>
    have q1 : (checkE m == 0) = false := by rw [beq_eq_false_iff_ne]; exact c1
    go_wp2_with fail
    refine bodyPost_ret (results_cell2 rfl _ _ (w.heap.size + 1) _ _ _ _ rfl (set9_block HZ.out _ _ _ _ _ _ _ _ _) Tryd.underlying26 rfl (by kernel_rfl)) rfl ⟨rfl, set9_below (B := w.heap.size) (b := w.heap.size + 1) HBw.out (by omega) _ _ _ _ _ _ _ _ _⟩
  have C1 := Lib.hid c1
  rw [c1]
  clear c1
  go_wp2_with fail
  refine (refSite_s name hname _).mono ?_
  rintro e w0 ⟨rfl, rfl⟩
  by_cases c2 : siteE name = 0
  case neg =>
    have q1 : (siteE name == 0) = false := by rw [beq_eq_false_iff_ne]; exact c2
    go_wp2_with fail
    refine bodyPost_ret (results_cell2 rfl _ _ (w.heap.size + 1) _ _ _ _ rfl (set9_block HZ.out _ _ _ _ _ _ _ _ _) Tryd.underlying26 rfl (by kernel_rfl)) rfl ⟨rfl, set9_below (B := w.heap.size) (b := w.heap.size + 1) HBw.out (by omega) _ _ _ _ _ _ _ _ _⟩
  have C2 := Lib.hid c2
  rw [c2]
  clear c2
  go_wp2_with fail
  refine (refMinute_s now _).mono ?_
  rintro e w0 ⟨rfl, rfl⟩
  have c3 : decide (0 ≤ now ∧ now ≤ 105190559) = false := by
    rw [decide_eq_false_iff_not]
    rcases HBad.out with h | h | h
    · exact absurd C1.out h
    · exact absurd C2.out h
    · exact h
  rw [c3]
  clear c3
  go_wp2_with fail
  refine bodyPost_ret (results_cell2 rfl _ _ (w.heap.size + 1) _ _ _ _ rfl (set9_block HZ.out _ _ _ _ _ _ _ _ _) Tryd.underlying26 rfl (by kernel_rfl)) rfl ⟨rfl, set9_below (B := w.heap.size) (b := w.heap.size + 1) HBw.out (by omega) _ _ _ _ _ _ _ _ _⟩
end Go.Proofs.YtkiheanpamplpaaDoor
