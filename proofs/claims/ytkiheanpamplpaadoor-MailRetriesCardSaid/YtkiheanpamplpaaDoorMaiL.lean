/-
  The reference of package mail: Pass.
-/
import Derived.Test.YtkiheanpamplpaaDoorMaiK
set_option linter.unusedSimpArgs false
set_option linter.unusedVariables false
set_option linter.unnecessarySimpa false
namespace Go.Proofs.YtkiheanpamplpaaDoor
open Go.RowKit Go.Bul
set_option maxRecDepth 100000 in
set_option maxHeartbeats 2000000 in
theorem refPass_a (m : Ms) (v : Value) (ok : m.Ok) (name : ByteArray) (hname : name.size ≤ maxLen) (w : World) (hh : HopsIn w v m.ho) (hbad : passE m name ≠ 0) :
    Calls Tryd.prog 19 #[msgV m v, .string name] w fun e w' => e = .returned (.tuple #[msgV noMs (.slice none 0 0), .int .i64 (passE m name)]) ∧ Below w.heap.size w w' := by
  have HH := Lib.hid hh
  have OK := Lib.hid ok
  have HBad := Lib.hid hbad
  have hn5 := ok.hn
  obtain ⟨a0, len, cap, hv⟩ : ∃ a n c, v = .slice a n c := by
    rcases hh with ⟨_, a, c, h, _⟩ | ⟨b, off, c, h, _⟩
    · exact ⟨_, _, _, h⟩
    · exact ⟨_, _, _, h⟩
  subst hv
  obtain rfl : len = m.ho.length := by
    rcases hh with ⟨h, a, c, e, _⟩ | ⟨b, off, c, e, _⟩
    · cases e; rw [h]; rfl
    · cases e; rfl
  clear hh ok hbad
  go_enter Tryd.func19, Tryd.ntmps19
  unfold msgV
  go_wp2_with fail
  refine (refCheck_s m _ OK.out _ (HH.out.below (two_allocs _ _ _))).mono ?_
  rintro e w1 ⟨rfl, b1⟩
  have hz : w1.heap[w.heap.size + 1]? = some (.cells (msgCells noMs (.slice none 0 0)) 26 (0, 0)) := (b1.block (w.heap.size + 1) (by simp only [size_alloc]; omega)).trans (two_last w _ _)
  have HBw := Lib.hid ((two_allocs w _ _).trans (b1.mono (two_allocs _ _ _).size))
  have HMb := Lib.hid (show MsgAt w1 w.heap.size m (.slice a0 m.ho.length cap) from ((MsgAt.new w m _ 26).below ((Below.refl _ _).alloc (Nat.le_refl _) _) (by simp only [size_alloc]; omega)).below b1 (by simp only [size_alloc]; omega))
  have HHs := Lib.hid (HH.out.below HBw.out)
  have HS1 := Lib.hid (show w.heap.size + 2 ≤ w1.heap.size by have := b1.size; simp only [size_alloc] at this; omega)
  have f0 := frozen_of hz 0
  have f1 := frozen_of hz 1
  have f2 := frozen_of hz 2
  have f3 := frozen_of hz 3
  have f4 := frozen_of hz 4
  have f5 := frozen_of hz 5
  have f6 := frozen_of hz 6
  have f7 := frozen_of hz 7
  have f8 := frozen_of hz 8
  obtain ⟨y0, y1, y2, y3, y4, y5, y6, y7, y8⟩ := MsgAt.of_block hz
  have HZ := Lib.hid hz
  clear hz b1
  obtain ⟨x0, x1, x2, x3, x4, x5, x6, g7, x8⟩ := HMb.out
  by_cases c1 : checkE m = 0
  case neg =>
    have q1 : (checkE m == 0) = false := by rw [beq_eq_false_iff_ne]; exact c1
    have HR := Lib.hid (show passE m name = checkE m by unfold passE; rw [if_pos c1])
    clear f0 f1 f2 f3 f4 f5 f6 f7 f8 y0 y1 y2 y3 y4 y5 y6 y7 y8
    go_wp2_with fail
    refine (refCheck_s m _ OK.out _ HHs.out).mono ?_
    rintro e w2 ⟨rfl, b2⟩
    have hz2 := (b2.block (w.heap.size + 1) (by have := HS1.out; omega)).trans HZ.out
    have HB2 := Lib.hid (HBw.out.trans (b2.mono HBw.out.size))
    have f0 := frozen_of hz2 0
    have f1 := frozen_of hz2 1
    have f2 := frozen_of hz2 2
    have f3 := frozen_of hz2 3
    have f4 := frozen_of hz2 4
    have f5 := frozen_of hz2 5
    have f6 := frozen_of hz2 6
    have f7 := frozen_of hz2 7
    have f8 := frozen_of hz2 8
    obtain ⟨y0, y1, y2, y3, y4, y5, y6, y7, y8⟩ := MsgAt.of_block hz2
    have HZ2 := Lib.hid hz2
    clear hz2 b2
    go_wp2_with fail
    refine bodyPost_ret (results_cell2 rfl _ _ (w.heap.size + 1) _ _ _ _ rfl (set9_block HZ2.out _ _ _ _ _ _ _ _ _) Tryd.underlying26 rfl (by kernel_rfl)) rfl ⟨by rw [HR.out]; rfl, set9_below (B := w.heap.size) (b := w.heap.size + 1) HB2.out (by omega) _ _ _ _ _ _ _ _ _⟩
  have C1 := Lib.hid c1
  rw [c1]
  clear c1
  go_wp2_with fail
  refine (refSite_s name hname _).mono ?_
  rintro e w0 ⟨rfl, rfl⟩
  by_cases c2 : siteE name = 0
  case neg =>
    have q1 : (siteE name == 0) = false := by rw [beq_eq_false_iff_ne]; exact c2
    have HR := Lib.hid (show passE m name = siteE name by unfold passE; rw [if_neg (by rw [C1.out]; simp), if_pos c2])
    go_wp2_with fail
    refine (refSite_s name hname _).mono ?_
    rintro e w0 ⟨rfl, rfl⟩
    go_wp2_with fail
    refine bodyPost_ret (results_cell2 rfl _ _ (w.heap.size + 1) _ _ _ _ rfl (set9_block HZ.out _ _ _ _ _ _ _ _ _) Tryd.underlying26 rfl (by kernel_rfl)) rfl ⟨by rw [HR.out]; rfl, set9_below (B := w.heap.size) (b := w.heap.size + 1) HBw.out (by omega) _ _ _ _ _ _ _ _ _⟩
  have C2 := Lib.hid c2
  rw [c2]
  clear c2
  go_wp2_with fail
  refine (refHas_s _ m.ho name _ hn5 HHs.out).mono ?_
  rintro e w' ⟨rfl, rfl⟩
  cases c3 : Lib.containsS m.ho name
  case true =>
    have HR := Lib.hid (show passE m name = 24 by unfold passE; rw [if_neg (by rw [C1.out]; simp), if_neg (by rw [C2.out]; simp), if_pos c3])
    clear c3
    go_wp2_with fail
    refine bodyPost_ret (results_cell2 rfl _ _ (w.heap.size + 1) _ _ _ _ rfl (set9_block HZ.out _ _ _ _ _ _ _ _ _) Tryd.underlying26 rfl (by kernel_rfl)) rfl ⟨by rw [HR.out]; rfl, set9_below (B := w.heap.size) (b := w.heap.size + 1) HBw.out (by omega) _ _ _ _ _ _ _ _ _⟩
  by_cases c4 : 16 ≤ m.ho.length
  case neg => exact absurd (by unfold passE; rw [if_neg (by rw [C1.out]; simp), if_neg (by rw [C2.out]; simp), if_neg (by rw [c3]; simp), if_neg c4]) HBad.out
  obtain ⟨_, _, _, _, _, _, _, _, l16, _⟩ := check_zero C1.out
  have c5 : (m.ho.length : Int) = 16 := by omega
  have c6 : ((m.ho.length : Int) == 16) = true := by rw [beq_iff_eq]; exact c5
  have HR := Lib.hid (show passE m name = 9 by unfold passE; rw [if_neg (by rw [C1.out]; simp), if_neg (by rw [C2.out]; simp), if_neg (by rw [c3]; simp), if_pos c4])
  clear c3 c5
  go_wp2_with fail
  refine bodyPost_ret (results_cell2 rfl _ _ (w.heap.size + 1) _ _ _ _ rfl (set9_block HZ.out _ _ _ _ _ _ _ _ _) Tryd.underlying26 rfl (by kernel_rfl)) rfl ⟨by rw [HR.out]; rfl, set9_below (B := w.heap.size) (b := w.heap.size + 1) HBw.out (by omega) _ _ _ _ _ _ _ _ _⟩
end Go.Proofs.YtkiheanpamplpaaDoor
