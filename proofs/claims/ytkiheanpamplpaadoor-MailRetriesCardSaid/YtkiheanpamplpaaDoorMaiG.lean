/-
  Package mail: Bounce.
-/
import Derived.Test.YtkiheanpamplpaaDoorMaiF
import Derived.Laws.ResultCell
import Derived.Laws.Rows
set_option linter.unusedSimpArgs false
set_option linter.unusedVariables false
set_option linter.unnecessarySimpa false
namespace Go.Proofs.YtkiheanpamplpaaDoor
open Go.RowKit Go.Bul
theorem results_cell2 {P : Program} {fn : Func} {p u : Tmp} {ty : TypeId} (h : fn.results = #[.cell p ty, .tmp u]) (tmps : Array Value) (w : World) (g : Nat) (t : TypeId) (cs : Array Value) (fr : Nat × Nat) (d : TypeDesc)
    (hp : tmps.getD p undef = .pointer (some ⟨g, 0, none⟩)) (hg : w.heap[g]? = some (.cells cs t fr))
    (hu : P.underlying ty = some d) (hd : (match d with | .struct _ | .array _ _ => true | _ => false) = true) (hi : (P.info? ty).map (·.size) = some cs.size) :
    (results fn tmps).run P w = .ok (.tuple #[.agg cs, tmps.getD u undef]) w := by
  rw [results_cell_tmp h, hp]
  simp [asAddr, run_loadVar_row w g t ty cs fr d hg hu hd hi]
theorem two_last (w : World) (o1 o2 : Obj) : ((w.alloc o1).alloc o2).heap[w.heap.size + 1]? = some o2 := by
  have h := heap_alloc_new (w.alloc o1) o2
  rw [size_alloc] at h
  exact h
def noMs : Ms := ⟨⟨#[]⟩, ⟨#[]⟩, ⟨#[]⟩, ⟨#[]⟩, 0, 0, ⟨#[]⟩, [], ⟨#[]⟩⟩
set_option maxRecDepth 100000 in
set_option maxHeartbeats 2000000 in
theorem bounce_a (m : Ms) (v : Value) (name : ByteArray) (code now : Int) (w : World) (h : m.fu.size = 0) :
    Calls Tryd.prog 10 #[msgV m v, .string name, .int .i64 code, .int .i64 now] w fun e w' => e = .returned (.tuple #[msgV noMs (.slice none 0 0), .bool false]) ∧ Below w.heap.size w w' := by
  have ze := empty_yes h
  have zn := toList_nil h
  clear h
  go_enter Tryd.func10, Tryd.ntmps10
  unfold msgV
  go_wp2_with fail
  refine bodyPost_ret (results_cell2 rfl _ _ (w.heap.size + 1) _ _ _ _ rfl (two_last _ _ _) Tryd.underlying29 rfl (by kernel_rfl)) rfl ⟨rfl, two_allocs _ _ _⟩
def zeroMs : Array Value := msgCells noMs (.slice none 0 0)
set_option maxRecDepth 100000 in
set_option maxHeartbeats 2000000 in
theorem bounce_b (m : Ms) (v : Value) (ok : m.Ok) (name : ByteArray) (hname : name.size ≤ maxLen) (code now : Int) (w : World) (h : m.fu.size ≠ 0) (hh : HopsIn w v m.ho) (hbad : checkE m ≠ 0 ∨ siteE name ≠ 0 ∨ ¬ (0 ≤ now ∧ now ≤ 105190559)) :
    Calls Tryd.prog 10 #[msgV m v, .string name, .int .i64 code, .int .i64 now] w fun e w' => e = .returned (.tuple #[msgV noMs (.slice none 0 0), .bool false]) ∧ Below w.heap.size w w' := by
  have ze := empty_no h
  have HH := Lib.hid hh
  have OK := Lib.hid ok
  have HBad := Lib.hid hbad
  clear h hh ok hbad
  go_enter Tryd.func10, Tryd.ntmps10
  unfold msgV
  go_wp2_with fail
  refine (check_s m v OK.out _ (HH.out.below (two_allocs _ _ _))).mono ?_
  rintro e w1 ⟨rfl, b1⟩
  have hz : w1.heap[w.heap.size + 1]? = some (.cells (msgCells noMs (.slice none 0 0)) 29 (0, 0)) := (b1.block (w.heap.size + 1) (by simp only [size_alloc]; omega)).trans (two_last w _ _)
  have HBw := Lib.hid ((two_allocs w _ _).trans (b1.mono (two_allocs _ _ _).size))
  have f0 := frozen_of hz 0
  have f1 := frozen_of hz 1
  have f2 := frozen_of hz 2
  have f3 := frozen_of hz 3
  have f4 := frozen_of hz 4
  have f5 := frozen_of hz 5
  have f6 := frozen_of hz 6
  have f7 := frozen_of hz 7
  have f8 := frozen_of hz 8
  obtain ⟨y0, y1, y2, y3, y4, y5, y6, y7, y8⟩ := MsgAt.of_block hz
  have HZ := Lib.hid hz
  clear hz b1
  by_cases c1 : checkE m = 0
  case neg =>
    have q1 : (checkE m == 0) = false := by rw [beq_eq_false_iff_ne]; exact c1
    go_wp2_with fail
    refine bodyPost_ret (results_cell2 rfl _ _ (w.heap.size + 1) _ _ _ _ rfl (set9_block HZ.out _ _ _ _ _ _ _ _ _) Tryd.underlying29 rfl (by kernel_rfl)) rfl ⟨rfl, set9_below (B := w.heap.size) (b := w.heap.size + 1) HBw.out (by omega) _ _ _ _ _ _ _ _ _⟩
  have C1 := Lib.hid c1
  rw [c1]
  clear c1
  go_wp2_with fail
  refine (site_s name hname _).mono ?_
  rintro e w0 ⟨rfl, rfl⟩
  by_cases c2 : siteE name = 0
  case neg =>
    have q1 : (siteE name == 0) = false := by rw [beq_eq_false_iff_ne]; exact c2
    go_wp2_with fail
    refine bodyPost_ret (results_cell2 rfl _ _ (w.heap.size + 1) _ _ _ _ rfl (set9_block HZ.out _ _ _ _ _ _ _ _ _) Tryd.underlying29 rfl (by kernel_rfl)) rfl ⟨rfl, set9_below (B := w.heap.size) (b := w.heap.size + 1) HBw.out (by omega) _ _ _ _ _ _ _ _ _⟩
  have C2 := Lib.hid c2
  rw [c2]
  clear c2
  go_wp2_with fail
  refine (minute_s now _).mono ?_
  rintro e w0 ⟨rfl, rfl⟩
  have c3 : decide (0 ≤ now ∧ now ≤ 105190559) = false := by
    rw [decide_eq_false_iff_not]
    rcases HBad.out with h | h | h
    · exact absurd C1.out h
    · exact absurd C2.out h
    · exact h
  rw [c3]
  clear c3
  go_wp2_with fail
  refine bodyPost_ret (results_cell2 rfl _ _ (w.heap.size + 1) _ _ _ _ rfl (set9_block HZ.out _ _ _ _ _ _ _ _ _) Tryd.underlying29 rfl (by kernel_rfl)) rfl ⟨rfl, set9_below (B := w.heap.size) (b := w.heap.size + 1) HBw.out (by omega) _ _ _ _ _ _ _ _ _⟩
theorem user_size {s : ByteArray} (h : userB s = true) : s.size ≤ 40 := by
  unfold userB at h
  rw [Bool.and_eq_true, decide_eq_true_iff] at h
  exact h.2
theorem site_size {s : ByteArray} (h : siteE s = 0) : s.size ≤ 30 := by
  unfold siteE at h
  by_cases h0 : s.size = 0
  · omega
  · rw [if_neg h0] at h
    by_cases h1 : 30 < s.size
    · rw [if_pos h1] at h; exact absurd h (by decide)
    · omega
theorem sub_size {s : ByteArray} (h : subE s = 0) : s.size ≤ 200 := by
  unfold subE at h
  by_cases h1 : 200 < s.size
  · rw [if_pos h1] at h; exact absurd h (by decide)
  · omega
theorem check_zero {m : Ms} (h : checkE m = 0) : userB m.fu = true ∧ siteE m.fs = 0 ∧ userB m.tu = true ∧ m.tu.size ≠ 0 ∧ siteE m.ts = 0 ∧ (0 ≤ m.nu ∧ m.nu ≤ 2147483647) ∧ (0 ≤ m.da ∧ m.da ≤ 105190559) ∧ subE m.su = 0 ∧ m.ho.length ≤ 16 ∧ hopsE [] m.ho (if 32768 < m.bo.size then 5 else 0) = 0 := by
  unfold checkE at h
  by_cases a1 : userB m.fu = false
  · rw [if_pos a1] at h; exact absurd h (by decide)
  rw [if_neg a1] at h
  by_cases a2 : siteE m.fs ≠ 0
  · rw [if_pos a2] at h; exact absurd h a2
  rw [if_neg a2] at h
  by_cases a3 : userB m.tu = false ∨ m.tu.size = 0
  · rw [if_pos a3] at h; exact absurd h (by decide)
  rw [if_neg a3] at h
  by_cases a4 : siteE m.ts ≠ 0
  · rw [if_pos a4] at h; exact absurd h a4
  rw [if_neg a4] at h
  by_cases a5 : m.nu < 0 ∨ 2147483647 < m.nu
  · rw [if_pos a5] at h; exact absurd h (by decide)
  rw [if_neg a5] at h
  by_cases a6 : ¬ (0 ≤ m.da ∧ m.da ≤ 105190559)
  · rw [if_pos a6] at h; exact absurd h (by decide)
  rw [if_neg a6] at h
  by_cases a7 : subE m.su ≠ 0
  · rw [if_pos a7] at h; exact absurd h a7
  rw [if_neg a7] at h
  by_cases a8 : 16 < m.ho.length
  · rw [if_pos a8] at h; exact absurd h (by decide)
  rw [if_neg a8] at h
  simp only [not_or, Bool.not_eq_false, ne_eq, Classical.not_not] at a1 a2 a3 a4 a6 a7
  exact ⟨a1, a2, a3.1, a3.2, a4, by omega, a6, a7, by omega, h⟩
end Go.Proofs.YtkiheanpamplpaaDoor
