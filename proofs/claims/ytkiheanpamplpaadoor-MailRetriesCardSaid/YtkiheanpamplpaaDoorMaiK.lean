/-
  Package mail: Pass, passing on.
-/
import Derived.Test.YtkiheanpamplpaaDoorMaiJ
set_option linter.unusedSimpArgs false
set_option linter.unusedVariables false
set_option linter.unnecessarySimpa false
namespace Go.Proofs.YtkiheanpamplpaaDoor
open Go.RowKit Go.Bul
theorem passE_zero {m : Ms} {name : ByteArray} (h : passE m name = 0) : checkE m = 0 ∧ siteE name = 0 ∧ Lib.containsS m.ho name = false ∧ m.ho.length < 16 := by
  unfold passE at h
  by_cases a1 : checkE m ≠ 0
  · rw [if_pos a1] at h; exact absurd h a1
  rw [if_neg a1] at h
  by_cases a2 : siteE name ≠ 0
  · rw [if_pos a2] at h; exact absurd h a2
  rw [if_neg a2] at h
  by_cases a3 : Lib.containsS m.ho name = true
  · rw [if_pos a3] at h; exact absurd h (by decide)
  rw [if_neg a3] at h
  by_cases a4 : 16 ≤ m.ho.length
  · rw [if_pos a4] at h; exact absurd h (by decide)
  exact ⟨by simpa using a1, by simpa using a2, by simpa using a3, by omega⟩
set_option maxRecDepth 100000 in
set_option maxHeartbeats 4000000 in
theorem pass_c (m : Ms) (v : Value) (ok : m.Ok) (name : ByteArray) (hname : name.size ≤ maxLen) (w : World) (hh : HopsIn w v m.ho) (hgood : passE m name = 0) :
    Calls Tryd.prog 18 #[msgV m v, .string name] w fun e w' => ∃ v', e = .returned (.tuple #[msgV { m with ho := m.ho ++ [name] } v', .int .i64 0]) ∧ OwnH w.heap.size w' v' (m.ho ++ [name]) ∧ Below w.heap.size w w' := by
  obtain ⟨i0, hi, hz0, hz1, hz2⟩ := info_parts infoString
  have HH := Lib.hid hh
  have OK := Lib.hid ok
  obtain ⟨c1, c2, c3, c4⟩ := passE_zero hgood
  have hn5 := ok.hn
  obtain ⟨a0, len, cap, hv⟩ : ∃ a n c, v = .slice a n c := by
    rcases hh with ⟨_, a, c, h, _⟩ | ⟨b, off, c, h, _⟩
    · exact ⟨_, _, _, h⟩
    · exact ⟨_, _, _, h⟩
  subst hv
  obtain rfl : len = m.ho.length := by
    rcases hh with ⟨h, a, c, e, _⟩ | ⟨b, off, c, e, _⟩
    · cases e; rw [h]; rfl
    · cases e; rfl
  clear hh ok hgood
  go_enter Tryd.func18, Tryd.ntmps18
  unfold msgV
  go_wp2_with fail
  refine (check_s m _ OK.out _ (HH.out.below (two_allocs _ _ _))).mono ?_
  rintro e w1 ⟨rfl, b1⟩
  have hz : w1.heap[w.heap.size + 1]? = some (.cells (msgCells noMs (.slice none 0 0)) 29 (0, 0)) := (b1.block (w.heap.size + 1) (by simp only [size_alloc]; omega)).trans (two_last w _ _)
  have hx : w1.heap[w.heap.size]? = some (.cells (msgCells m (.slice a0 m.ho.length cap)) 29 (0, 0)) := (b1.block w.heap.size (by simp only [size_alloc]; omega)).trans ((Below.heap_alloc _ _ _ (by rw [size_alloc]; omega)).trans (heap_alloc_new _ _))
  have HBw := Lib.hid ((two_allocs w _ _).trans (b1.mono (two_allocs _ _ _).size))
  have HHs := Lib.hid (HH.out.below HBw.out)
  have HS1 := Lib.hid (show w.heap.size + 2 ≤ w1.heap.size by have := b1.size; simp only [size_alloc] at this; omega)
  have HZ := Lib.hid hz
  have HX := Lib.hid hx
  obtain ⟨_, _, _, _, _, _, _, g7, _⟩ := MsgAt.of_block hx
  clear hz hx b1
  rw [c1]
  go_wp2_with fail
  refine (site_s name hname _).mono ?_
  rintro e w0 ⟨rfl, rfl⟩
  rw [c2]
  go_wp2_with fail
  refine (contains_s _ m.ho name _ hn5 HHs.out).mono ?_
  rintro e w' ⟨rfl, rfl⟩
  rw [c3]
  go_wp2_with fail
  refine (clone_s _ m.ho _ hn5 HHs.out).mono ?_
  rintro e w2 ⟨v2, rfl, hown, b2⟩
  have hs2 := b2.size
  have hs1 := HS1.out
  have hlt := hown.lt
  have HX2 := Lib.hid ((b2.block w.heap.size (by omega)).trans HX.out)
  have HZ2 := Lib.hid ((b2.block (w.heap.size + 1) (by omega)).trans HZ.out)
  have HB2 := Lib.hid b2
  clear b2 g7
  go_wp2_with (at_builtin; refine wpList_append_own _ rfl _ _ 24 rfl w1.heap.size 9 i0 (.string ⟨#[]⟩) 1 16 Tryd.underlying24 hi hz0 hz1 hz2 rfl (by decide) _ _ _ rfl (hown.alloc _) ⟨w2.heap.size, 0, none⟩ 1 1 [.string name] rfl rfl (cell_one_new _ _ _) (by simp [Value.oneCell']) (by unfold maxLen; omega) (by omega) (by simp; omega) ?_; intro v3 w3 hown3 hgr3 _; obtain ⟨a9, l9, c9, rfl⟩ := owns_slice hown3; have hx3 := (hgr3.block w.heap.size (by rw [size_alloc]; omega) (fun e => by have := hlt _ e.symm; omega)).trans ((Below.heap_alloc _ _ _ (by omega)).trans HX2.out); have hz3 := (hgr3.block (w.heap.size + 1) (by rw [size_alloc]; omega) (fun e => by have := hlt _ e.symm; omega)).trans ((Below.heap_alloc _ _ _ (by omega)).trans HZ2.out); have HX3 := Lib.hid hx3; have HZ3 := Lib.hid hz3; obtain ⟨x0, x1, x2, x3, x4, x5, x6, x7, x8⟩ := MsgAt.of_block hx3; obtain ⟨y0, y1, y2, y3, y4, y5, y6, y7, y8⟩ := MsgAt.of_block hz3; have e7 := frozen_of hx3 7; have f0 := frozen_of hz3 0; have f1 := frozen_of hz3 1; have f2 := frozen_of hz3 2; have f3 := frozen_of hz3 3; have f4 := frozen_of hz3 4; have f5 := frozen_of hz3 5; have f6 := frozen_of hz3 6; have f7 := frozen_of hz3 7; have f8 := frozen_of hz3 8; clear hx3 hz3)
  have hz4 : (w3.setCell ⟨w.heap.size, 7, none⟩ (.slice a9 l9 c9)).heap[w.heap.size + 1]? = _ := (Below.heap_setCell _ _ _ _ (by simp)).trans HZ3.out
  refine bodyPost_ret (results_cell2 rfl _ _ (w.heap.size + 1) _ _ _ _ rfl (set9_block hz4 _ _ _ _ _ _ _ _ _) Tryd.underlying29 rfl (by kernel_rfl)) rfl ?_
  have hb3 : Below w.heap.size w w3 := (((HBw.out.trans (HB2.out.mono (by omega))).alloc (by omega) _).grown hgr3 (by simp; omega) (fun k hk => by have := (hlt k hk).1; omega))
  have ho4 : OwnH (w.heap.size + 2) w3 (.slice a9 l9 c9) (m.ho ++ [name]) := OwnH.of hown3 (by omega) HS1.out
  have ho5 : OwnH (w.heap.size + 2) (w3.setCell ⟨w.heap.size, 7, none⟩ (.slice a9 l9 c9)) (.slice a9 l9 c9) (m.ho ++ [name]) := ho4.set (by omega)
  exact ⟨_, rfl, OwnH.set9 (b := w.heap.size + 1) ho5 (by omega) (by omega) _ _ _ _ _ _ _ _ _, set9_below (B := w.heap.size) (b := w.heap.size + 1) (hb3.setCell (p := ⟨w.heap.size, 7, none⟩) (by simp) _) (by omega) _ _ _ _ _ _ _ _ _⟩
end Go.Proofs.YtkiheanpamplpaaDoor
