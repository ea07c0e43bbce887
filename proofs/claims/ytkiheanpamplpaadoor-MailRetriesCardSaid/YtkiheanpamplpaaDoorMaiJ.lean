/-
  Package mail: Pass.
-/
import Derived.Test.YtkiheanpamplpaaDoorMaiI
set_option linter.unusedSimpArgs false
set_option linter.unusedVariables false
set_option linter.unnecessarySimpa false
namespace Go.Proofs.YtkiheanpamplpaaDoor
open Go.RowKit Go.Bul
def passE (m : Ms) (name : ByteArray) : Int := if checkE m ≠ 0 then checkE m else if siteE name ≠ 0 then siteE name else if Lib.containsS m.ho name = true then 24 else if 16 ≤ m.ho.length then 9 else 0
set_option maxRecDepth 100000 in
set_option maxHeartbeats 2000000 in
theorem pass_a (m : Ms) (v : Value) (ok : m.Ok) (name : ByteArray) (hname : name.size ≤ maxLen) (w : World) (hh : HopsIn w v m.ho) (hbad : passE m name ≠ 0) :
    Calls Tryd.prog 18 #[msgV m v, .string name] w fun e w' => e = .returned (.tuple #[msgV noMs (.slice none 0 0), .int .i64 (passE m name)]) ∧ Below w.heap.size w w' := by
  have HH := Lib.hid hh
  have OK := Lib.hid ok
  have HBad := Lib.hid hbad
  have hn5 := ok.hn
  obtain ⟨a0, len, cap, hv⟩ : ∃ a n c, v = .slice a n c := by
    rcases hh with ⟨_, a, c, h, _⟩ | ⟨b, off, c, h, _⟩
    · exact ⟨_, _, _, h⟩
    · exact ⟨_, _, _, h⟩
  subst hv
  obtain rfl : len = m.ho.length := by
    rcases hh with ⟨h, a, c, e, _⟩ | ⟨b, off, c, e, _⟩
    · cases e; rw [h]; rfl
    · cases e; rfl
  clear hh ok hbad
  go_enter Tryd.func18, Tryd.ntmps18
  unfold msgV
  go_wp2_with fail
  refine (check_s m _ OK.out _ (HH.out.below (two_allocs _ _ _))).mono ?_
  rintro e w1 ⟨rfl, b1⟩
  have hz : w1.heap[w.heap.size + 1]? = some (.cells (msgCells noMs (.slice none 0 0)) 29 (0, 0)) := (b1.block (w.heap.size + 1) (by simp only [size_alloc]; omega)).trans (two_last w _ _)
  have HBw := Lib.hid ((two_allocs w _ _).trans (b1.mono (two_allocs _ _ _).size))
  have HMb := Lib.hid (show MsgAt w1 w.heap.size m (.slice a0 m.ho.length cap) from ((MsgAt.new w m _ 29).below ((Below.refl _ _).alloc (Nat.le_refl _) _) (by simp only [size_alloc]; omega)).below b1 (by simp only [size_alloc]; omega))
  have HHs := Lib.hid (HH.out.below HBw.out)
  have f0 := frozen_of hz 0
  have f1 := frozen_of hz 1
  have f2 := frozen_of hz 2
  have f3 := frozen_of hz 3
  have f4 := frozen_of hz 4
  have f5 := frozen_of hz 5
  have f6 := frozen_of hz 6
  have f7 := frozen_of hz 7
  have f8 := frozen_of hz 8
  obtain ⟨y0, y1, y2, y3, y4, y5, y6, y7, y8⟩ := MsgAt.of_block hz
  have HZ := Lib.hid hz
  clear hz b1
  obtain ⟨_, _, _, _, _, _, _, g7, _⟩ := HMb.out
  by_cases c1 : checkE m = 0
  case neg =>
    have q1 : (checkE m == 0) = false := by rw [beq_eq_false_iff_ne]; exact c1
    have HR := Lib.hid (show passE m name = checkE m by unfold passE; rw [if_pos c1])
    go_wp2_with fail
    refine bodyPost_ret (results_cell2 rfl _ _ (w.heap.size + 1) _ _ _ _ rfl (set9_block HZ.out _ _ _ _ _ _ _ _ _) Tryd.underlying29 rfl (by kernel_rfl)) rfl ⟨by rw [HR.out]; rfl, set9_below (B := w.heap.size) (b := w.heap.size + 1) HBw.out (by omega) _ _ _ _ _ _ _ _ _⟩
  have C1 := Lib.hid c1
  rw [c1]
  clear c1
  go_wp2_with fail
  refine (site_s name hname _).mono ?_
  rintro e w0 ⟨rfl, rfl⟩
  by_cases c2 : siteE name = 0
  case neg =>
    have q1 : (siteE name == 0) = false := by rw [beq_eq_false_iff_ne]; exact c2
    have HR := Lib.hid (show passE m name = siteE name by unfold passE; rw [if_neg (by rw [C1.out]; simp), if_pos c2])
    go_wp2_with fail
    refine bodyPost_ret (results_cell2 rfl _ _ (w.heap.size + 1) _ _ _ _ rfl (set9_block HZ.out _ _ _ _ _ _ _ _ _) Tryd.underlying29 rfl (by kernel_rfl)) rfl ⟨by rw [HR.out]; rfl, set9_below (B := w.heap.size) (b := w.heap.size + 1) HBw.out (by omega) _ _ _ _ _ _ _ _ _⟩
  have C2 := Lib.hid c2
  rw [c2]
  clear c2
  go_wp2_with fail
  refine (contains_s _ m.ho name _ hn5 HHs.out).mono ?_
  rintro e w' ⟨rfl, rfl⟩
  cases c3 : Lib.containsS m.ho name
  case true =>
    have HR := Lib.hid (show passE m name = 24 by unfold passE; rw [if_neg (by rw [C1.out]; simp), if_neg (by rw [C2.out]; simp), if_pos c3])
    clear c3
    go_wp2_with fail
    refine bodyPost_ret (results_cell2 rfl _ _ (w.heap.size + 1) _ _ _ _ rfl (set9_block HZ.out _ _ _ _ _ _ _ _ _) Tryd.underlying29 rfl (by kernel_rfl)) rfl ⟨by rw [HR.out]; rfl, set9_below (B := w.heap.size) (b := w.heap.size + 1) HBw.out (by omega) _ _ _ _ _ _ _ _ _⟩
  by_cases c4 : 16 ≤ m.ho.length
  case neg => exact absurd (by unfold passE; rw [if_neg (by rw [C1.out]; simp), if_neg (by rw [C2.out]; simp), if_neg (by rw [c3]; simp), if_neg c4]) HBad.out
  have HR := Lib.hid (show passE m name = 9 by unfold passE; rw [if_neg (by rw [C1.out]; simp), if_neg (by rw [C2.out]; simp), if_neg (by rw [c3]; simp), if_pos c4])
  clear c3
  go_wp2_with fail
  refine bodyPost_ret (results_cell2 rfl _ _ (w.heap.size + 1) _ _ _ _ rfl (set9_block HZ.out _ _ _ _ _ _ _ _ _) Tryd.underlying29 rfl (by kernel_rfl)) rfl ⟨by rw [HR.out]; rfl, set9_below (B := w.heap.size) (b := w.heap.size + 1) HBw.out (by omega) _ _ _ _ _ _ _ _ _⟩
theorem clone_s (v : Value) (zs : List ByteArray) (w : World) (hn : zs.length ≤ 100000) (h : HopsIn w v zs) :
    Calls Tryd.prog 45 #[v] w fun e w' => ∃ v', e = .returned v' ∧ w'.ownsRow w.heap.size 9 1 v' zs.length (zs.map Value.string) ∧ Below w.heap.size w w' := by
  rcases h with ⟨rfl, a, c, rfl, hnc⟩ | ⟨b, off, c, rfl, h2, h3, h4⟩
  · cases a with
    | none => exact (Tryd.slices_Clone_string_nil 0 c w).mono fun _ _ ⟨he, hw⟩ => ⟨_, he, World.ownsRow_nil _ _ _ _, by subst hw; exact Below.refl _ _⟩
    | some a => exact (Tryd.slices_Clone_string_zero a c w).mono fun _ _ ⟨v', he, ho, _, hb⟩ => ⟨v', he, ho, hb⟩
  · refine (Tryd.slices_Clone_string b off zs.length c zs w (Nat.le_refl _) (by omega) (fun j hj => ?_)).mono fun _ _ ⟨v', he, ho, _, hb⟩ => ⟨v', he, by rw [List.take_length] at ho; exact ho, hb⟩
    rw [h4 j hj, List.getD_eq_getElem?_getD, List.getElem?_eq_getElem hj, Option.getD_some]
/-- a slice of strings of one's own, from block B on -/
def OwnH (B : Nat) (w : World) (v : Value) (zs : List ByteArray) : Prop := w.ownsRow B 9 1 v zs.length (zs.map Value.string)
theorem OwnH.set9 {B B' b : Nat} {w : World} {v : Value} {zs : List ByteArray} (h : OwnH B' w v zs) (hb : b < B') (hB : B ≤ B') (a0 a1 a2 a3 a4 a5 a6 a7 a8 : Value) : OwnH B (set9 w b a0 a1 a2 a3 a4 a5 a6 a7 a8) v zs :=
  owns_mono (set9_owns h hb a0 a1 a2 a3 a4 a5 a6 a7 a8) hB
theorem OwnH.set {B b k : Nat} {w : World} {v u : Value} {zs : List ByteArray} (h : OwnH B w v zs) (hb : b < B) : OwnH B (w.setCell ⟨b, k, none⟩ u) v zs :=
  ownsRow_setCell_below h (a := ⟨b, k, none⟩) hb u
theorem OwnH.of {B B' : Nat} {w : World} {v : Value} {zs : List ByteArray} {x : ByteArray} {n : Nat} (h : w.ownsRow B' 9 1 v n (zs.map Value.string ++ [.string x])) (hn : n = zs.length + 1) (hB : B ≤ B') : OwnH B w v (zs ++ [x]) := by
  subst hn
  unfold OwnH
  rw [List.map_append, List.length_append]
  exact owns_mono h hB
theorem OwnH.hops {B : Nat} {w : World} {v : Value} {zs : List ByteArray} (h : OwnH B w v zs) : HopsIn w v zs := HopsIn.of_owns h
end Go.Proofs.YtkiheanpamplpaaDoor
