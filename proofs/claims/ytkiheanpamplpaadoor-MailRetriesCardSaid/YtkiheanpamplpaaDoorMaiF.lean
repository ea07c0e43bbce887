/-
  Package mail and its reference: equality of messages.
-/
import Derived.Test.YtkiheanpamplpaaDoorMaiE
set_option linter.unusedSimpArgs false
set_option linter.unusedVariables false
set_option linter.unnecessarySimpa false
namespace Go.Proofs.YtkiheanpamplpaaDoor
open Go.RowKit Go.Bul
theorem bytes_inj {a b : ByteArray} (h : a.toList = b.toList) : a = b := by
  rw [toList_data, toList_data] at h
  rcases a with ⟨⟨a⟩⟩
  rcases b with ⟨⟨b⟩⟩
  simp at h
  rw [h]
theorem HopsIn.shape {w : World} {v : Value} {zs : List ByteArray} (h : HopsIn w v zs) : ∃ a c, v = .slice a zs.length c := by
  rcases h with ⟨rfl, a, c, h, _⟩ | ⟨b, off, c, h, _⟩
  · exact ⟨a, c, h⟩
  · exact ⟨_, c, h⟩
theorem hopsEq_s (va vb : Value) (la lb : List ByteArray) (oka : la.length ≤ 100000) (okb : lb.length ≤ 100000) (w : World) (ha : HopsIn w va la) (hb : HopsIn w vb lb) :
    Calls Tryd.prog 44 #[va, vb] w fun e w' => e = .returned (.bool (decide (la = lb))) ∧ ∃ q, w' = w.drewN q := by
  rcases ha with ⟨rfl, a, c, rfl, _⟩ | ⟨b, off, c, rfl, h2, h3, h4⟩
  · obtain ⟨a2, c2, rfl⟩ := hb.shape
    refine (Tryd.slices_Equal_string_empty a a2 c lb.length c2 w (by omega)).mono fun _ _ ⟨he, hw⟩ => ⟨?_, 0, hw⟩
    rw [he]
    exact ret_bool (by cases lb <;> simp)
  · rcases hb with ⟨rfl, a2, c2, rfl, _⟩ | ⟨b2, off2, c2, rfl, g2, g3, g4⟩
    · by_cases hl : la.length = 0
      · have h0 := List.eq_nil_of_length_eq_zero hl
        subst h0
        refine (Tryd.slices_Equal_string_empty (some ⟨b, off, none⟩) a2 c 0 c2 w (by omega)).mono fun _ _ ⟨he, hw⟩ => ⟨?_, 0, hw⟩
        rw [he]
        exact ret_bool (by simp)
      · refine (Tryd.slices_Equal_string_lens (some ⟨b, off, none⟩) a2 la.length c 0 c2 w hl).mono fun _ _ ⟨he, hw⟩ => ⟨?_, 0, hw⟩
        rw [he]
        refine ret_bool ?_
        symm
        rw [decide_eq_false_iff_not]
        intro e
        exact hl (by rw [e]; rfl)
    · refine (Tryd.slices_Equal_string b off la.length c b2 off2 lb.length c2 la lb w (Nat.le_refl _) (Nat.le_refl _) (by omega) (by omega) (fun j hj => ?_) (fun j hj => ?_)).mono fun _ _ ⟨he, hw⟩ => ⟨?_, hw⟩
      · rw [h4 j hj, List.getD_eq_getElem?_getD, List.getElem?_eq_getElem hj, Option.getD_some]
      · rw [g4 j hj, List.getD_eq_getElem?_getD, List.getElem?_eq_getElem hj, Option.getD_some]
      · rw [he, List.take_length, List.take_length]
theorem two_allocs (w : World) (o1 o2 : Obj) : Below w.heap.size w ((w.alloc o1).alloc o2) := ((Below.refl w.heap.size w).alloc (Nat.le_refl _) o1).alloc (by rw [size_alloc]; omega) o2
theorem ms_ne {a b : Ms} (h : ¬ (a.fu.toList = b.fu.toList ∧ a.fs.toList = b.fs.toList ∧ a.tu.toList = b.tu.toList ∧ a.ts.toList = b.ts.toList ∧ a.nu = b.nu ∧ a.da = b.da ∧ a.su.toList = b.su.toList ∧ a.ho = b.ho ∧ a.bo.toList = b.bo.toList)) : decide (a = b) = false := by
  rw [decide_eq_false_iff_not]
  intro e
  subst e
  exact h ⟨rfl, rfl, rfl, rfl, rfl, rfl, rfl, rfl, rfl⟩
theorem ms_eq {a b : Ms} (h1 : a.fu.toList = b.fu.toList) (h2 : a.fs.toList = b.fs.toList) (h3 : a.tu.toList = b.tu.toList) (h4 : a.ts.toList = b.ts.toList) (h5 : a.nu = b.nu) (h6 : a.da = b.da) (h7 : a.su.toList = b.su.toList) (h8 : a.ho = b.ho) (h9 : a.bo.toList = b.bo.toList) : decide (a = b) = true := by
  rw [decide_eq_true_iff]
  cases a
  cases b
  simp only at h1 h2 h3 h4 h5 h6 h7 h8 h9
  rw [bytes_inj h1, bytes_inj h2, bytes_inj h3, bytes_inj h4, h5, h6, bytes_inj h7, h8, bytes_inj h9]
set_option maxRecDepth 100000 in
set_option maxHeartbeats 2000000 in
theorem equal_s (a b : Ms) (va vb : Value) (oka : a.ho.length ≤ 100000) (okb : b.ho.length ≤ 100000) (w : World) (ha : HopsIn w va a.ho) (hb : HopsIn w vb b.ho) :
    Calls Tryd.prog 17 #[msgV a va, msgV b vb] w fun e w' => e = .returned (.bool (decide (a = b))) ∧ Below w.heap.size w w' := by
  have HA := Lib.hid ha
  have HB := Lib.hid hb
  clear ha hb
  cases hd : decide (a.ho = b.ho)
  all_goals cases hbo : (a.bo.toList == b.bo.toList)
  all_goals
    go_enter Tryd.func17, Tryd.ntmps17
    unfold msgV
    go_wp2_with (go_at_call 44; refine (hopsEq_s va vb a.ho b.ho oka okb _ (HA.out.below (two_allocs _ _ _)) (HB.out.below (two_allocs _ _ _))).mono ?_; rintro e w' ⟨rfl, q, rfl⟩)
    all_goals
      first
        | (go_ret
           refine ⟨ret_bool (Eq.symm (ms_ne ?hne)), ?hbw⟩
           case hbw => first | exact two_allocs _ _ _ | exact below_drewN (two_allocs _ _ _) _
           case hne => simp_all)
        | (go_ret
           refine ⟨ret_bool (Eq.symm (ms_eq ?h1 ?h2 ?h3 ?h4 ?h5 ?h6 ?h7 ?h8 ?h9)), below_drewN (two_allocs _ _ _) _⟩
           all_goals simp_all)
theorem HopsIn.strs {w : World} {v : Value} {zs : List ByteArray} (h : HopsIn w v zs) : StrsIn w v (zs.map (·.data.toList)) := by
  rcases h with ⟨rfl, a, c, h, _⟩ | ⟨b, off, c, h1, h2, h3, h4⟩
  · exact .inl ⟨rfl, a, c, h⟩
  · refine .inr ⟨b, off, c, by rw [List.length_map]; exact h1, h2, fun j hj => ?_⟩
    rw [List.length_map] at hj
    rw [h4 j hj]
    simp only [List.getElem_map]
theorem map_inj : ∀ {la lb : List ByteArray}, la.map (·.data.toList) = lb.map (·.data.toList) → la = lb
  | [], [], _ => rfl
  | [], _ :: _, h => by simp at h
  | _ :: _, [], h => by simp at h
  | x :: la, y :: lb, h => by
    simp only [List.map_cons, List.cons.injEq] at h
    have h1 : x = y := bytes_inj (by rw [toList_data, toList_data]; exact h.1)
    rw [h1, map_inj h.2]
theorem refHopsEq_s (va vb : Value) (la lb : List ByteArray) (oka : la.length ≤ 100000) (okb : lb.length ≤ 100000) (w : World) (ha : HopsIn w va la) (hb : HopsIn w vb lb) :
    Calls Tryd.prog 36 #[va, vb] w fun e w' => e = .returned (.bool (decide (la = lb))) ∧ Below w.heap.size w w' := by
  have h := refSame_s va vb _ _ (by rw [List.length_map]; omega) (by rw [List.length_map]; omega) w ha.strs hb.strs
  have e : decide (la.map (·.data.toList) = lb.map (·.data.toList)) = decide (la = lb) := by
    rw [Bool.eq_iff_iff, decide_eq_true_iff, decide_eq_true_iff]
    exact ⟨map_inj, fun e => by rw [e]⟩
  rw [e] at h
  exact h
set_option maxRecDepth 100000 in
set_option maxHeartbeats 2000000 in
theorem refEqual_s (a b : Ms) (va vb : Value) (oka : a.ho.length ≤ 100000) (okb : b.ho.length ≤ 100000) (w : World) (ha : HopsIn w va a.ho) (hb : HopsIn w vb b.ho) :
    Calls Tryd.prog 13 #[msgV a va, msgV b vb] w fun e w' => e = .returned (.bool (decide (a = b))) ∧ Below w.heap.size w w' := by
  have HA := Lib.hid ha
  have HB := Lib.hid hb
  clear ha hb
  cases hd : decide (a.ho = b.ho)
  all_goals
    go_enter Tryd.func13, Tryd.ntmps13
    unfold msgV
    go_wp2_with (go_at_call 36; refine (refHopsEq_s va vb a.ho b.ho oka okb _ (HA.out.below (two_allocs _ _ _)) (HB.out.below (two_allocs _ _ _))).mono ?_; rintro e w' ⟨rfl, bw⟩)
    all_goals
      first
        | (go_ret
           refine ⟨ret_bool (Eq.symm (ms_ne ?hne)), ?hbw⟩
           case hbw => first | exact two_allocs _ _ _ | exact (two_allocs _ _ _).trans (bw.mono (two_allocs _ _ _).size)
           case hne => simp_all)
        | (go_ret
           refine ⟨ret_bool (Eq.symm (ms_eq ?h1 ?h2 ?h3 ?h4 ?h5 ?h6 ?h7 ?h8 ?h9)), (two_allocs _ _ _).trans (bw.mono (two_allocs _ _ _).size)⟩
           all_goals simp_all)
end Go.Proofs.YtkiheanpamplpaaDoor
