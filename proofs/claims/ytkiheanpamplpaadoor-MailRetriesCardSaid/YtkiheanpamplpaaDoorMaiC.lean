/-
  Package mail and its reference: Of; subjects.
-/
import Derived.Test.YtkiheanpamplpaaDoorMaiB
set_option linter.unusedSimpArgs false
set_option linter.unusedVariables false
set_option linter.unnecessarySimpa false
namespace Go.Proofs.YtkiheanpamplpaaDoor
open Go.RowKit Go.Bul
def OfRel (m : Ms) (w ws wr : World) (k : Nat) : Prop :=
  ∃ v, wr.heap[w.heap.size + 2]? = some (.cells (msgCells m v) 26 (0, 0)) ∧ wr.ownsRow (w.heap.size + 3) 9 1 v k ((m.ho.take k).map Value.string) ∧ But (w.heap.size + 3) (w.heap.size + 2) ws wr
set_option maxRecDepth 100000 in
set_option maxHeartbeats 1000000 in
theorem of_s (m : Ms) (v : Value) (hn : m.ho.length ≤ 100000) (w : World) (hh : HopsIn w v m.ho) :
    Calls Tryd.prog 12 #[msgV m v] w fun e w' => ∃ v', e = .returned (msgV m v') ∧ HopsIn w' v' m.ho ∧ Below w.heap.size w w' := by
  obtain ⟨i0, hi, hz0, hz1, hz2⟩ := info_parts infoString
  have HH := Lib.hid hh
  obtain ⟨a0, len, cap, hv⟩ : ∃ a n c, v = .slice a n c := by
    rcases hh with ⟨_, a, c, h, _⟩ | ⟨b, off, c, h, _⟩
    · exact ⟨_, _, _, h⟩
    · exact ⟨_, _, _, h⟩
  subst hv
  obtain rfl : len = m.ho.length := by
    rcases hh with ⟨h, a, c, e, _⟩ | ⟨b, off, c, e, _⟩
    · cases e; rw [h]; rfl
    · cases e; rfl
  clear hh
  go_enter Tryd.func12, Tryd.ntmps12
  unfold msgV
  go_wp2_with fail
  obtain ⟨ws, hws⟩ : ∃ ws, ws = ((w.alloc (.cells (msgCells m (.slice a0 m.ho.length cap)) 29)).alloc (.cells (msgCells ⟨⟨#[]⟩, ⟨#[]⟩, ⟨#[]⟩, ⟨#[]⟩, 0, 0, ⟨#[]⟩, [], ⟨#[]⟩⟩ (.slice none 0 0)) 26)).alloc (.cells (msgCells m (.slice none 0 0)) 26) := ⟨_, rfl⟩
  have hss : ws.heap.size = w.heap.size + 3 := by rw [hws, size_alloc, size_alloc, size_alloc]
  have HST := Lib.hid (show OfRel m w ws ws 0 by
    refine ⟨.slice none 0 0, ?_, World.ownsRow_nil _ _ _ _, But.refl _ _ _⟩
    have h := heap_alloc_new ((w.alloc (.cells (msgCells m (.slice a0 m.ho.length cap)) 29)).alloc (.cells (msgCells ⟨⟨#[]⟩, ⟨#[]⟩, ⟨#[]⟩, ⟨#[]⟩, 0, 0, ⟨#[]⟩, [], ⟨#[]⟩⟩ (.slice none 0 0)) 26)) (.cells (msgCells m (.slice none 0 0)) 26)
    rw [size_alloc, size_alloc] at h
    rw [hws]
    exact h)
  have hbs : Below w.heap.size w ws := by rw [hws]; exact (((Below.refl _ _).alloc (Nat.le_refl _) _).alloc (by rw [size_alloc]; omega) _).alloc (by rw [size_alloc, size_alloc]; omega) _
  have HMs := Lib.hid (show MsgAt ws w.heap.size m (.slice a0 m.ho.length cap) by
    rw [hws]
    exact (MsgAt.new w m _ _).below (((Below.refl _ _).alloc (Nat.le_refl _) _).alloc (by simp only [size_alloc]; omega) _) (by simp only [size_alloc]; omega))
  have HZs := Lib.hid (show ws.heap[w.heap.size + 1]? = some (.cells (msgCells ⟨⟨#[]⟩, ⟨#[]⟩, ⟨#[]⟩, ⟨#[]⟩, 0, 0, ⟨#[]⟩, [], ⟨#[]⟩⟩ (.slice none 0 0)) 26 (0, 0)) by
    have h := heap_alloc_new (w.alloc (.cells (msgCells m (.slice a0 m.ho.length cap)) 29)) (.cells (msgCells ⟨⟨#[]⟩, ⟨#[]⟩, ⟨#[]⟩, ⟨#[]⟩, 0, 0, ⟨#[]⟩, [], ⟨#[]⟩⟩ (.slice none 0 0)) 26)
    rw [size_alloc] at h
    rw [hws, Below.heap_alloc _ _ _ (by rw [size_alloc, size_alloc]; omega)]
    exact h)
  unfold msgCells at hws
  rw [← hws]
  clear hws
  go_wp2_with fail
  go_loopw [4] (fun i wr => ∃ k : Nat, k ≤ m.ho.length ∧ i = .int .i64 k ∧ OfRel m w ws wr k) (fun i _ => m.ho.length + 1 - (intOf i).toNat)
  case atStart => exact ⟨0, Nat.zero_le _, rfl, HST.out⟩
  case round =>
    obtain ⟨k, hk1, rfl, hrel⟩ := hrel
    obtain ⟨vk, hblk, hown, hbut⟩ := hrel
    have HMr := HMs.out.but hbut (by omega) (by omega)
    have HMx := MsgAt.of_block hblk
    obtain ⟨_, _, _, _, _, _, _, g7, g8⟩ := HMr
    obtain ⟨_, _, _, _, _, _, _, x7, x8⟩ := HMx
    by_cases hlt : k < m.ho.length
    · have i1 : (k : Int) < m.ho.length := by omega
      have i3 : (0 : Int) ≤ (k : Int) := by omega
      rcases HH.out with ⟨hn0, _⟩ | ⟨b, off, c9, he, hbw, hlc, hcell⟩
      · rw [hn0] at hlt; exact absurd hlt (Nat.not_lt_zero _)
      · cases he
        have hc0 : wr.cell? ⟨b, off + k, none⟩ = some (.string m.ho[k]) := by
          rw [hbut.cell (p := ⟨b, off + k, none⟩) (by simp; omega) (by simp; omega), hbs.cell (p := ⟨b, off + k, none⟩) hbw]
          exact hcell k hlt
        have hsz : w.heap.size + 3 ≤ wr.heap.size := by have := hbut.size; omega
        have hlt9 := hown.lt
        have ag1 : vk.ownBlock ≠ some b := fun e => by have := hlt9 b e; omega
        have ag2 : vk.ownBlock ≠ some w.heap.size := fun e => by have := hlt9 _ e; omega
        have ag3 : vk.ownBlock ≠ some (w.heap.size + 2) := fun e => by have := hlt9 _ e; omega
        have hkl : k ≤ m.ho.length := hk1
        go_wp2_with fail
        have HB := Lib.hid hbut
        clear HH HMs HST hbut
        have p7 : (wr.alloc (.cells #[.string m.ho[k]] 9)).drew.cell? ⟨w.heap.size + 2, 7, none⟩ = some vk := (((Below.refl _ wr).alloc (Nat.le_refl _) _).drew.cell (p := ⟨w.heap.size + 2, 7, none⟩) (by simp; omega)).trans x7
        have p8 : (wr.alloc (.cells #[.string m.ho[k]] 9)).drew.cell? ⟨w.heap.size, 7, none⟩ = _ := (((Below.refl _ wr).alloc (Nat.le_refl _) _).drew.cell (p := ⟨w.heap.size, 7, none⟩) (by simp; omega)).trans g7
        go_region_law ((refine step_append_lies _ (by rfl) _ _ _ (by rfl) (w.heap.size + 3) 9 i0 _ 1 16 Tryd.underlying24 hi hz0 hz1 hz2 rfl (by omega) vk _ _ (by rfl) ((hown.alloc _).drew) ⟨wr.heap.size, 0, none⟩ 1 1 [_] (by rfl) (by rfl) (World.news_of_block (cs := #[_]) (t := 9) (fr := (0, 0)) (heap_alloc_new wr _)) (by simp [Value.oneCell']) (by omega) (by unfold maxLen; omega) (by omega) (by simp; omega) (wr.heap.size + 1) (by simp) ?_; intro gg cap w1 hown1 hgrow hat hlt2; have hb9 := hgrow.block (w.heap.size + 2) (by simp; omega) (fun e => ag3 e.symm); have hb8 : w1.heap[w.heap.size + 2]? = some _ := hb9.trans ((Below.heap_alloc _ _ _ (by omega)).trans hblk); have hx7 := (MsgAt.of_block hb8).2.2.2.2.2.2.2.1; have hf7 := frozen_of hb8 7))
        all_goals
          go_wp2_with fail
          go_roundw
          case rel =>
            refine ⟨k + 1, by omega, by go_num, _, heap_setCell_msg hb8, ?_, ((((HB.out.alloc hsz _).drew).grown hgrow (by simp; omega) (fun k hk => (hlt9 k hk).1)).setCellAt _ _)⟩
            rw [List.take_succ_eq_append_getElem hlt, List.map_append]
            exact ownsRow_setCell_below hown1 (a := ⟨w.heap.size + 2, 7, none⟩) (by simp) _
          case measure => simp [intOf]; omega
    · have i1 : decide ((k : Int) < m.ho.length) = false := by simp; omega
      obtain ⟨av, lv, cv, rfl⟩ := owns_slice hown
      have hzr := (hbut.block (w.heap.size + 1) (by omega) (by omega)).trans HZs.out
      have z0 := MsgAt.of_block hzr
      have f0 := frozen_of hzr 0
      have f1 := frozen_of hzr 1
      have f2 := frozen_of hzr 2
      have f3 := frozen_of hzr 3
      have f4 := frozen_of hzr 4
      have f5 := frozen_of hzr 5
      have f6 := frozen_of hzr 6
      have f7 := frozen_of hzr 7
      have f8 := frozen_of hzr 8
      obtain ⟨y0, y1, y2, y3, y4, y5, y6, y7, y8⟩ := z0
      have hmx := MsgAt.of_block hblk
      obtain ⟨x0, x1, x2, x3, x4, x5, x6, _, _⟩ := hmx
      have HZR := Lib.hid hzr
      have HB := Lib.hid hbut
      clear hzr hblk
      go_wp2_with fail
      refine bodyPost_ret (results_cell_row rfl _ _ (w.heap.size + 1) _ _ _ _ rfl (set9_block HZR.out _ _ _ _ _ _ _ _ _) Tryd.underlying26 rfl (by kernel_rfl)) rfl ?_
      refine ⟨_, rfl, HopsIn.of_owns (set9_owns (B := w.heap.size + 3) (b := w.heap.size + 1) (n := k) ?_ (by omega) _ _ _ _ _ _ _ _ _), set9_below (B := w.heap.size) (b := w.heap.size + 1) ?_ (by omega) _ _ _ _ _ _ _ _ _⟩
      · rw [List.take_of_length_le (by omega)] at hown; exact hown
      · exact hbs.trans (HB.out.to_below' (by omega) (by omega))
set_option maxRecDepth 100000 in
theorem refHas_s (v : Value) (zs : List ByteArray) (x : ByteArray) (w : World) (hn : zs.length ≤ 100000) (h : HopsIn w v zs) :
    Calls Tryd.prog 43 #[v, .string x] w fun e w' => e = .returned (.bool (Lib.containsS zs x)) ∧ w = w' := by
  have HH := Lib.hid h
  obtain ⟨a0, len, cap, hv⟩ : ∃ a n c, v = .slice a n c := by
    rcases h with ⟨_, a, c, h, _⟩ | ⟨b, off, c, h, _⟩
    · exact ⟨_, _, _, h⟩
    · exact ⟨_, _, _, h⟩
  subst hv
  obtain rfl : len = zs.length := by
    rcases h with ⟨h, a, c, e, _⟩ | ⟨b, off, c, e, _⟩
    · cases e; rw [h]; rfl
    · cases e; rfl
  clear h
  go_enter Tryd.func43, Tryd.ntmps43
  go_wp2_with fail
  go_loop [5] (fun i => ∃ k : Nat, k ≤ zs.length ∧ i = .int .i64 k ∧ ∀ j (hj : j < zs.length), j < k → zs[j] ≠ x) (fun i => zs.length - (intOf i).toNat)
  case atStart => exact ⟨0, Nat.zero_le _, rfl, fun j _ h => absurd h (Nat.not_lt_zero _)⟩
  case round =>
    obtain ⟨k, hk, rfl, hall⟩ := hrel
    have HA := Lib.hid hall
    clear hall
    by_cases hlt : k < zs.length
    · rcases HH.out with ⟨hn0, _⟩ | ⟨b, off, c9, he, hbw, hlc, hcell⟩
      · rw [hn0] at hlt; exact absurd hlt (Nat.not_lt_zero _)
      · cases he
        have hc0 := hcell k hlt
        clear hcell
        by_cases hx : zs[k] = x
        · have hq : (zs[k].toList == x.toList) = true := by rw [hx]; simp
          have HR := Lib.hid (show Lib.containsS zs x = true from (Lib.containsS_iff _ _).2 (hx ▸ List.getElem_mem hlt))
          go_wp2_with fail
          go_ret
          exact ⟨ret_bool HR.out.symm, rfl⟩
        · have hq : (zs[k].toList == x.toList) = false := by
            rw [beq_eq_false_iff_ne, toList_data, toList_data]
            intro e
            apply hx
            rcases hz : zs[k] with ⟨⟨l⟩⟩
            rcases x with ⟨⟨l2⟩⟩
            rw [hz] at e
            simp at e
            rw [e]
          go_wp2_with fail
          go_round
          case rel => exact ⟨k + 1, by omega, by go_num, fun j hj h => by
            by_cases e : j = k
            · subst e; exact hx
            · exact HA.out j hj (by omega)⟩
          case measure => simp [intOf]; omega
    · have HR := Lib.hid (show Lib.containsS zs x = false by
        rw [Bool.eq_false_iff]
        intro e
        obtain ⟨j, hj, e2⟩ := List.getElem_of_mem ((Lib.containsS_iff _ _).1 e)
        exact HA.out j hj (by omega) e2)
      go_wp2_with fail
      go_ret
      exact ⟨ret_bool HR.out.symm, rfl⟩
theorem contains_s (v : Value) (zs : List ByteArray) (x : ByteArray) (w : World) (hn : zs.length ≤ 100000) (h : HopsIn w v zs) :
    Calls Tryd.prog 40 #[v, .string x] w fun e w' => e = .returned (.bool (Lib.containsS zs x)) ∧ w = w' := by
  rcases h with ⟨rfl, a, c, rfl, hnc⟩ | ⟨b, off, c, rfl, h2, h3, h4⟩
  · exact (Tryd.slices_Contains_string_empty a c x w).mono fun _ _ ⟨he, hw⟩ => ⟨he, hw.symm⟩
  · refine (Tryd.slices_Contains_string b off zs.length c zs x w (Nat.le_refl _) (by omega) (fun j hj => ?_)).mono fun _ _ ⟨he, hw⟩ => ⟨by rw [List.take_length] at he; exact he, hw.symm⟩
    rw [h4 j hj, List.getD_eq_getElem?_getD, List.getElem?_eq_getElem hj, Option.getD_some]
def subE (s : ByteArray) : Int := if 200 < s.size then 5 else if 0 ≤ printableL s.data.toList then 6 else if squeezeL s.data.toList = s.data.toList then 0 else 3
set_option maxRecDepth 100000 in
theorem subject_s (s : ByteArray) (hs : s.size ≤ maxLen) (w : World) : Calls Tryd.prog 39 #[.string s] w fun e w' => e = .returned (.int .i64 (subE s)) ∧ Below w.heap.size w w' := by
  unfold maxLen at hs
  by_cases h1 : 200 < s.size
  · have HR := Lib.hid (show subE s = 5 by unfold subE; rw [if_pos h1])
    go_enter Tryd.func39, Tryd.ntmps39
    go_wp2_with fail
    go_ret
    exact ⟨ret_int HR.out.symm, Below.refl _ _⟩
  · by_cases h2 : 0 ≤ printableL s.data.toList
    · have HR := Lib.hid (show subE s = 6 by unfold subE; rw [if_neg h1, if_pos h2])
      go_enter Tryd.func39, Tryd.ntmps39
      go_wp2_with fail
      refine (printable_s s (by unfold maxLen; omega) _).mono ?_
      rintro e w0 ⟨rfl, rfl⟩
      go_wp2_with fail
      go_ret
      exact ⟨ret_int HR.out.symm, Below.refl _ _⟩
    · have h3 : printableL s.data.toList < 0 := by omega
      by_cases hq : squeezeL s.data.toList = s.data.toList
      · have HR := Lib.hid (show subE s = 0 by unfold subE; rw [if_neg h1, if_neg h2, if_pos hq])
        have hb : (squeezeL s.data.toList == s.toList) = true := by rw [beq_iff_eq, toList_data]; exact hq
        go_enter Tryd.func39, Tryd.ntmps39
        go_wp2_with fail
        refine (printable_s s (by unfold maxLen; omega) _).mono ?_
        rintro e w0 ⟨rfl, rfl⟩
        go_wp2_with fail
        refine (squeeze_s s _ (by omega)).mono ?_
        rintro e w1 ⟨rfl, b1⟩
        have c1 := b1
        go_wp2_with fail
        go_ret
        exact ⟨ret_int HR.out.symm, c1⟩
      · have HR := Lib.hid (show subE s = 3 by unfold subE; rw [if_neg h1, if_neg h2, if_neg hq])
        have hb : (squeezeL s.data.toList == s.toList) = false := by rw [beq_eq_false_iff_ne, toList_data]; exact hq
        go_enter Tryd.func39, Tryd.ntmps39
        go_wp2_with fail
        refine (printable_s s (by unfold maxLen; omega) _).mono ?_
        rintro e w0 ⟨rfl, rfl⟩
        go_wp2_with fail
        refine (squeeze_s s _ (by omega)).mono ?_
        rintro e w1 ⟨rfl, b1⟩
        have c1 := b1
        go_wp2_with fail
        go_ret
        exact ⟨ret_int HR.out.symm, c1⟩
set_option maxRecDepth 100000 in
theorem refSubject_s (s : ByteArray) (hs : s.size ≤ maxLen) (w : World) : Calls Tryd.prog 42 #[.string s] w fun e w' => e = .returned (.int .i64 (subE s)) ∧ Below w.heap.size w w' := by
  unfold maxLen at hs
  by_cases h1 : 200 < s.size
  · have HR := Lib.hid (show subE s = 5 by unfold subE; rw [if_pos h1])
    go_enter Tryd.func42, Tryd.ntmps42
    go_wp2_with fail
    go_ret
    exact ⟨ret_int HR.out.symm, Below.refl _ _⟩
  · by_cases h2 : 0 ≤ printableL s.data.toList
    · have HR := Lib.hid (show subE s = 6 by unfold subE; rw [if_neg h1, if_pos h2])
      go_enter Tryd.func42, Tryd.ntmps42
      go_wp2_with fail
      refine (refPrintable_s s (by omega) _).mono ?_
      rintro e w0 ⟨rfl, rfl⟩
      go_wp2_with fail
      go_ret
      exact ⟨ret_int HR.out.symm, Below.refl _ _⟩
    · have h3 : printableL s.data.toList < 0 := by omega
      by_cases hq : squeezeL s.data.toList = s.data.toList
      · have HR := Lib.hid (show subE s = 0 by unfold subE; rw [if_neg h1, if_neg h2, if_pos hq])
        have hb : (squeezeL s.data.toList == s.toList) = true := by rw [beq_iff_eq, toList_data]; exact hq
        go_enter Tryd.func42, Tryd.ntmps42
        go_wp2_with fail
        refine (refPrintable_s s (by omega) _).mono ?_
        rintro e w0 ⟨rfl, rfl⟩
        go_wp2_with fail
        refine (refSqueeze_s s (by omega) _).mono ?_
        rintro e w1 ⟨rfl, b1⟩
        have c1 := b1
        go_wp2_with fail
        go_ret
        exact ⟨ret_int HR.out.symm, c1⟩
      · have HR := Lib.hid (show subE s = 3 by unfold subE; rw [if_neg h1, if_neg h2, if_neg hq])
        have hb : (squeezeL s.data.toList == s.toList) = false := by rw [beq_eq_false_iff_ne, toList_data]; exact hq
        go_enter Tryd.func42, Tryd.ntmps42
        go_wp2_with fail
        refine (refPrintable_s s (by omega) _).mono ?_
        rintro e w0 ⟨rfl, rfl⟩
        go_wp2_with fail
        refine (refSqueeze_s s (by omega) _).mono ?_
        rintro e w1 ⟨rfl, b1⟩
        have c1 := b1
        go_wp2_with fail
        go_ret
        exact ⟨ret_int HR.out.symm, c1⟩
end Go.Proofs.YtkiheanpamplpaaDoor
