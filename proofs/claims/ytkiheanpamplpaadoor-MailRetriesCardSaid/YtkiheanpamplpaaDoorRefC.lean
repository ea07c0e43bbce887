/-
  The reference of package ascii: Words, Same, Squeeze: what they answer.
-/
import Derived.Test.YtkiheanpamplpaaDoorRefB
set_option linter.unusedSimpArgs false
set_option linter.unusedVariables false
set_option linter.unnecessarySimpa false
namespace Go.Proofs.YtkiheanpamplpaaDoor
open Go.RowKit Go.Bul
theorem wordsA_non (s : ByteArray) (k : Nat) (h : k < s.size) (hb : blB s[k] = false) (cur : List UInt8) : wordsA (s.data.toList.drop k) cur = wordsA (s.data.toList.drop (k + 1)) (cur ++ [s[k]]) := by
  rw [drop_at s k h, wordsA, if_neg (by simp [hb])]
theorem wordsA_bl (s : ByteArray) (k : Nat) (h : k < s.size) (hb : blB s[k] = true) (cur : List UInt8) : wordsA (s.data.toList.drop k) cur = (if cur = [] then [] else [cur]) ++ wordsA (s.data.toList.drop (k + 1)) [] := by
  rw [drop_at s k h, wordsA, if_pos hb]
  split <;> simp
theorem wordsA_end (s : ByteArray) (k : Nat) (h : s.size ≤ k) (cur : List UInt8) : wordsA (s.data.toList.drop k) cur = (if cur = [] then [] else [cur]) ++ wordsA (s.data.toList.drop (k + 1)) [] := by
  rw [List.drop_eq_nil_of_le (by simpa using h), List.drop_eq_nil_of_le (by simp; omega)]
  simp only [wordsA]
  split <;> simp
theorem extract_snoc (s : ByteArray) (f k : Nat) (hf : f ≤ k) (h : k < s.size) : (s.extract f (k + 1)).data.toList = (s.extract f k).data.toList ++ [s[k]] := by
  rw [Lib.extract_data, Lib.extract_data, show k + 1 - f = (k - f) + 1 by omega]
  have hl : s.data.toList.length = s.size := by simp
  rw [List.take_succ_eq_append_getElem (by rw [List.length_drop]; omega)]
  have : (s.data.toList.drop f)[k - f]'(by rw [List.length_drop]; omega) = s[k] := by
    rw [List.getElem_drop]
    have h2 : f + (k - f) = k := by omega
    simp only [h2]
    rfl
  rw [this]
theorem extract_self (s : ByteArray) (k : Nat) : (s.extract k k).data.toList = [] := by rw [Lib.extract_data, Nat.sub_self, List.take_zero]
theorem extract_ne (s : ByteArray) (f k : Nat) (hf : f < k) (h : k ≤ s.size) : (s.extract f k).data.toList ≠ [] := by
  intro e
  have := congrArg List.length e
  rw [Lib.extract_data, List.length_take, List.length_drop] at this
  have hl : s.data.toList.length = s.size := by simp
  simp at this
  omega
def rwFrom (s : ByteArray) (k : Nat) (cur : List UInt8) (v : Value) : Prop := (v = .int .i64 (-1) ∧ cur = []) ∨ ∃ f : Nat, v = .int .i64 f ∧ f < k ∧ k ≤ s.size ∧ cur = (s.extract f k).data.toList
set_option maxRecDepth 100000 in
set_option maxHeartbeats 1000000 in
theorem refWords_s (s : ByteArray) (hs : s.size ≤ 4294967270) (w : World) :
    Calls Tryd.prog 90 #[.string s] w fun e w' => ∃ v, e = .returned v ∧ w'.ownsRow w.heap.size 9 1 v (wordsL s.data.toList).length ((wordsL s.data.toList).map St) ∧ Below w.heap.size w w' := by
  obtain ⟨i0, hi, hz0, hz1, hz2⟩ := info_parts infoString
  go_enter Tryd.func90, Tryd.ntmps90
  go_wp2_with fail
  go_loopw [3, 4, 5] (fun v from_ i wr => ∃ (k : Nat) (done : List (List UInt8)) (cur : List UInt8), k ≤ s.size + 1 ∧ i = .int .i64 k ∧ rwFrom s k cur from_ ∧ wr.ownsRow w.heap.size 9 1 v done.length (done.map St) ∧ Below w.heap.size w wr ∧ (done ++ wordsA (s.data.toList.drop k) cur = wordsL s.data.toList ∧ done.length ≤ k)) (fun _ _ i _ => s.size + 2 - (intOf i).toNat)
  case atStart => exact ⟨0, [], [], Nat.zero_le _, rfl, .inl ⟨rfl, rfl⟩, World.ownsRow_nil _ _ _ _, Below.refl _ _, rfl, Nat.le_refl _⟩
  case round =>
    obtain ⟨k, done, cur, hk, rfl, hfrom, hown, hbw, hdl⟩ := hrel
    have HD := Lib.hid hdl.1
    have hdk := hdl.2
    clear hdl
    have hsz := hbw.size
    have hlt9 := hown.lt
    by_cases hle : k ≤ s.size
    · have key : (∃ h : k < s.size, blB s[k] = false) ∨ ((∃ h : k < s.size, blB s[k] = true) ∨ (¬ k < s.size)) ∧ wordsA (s.data.toList.drop k) cur = (if cur = [] then [] else [cur]) ++ wordsA (s.data.toList.drop (k + 1)) [] := by
        by_cases hlt : k < s.size
        · cases hb : blB s[k]
          · exact .inl ⟨hlt, hb⟩
          · exact .inr ⟨.inl ⟨hlt, hb⟩, wordsA_bl s k hlt hb cur⟩
        · exact .inr ⟨.inr hlt, wordsA_end s k (by omega) cur⟩
      rcases key with ⟨hlt, hb⟩ | ⟨hE, hW⟩
      · have HW := Lib.hid (wordsA_non s k hlt hb cur)
        rcases hfrom with ⟨rfl, hc⟩ | ⟨f, rfl, hf1, hf2, hc⟩
        · have HC := Lib.hid hc
          clear hc
          go_wp2_with (go_at_call 109; refine (refBlank_c _ _).mono ?_; rintro e w' ⟨rfl, rfl⟩)
          go_roundw
          case rel => exact ⟨k + 1, done, cur ++ [s[k]], by omega, by go_num, .inr ⟨k, rfl, by omega, by omega, by rw [extract_snoc s k k (Nat.le_refl _) hlt, extract_self, HC.out]⟩, hown, hbw, by rw [← HW.out]; exact HD.out, by omega⟩
          case measure => simp [intOf]; omega
        · have HC := Lib.hid hc
          clear hc
          go_wp2_with (go_at_call 109; refine (refBlank_c _ _).mono ?_; rintro e w' ⟨rfl, rfl⟩)
          go_roundw
          case rel => exact ⟨k + 1, done, cur ++ [s[k]], by omega, by go_num, .inr ⟨f, rfl, by omega, by omega, by rw [extract_snoc s f k (by omega) hlt, HC.out]⟩, hown, hbw, by rw [← HW.out]; exact HD.out, by omega⟩
          case measure => simp [intOf]; omega
      · have HW := Lib.hid hW
        clear hW
        rcases hfrom with ⟨rfl, hc⟩ | ⟨f, rfl, hf1, hf2, hc⟩
        · have HC := Lib.hid hc
          clear hc
          rcases hE with ⟨hlt, hb⟩ | hlt
          all_goals
            go_wp2_with (go_at_call 109; refine (refBlank_c _ _).mono ?_; rintro e w' ⟨rfl, rfl⟩)
            go_roundw
            case rel => exact ⟨k + 1, done, [], by omega, by go_num, .inl ⟨rfl, rfl⟩, hown, hbw, by rw [← HD.out, HW.out, if_pos HC.out, List.nil_append], by omega⟩
            case measure => simp [intOf]; omega
        · have HC := Lib.hid hc
          clear hc
          have hne := extract_ne s f k hf1 hf2
          rcases hE with ⟨hlt, hb⟩ | hlt
          all_goals
            go_wp2_with (first | (go_at_call 109; refine (refBlank_c _ _).mono ?_; rintro e w' ⟨rfl, rfl⟩) | (at_builtin; refine wpList_append_own _ rfl _ _ 24 rfl w.heap.size 9 i0 (.string ⟨#[]⟩) 1 16 Tryd.underlying24 hi hz0 hz1 hz2 rfl (by decide) _ _ _ rfl (hown.alloc _) ⟨wr.heap.size, 0, none⟩ 1 1 [.string (s.extract f k)] rfl rfl (cell_one_new _ _ _) (by simp [Value.oneCell']) (by unfold maxLen; omega) (by omega) (by simp; omega) ?_; intro v' w1 hown1 hgr1 _))
            go_roundw
            case rel =>
              refine ⟨k + 1, done ++ [(s.extract f k).data.toList], [], by omega, by go_num, .inl ⟨rfl, rfl⟩, ?_, (hbw.alloc hsz _).grown hgr1 (by simp; omega) (fun k hk => (hlt9 k hk).1), ?_, by simp; omega⟩
              · rw [List.length_append, List.map_append]; exact hown1
              · rw [← HD.out, HW.out, if_neg (by rw [HC.out]; exact hne), HC.out]; simp
            case measure => simp [intOf]; omega
    · have hks : k = s.size + 1 := by omega
      have hd : done = wordsL s.data.toList := by
        rw [← HD.out, List.drop_eq_nil_of_le (by simp; omega)]
        have hc : cur = [] := by
          rcases hfrom with ⟨_, hc⟩ | ⟨f, _, _, h2, _⟩
          · exact hc
          · omega
        rw [hc]; simp [wordsA]
      clear hks
      have HQ := Lib.hid hd
      clear hd hfrom
      go_wp2_with fail
      go_ret
      exact ⟨_, rfl, by rw [← HQ.out]; exact hown, hbw⟩

/-! ### Same: two slices of strings -/
/-- a slice of strings that reads as ls -/
def StrsIn (w : World) (v : Value) (ls : List (List UInt8)) : Prop :=
  (ls = [] ∧ ∃ a c, v = .slice a 0 c) ∨ ∃ b off c, v = .slice (some ⟨b, off, none⟩) ls.length c ∧ b < w.heap.size ∧ ∀ j (h : j < ls.length), w.cell? ⟨b, off + j, none⟩ = some (St ls[j])
theorem StrsIn.below {w w' : World} {v : Value} {l : List (List UInt8)} (h : StrsIn w v l) (hb : Below w.heap.size w w') : StrsIn w' v l := by
  rcases h with h | ⟨b, off, c, h1, h2, h3⟩
  · exact .inl h
  · exact .inr ⟨b, off, c, h1, Nat.lt_of_lt_of_le h2 hb.size, fun j hj => by rw [hb.cell (p := ⟨b, off + j, none⟩) h2]; exact h3 j hj⟩
theorem StrsIn.of_owns {w : World} {B : Nat} {v : Value} {ls : List (List UInt8)} (h : w.ownsRow B 9 1 v ls.length (ls.map St)) : StrsIn w v ls := by
  rcases owns_cells h with ⟨h1, h2⟩ | ⟨g, c, h1, _, h3, h4, h5⟩
  · exact .inl ⟨h2, _, _, h1⟩
  · exact .inr ⟨g, 0, c, h1, h3, fun j hj => h5 j _ (by simp [hj])⟩
theorem StrsIn.len {w : World} {v : Value} {ls : List (List UInt8)} (h : StrsIn w v ls) : ∃ a c, v = .slice a ls.length c := by
  rcases h with ⟨rfl, a, c, h⟩ | ⟨b, off, c, h, _⟩
  · exact ⟨a, c, h⟩
  · exact ⟨_, c, h⟩
theorem St_eq (a b : List UInt8) : ((⟨a.toArray⟩ : ByteArray).toList == (⟨b.toArray⟩ : ByteArray).toList) = decide (a = b) := by
  rw [toList_data, toList_data, Bool.eq_iff_iff]
  simp
set_option maxRecDepth 100000 in
set_option maxHeartbeats 1000000 in
theorem refSame_s (va vb : Value) (la lb : List (List UInt8)) (hl : la.length ≤ 4294967280) (hl2 : lb.length ≤ 4294967280) (w : World) (ha : StrsIn w va la) (hb : StrsIn w vb lb) :
    Calls Tryd.prog 36 #[va, vb] w fun e w' => e = .returned (.bool (decide (la = lb))) ∧ Below w.heap.size w w' := by
  by_cases hlen : la.length = lb.length
  · obtain ⟨n, hn⟩ : ∃ n, n = la.length := ⟨_, rfl⟩
    by_cases h0 : n = 0
    · obtain rfl : la = [] := List.eq_nil_of_length_eq_zero (by omega)
      obtain rfl : lb = [] := List.eq_nil_of_length_eq_zero (by simp at hlen; omega)
      obtain ⟨a, c, rfl⟩ := ha.len
      obtain ⟨a', c', rfl⟩ := hb.len
      clear hn h0 hlen ha hb
      go_enter Tryd.func36, Tryd.ntmps36
      go_wp2_with fail
      refine wp_loop_rounds 1 ?_
      rw [rounds_succ]
      go_wp2_with fail
      go_ret
      exact ⟨rfl, Below.refl _ _⟩
    · rcases ha with ⟨rfl, _⟩ | ⟨b, off, c, rfl, h1, h2⟩
      · exact absurd hn h0
      · rcases hb with ⟨rfl, _⟩ | ⟨b', off', c', rfl, h1', h2'⟩
        · simp at hlen; subst hlen; exact absurd hn h0
        · rw [← hlen]
          have hneq : (((la.length : Nat) : Int) != (la.length : Nat)) = false := by simp
          have HL := Lib.hid hlen
          have HC := Lib.hid h2
          have HC' := Lib.hid h2'
          clear hlen h2 h2' hn h0
          go_enter Tryd.func36, Tryd.ntmps36
          go_wp2_with fail
          go_loopw [5] (fun i wr => ∃ k : Nat, k ≤ la.length ∧ i = .int .i64 k ∧ la.take k = lb.take k ∧ ∃ nq, wr = w.drewN nq) (fun i _ => la.length - (intOf i).toNat)
          case atStart => exact ⟨0, Nat.zero_le _, rfl, rfl, 0, rfl⟩
          case round =>
            obtain ⟨k, hk, rfl, hp, nq, rfl⟩ := hrel
            have HP := Lib.hid hp
            clear hp
            by_cases hlt : k < la.length
            · have hlt' : k < lb.length := by have := HL.out; omega
              have c1 := HC.out k hlt
              have c2 := HC'.out k hlt'
              have i1 : (0 : Int) ≤ (k : Int) := by omega
              have i2 : (k : Int) < la.length := by omega
              cases hd : (la[k] == lb[k])
              · have HE := Lib.hid hd
                go_wp2_with fail
                go_quiet (fail)
                go_wp2_with fail
                go_ret
                exact ⟨ret_bool (by rw [eq_comm, decide_eq_false_iff_not]; intro e; subst e; simp at hd), by first | exact below_drewN (Below.refl _ _) _ | exact below_drewN (below_drewN (Below.refl _ _) _) _⟩
              · have HE := Lib.hid hd
                go_wp2_with fail
                go_quiet (fail)
                go_wp2_with fail
                exact ⟨⟨k + 1, by omega, by go_num, by rw [List.take_succ_eq_append_getElem hlt, List.take_succ_eq_append_getElem hlt', HP.out, (beq_iff_eq.1 hd)], _, rfl⟩, by simp [intOf]; omega⟩
            · go_wp2_with fail
              go_ret
              refine ⟨ret_bool ?_, below_drewN (Below.refl _ _) _⟩
              rw [eq_comm, decide_eq_true_iff]
              have h1 := HP.out
              have h2 := HL.out
              rwa [List.take_of_length_le (by omega), List.take_of_length_le (by omega)] at h1
  · have hneq : (((la.length : Nat) : Int) != (lb.length : Nat)) = true := by simp; omega
    have hf : decide (la = lb) = false := by rw [decide_eq_false_iff_not]; intro e; exact hlen (by rw [e])
    have HF := Lib.hid hf
    obtain ⟨a, c, rfl⟩ := ha.len
    obtain ⟨a', c', rfl⟩ := hb.len
    clear ha hb hlen hf
    go_enter Tryd.func36, Tryd.ntmps36
    go_wp2_with fail
    go_ret
    exact ⟨ret_bool HF.out.symm, Below.refl _ _⟩
end Go.Proofs.YtkiheanpamplpaaDoor
