/-
  Package field: names, words that are too long, the check of a field.
-/
import Derived.Test.YtkiheanpamplpaaDoorMaiD
import Derived.Test.YtkiheanpamplpaaDoorRegQ
set_option linter.unusedSimpArgs false
set_option linter.unusedVariables false
set_option linter.unnecessarySimpa false
namespace Go.Proofs.YtkiheanpamplpaaDoor
open Go.RowKit Go.Bul
def fnB (c : UInt8) : Bool := leB c || diB c || !((c.toNat : Int) != 45)
def vnB (s : ByteArray) : Bool := if h : 0 < s.size then (decide (s.size ≤ 40) && leB s[0]) && allAt s (fun k _ => fnB s[k]) else false
theorem vnB_none {s : ByteArray} (h : s.size = 0) : vnB s = false := by unfold vnB; rw [dif_neg (by omega)]
theorem vnB_at {s : ByteArray} (h : 0 < s.size) : vnB s = ((decide (s.size ≤ 40) && leB s[0]) && allAt s (fun k _ => fnB s[k])) := by unfold vnB; rw [dif_pos h]
set_option maxRecDepth 100000 in
set_option maxHeartbeats 1000000 in
theorem validName_s (s : ByteArray) (hs : s.size ≤ maxLen) (w : World) : Calls Tryd.prog 124 #[.string s] w fun e w' => e = .returned (.bool (vnB s)) ∧ w = w' := by
  unfold maxLen at hs
  by_cases h0 : s.size = 0
  · have HR := Lib.hid (vnB_none h0)
    have ze := empty_yes h0
    have zn := toList_nil h0
    clear h0
    go_enter Tryd.func124, Tryd.ntmps124
    go_wp2_with fail
    go_ret
    exact ⟨ret_bool HR.out.symm, rfl⟩
  have hp : 0 < s.size := by omega
  have ze := empty_no h0
  have HV := Lib.hid (vnB_at hp)
  clear h0
  by_cases h1 : 40 < s.size
  · have HR := Lib.hid (show vnB s = false by rw [HV.out, show decide (s.size ≤ 40) = false by simp; omega]; simp)
    go_enter Tryd.func124, Tryd.ntmps124
    go_wp2_with fail
    go_ret
    exact ⟨ret_bool HR.out.symm, rfl⟩
  cases hl : leB s[0]
  · have HR := Lib.hid (show vnB s = false by rw [HV.out, hl]; simp)
    go_enter Tryd.func124, Tryd.ntmps124
    go_wp2_with fail
    refine (isLetter_c s[0] _).mono ?_
    rintro e w0 ⟨rfl, rfl⟩
    rw [hl]
    clear hl
    go_wp2_with fail
    go_ret
    exact ⟨ret_bool HR.out.symm, rfl⟩
  have HA0 := Lib.hid (show vnB s = allAt s (fun k _ => fnB s[k]) by rw [HV.out, hl, show decide (s.size ≤ 40) = true by simp; omega]; simp)
  go_enter Tryd.func124, Tryd.ntmps124
  go_wp2_with fail
  refine (isLetter_c s[0] _).mono ?_
  rintro e w0 ⟨rfl, rfl⟩
  rw [hl]
  clear hl HV
  go_wp2_with fail
  go_loop [19] (fun i => ∃ k : Nat, k ≤ s.size ∧ i = .int .i64 k ∧ ∀ j (hj : j < s.size), j < k → fnB s[j] = true) (fun i => s.size - (intOf i).toNat)
  case atStart => exact ⟨0, Nat.zero_le _, rfl, fun j _ h => absurd h (Nat.not_lt_zero _)⟩
  case round =>
    obtain ⟨k, hk, rfl, hall⟩ := hrel
    have HA := Lib.hid hall
    clear hall ze
    by_cases hlt : k < s.size
    · cases hl : leB s[k]
      · cases hd : diB s[k]
        · cases h45 : ((s[k].toNat : Int) != 45)
          · go_wp2_with (first | (go_at_call 135; refine (isLetter_c _ _).mono ?_; rintro e w' ⟨rfl, rfl⟩) | (go_at_call 62; refine (isDigit_c _ _).mono ?_; rintro e w' ⟨rfl, rfl⟩))
            go_round
            case rel => exact ⟨k + 1, by omega, by go_num, fun j hj h => by
              by_cases e : j = k
              · subst e; unfold fnB; rw [h45]; simp
              · exact HA.out j hj (by omega)⟩
            case measure => simp [intOf]; omega
          · have HR := Lib.hid (show vnB s = false by rw [HA0.out]; exact allAt_false k hlt (by unfold fnB; rw [hl, hd, h45]; rfl))
            go_wp2_with (first | (go_at_call 135; refine (isLetter_c _ _).mono ?_; rintro e w' ⟨rfl, rfl⟩) | (go_at_call 62; refine (isDigit_c _ _).mono ?_; rintro e w' ⟨rfl, rfl⟩))
            go_ret
            exact ⟨ret_bool HR.out.symm, rfl⟩
        · go_wp2_with (first | (go_at_call 135; refine (isLetter_c _ _).mono ?_; rintro e w' ⟨rfl, rfl⟩) | (go_at_call 62; refine (isDigit_c _ _).mono ?_; rintro e w' ⟨rfl, rfl⟩))
          go_round
          case rel => exact ⟨k + 1, by omega, by go_num, fun j hj h => by
            by_cases e : j = k
            · subst e; unfold fnB; rw [hd]; simp
            · exact HA.out j hj (by omega)⟩
          case measure => simp [intOf]; omega
      · go_wp2_with (first | (go_at_call 135; refine (isLetter_c _ _).mono ?_; rintro e w' ⟨rfl, rfl⟩))
        go_round
        case rel => exact ⟨k + 1, by omega, by go_num, fun j hj h => by
          by_cases e : j = k
          · subst e; unfold fnB; rw [hl]; simp
          · exact HA.out j hj (by omega)⟩
        case measure => simp [intOf]; omega
    · have HR := Lib.hid (show vnB s = true by rw [HA0.out]; exact allAt_true (fun j hj => HA.out j hj (by omega)))
      go_wp2_with fail
      go_ret
      exact ⟨ret_bool HR.out.symm, rfl⟩
def longB (s : ByteArray) : Bool := decide (900 < s.size)
theorem long_s (s : ByteArray) (hs : s.size ≤ maxLen) (w : World) : Calls Tryd.prog 126 #[.string s] w fun e w' => e = .returned (.bool (longB s)) ∧ w = w' := by
  unfold maxLen at hs
  go_enter Tryd.func126, Tryd.ntmps126
  go_wp2_with fail
  go_ret
  exact ⟨ret_bool (by unfold longB; rw [Bool.eq_iff_iff]; simp; omega), rfl⟩
theorem cf_long (args : Array Value) (w : World) : (callFunc 126 args).run Tryd.prog w = .ok (.enter 126 args) w := by kernel_rfl
set_option maxRecDepth 100000 in
set_option maxHeartbeats 1000000 in
theorem some_s (v : Value) (zs : List ByteArray) (f : Nat) (hcf : ∀ (args : Array Value) (w : World), (callFunc f args).run Tryd.prog w = .ok (.enter f args) w) (p : ByteArray → Bool) (w : World) (hf : ∀ z ∈ zs, Calls Tryd.prog f #[.string z] w fun e w' => e = .returned (.bool (p z)) ∧ w = w')
    (hn : zs.length ≤ 100000) (hh : HopsIn w v zs) : Calls Tryd.prog 125 #[v, .func (.func f) #[] #[]] w fun e w' => e = .returned (.bool (zs.any p)) ∧ w = w' := by
  have HF := Lib.hid hf
  clear hf
  have HH := Lib.hid hh
  obtain ⟨a0, len, cap, hv⟩ : ∃ a n c, v = .slice a n c := by
    rcases hh with ⟨_, a, c, h, _⟩ | ⟨b, off, c, h, _⟩
    · exact ⟨_, _, _, h⟩
    · exact ⟨_, _, _, h⟩
  subst hv
  obtain rfl : len = zs.length := by
    rcases hh with ⟨h, a, c, e, _⟩ | ⟨b, off, c, e, _⟩
    · cases e; rw [h]; rfl
    · cases e; rfl
  clear hh
  go_enter Tryd.func125, Tryd.ntmps125
  go_wp2_with fail
  go_loop [9] (fun i => ∃ k : Nat, k ≤ zs.length ∧ i = .int .i64 k ∧ ∀ j (hj : j < zs.length), j < k → p zs[j] = false) (fun i => zs.length - (intOf i).toNat)
  case atStart => exact ⟨0, Nat.zero_le _, rfl, fun j _ h => absurd h (Nat.not_lt_zero _)⟩
  case round =>
    obtain ⟨k, hk, rfl, hall⟩ := hrel
    have HA := Lib.hid hall
    clear hall
    by_cases hlt : k < zs.length
    · rcases HH.out with ⟨hn0, _⟩ | ⟨b, off, c9, he, hbw, hlc, hcell⟩
      · rw [hn0] at hlt; exact absurd hlt (Nat.not_lt_zero _)
      · cases he
        have hc0 := hcell k hlt
        have i1 : (k : Int) < zs.length := by omega
        have i3 : (0 : Int) ≤ (k : Int) := by omega
        clear hcell
        go_wp2_with fail
        refine (HF.out zs[k] (List.getElem_mem hlt)).mono ?_
        rintro e w' ⟨rfl, rfl⟩
        cases hp : p zs[k]
        · go_wp2_with fail
          go_round
          case rel => exact ⟨k + 1, by omega, by go_num, fun j hj h => by
            by_cases e : j = k
            · subst e; exact hp
            · exact HA.out j hj (by omega)⟩
          case measure => simp [intOf]; omega
        · have HR := Lib.hid (show zs.any p = true from List.any_eq_true.2 ⟨_, List.getElem_mem hlt, hp⟩)
          go_wp2_with fail
          go_ret
          exact ⟨ret_bool HR.out.symm, rfl⟩
    · have HR := Lib.hid (show zs.any p = false by
        rw [List.any_eq_false]
        intro z hz
        obtain ⟨j, hj, rfl⟩ := List.getElem_of_mem hz
        rw [HA.out j hj (by omega)]; simp)
      go_wp2_with fail
      go_ret
      exact ⟨ret_bool HR.out.symm, rfl⟩
end Go.Proofs.YtkiheanpamplpaaDoor
