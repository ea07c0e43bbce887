/-
  Package mail and its reference: users, sites, minutes.
-/
import Derived.Test.YtkiheanpamplpaaDoorRefD
set_option linter.unusedSimpArgs false
set_option linter.unusedVariables false
set_option linter.unnecessarySimpa false
namespace Go.Proofs.YtkiheanpamplpaaDoor
open Go.RowKit Go.Bul
def allAt (s : ByteArray) (p : (k : Nat) → k < s.size → Bool) : Bool := (List.range s.size).all fun k => if h : k < s.size then p k h else true
theorem allAt_true {s : ByteArray} {p : (k : Nat) → k < s.size → Bool} (h : ∀ k (hk : k < s.size), p k hk = true) : allAt s p = true := by
  unfold allAt
  rw [List.all_eq_true]
  intro k hk
  rw [dif_pos (List.mem_range.1 hk)]
  exact h k _
theorem allAt_false {s : ByteArray} {p : (k : Nat) → k < s.size → Bool} (k : Nat) (hk : k < s.size) (h : p k hk = false) : allAt s p = false := by
  unfold allAt
  rw [Bool.eq_false_iff]
  intro e
  rw [List.all_eq_true] at e
  have := e k (List.mem_range.2 hk)
  rw [dif_pos hk, h] at this
  cases this
def puB (c : UInt8) : Bool := !(((c.toNat : Int) != 45) && ((c.toNat : Int) != 95) && ((c.toNat : Int) != 46) && ((c.toNat : Int) != 43))
def usB (c : UInt8) : Bool := loB c || diB c || puB c
def puS : ByteArray := ⟨#[45, 95, 46, 43]⟩
theorem puS_at (c : UInt8) : decide (Lib.indexByte puS.data.toList c < 0) = !puB c := by
  have : ∀ k : Fin 256, decide (Lib.indexByte puS.data.toList (UInt8.ofNat k.val) < 0) = !puB (UInt8.ofNat k.val) := by decide +kernel
  have h := this ⟨c.toNat, c.toNat_lt⟩
  simpa using h
def userB (s : ByteArray) : Bool := allAt s (fun k _ => usB s[k]) && decide (s.size ≤ 40)
set_option maxRecDepth 100000 in
theorem user_s (s : ByteArray) (hs : s.size ≤ maxLen) (w : World) : Calls Tryd.prog 38 #[.string s] w fun e w' => e = .returned (.bool (userB s)) ∧ w = w' := by
  unfold maxLen at hs
  go_enter Tryd.func38, Tryd.ntmps38
  go_wp2_with fail
  go_loop [7] (fun i => ∃ k : Nat, k ≤ s.size ∧ i = .int .i64 k ∧ ∀ j (hj : j < s.size), j < k → usB s[j] = true) (fun i => s.size - (intOf i).toNat)
  case atStart => exact ⟨0, Nat.zero_le _, rfl, fun j _ h => absurd h (Nat.not_lt_zero _)⟩
  case round =>
    obtain ⟨k, hk, rfl, hall⟩ := hrel
    have HA := Lib.hid hall
    clear hall
    by_cases hlt : k < s.size
    · have hidx := puS_at s[k]
      cases hl : loB s[k]
      · cases hd : diB s[k]
        · cases hp : puB s[k]
          · rw [hp] at hidx
            have HR := Lib.hid (show userB s = false by unfold userB; rw [allAt_false k hlt (by unfold usB; rw [hl, hd, hp]; rfl)]; rfl)
            go_wp2_with (first | (go_at_call 61; refine (isLower_c _ _).mono ?_; rintro e w' ⟨rfl, rfl⟩) | (go_at_call 62; refine (isDigit_c _ _).mono ?_; rintro e w' ⟨rfl, rfl⟩) | (go_at_call 63; refine (indexByte_g puS _ _).mono ?_; rintro e w' ⟨rfl, rfl⟩))
            go_ret
            exact ⟨ret_bool HR.out.symm, rfl⟩
          · rw [hp] at hidx
            go_wp2_with (first | (go_at_call 61; refine (isLower_c _ _).mono ?_; rintro e w' ⟨rfl, rfl⟩) | (go_at_call 62; refine (isDigit_c _ _).mono ?_; rintro e w' ⟨rfl, rfl⟩) | (go_at_call 63; refine (indexByte_g puS _ _).mono ?_; rintro e w' ⟨rfl, rfl⟩))
            go_round
            case rel => exact ⟨k + 1, by omega, by go_num, fun j hj h => by
              by_cases e : j = k
              · subst e; unfold usB; rw [hp]; simp
              · exact HA.out j hj (by omega)⟩
            case measure => simp [intOf]; omega
        · go_wp2_with (first | (go_at_call 61; refine (isLower_c _ _).mono ?_; rintro e w' ⟨rfl, rfl⟩) | (go_at_call 62; refine (isDigit_c _ _).mono ?_; rintro e w' ⟨rfl, rfl⟩))
          go_round
          case rel => exact ⟨k + 1, by omega, by go_num, fun j hj h => by
            by_cases e : j = k
            · subst e; unfold usB; rw [hd]; simp
            · exact HA.out j hj (by omega)⟩
          case measure => simp [intOf]; omega
      · go_wp2_with (first | (go_at_call 61; refine (isLower_c _ _).mono ?_; rintro e w' ⟨rfl, rfl⟩))
        go_round
        case rel => exact ⟨k + 1, by omega, by go_num, fun j hj h => by
          by_cases e : j = k
          · subst e; unfold usB; rw [hl]; simp
          · exact HA.out j hj (by omega)⟩
        case measure => simp [intOf]; omega
    · have HR := Lib.hid (show userB s = decide (s.size ≤ 40) by unfold userB; rw [allAt_true (fun j hj => HA.out j hj (by omega))]; simp)
      go_wp2_with fail
      go_ret
      exact ⟨ret_bool (by rw [HR.out, Bool.eq_iff_iff]; simp; omega), rfl⟩
set_option maxRecDepth 100000 in
theorem refUser_s (s : ByteArray) (hs : s.size ≤ maxLen) (w : World) : Calls Tryd.prog 41 #[.string s] w fun e w' => e = .returned (.bool (userB s)) ∧ w = w' := by
  unfold maxLen at hs
  go_enter Tryd.func41, Tryd.ntmps41
  go_wp2_with fail
  go_loop [3] (fun i => ∃ k : Nat, k ≤ s.size ∧ i = .int .i64 k ∧ ∀ j (hj : j < s.size), j < k → usB s[j] = true) (fun i => s.size - (intOf i).toNat)
  case atStart => exact ⟨0, Nat.zero_le _, rfl, fun j _ h => absurd h (Nat.not_lt_zero _)⟩
  case round =>
    obtain ⟨k, hk, rfl, hall⟩ := hrel
    have HA := Lib.hid hall
    clear hall
    by_cases hlt : k < s.size
    · cases hl : loB s[k]
      · cases hd : diB s[k]
        · cases h45 : ((s[k].toNat : Int) != 45)
          · go_wp2_with (first | (go_at_call 67; refine (refLow_c _ _).mono ?_; rintro e w' ⟨rfl, rfl⟩) | (go_at_call 68; refine (refDigit_c _ _).mono ?_; rintro e w' ⟨rfl, rfl⟩))
            go_round
            case rel => exact ⟨k + 1, by omega, by go_num, fun j hj h => by
              by_cases e : j = k
              · subst e; unfold usB puB; rw [h45]; simp
              · exact HA.out j hj (by omega)⟩
            case measure => simp [intOf]; omega
          · cases h95 : ((s[k].toNat : Int) != 95)
            · go_wp2_with (first | (go_at_call 67; refine (refLow_c _ _).mono ?_; rintro e w' ⟨rfl, rfl⟩) | (go_at_call 68; refine (refDigit_c _ _).mono ?_; rintro e w' ⟨rfl, rfl⟩))
              go_round
              case rel => exact ⟨k + 1, by omega, by go_num, fun j hj h => by
                by_cases e : j = k
                · subst e; unfold usB puB; rw [h95]; simp
                · exact HA.out j hj (by omega)⟩
              case measure => simp [intOf]; omega
            · cases h46 : ((s[k].toNat : Int) != 46)
              · go_wp2_with (first | (go_at_call 67; refine (refLow_c _ _).mono ?_; rintro e w' ⟨rfl, rfl⟩) | (go_at_call 68; refine (refDigit_c _ _).mono ?_; rintro e w' ⟨rfl, rfl⟩))
                go_round
                case rel => exact ⟨k + 1, by omega, by go_num, fun j hj h => by
                  by_cases e : j = k
                  · subst e; unfold usB puB; rw [h46]; simp
                  · exact HA.out j hj (by omega)⟩
                case measure => simp [intOf]; omega
              · cases h43 : ((s[k].toNat : Int) != 43)
                · go_wp2_with (first | (go_at_call 67; refine (refLow_c _ _).mono ?_; rintro e w' ⟨rfl, rfl⟩) | (go_at_call 68; refine (refDigit_c _ _).mono ?_; rintro e w' ⟨rfl, rfl⟩))
                  go_round
                  case rel => exact ⟨k + 1, by omega, by go_num, fun j hj h => by
                    by_cases e : j = k
                    · subst e; unfold usB puB; rw [h43]; simp
                    · exact HA.out j hj (by omega)⟩
                  case measure => simp [intOf]; omega
                · have HR := Lib.hid (show userB s = false by unfold userB; rw [allAt_false k hlt (by unfold usB puB; rw [hl, hd, h45, h95, h46, h43]; rfl)]; rfl)
                  go_wp2_with (first | (go_at_call 67; refine (refLow_c _ _).mono ?_; rintro e w' ⟨rfl, rfl⟩) | (go_at_call 68; refine (refDigit_c _ _).mono ?_; rintro e w' ⟨rfl, rfl⟩))
                  go_ret
                  exact ⟨ret_bool HR.out.symm, rfl⟩
        · go_wp2_with (first | (go_at_call 67; refine (refLow_c _ _).mono ?_; rintro e w' ⟨rfl, rfl⟩) | (go_at_call 68; refine (refDigit_c _ _).mono ?_; rintro e w' ⟨rfl, rfl⟩))
          go_round
          case rel => exact ⟨k + 1, by omega, by go_num, fun j hj h => by
            by_cases e : j = k
            · subst e; unfold usB puB; rw [hd]; simp
            · exact HA.out j hj (by omega)⟩
          case measure => simp [intOf]; omega
      · go_wp2_with (first | (go_at_call 67; refine (refLow_c _ _).mono ?_; rintro e w' ⟨rfl, rfl⟩) | (go_at_call 68; refine (refDigit_c _ _).mono ?_; rintro e w' ⟨rfl, rfl⟩))
        go_round
        case rel => exact ⟨k + 1, by omega, by go_num, fun j hj h => by
          by_cases e : j = k
          · subst e; unfold usB puB; rw [hl]; simp
          · exact HA.out j hj (by omega)⟩
        case measure => simp [intOf]; omega
    · have HR := Lib.hid (show userB s = decide (s.size ≤ 40) by unfold userB; rw [allAt_true (fun j hj => HA.out j hj (by omega))]; simp)
      go_wp2_with fail
      go_ret
      exact ⟨ret_bool (by rw [HR.out, Bool.eq_iff_iff]; simp; omega), rfl⟩
theorem minute_s (n : Int) (w : World) : Calls Tryd.prog 30 #[.int .i64 n] w fun e w' => e = .returned (.bool (decide (0 ≤ n ∧ n ≤ 105190559))) ∧ w = w' := by
  by_cases h0 : 0 ≤ n
  · go_enter Tryd.func30, Tryd.ntmps30
    go_wp2_with fail
    go_ret
    exact ⟨ret_bool (by simp [h0]), rfl⟩
  · go_enter Tryd.func30, Tryd.ntmps30
    go_wp2_with fail
    go_ret
    exact ⟨ret_bool (by simp; omega), rfl⟩
theorem refMinute_s (n : Int) (w : World) : Calls Tryd.prog 33 #[.int .i64 n] w fun e w' => e = .returned (.bool (decide (0 ≤ n ∧ n ≤ 105190559))) ∧ w = w' := by
  by_cases h0 : 0 ≤ n
  · go_enter Tryd.func33, Tryd.ntmps33
    go_wp2_with fail
    go_ret
    exact ⟨ret_bool (by simp [h0]), rfl⟩
  · go_enter Tryd.func33, Tryd.ntmps33
    go_wp2_with fail
    go_ret
    exact ⟨ret_bool (by simp; omega), rfl⟩
/-! ### names of sites -/
def peB (c : UInt8) : Bool := loB c || diB c || ((c.toNat : Int) == 45) || ((c.toNat : Int) == 46)
def misB (s : ByteArray) (k : Nat) (h : k < s.size) : Bool :=
  if k = 0 then !loB s[k] else ((s[k].toNat : Int) == 46 && (s[k - 1].toNat : Int) == 46) || ((k : Int) == s.size - 1 && ((s[k].toNat : Int) == 45 || (s[k].toNat : Int) == 46))
def siteE (s : ByteArray) : Int :=
  if s.size = 0 then 4 else if 30 < s.size then 5 else if allAt s (fun k _ => peB s[k]) = false then 6 else if allAt s (fun k h => !misB s k h) = false then 12 else 0
set_option maxRecDepth 100000 in
theorem permitted_c (c : UInt8) (w : World) : Calls Tryd.prog 76 #[B8 c] w fun e w' => e = .returned (.bool (peB c)) ∧ w = w' := by
  cases hl : loB c
  · cases hd : diB c
    · cases h1 : ((c.toNat : Int) == 45)
      all_goals
        go_enter Tryd.func76, Tryd.ntmps76
        go_wp2_with (first | (go_at_call 61; refine (isLower_c _ _).mono ?_; rintro e w' ⟨rfl, rfl⟩) | (go_at_call 62; refine (isDigit_c _ _).mono ?_; rintro e w' ⟨rfl, rfl⟩))
        go_ret
        exact ⟨ret_bool (by unfold peB; rw [hl, hd, h1]; simp), rfl⟩
    · go_enter Tryd.func76, Tryd.ntmps76
      go_wp2_with (first | (go_at_call 61; refine (isLower_c _ _).mono ?_; rintro e w' ⟨rfl, rfl⟩) | (go_at_call 62; refine (isDigit_c _ _).mono ?_; rintro e w' ⟨rfl, rfl⟩))
      go_ret
      exact ⟨ret_bool (by unfold peB; rw [hl, hd]; simp), rfl⟩
  · go_enter Tryd.func76, Tryd.ntmps76
    go_wp2_with (first | (go_at_call 61; refine (isLower_c _ _).mono ?_; rintro e w' ⟨rfl, rfl⟩))
    go_ret
    exact ⟨ret_bool (by unfold peB; rw [hl]; simp), rfl⟩
set_option maxRecDepth 100000 in
theorem misplaced_c (s : ByteArray) (k : Nat) (hk : k < s.size) (hs : s.size ≤ 30) (w : World) : Calls Tryd.prog 77 #[.string s, .int .i64 k] w fun e w' => e = .returned (.bool (misB s k hk)) ∧ w = w' := by
  by_cases h0 : k = 0
  · subst h0
    go_enter Tryd.func77, Tryd.ntmps77
    go_wp2_with (first | (go_at_call 61; refine (isLower_c _ _).mono ?_; rintro e w' ⟨rfl, rfl⟩))
    go_ret
    exact ⟨ret_bool (by unfold misB; rw [if_pos rfl]), rfl⟩
  · have hz : ((k : Int) == 0) = false := by rw [beq_eq_false_iff_ne]; omega
    cases h1 : ((s[k].toNat : Int) == 46)
    · cases h2 : ((k : Int) == s.size - 1)
      · go_enter Tryd.func77, Tryd.ntmps77
        go_wp2_with fail
        go_ret
        exact ⟨ret_bool (by unfold misB; rw [if_neg h0, h1, h2]; simp), rfl⟩
      · cases h3 : ((s[k].toNat : Int) == 45)
        all_goals
          go_enter Tryd.func77, Tryd.ntmps77
          go_wp2_with fail
          go_ret
          exact ⟨ret_bool (by unfold misB; rw [if_neg h0, h1, h2, h3]; simp), rfl⟩
    · have g0 : (0 : Int) ≤ (k : Int) - 1 := by omega
      have g1 : (k : Int) - 1 < s.size := by omega
      have g2 : ((k : Int) - 1).toNat = k - 1 := by omega
      cases h4 : ((s[k - 1].toNat : Int) == 46)
      · cases h2 : ((k : Int) == s.size - 1)
        · go_enter Tryd.func77, Tryd.ntmps77
          go_wp2_with fail
          go_ret
          exact ⟨ret_bool (by unfold misB; rw [if_neg h0, h1, h2, h4]; simp), rfl⟩
        · cases h3 : ((s[k].toNat : Int) == 45)
          all_goals
            go_enter Tryd.func77, Tryd.ntmps77
            go_wp2_with fail
            go_ret
            exact ⟨ret_bool (by unfold misB; rw [if_neg h0, h1, h2, h4, h3]; simp), rfl⟩
      · go_enter Tryd.func77, Tryd.ntmps77
        go_wp2_with fail
        go_ret
        exact ⟨ret_bool (by unfold misB; rw [if_neg h0, h1, h4]; simp), rfl⟩
theorem siteE_six {s : ByteArray} (h0 : ¬ s.size = 0) (h1 : ¬ 30 < s.size) (k : Nat) (hk : k < s.size) (h : peB s[k] = false) : siteE s = 6 := by
  unfold siteE
  rw [if_neg h0, if_neg h1, if_pos (allAt_false k hk h)]
theorem siteE_twelve {s : ByteArray} (h0 : ¬ s.size = 0) (h1 : ¬ 30 < s.size) (ha : ∀ j (hj : j < s.size), peB s[j] = true) (k : Nat) (hk : k < s.size) (h : misB s k hk = true) : siteE s = 12 := by
  unfold siteE
  rw [if_neg h0, if_neg h1, if_neg (by rw [allAt_true ha]; simp), if_pos (allAt_false k hk (by rw [h]; rfl))]
theorem siteE_zero {s : ByteArray} (h0 : ¬ s.size = 0) (h1 : ¬ 30 < s.size) (ha : ∀ j (hj : j < s.size), peB s[j] = true) (hm : ∀ j (hj : j < s.size), misB s j hj = false) : siteE s = 0 := by
  unfold siteE
  rw [if_neg h0, if_neg h1, if_neg (by rw [allAt_true ha]; simp), if_neg (by rw [allAt_true (fun j hj => by rw [hm j hj]; rfl)]; simp)]
theorem siteR_mk {s : ByteArray} {k m : Int} (h : siteE s = m) : ∃ k' : Int, Ending.returned (.tuple #[.int .i64 k, .int .i64 m]) = .returned (.tuple #[.int .i64 k', .int .i64 (siteE s)]) := ⟨k, by rw [h]⟩
set_option maxRecDepth 100000 in
set_option maxHeartbeats 1000000 in
theorem msgSite_s (s : ByteArray) (hs : s.size ≤ maxLen) (w : World) : Calls Tryd.prog 54 #[.string s] w fun e w' => (∃ k : Int, e = .returned (.tuple #[.int .i64 k, .int .i64 (siteE s)])) ∧ w = w' := by
  unfold maxLen at hs
  by_cases h0 : s.size = 0
  · have h1 : ((s.toList.isEmpty) = true) := by rw [toList_nil h0]; rfl
    have h2 := toList_nil h0
    have HR := Lib.hid (show siteE s = 4 by unfold siteE; rw [if_pos h0])
    clear h0
    go_enter Tryd.func54, Tryd.ntmps54
    go_wp2_with fail
    go_ret2
    exact ⟨siteR_mk HR.out, rfl⟩
  · have h1 : s.toList.isEmpty = false := by
      have := toList_ne (t := s) (by omega)
      cases h : s.toList
      · exact absurd h this
      · rfl
    by_cases h30 : 30 < s.size
    · have HR := Lib.hid (show siteE s = 5 by unfold siteE; rw [if_neg h0, if_pos h30])
      go_enter Tryd.func54, Tryd.ntmps54
      go_wp2_with fail
      go_ret2
      exact ⟨siteR_mk HR.out, rfl⟩
    · go_enter Tryd.func54, Tryd.ntmps54
      go_wp2_with fail
      go_loop [15] (fun i => ∃ k : Nat, k ≤ s.size ∧ i = .int .i64 k ∧ ∀ j (hj : j < s.size), j < k → peB s[j] = true) (fun i => s.size - (intOf i).toNat)
      case atStart => exact ⟨0, Nat.zero_le _, rfl, fun j _ h => absurd h (Nat.not_lt_zero _)⟩
      case round =>
        obtain ⟨k, hk, rfl, hall⟩ := hrel
        have HA := Lib.hid hall
        clear hall
        by_cases hlt : k < s.size
        · cases hp : peB s[k]
          · have HR := Lib.hid (siteE_six h0 h30 k hlt hp)
            go_wp2_with (go_at_call 76; refine (permitted_c _ _).mono ?_; rintro e w' ⟨rfl, rfl⟩)
            go_ret2
            exact ⟨siteR_mk HR.out, rfl⟩
          · go_wp2_with (go_at_call 76; refine (permitted_c _ _).mono ?_; rintro e w' ⟨rfl, rfl⟩)
            go_round
            case rel => exact ⟨k + 1, by omega, by go_num, fun j hj h => by
              by_cases e : j = k
              · subst e; exact hp
              · exact HA.out j hj (by omega)⟩
            case measure => simp [intOf]; omega
        · have HP := Lib.hid (show ∀ j (hj : j < s.size), peB s[j] = true from fun j hj => HA.out j hj (by omega))
          go_wp2_with fail
          go_loop [27] (fun i => ∃ k : Nat, k ≤ s.size ∧ i = .int .i64 k ∧ ∀ j (hj : j < s.size), j < k → misB s j hj = false) (fun i => s.size - (intOf i).toNat)
          case atStart => exact ⟨0, Nat.zero_le _, rfl, fun j _ h => absurd h (Nat.not_lt_zero _)⟩
          case round =>
            obtain ⟨m, hm, rfl, hall⟩ := hrel
            have HB := Lib.hid hall
            clear hall
            by_cases hlt2 : m < s.size
            · cases hp : misB s m hlt2
              · go_wp2_with (go_at_call 77; refine (misplaced_c s m hlt2 (by omega) _).mono ?_; rintro e w' ⟨rfl, rfl⟩)
                go_round
                case rel => exact ⟨m + 1, by omega, by go_num, fun j hj h => by
                  by_cases e : j = m
                  · subst e; exact hp
                  · exact HB.out j hj (by omega)⟩
                case measure => simp [intOf]; omega
              · have HR := Lib.hid (siteE_twelve h0 h30 HP.out m hlt2 hp)
                go_wp2_with (go_at_call 77; refine (misplaced_c s m hlt2 (by omega) _).mono ?_; rintro e w' ⟨rfl, rfl⟩)
                go_ret2
                exact ⟨siteR_mk HR.out, rfl⟩
            · have HR := Lib.hid (siteE_zero h0 h30 HP.out (fun j hj => HB.out j hj (by omega)))
              go_wp2_with fail
              go_ret2
              exact ⟨siteR_mk HR.out, rfl⟩
set_option maxRecDepth 100000 in
theorem site_s (s : ByteArray) (hs : s.size ≤ maxLen) (w : World) : Calls Tryd.prog 29 #[.string s] w fun e w' => e = .returned (.int .i64 (siteE s)) ∧ w = w' := by
  go_enter Tryd.func29, Tryd.ntmps29
  go_wp2_with fail
  refine (msgSite_s s hs _).mono ?_
  rintro e w' ⟨⟨k, rfl⟩, rfl⟩
  go_wp2_with fail
  go_ret
  exact ⟨rfl, rfl⟩
set_option maxRecDepth 100000 in
set_option maxHeartbeats 4000000 in
theorem refMsgSite_s (s : ByteArray) (hs : s.size ≤ maxLen) (w : World) : Calls Tryd.prog 56 #[.string s] w fun e w' => (∃ k : Int, e = .returned (.tuple #[.int .i64 k, .int .i64 (siteE s)])) ∧ w = w' := by
  unfold maxLen at hs
  by_cases h0 : s.size = 0
  · have h1 : ((s.toList.isEmpty) = true) := by rw [toList_nil h0]; rfl
    have h2 := toList_nil h0
    have HR := Lib.hid (show siteE s = 4 by unfold siteE; rw [if_pos h0])
    clear h0
    go_enter Tryd.func56, Tryd.ntmps56
    go_wp2_with fail
    go_ret2
    exact ⟨siteR_mk HR.out, rfl⟩
  · have h1 : s.toList.isEmpty = false := by
      have := toList_ne (t := s) (by omega)
      cases h : s.toList
      · exact absurd h this
      · rfl
    by_cases h30 : 30 < s.size
    · have HR := Lib.hid (show siteE s = 5 by unfold siteE; rw [if_neg h0, if_pos h30])
      go_enter Tryd.func56, Tryd.ntmps56
      go_wp2_with fail
      go_ret2
      exact ⟨siteR_mk HR.out, rfl⟩
    · go_enter Tryd.func56, Tryd.ntmps56
      go_wp2_with fail
      go_loop [4] (fun i => ∃ k : Nat, k ≤ s.size ∧ i = .int .i64 k ∧ ∀ j (hj : j < s.size), j < k → peB s[j] = true) (fun i => s.size - (intOf i).toNat)
      case atStart => exact ⟨0, Nat.zero_le _, rfl, fun j _ h => absurd h (Nat.not_lt_zero _)⟩
      case round =>
        obtain ⟨k, hk, rfl, hall⟩ := hrel
        have HA := Lib.hid hall
        clear hall
        by_cases hlt : k < s.size
        · go_wp2
          all_goals first
            | exact ⟨⟨k + 1, by omega, by go_num, fun j hj h => by
                by_cases e : j = k
                · subst e; (try simp only [Bool.not_eq_false', Bool.not_eq_true', decide_eq_true_eq, beq_iff_eq, decide_eq_false_iff_not, beq_eq_false_iff_ne, ne_eq, Bool.not_eq_true, Bool.not_eq_false] at *); unfold peB loB diB; simp; omega
                · exact HA.out j hj (by omega)⟩, by simp [intOf]; omega⟩
            | (go_ret2; exact ⟨siteR_mk (siteE_six h0 h30 k hlt (by (try simp only [Bool.not_eq_false', Bool.not_eq_true', decide_eq_true_eq, beq_iff_eq, decide_eq_false_iff_not, beq_eq_false_iff_ne, ne_eq, Bool.not_eq_true, Bool.not_eq_false] at *); unfold peB loB diB; simp; omega)), rfl⟩)
        · have HP := Lib.hid (show ∀ j (hj : j < s.size), peB s[j] = true from fun j hj => HA.out j hj (by omega))
          go_wp2_with fail
          go_loop [6] (fun i => ∃ k : Nat, k ≤ s.size ∧ i = .int .i64 k ∧ ∀ j (hj : j < s.size), j < k → misB s j hj = false) (fun i => s.size - (intOf i).toNat)
          case atStart => exact ⟨0, Nat.zero_le _, rfl, fun j _ h => absurd h (Nat.not_lt_zero _)⟩
          case round =>
            obtain ⟨m, hm, rfl, hall⟩ := hrel
            have HB := Lib.hid hall
            clear hall
            by_cases hlt2 : m < s.size
            · by_cases hz : m = 0
              · subst hz
                go_wp2
                all_goals first
                  | exact ⟨⟨1, by omega, by go_num, fun j hj h => by
                      have e : j = 0 := by omega
                      subst e; (try simp only [Bool.not_eq_false', Bool.not_eq_true', decide_eq_true_eq, beq_iff_eq, decide_eq_false_iff_not, beq_eq_false_iff_ne, ne_eq, Bool.not_eq_true, Bool.not_eq_false] at *); unfold misB loB; rw [if_pos rfl]; simp; omega⟩, by simp [intOf]; omega⟩
                  | (go_ret2; exact ⟨siteR_mk (siteE_twelve h0 h30 HP.out 0 hlt2 (by (try simp only [Bool.not_eq_false', Bool.not_eq_true', decide_eq_true_eq, beq_iff_eq, decide_eq_false_iff_not, beq_eq_false_iff_ne, ne_eq, Bool.not_eq_true, Bool.not_eq_false] at *); unfold misB loB; rw [if_pos rfl]; simp; omega)), rfl⟩)
              · have hz1 : ((m : Int) == 0) = false := by rw [beq_eq_false_iff_ne]; omega
                have g0 : (0 : Int) ≤ (m : Int) - 1 := by omega
                have g1 : (m : Int) - 1 < s.size := by omega
                have g2 : ((m : Int) - 1).toNat = m - 1 := by omega
                go_wp2
                all_goals first
                  | exact ⟨⟨m + 1, by omega, by go_num, fun j hj h => by
                      by_cases e : j = m
                      · subst e; (try simp only [Bool.not_eq_false', Bool.not_eq_true', decide_eq_true_eq, beq_iff_eq, decide_eq_false_iff_not, beq_eq_false_iff_ne, ne_eq, Bool.not_eq_true, Bool.not_eq_false] at *); unfold misB; rw [if_neg hz]; simp; omega
                      · exact HB.out j hj (by omega)⟩, by simp [intOf]; omega⟩
                  | (go_ret2; exact ⟨siteR_mk (siteE_twelve h0 h30 HP.out m hlt2 (by (try simp only [Bool.not_eq_false', Bool.not_eq_true', decide_eq_true_eq, beq_iff_eq, decide_eq_false_iff_not, beq_eq_false_iff_ne, ne_eq, Bool.not_eq_true, Bool.not_eq_false] at *); unfold misB; rw [if_neg hz]; simp; omega)), rfl⟩)
            · have HR := Lib.hid (siteE_zero h0 h30 HP.out (fun j hj => HB.out j hj (by omega)))
              go_wp2_with fail
              go_ret2
              exact ⟨siteR_mk HR.out, rfl⟩
set_option maxRecDepth 100000 in
theorem refSite_s (s : ByteArray) (hs : s.size ≤ maxLen) (w : World) : Calls Tryd.prog 32 #[.string s] w fun e w' => e = .returned (.int .i64 (siteE s)) ∧ w = w' := by
  go_enter Tryd.func32, Tryd.ntmps32
  go_wp2_with fail
  refine (refMsgSite_s s hs _).mono ?_
  rintro e w' ⟨⟨k, rfl⟩, rfl⟩
  go_wp2_with fail
  go_ret
  exact ⟨rfl, rfl⟩
end Go.Proofs.YtkiheanpamplpaaDoor
