/-
  The reference of package ascii: Number: what it answers.
-/
import Derived.Test.YtgmamplnhechjaaDoorRefD
set_option linter.unusedSimpArgs false
set_option linter.unusedVariables false
set_option linter.unnecessarySimpa false
namespace Go.Proofs.YtgmamplnhechjaaDoor
open Go.RowKit Go.Bul
theorem all_not {s : ByteArray} {k : Nat} (hk : k < s.size) (hb : diB s[k] = false) : numBad s.data.toList = true := by
  unfold numBad
  have : s.data.toList.all diB = false := by
    rw [List.all_eq_false]
    refine ⟨s[k], ?_, by simp [hb]⟩
    have : s[k] = s.data.toList[k]'(by simpa using hk) := rfl
    rw [this]
    exact List.getElem_mem _
  rw [this]; simp
theorem all_upto {s : ByteArray} (h : ∀ j (hj : j < s.size), diB s[j] = true) : s.data.toList.all diB = true := by
  rw [List.all_eq_true]
  intro x hx
  obtain ⟨j, hj, rfl⟩ := List.getElem_of_mem hx
  exact h j (by simpa using hj)
theorem decN_append (l r : List UInt8) (acc : Nat) : decN acc (l ++ r) = decN (decN acc l) r := by unfold decN; rw [List.foldl_append]
theorem decN_snoc (s : ByteArray) (k : Nat) (h : k < s.size) : decN 0 (s.data.toList.take (k + 1)) = decN 0 (s.data.toList.take k) * 10 + (s[k].toNat - 48) := by
  have hl : s.data.toList.length = s.size := by simp
  rw [List.take_succ_eq_append_getElem (by omega), decN_append, decN_cons, decN_nil]
  rfl
theorem decN_mono (s : ByteArray) (k : Nat) : decN 0 (s.data.toList.take k) ≤ decN 0 s.data.toList := by
  have h := decN_append (s.data.toList.take k) (s.data.toList.drop k) 0
  rw [List.take_append_drop] at h
  rw [h]
  exact decN_ge _ _
theorem numL_over {l : List UInt8} (most : Int) (hb : numBad l = false) (h : two63 ≤ decN 0 l) : numL l most = (0, 2) := by
  unfold numL; rw [if_neg (by simp [hb]), if_neg (fun g => by omega)]
theorem numL_most {l : List UInt8} (most : Int) (hb : numBad l = false) (h : most < (decN 0 l : Int)) : numL l most = (0, 2) := by
  unfold numL; rw [if_neg (by simp [hb]), if_neg (fun g => by omega)]
theorem numL_ok {l : List UInt8} (most : Int) (hb : numBad l = false) (h1 : decN 0 l < two63) (h : ¬ most < (decN 0 l : Int)) : numL l most = ((decN 0 l : Int), 0) := by
  unfold numL; rw [if_neg (by simp [hb]), if_pos ⟨h1, by omega⟩]
theorem numBad_head {s : ByteArray} (h : 0 < s.size) (h1 : 1 < s.size) (h48 : s[0] = 48) : numBad s.data.toList = true := by
  have h2 := drop_at s 0 h
  rw [List.drop_zero] at h2
  have hl : s.data.toList.length = s.size := by simp
  unfold numBad
  rw [hl]
  have : (s.data.toList.head? == some 48) = true := by rw [h2]; simp [h48]
  rw [this]; simp [h1]
theorem numBad_no {s : ByteArray} (h : 0 < s.size) (h1 : ¬ (1 < s.size ∧ s[0] = 48)) (ha : s.data.toList.all diB = true) : numBad s.data.toList = false := by
  have h2 := drop_at s 0 h
  rw [List.drop_zero] at h2
  have hl : s.data.toList.length = s.size := by simp
  unfold numBad
  rw [ha, hl]
  have h3 : s.data.toList.isEmpty = false := by rw [← toList_data]; exact toList_full h
  rw [h3]
  by_cases g : s[0] = 48
  · have : ¬ 1 < s.size := fun g' => h1 ⟨g', g⟩
    simp [this]
  · have : (s.data.toList.head? == some 48) = false := by rw [h2]; simp [g]
    rw [this]; simp
set_option maxRecDepth 100000 in
set_option maxHeartbeats 1000000 in
theorem refNumber_tail (s : ByteArray) (most : Int) (hs : s.size ≤ 4294967280) (hz : 0 < s.size) (hh : ¬ (1 < s.size ∧ s[0] = 48)) (w : World) :
    Calls Tryd.prog 31 #[.string s, .int .i64 most] w fun e w' => e = .returned (tupN (numL s.data.toList most)) ∧ w = w' := by
  have h1 : ((s.size : Int) == 0) = false := by rw [beq_eq_false_iff_ne]; omega
  have key : ¬ (1 : Int) < s.size ∨ ((1 : Int) < s.size ∧ ((s[0].toNat : Int) == 48) = false) := by
    by_cases g : 1 < s.size
    · right
      refine ⟨by omega, ?_⟩
      rw [beq_eq_false_iff_ne]
      intro e
      exact hh ⟨g, UInt8.toNat_inj.1 (by rw [show (48 : UInt8).toNat = 48 from rfl]; omega)⟩
    · left; omega
  have HH := Lib.hid hh
  clear hh
  rcases key with g | ⟨g, g48⟩
  all_goals
    go_enter Tryd.func31, Tryd.ntmps31
    go_wp2_with fail
    go_loop [6] (fun i => ∃ k : Nat, k ≤ s.size ∧ i = .int .i64 k ∧ ∀ j (hj : j < s.size), j < k → diB s[j] = true) (fun i => s.size - (intOf i).toNat)
    case atStart => exact ⟨0, Nat.zero_le _, rfl, fun j _ h => absurd h (Nat.not_lt_zero _)⟩
    case round =>
      obtain ⟨k, hk, rfl, hall⟩ := hrel
      have HA := Lib.hid hall
      clear hall
      by_cases hlt : k < s.size
      · cases hd : diB s[k]
        · have HR := Lib.hid (numL_bad (all_not hlt hd) most)
          go_wp2_with (go_at_call 42; refine (refDigit_c _ _).mono ?_; rintro e w' ⟨rfl, rfl⟩)
          go_ret2
          exact ⟨by rw [HR.out]; rfl, rfl⟩
        · go_wp2_with (go_at_call 42; refine (refDigit_c _ _).mono ?_; rintro e w' ⟨rfl, rfl⟩)
          go_round
          case rel => exact ⟨k + 1, by omega, by go_num, fun j hj h => by
            by_cases e : j = k
            · subst e; exact hd
            · exact HA.out j hj (by omega)⟩
          case measure => simp [intOf]; omega
      · have hall2 : ∀ j (hj : j < s.size), diB s[j] = true := fun j hj => HA.out j hj (by omega)
        have HB := Lib.hid (numBad_no hz HH.out (all_upto hall2))
        have HD := Lib.hid hall2
        clear hall2
        go_wp2_with fail
        go_loop [7, 8] (fun n i => ∃ k : Nat, k ≤ s.size ∧ i = .int .i64 k ∧ n = .int .i64 (decN 0 (s.data.toList.take k) : Int) ∧ decN 0 (s.data.toList.take k) < two63) (fun _ i => s.size - (intOf i).toNat)
        case atStart => exact ⟨0, Nat.zero_le _, rfl, rfl, by unfold two63; simp [decN_nil]⟩
        case round =>
          obtain ⟨m, hm, rfl, rfl, hv⟩ := hrel
          have hv2 : ((decN 0 (s.data.toList.take m) : Nat) : Int) ≤ 9223372036854775807 := by unfold two63 at hv; omega
          have hv0 : (0 : Int) ≤ ((decN 0 (s.data.toList.take m) : Nat) : Int) := by omega
          have HV := Lib.hid hv
          clear hv
          by_cases hlt2 : m < s.size
          · have hdm := HD.out m hlt2
            have hdig : 48 ≤ s[m].toNat ∧ s[m].toNat ≤ 57 := by simpa [diB] using hdm
            have hs1 := decN_snoc s m hlt2
            have hmono := decN_mono s (m + 1)
            have HS := Lib.hid hs1
            have HMo := Lib.hid hmono
            clear hs1 hmono hdm
            generalize hN : decN 0 (s.data.toList.take m) = N at *
            have HN := Lib.hid hN
            clear hN
            have d0 : (0 : Int) ≤ (s[m].toNat : Int) - 48 := by omega
            have d9 : (s[m].toNat : Int) - 48 ≤ 9 := by omega
            by_cases hov : (9223372036854775807 - ((s[m].toNat : Int) - 48)) / 10 < (N : Int)
            · have hov2 : ¬ (N : Int) ≤ (9223372036854775807 - ((s[m].toNat : Int) - 48)) / 10 := by omega
              have HR := Lib.hid (numL_over most HB.out (by have h1 := HS.out; have h2 := HMo.out; unfold two63; omega))
              go_wp2_with fail
              go_ret2
              exact ⟨by rw [HR.out]; rfl, rfl⟩
            · go_wp2_with fail
              refine ⟨⟨m + 1, by omega, by go_num, ?_, ?_⟩, by simp [intOf]; omega⟩
              · have h1 := HS.out
                congr 1
                omega
              · have h1 := HS.out
                unfold two63
                omega
          · have HF := Lib.hid (show decN 0 (s.data.toList.take m) = decN 0 s.data.toList by rw [List.take_of_length_le (by simp; omega)])
            by_cases hmo : most < ((decN 0 (s.data.toList.take m) : Nat) : Int)
            · have HR := Lib.hid (numL_most most HB.out (by rw [← HF.out]; exact hmo))
              go_wp2_with fail
              go_ret2
              exact ⟨by rw [HR.out]; rfl, rfl⟩
            · have HR := Lib.hid (numL_ok most HB.out (by rw [← HF.out]; exact HV.out) (by rw [← HF.out]; exact hmo))
              go_wp2_with fail
              go_ret2
              exact ⟨by rw [HR.out, ← HF.out]; rfl, rfl⟩
set_option maxRecDepth 100000 in
theorem refNumber_s (s : ByteArray) (most : Int) (hs : s.size ≤ 4294967280) (w : World) :
    Calls Tryd.prog 31 #[.string s, .int .i64 most] w fun e w' => e = .returned (tupN (numL s.data.toList most)) ∧ w = w' := by
  by_cases hz : s.size = 0
  · have HR := Lib.hid (numL_bad (l := s.data.toList) (by unfold numBad; rw [← toList_data, toList_nil hz]; rfl) most)
    have h1 : ((s.size : Int) == 0) = true := by rw [beq_iff_eq]; omega
    clear hz
    go_enter Tryd.func31, Tryd.ntmps31
    go_wp2_with fail
    go_ret2
    exact ⟨by rw [HR.out]; rfl, rfl⟩
  · by_cases hh : 1 < s.size ∧ s[0] = 48
    · have HR := Lib.hid (numL_bad (numBad_head (by omega) hh.1 hh.2) most)
      have h1 : ((s.size : Int) == 0) = false := by rw [beq_eq_false_iff_ne]; omega
      obtain ⟨hh1, hh2⟩ := hh
      have h2 : (1 : Int) < s.size := by omega
      have h3 : ((s[0].toNat : Int) == 48) = true := by rw [hh2]; rfl
      clear hz hh2
      go_enter Tryd.func31, Tryd.ntmps31
      go_wp2_with fail
      go_ret2
      exact ⟨by rw [HR.out]; rfl, rfl⟩
    · exact refNumber_tail s most hs (by omega) hh w
end Go.Proofs.YtgmamplnhechjaaDoor
