/-
  The reference of package ascii: Lower, Compare, Printable, Trim: what they answer.
-/
import Derived.Test.YtgmamplnhechjaaDoorAscI
set_option linter.unusedSimpArgs false
set_option linter.unusedVariables false
set_option linter.unnecessarySimpa false
namespace Go.Proofs.YtgmamplnhechjaaDoor
open Go.RowKit Go.Bul
set_option maxRecDepth 100000 in
set_option maxHeartbeats 400000 in
theorem refLower_s (s : ByteArray) (hs : s.size ≤ maxLen) (w : World) : Calls Tryd.prog 13 #[.string s] w fun e w' => e = .returned (St (lowL s.data.toList)) ∧ Below w.heap.size w w' := by
  unfold maxLen at hs
  have kc := fun w => run_bytes_of_string (P := Tryd.prog) w 9 39 5 s Tryd.underlying9 Tryd.underlying39 Tryd.underlying5
  go_enter Tryd.func13, Tryd.ntmps13
  go_wp2_with fail
  go_loopw [4] (fun i wr => ∃ k : Nat, k ≤ s.size ∧ i = .int .i64 k ∧ LowRel w s k wr) (fun i _ => s.size - (intOf i).toNat)
  case atStart =>
    refine ⟨0, Nat.zero_le _, rfl, ((Below.refl _ _).alloc (Nat.le_refl _) _).drew, by simp, fun j hj => ?_, fun j hj => ?_⟩
    · have : j < s.data.size := hj
      rw [World.cell?_drew, World.cell?_alloc_mark, bytesRow_at _ _ _ this]
      simp; rfl
    · have : s.size ≤ (bytesRow s (grownCap w s.size 0 5)).size := by simp [bytesRow]
      rw [World.frozen?_drew, World.frozen?_alloc_mark]
      simp; omega
  case round =>
    obtain ⟨k, hk, rfl, hr⟩ := hrel
    by_cases hlt : k < s.size
    · have hc : wr.cell? ⟨w.heap.size, k, none⟩ = some (B8 s[k]) := by simpa using hr.2.2.1 k hlt
      have hf := hr.2.2.2 k hlt
      have hst := hr.step hlt
      have hc8 := (s[k]).toNat_lt
      cases hu : upB s[k]
      · have hsame : LowRel w s (k + 1) wr := by
          have h1 : lowC s[k] = s[k] := by simp [lowC, hu]
          rw [h1] at hst
          refine ⟨hr.1, hr.2.1, fun j hj => ?_, hr.2.2.2⟩
          rw [hr.2.2.1 j hj]
          by_cases e : j = k
          · subst e; simp [h1]
          · have : (j < k + 1) = (j < k) := by simp; omega
            simp [this]
        clear hst
        go_wp2_with (go_at_call 39; refine (refUp_c _ _).mono ?_; rintro e w' ⟨rfl, rfl⟩)
        go_roundw
        case rel => exact ⟨k + 1, by omega, by go_num, hsame⟩
        case measure => simp [intOf]; omega
      · have h1 : lowC s[k] = s[k] + 32 := by simp [lowC, hu]
        have h2 : 65 ≤ s[k].toNat ∧ s[k].toNat ≤ 90 := by simpa [upB] using hu
        have h3 : ((s[k] + 32).toNat : Int) = (s[k].toNat : Int) + 32 := by
          rw [UInt8.toNat_add]; have : (32 : UInt8).toNat = 32 := rfl; omega
        have h4 : B8 (lowC s[k]) = .int .u8 ((s[k].toNat : Int) + 32) := by rw [h1]; show Value.int .u8 _ = _; rw [h3]
        rw [h4] at hst
        have HST := Lib.hid hst
        clear hst h4 h3 h1
        go_wp2_with (go_at_call 39; refine (refUp_c _ _).mono ?_; rintro e w' ⟨rfl, rfl⟩)
        go_roundw
        case rel => exact ⟨k + 1, by omega, by go_num, HST.out⟩
        case measure => simp [intOf]; omega
    · have kb : (convert 39 9 (.slice (some ⟨w.heap.size, 0, none⟩) s.size (grownCap w s.size 0 5))).run Tryd.prog wr = .ok (.string ⟨(lowL s.data.toList).toArray⟩) wr := by
        have h9 := run_convert_bytes_back (P := Tryd.prog) wr 39 9 5 ⟨w.heap.size, 0, none⟩ (grownCap w s.size 0 5) (s.data.toList.map lowC) Tryd.underlying39 Tryd.underlying5 Tryd.underlying9
          (fun j hj => by
            have hj' : j < s.size := by simpa using hj
            have := hr.2.2.1 j hj'
            rw [show (⟨w.heap.size, 0, none⟩ : Addr).add j = ⟨w.heap.size, j, none⟩ by unfold Addr.add; split <;> simp_all]
            rw [this, if_pos (by omega)]
            simp; rfl)
        simpa [lowL] using h9
      go_wp2_with fail
      go_ret
      exact ⟨rfl, hr.1⟩

/-! ### Compare -/
theorem cmp_step (a b : ByteArray) (k : Nat) (h1 : k < a.size) (h2 : k < b.size) : Lib.compareBytes (a.data.toList.drop k) (b.data.toList.drop k) =
    if a[k] < b[k] then -1 else if b[k] < a[k] then 1 else Lib.compareBytes (a.data.toList.drop (k + 1)) (b.data.toList.drop (k + 1)) := by
  rw [drop_at a k h1, drop_at b k h2]; rfl
theorem cmp_endA (a b : ByteArray) (k : Nat) (h1 : a.size ≤ k) (h2 : k < b.size) : Lib.compareBytes (a.data.toList.drop k) (b.data.toList.drop k) = -1 := by
  rw [List.drop_eq_nil_of_le (by simpa using h1), drop_at b k h2]; rfl
theorem cmp_endB (a b : ByteArray) (k : Nat) (h1 : k < a.size) (h2 : b.size ≤ k) : Lib.compareBytes (a.data.toList.drop k) (b.data.toList.drop k) = 1 := by
  have h3 : b.data.toList.drop k = [] := List.drop_eq_nil_of_le (by simpa using h2)
  rw [h3, drop_at a k h1]; rfl
theorem cmp_end (a b : ByteArray) (k : Nat) (h1 : a.size ≤ k) (h2 : b.size ≤ k) : Lib.compareBytes (a.data.toList.drop k) (b.data.toList.drop k) = 0 := by
  rw [List.drop_eq_nil_of_le (by simpa using h1), List.drop_eq_nil_of_le (by simpa using h2)]; rfl
set_option maxRecDepth 100000 in
set_option maxHeartbeats 1000000 in
theorem refCompare_s (a b : ByteArray) (ha : a.size ≤ 4294967280) (hb : b.size ≤ 4294967280) (w : World) : Calls Tryd.prog 18 #[.string a, .string b] w fun e w' => e = .returned (.int .i64 (Lib.compareBytes a.data.toList b.data.toList)) ∧ Below w.heap.size w w' := by
  go_enter Tryd.func18, Tryd.ntmps18
  go_wp2_with fail
  go_loopw [5] (fun i wr => ∃ k : Nat, k ≤ a.size ∧ k ≤ b.size ∧ i = .int .i64 k ∧ Lib.compareBytes a.data.toList b.data.toList = Lib.compareBytes (a.data.toList.drop k) (b.data.toList.drop k) ∧ Below w.heap.size w wr) (fun i _ => a.size - (intOf i).toNat)
  case atStart => exact ⟨0, Nat.zero_le _, Nat.zero_le _, rfl, rfl, Below.refl _ _⟩
  case round =>
    obtain ⟨k, hk1, hk2, rfl, heq, hbw⟩ := hrel
    have HE := Lib.hid heq
    clear heq
    by_cases h1 : k < a.size
    · by_cases h2 : k < b.size
      · have hst := cmp_step a b k h1 h2
        have HS := Lib.hid hst
        clear hst
        have i1 : (0 : Int) ≤ (k : Int) := by omega
        have i2 : (k : Int) < a.size := by omega
        have i3 : (k : Int) < b.size := by omega
        by_cases g1 : a[k] < b[k]
        · have g1' : a[k].toNat < b[k].toNat := g1
          have g1d : decide (a[k].toNat < b[k].toNat) = true := by simpa using g1'
          go_wp2_with fail
          go_quiet (fail)
          go_wp2_with fail
          go_ret
          exact ⟨ret_int (by rw [HE.out, HS.out, if_pos g1]), by first | exact below_drewN hbw _ | exact below_drewN (below_drewN hbw _) _⟩
        · have g1' : ¬ a[k].toNat < b[k].toNat := g1
          have g1d : decide (a[k].toNat < b[k].toNat) = false := by simpa using g1'
          by_cases g2 : b[k] < a[k]
          · have g2' : b[k].toNat < a[k].toNat := g2
            have g2d : decide (b[k].toNat < a[k].toNat) = true := by simpa using g2'
            go_wp2_with fail
            go_quiet (fail)
            go_wp2_with fail
            go_quiet (fail)
            go_wp2_with fail
            go_ret
            exact ⟨ret_int (by rw [HE.out, HS.out, if_neg g1, if_pos g2]), by first | exact below_drewN hbw _ | exact below_drewN (below_drewN hbw _) _⟩
          · have g2' : ¬ b[k].toNat < a[k].toNat := g2
            have g2d : decide (b[k].toNat < a[k].toNat) = false := by simpa using g2'
            go_wp2_with fail
            go_quiet (fail)
            go_wp2_with fail
            go_quiet (fail)
            go_wp2_with fail
            go_roundw
            case rel => exact ⟨k + 1, by omega, by omega, by go_num, by rw [HE.out, HS.out, if_neg g1, if_neg g2], by first | exact below_drewN hbw _ | exact below_drewN (below_drewN hbw _) _⟩
            case measure => simp [intOf]; omega
      · have hl : ¬ ((a.size : Nat) : Int) < b.size := by omega
        have hl2 : ((b.size : Nat) : Int) < a.size := by omega
        go_wp2_with fail
        go_ret
        exact ⟨ret_int (by rw [HE.out, cmp_endB a b k h1 (by omega)]), hbw⟩
    · by_cases h2 : k < b.size
      · have hl : ((a.size : Nat) : Int) < b.size := by omega
        go_wp2_with fail
        go_ret
        exact ⟨ret_int (by rw [HE.out, cmp_endA a b k (by omega) h2]), hbw⟩
      · have hl : ¬ ((a.size : Nat) : Int) < b.size := by omega
        have hl2 : ¬ ((b.size : Nat) : Int) < a.size := by omega
        go_wp2_with fail
        go_ret
        exact ⟨ret_int (by rw [HE.out, cmp_end a b k (by omega) (by omega)]), hbw⟩
end Go.Proofs.YtgmamplnhechjaaDoor
