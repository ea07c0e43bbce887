/-
  Number: what it answers.
-/
import Derived.Test.YtgmamplnhechjaaDoorAscF
set_option linter.unusedSimpArgs false
set_option linter.unusedVariables false
set_option linter.unnecessarySimpa false
namespace Go.Proofs.YtgmamplnhechjaaDoor
open Go.RowKit Go.Bul
def decN (acc : Nat) (l : List UInt8) : Nat := l.foldl (fun a c => a * 10 + (c.toNat - 48)) acc
theorem decN_nil (acc : Nat) : decN acc [] = acc := rfl
theorem decN_cons (acc : Nat) (c : UInt8) (l : List UInt8) : decN acc (c :: l) = decN (acc * 10 + (c.toNat - 48)) l := List.foldl_cons ..
theorem decN_ge : ∀ (l : List UInt8) (acc : Nat), acc ≤ decN acc l
  | [], acc => Nat.le_refl _
  | c :: l, acc => by rw [decN_cons]; have := decN_ge l (acc * 10 + (c.toNat - 48)); omega
def two63 : Nat := 9223372036854775808
def two64 : Nat := 18446744073709551616
theorem parse_digits : ∀ (l : List UInt8) (acc : Nat), l.all diB = true → acc < two64 → (decN acc l < two64 → Lib.parseUint10 acc l = .ok (decN acc l)) ∧ (two64 ≤ decN acc l → Lib.parseUint10 acc l = .range)
  | [], acc, h, ha => ⟨fun _ => rfl, fun h => by rw [decN_nil] at h; omega⟩
  | c :: l, acc, h, ha => by
    simp only [List.all_cons, Bool.and_eq_true] at h
    have hd : 48 ≤ c.toNat ∧ c.toNat ≤ 57 := by simpa [diB] using h.1
    have hge := decN_ge l (acc * 10 + (c.toNat - 48))
    unfold Lib.parseUint10
    rw [if_pos hd, decN_cons]
    unfold two64 at *
    by_cases h1 : 1844674407370955162 ≤ acc
    · rw [if_pos h1]
      exact ⟨fun h => by omega, fun _ => rfl⟩
    · rw [if_neg h1]
      by_cases h2 : 18446744073709551616 ≤ acc * 10 + (c.toNat - 48)
      · rw [if_pos h2]
        exact ⟨fun h => by omega, fun _ => rfl⟩
      · rw [if_neg h2]
        have := parse_digits l (acc * 10 + (c.toNat - 48)) h.2 (by unfold two64; omega)
        unfold two64 at this
        exact this
theorem atoi_digits (l : List UInt8) (h0 : l ≠ []) (h : l.all diB = true) : (decN 0 l < two63 → Lib.atoiAll l = .ok (decN 0 l : Int)) ∧ (two63 ≤ decN 0 l → Lib.atoiAll l = .range) := by
  have hp := parse_digits l 0 h (by unfold two64; omega)
  cases l with
  | nil => exact absurd rfl h0
  | cons c r =>
    have hd : 48 ≤ c.toNat ∧ c.toNat ≤ 57 := by
      simp only [List.all_cons, Bool.and_eq_true] at h
      simpa [diB] using h.1
    unfold Lib.atoiAll
    have hs : (if c.toNat = 43 ∨ c.toNat = 45 then r else c :: r) = c :: r := by rw [if_neg (by omega)]
    have hn : ¬ c.toNat = 45 := by omega
    simp only [hs, Lib.parseMag]
    rw [if_neg (by simp)]
    unfold two63
    unfold two64 at hp
    by_cases h3 : decN 0 (c :: r) < 18446744073709551616
    · rw [hp.1 h3]
      simp only [hn]
      refine ⟨fun h => ?_, fun h => ?_⟩
      · rw [if_neg (by omega)]; simp
      · rw [if_pos (by simp; omega)]
    · rw [hp.2 (by omega)]
      exact ⟨fun h => by omega, fun _ => rfl⟩

/-- Number's answer: the number and the kind of error. -/
def numBad (l : List UInt8) : Bool := l.isEmpty || !l.all diB || (l.head? == some 48 && decide (1 < l.length))
def numL (l : List UInt8) (most : Int) : Int × Int :=
  if numBad l then (0, 3) else if decN 0 l < two63 ∧ (decN 0 l : Int) ≤ most then ((decN 0 l : Int), 0) else (0, 2)
theorem numL_bad {l : List UInt8} (h : numBad l = true) (most : Int) : numL l most = (0, 3) := by unfold numL; rw [if_pos h]
theorem span_all (s : ByteArray) (p : UInt8 → Bool) : spanL p s 0 = s.size ↔ s.data.toList.all p = true := by
  have hl : s.data.toList.length = s.size := by simp
  unfold spanL
  rw [List.drop_zero, Nat.zero_add, ← hl]
  generalize s.data.toList = l
  induction l with
  | nil => simp
  | cons c l ih =>
    rw [List.takeWhile_cons, List.all_cons]
    split
    · rename_i h; simp [h, ih]
    · rename_i h; simp [h]
theorem below_bytesWorld (w : World) (e : TypeId) (t : ByteArray) : Below w.heap.size w (Lib.bytesWorld w e t) :=
  ⟨by simp [Lib.bytesWorld, World.freeze]; rfl, by simp [Lib.bytesWorld, World.freeze], by simp [Lib.bytesWorld, World.freeze]; rfl, by simp [Lib.bytesWorld, World.freeze], fun k hk => by
    simp only [Lib.bytesWorld, World.freeze]
    rw [if_neg (by omega)]
    simp only [Array.getElem?_modify]
    rw [if_neg (by omega)]
    exact Below.heap_alloc _ _ _ hk⟩
def tupN (p : Int × Int) : Value := .tuple #[.int .i64 p.1, .int .i64 p.2]
theorem atoi_ok (s : ByteArray) (hs : s.size ≤ 4294967280) (h0 : 0 < s.size) (h : s.data.toList.all diB = true) (hv : decN 0 s.data.toList < two63) (w : World) :
    Calls Tryd.prog 57 #[.string s] w fun e w' => e = .returned (.tuple #[.int .i64 (decN 0 s.data.toList : Int), .nilIface]) ∧ Below w.heap.size w w' :=
  (Tryd.strconv_Atoi_ok s (by omega) _ ((atoi_digits _ (by rw [← toList_data]; exact toList_ne h0) h).1 hv) w).mono fun e w' ⟨he, hw⟩ => ⟨he, by
    rcases hw with rfl | ⟨t, rfl⟩
    · exact Below.refl _ _
    · exact below_bytesWorld _ _ _⟩
theorem atoi_range (s : ByteArray) (hs : s.size ≤ 4294967280) (h0 : 0 < s.size) (h : s.data.toList.all diB = true) (hv : two63 ≤ decN 0 s.data.toList) (w : World) (hg : Gl w) :
    Calls Tryd.prog 57 #[.string s] w fun e w' => (∃ x t v, e = .returned (.tuple #[.int .i64 x, .iface t v])) ∧ Below w.heap.size w w' := by
  obtain ⟨ev, h1, h2⟩ := hg.range
  exact (Tryd.strconv_Atoi_range s (by omega) ((atoi_digits _ (by rw [← toList_data]; exact toList_ne h0) h).2 hv) ev w h1 h2).mono fun e w' ⟨N, he, _, _, hb⟩ => ⟨⟨_, _, _, he⟩, hb⟩

set_option maxRecDepth 100000 in
set_option maxHeartbeats 400000 in
theorem number_bad (s : ByteArray) (most : Int) (hs : s.size ≤ 4294967280) (hb : numBad s.data.toList = true) (w : World) :
    Calls Tryd.prog 29 #[.string s, .int .i64 most] w fun e w' => e = .returned (.tuple #[.int .i64 0, .int .i64 3]) ∧ Below w.heap.size w w' := by
  have hs' : s.size ≤ maxLen := by unfold maxLen; omega
  have hl : s.data.toList.length = s.size := by simp
  by_cases hz : s.size = 0
  · have ht0 := toList_nil hz
    have HZ := Lib.hid hz
    clear hz hb hl
    go_enter Tryd.func29, Tryd.ntmps29
    go_wp2_with fail
    go_ret2
    exact ⟨rfl, Below.refl _ _⟩
  · have hz' : 0 < s.size := by omega
    have ht1 : s.toList ≠ [] := toList_ne hz'
    have hle := span_le diB s 0 (Nat.zero_le _)
    by_cases hsp : spanL diB s 0 = s.size
    · have hall := (span_all s diB).1 hsp
      have h48 : s.data.toList.head? = some 48 ∧ 1 < s.size := by
        unfold numBad at hb
        rw [hall] at hb
        have : s.data.toList.isEmpty = false := by rw [← toList_data]; exact toList_full hz'
        rw [this, hl] at hb
        simpa using hb
      have h0 : s[0] = 48 := by
        have h1 := drop_at s 0 hz'
        rw [List.drop_zero] at h1
        rw [h1] at h48
        simpa using h48.1
      have hn0 : ((s[0].toNat : Int) == 48) = true := by rw [h0]; rfl
      have h1s := h48.2
      have HL := Lib.hid hsp
      have hge : ¬ ((spanL diB s 0 : Nat) : Int) < s.size := by omega
      clear hsp hb h48 h0 hall hl
      go_enter Tryd.func29, Tryd.ntmps29
      go_wp2_with (go_at_call 55; refine (span_c s hs' 0 (Nat.zero_le _) _ cf_isDigit diB _ (fun c => isDigit_c c _)).mono ?_; rintro e w' ⟨rfl, rfl⟩)
      go_ret2
      exact ⟨rfl, Below.refl _ _⟩
    · have hlt : ((spanL diB s 0 : Nat) : Int) < s.size := by omega
      clear hsp hb hl
      go_enter Tryd.func29, Tryd.ntmps29
      go_wp2_with (go_at_call 55; refine (span_c s hs' 0 (Nat.zero_le _) _ cf_isDigit diB _ (fun c => isDigit_c c _)).mono ?_; rintro e w' ⟨rfl, rfl⟩)
      go_ret2
      exact ⟨rfl, Below.refl _ _⟩
set_option maxRecDepth 100000 in
set_option maxHeartbeats 400000 in
theorem number_good (s : ByteArray) (most : Int) (hs : s.size ≤ 4294967280) (hb : numBad s.data.toList = false) (w : World) (hg : Gl w) :
    Calls Tryd.prog 29 #[.string s, .int .i64 most] w fun e w' => e = .returned (tupN (numL s.data.toList most)) ∧ Below w.heap.size w w' := by
  have hs' : s.size ≤ maxLen := by unfold maxLen; omega
  have hl : s.data.toList.length = s.size := by simp
  have hb' := hb
  unfold numBad at hb'
  simp only [Bool.or_eq_false_iff] at hb'
  have hz' : 0 < s.size := by
    have h1 := hb'.1.1
    rw [List.isEmpty_eq_false_iff] at h1
    have := List.length_pos_iff.2 h1
    omega
  have hall : s.data.toList.all diB = true := by simpa using hb'.1.2
  have h48 := hb'.2
  rw [hl] at h48
  have h1 := drop_at s 0 hz'
  rw [List.drop_zero] at h1
  rw [h1] at h48
  have ht1 := toList_full hz'
  have hsp := (span_all s diB).2 hall
  have hge : decide (spanL diB s 0 < s.size) = false := by rw [hsp]; simp
  have HB := Lib.hid hb
  have HG := Lib.hid hg
  have HA := Lib.hid hall
  have key : (((s[0].toNat : Int) == 48) = false) ∨ ¬ (1 : Int) < s.size := by
    by_cases hx : s[0] = 48
    · right; simp [hx] at h48; omega
    · left
      rw [beq_eq_false_iff_ne]
      intro e
      exact hx (UInt8.toNat_inj.1 (by rw [show (48 : UInt8).toNat = 48 from rfl]; omega))
  clear hb hb' h48 h1 hl hall hsp hg
  have kn1 := fun (u : TypeId) (x : Value) (w : World) => run_neq_held_nil (P := Tryd.prog) w 54 u x (by kernel_rfl)
  have kn2 := fun (w : World) => run_neq_nil_nil (P := Tryd.prog) w 54 (by kernel_rfl)
  by_cases hv : decN 0 s.data.toList < two63
  · have A1 := atoi_ok s hs hz' HA.out hv
    by_cases hm : (decN 0 s.data.toList : Int) ≤ most
    · have hm' : ¬ most < (decN 0 s.data.toList : Int) := by omega
      have HR := Lib.hid (show numL s.data.toList most = ((decN 0 s.data.toList : Int), 0) by unfold numL; rw [if_neg (by simp [HB.out]), if_pos ⟨hv, hm⟩])
      clear hm hv
      have HA1 := Lib.hid A1
      clear A1
      rcases key with hk | hk
      all_goals
        go_enter Tryd.func29, Tryd.ntmps29
        go_wp2_with (first | (go_at_call 55; refine (span_c s hs' 0 (Nat.zero_le _) _ cf_isDigit diB _ (fun c => isDigit_c c _)).mono ?_; rintro e w' ⟨rfl, rfl⟩) | (go_at_call 57; refine (HA1.out _).mono ?_; rintro e w' ⟨rfl, hbw⟩))
        all_goals
          go_ret2
          exact ⟨by rw [HR.out]; rfl, hbw⟩
    · have hm' : most < (decN 0 s.data.toList : Int) := by omega
      have HR := Lib.hid (show numL s.data.toList most = (0, 2) by unfold numL; rw [if_neg (by simp [HB.out]), if_neg (fun h => hm h.2)])
      clear hm hv
      have HA1 := Lib.hid A1
      clear A1
      rcases key with hk | hk
      all_goals
        go_enter Tryd.func29, Tryd.ntmps29
        go_wp2_with (first | (go_at_call 55; refine (span_c s hs' 0 (Nat.zero_le _) _ cf_isDigit diB _ (fun c => isDigit_c c _)).mono ?_; rintro e w' ⟨rfl, rfl⟩) | (go_at_call 57; refine (HA1.out _).mono ?_; rintro e w' ⟨rfl, hbw⟩))
        all_goals
          go_ret2
          exact ⟨by rw [HR.out]; rfl, hbw⟩
  · have A1 := atoi_range s hs hz' HA.out (by omega) _ HG.out
    have HR := Lib.hid (show numL s.data.toList most = (0, 2) by unfold numL; rw [if_neg (by simp [HB.out]), if_neg (fun h => hv h.1)])
    clear hv
    have HA1 := Lib.hid A1
    clear A1
    rcases key with hk | hk
    all_goals
      go_enter Tryd.func29, Tryd.ntmps29
      go_wp2_with (first | (go_at_call 55; refine (span_c s hs' 0 (Nat.zero_le _) _ cf_isDigit diB _ (fun c => isDigit_c c _)).mono ?_; rintro e w' ⟨rfl, rfl⟩) | (go_at_call 57; refine (HA1.out).mono ?_; rintro e w' ⟨⟨x, tt, vv, rfl⟩, hbw⟩))
      all_goals
        go_ret2
        exact ⟨by rw [HR.out]; rfl, hbw⟩
theorem number_s (s : ByteArray) (most : Int) (hs : s.size ≤ 4294967280) (w : World) (hg : Gl w) :
    Calls Tryd.prog 29 #[.string s, .int .i64 most] w fun e w' => e = .returned (tupN (numL s.data.toList most)) ∧ Below w.heap.size w w' := by
  cases hb : numBad s.data.toList
  · exact number_good s most hs hb w hg
  · rw [numL_bad hb]
    exact number_bad s most hs hb w
end Go.Proofs.YtgmamplnhechjaaDoor
