/-
  Plain laws on words, decimal and hexadecimal numbers: no program in sight.
-/
import Derived.Test.YtgmamplnhechjaaDoorLawB
set_option linter.unusedSimpArgs false
set_option linter.unusedVariables false
set_option linter.unnecessarySimpa false
namespace Go.Proofs.YtgmamplnhechjaaDoor
open Go.RowKit Go.Bul
/-! ### words -/
def goodW (w : List UInt8) : Prop := w ≠ [] ∧ ∀ c ∈ w, blB c = false
theorem words_good : ∀ (l cur : List UInt8), (∀ c ∈ cur, blB c = false) → ∀ x ∈ wordsA l cur, goodW x
  | [], cur, h, x, hx => by
    unfold wordsA at hx
    split at hx
    · cases hx
    · simp at hx; subst hx; exact ⟨‹_›, h⟩
  | c :: l, cur, h, x, hx => by
    unfold wordsA at hx
    by_cases hb : blB c = true
    · rw [if_pos hb] at hx
      by_cases hc : cur = []
      · rw [if_pos hc] at hx
        exact words_good l [] (fun _ h => by cases h) x hx
      · rw [if_neg hc] at hx
        rcases List.mem_cons.1 hx with rfl | hx
        · exact ⟨hc, h⟩
        · exact words_good l [] (fun _ h => by cases h) x hx
    · rw [if_neg hb] at hx
      refine words_good l _ (fun d hd => ?_) x hx
      rcases List.mem_append.1 hd with hd | hd
      · exact h d hd
      · simp at hd; subst hd; simpa using hb
theorem wordsA_word : ∀ (w r cur : List UInt8), (∀ c ∈ w, blB c = false) → wordsA (w ++ r) cur = wordsA r (cur ++ w)
  | [], r, cur, _ => by simp
  | c :: w, r, cur, h => by
    rw [List.cons_append, wordsA, if_neg (by simp [h c (by simp)]), wordsA_word w r _ (fun d hd => h d (by simp [hd]))]
    simp
theorem join_cons2 (x y : List UInt8) (r : List (List UInt8)) : Lib.join (x :: y :: r) [32] = x ++ 32 :: Lib.join (y :: r) [32] := by
  rw [Lib.join_cons, Lib.join_cons]; simp [Lib.joinTail]
theorem words_join : ∀ ls : List (List UInt8), (∀ x ∈ ls, goodW x) → wordsL (Lib.join ls [32]) = ls
  | [], _ => rfl
  | [x], h => by
    have hx := h x (by simp)
    rw [Lib.join_one, wordsL]
    have := wordsA_word x [] [] hx.2
    rw [List.append_nil, List.nil_append] at this
    rw [this]; simp [wordsA, hx.1]
  | x :: y :: r, h => by
    have hx := h x (by simp)
    have ih := words_join (y :: r) (fun z hz => h z (by simp [hz]))
    rw [join_cons2, wordsL, wordsA_word x _ [] hx.2, List.nil_append, wordsA, if_pos (by decide), if_neg hx.1]
    rw [wordsL] at ih
    rw [ih]
theorem words_squeeze (l : List UInt8) : wordsL (squeezeL l) = wordsL l := words_join _ (words_good l [] (fun _ h => by cases h))
theorem squeeze_idem (l : List UInt8) : squeezeL (squeezeL l) = squeezeL l := by
  show Lib.join (wordsL (squeezeL l)) [32] = _
  rw [words_squeeze]; rfl
theorem join_ends : ∀ ls : List (List UInt8), (∀ x ∈ ls, goodW x) → Lib.join ls [32] = [] ∨ ((∃ c r, Lib.join ls [32] = c :: r ∧ blB c = false) ∧ ∃ r c, Lib.join ls [32] = r ++ [c] ∧ blB c = false)
  | [], _ => .inl rfl
  | [x], h => by
    have hx := h x (by simp)
    rw [Lib.join_one]
    right
    constructor
    · cases x with
      | nil => exact absurd rfl hx.1
      | cons c r => exact ⟨c, r, rfl, hx.2 c (by simp)⟩
    · refine ⟨x.dropLast, x.getLast hx.1, (List.dropLast_concat_getLast hx.1).symm, hx.2 _ (List.getLast_mem hx.1)⟩
  | x :: y :: r, h => by
    have hx := h x (by simp)
    have hy := h y (by simp)
    have ih := join_ends (y :: r) (fun z hz => h z (by simp [hz]))
    rw [join_cons2]
    right
    constructor
    · cases x with
      | nil => exact absurd rfl hx.1
      | cons c s => exact ⟨c, _, rfl, hx.2 c (by simp)⟩
    · rcases ih with h0 | ⟨_, r', c, h1, h2⟩
      · exfalso
        have := congrArg List.length h0
        rw [Lib.join_cons] at this
        simp at this
        exact hy.1 this.1
      · exact ⟨x ++ 32 :: r', c, by rw [h1]; simp, h2⟩
theorem trim_squeeze (l : List UInt8) : trimL (squeezeL l) = squeezeL l := by
  rcases join_ends (wordsL l) (words_good l [] (fun _ h => by cases h)) with h | ⟨⟨c, r, h1, h2⟩, r', c', h3, h4⟩
  · unfold squeezeL; rw [h]; rfl
  · unfold squeezeL trimL
    have : (Lib.join (wordsL l) [32]).dropWhile blB = Lib.join (wordsL l) [32] := by rw [h1, List.dropWhile_cons, if_neg (by simp [h2])]
    rw [this, h3, rtrim_snoc, if_neg (by simp [h4])]

/-! ### decimal numbers -/
theorem dig_digit (n : Nat) (h : n < 10) : diB (digC n) = true ∧ (digC n).toNat - 48 = n := by
  have h1 : (digC n).toNat = 48 + n := by unfold digC; rw [UInt8.toNat_ofNat']; omega
  unfold diB
  rw [h1]
  simp; omega
theorem dec_facts : ∀ (f n : Nat), n < 10 ^ f → (Lib.decDigits n).all diB = true ∧ decN 0 (Lib.decDigits n) = n ∧ Lib.decDigits n ≠ [] ∧ (10 ≤ n → (Lib.decDigits n).head? ≠ some 48) ∧ (1 ≤ n → (Lib.decDigits n).head? ≠ some 48)
  | 0, n, h => by
    have : n = 0 := by simpa using h
    subst this
    rw [dec_small (by omega)]
    refine ⟨by simp [(dig_digit 0 (by omega)).1], by rw [decN_cons, decN_nil, (dig_digit 0 (by omega)).2], by simp, by omega, by omega⟩
  | f + 1, n, h => by
    by_cases hn : n < 10
    · rw [dec_small hn]
      refine ⟨by simp [(dig_digit n hn).1], by rw [decN_cons, decN_nil, (dig_digit n hn).2]; omega, by simp, by omega, fun h1 => ?_⟩
      intro e
      simp at e
      have := (dig_digit n hn).2
      rw [e] at this
      have h48 : (48 : UInt8).toNat = 48 := rfl
      omega
    · rw [dec_big hn]
      have ih := dec_facts f (n / 10) (by rw [Nat.pow_succ] at h; omega)
      have hh : (Lib.decDigits (n / 10) ++ [digC (n % 10)]).head? ≠ some 48 := by
        cases hd : Lib.decDigits (n / 10) with
        | nil => exact absurd hd ih.2.2.1
        | cons c r =>
          have := ih.2.2.2.2 (by omega)
          rw [hd] at this
          simpa using this
      refine ⟨?_, ?_, by simp, fun _ => hh, fun _ => hh⟩
      · rw [List.all_append, ih.1]; simp [(dig_digit (n % 10) (by omega)).1]
      · rw [decN_append, ih.2.1, decN_cons, decN_nil, (dig_digit (n % 10) (by omega)).2]; omega
def twoMax : Int := 9223372036854775807
theorem num_itoa (n : Int) (h0 : -9223372036854775808 ≤ n) (h1 : n ≤ 9223372036854775807) : numL (Lib.itoa n) twoMax = if n < 0 then (0, 3) else (n, 0) := by
  by_cases hn : n < 0
  · rw [if_pos hn]
    apply numL_bad
    unfold Lib.itoa
    rw [if_pos hn]
    unfold numBad
    have : (45 :: Lib.decDigits n.natAbs).all diB = false := by
      rw [List.all_cons]; have : diB 45 = false := by decide
      rw [this]; rfl
    rw [this]; simp
  · rw [if_neg hn]
    have hi : Lib.itoa n = Lib.decDigits n.toNat := by unfold Lib.itoa; rw [if_neg hn]
    obtain ⟨f1, f2, f3, f4, f5⟩ := dec_facts 20 n.toNat (by omega)
    have hb : numBad (Lib.decDigits n.toNat) = false := by
      unfold numBad
      rw [f1]
      have h3 : (Lib.decDigits n.toNat).isEmpty = false := by rw [List.isEmpty_eq_false_iff]; exact f3
      rw [h3]
      by_cases h10 : 10 ≤ n.toNat
      · have := f4 h10
        simp [this]
      · rw [dec_small (by omega)]; simp
    rw [hi, numL_ok twoMax hb (by rw [f2]; unfold two63; omega) (by rw [f2]; unfold twoMax; omega), f2]
    simp only [Prod.mk.injEq, and_true]
    omega
theorem decN_pos : ∀ (l : List UInt8) (acc : Nat), 1 ≤ acc → 1 ≤ decN acc l := fun l acc h => Nat.le_trans h (decN_ge l acc)
theorem dec_num : ∀ (l : List UInt8), l ≠ [] → l.all diB = true → (l.head? = some 48 → l.length = 1) → Lib.decDigits (decN 0 l) = l := by
  intro l
  suffices H : ∀ n (l : List UInt8), l.length = n → l ≠ [] → l.all diB = true → (l.head? = some 48 → l.length = 1) → Lib.decDigits (decN 0 l) = l from H _ l rfl
  intro n
  induction n with
  | zero => intro l h h0 _ _; exact absurd (List.eq_nil_of_length_eq_zero h) h0
  | succ n ih =>
    intro l h h0 ha hh
    have hs := List.dropLast_concat_getLast h0
    generalize hr : l.dropLast = r at hs
    generalize hc : l.getLast h0 = c at hs
    have hl : r.length = n := by rw [← hr, List.length_dropLast]; omega
    rw [← hs] at ha hh ⊢
    rw [List.all_append, Bool.and_eq_true] at ha
    have hcd : 48 ≤ c.toNat ∧ c.toNat ≤ 57 := by simpa [diB] using ha.2
    have hcC : digC (c.toNat - 48) = c := by
      apply UInt8.toNat_inj.1
      unfold digC; rw [UInt8.toNat_ofNat']; omega
    rw [decN_append, decN_cons, decN_nil]
    by_cases hr0 : r = []
    · subst hr0
      rw [decN_nil, Nat.zero_mul, Nat.zero_add, dec_small (by omega), hcC]; rfl
    · have hhr : r.head? ≠ some 48 := by
        intro e
        have := hh (by cases r with
          | nil => exact absurd rfl hr0
          | cons x y => simpa using e)
        rw [List.length_append, List.length_singleton] at this
        have h2 := List.length_pos_iff.2 hr0
        omega
      have ihr := ih r hl hr0 ha.1 (fun e => absurd e hhr)
      have hpos : 1 ≤ decN 0 r := by
        cases r with
        | nil => exact absurd rfl hr0
        | cons x y =>
          rw [decN_cons]
          apply decN_pos
          have hx : 48 ≤ x.toNat ∧ x.toNat ≤ 57 := by
            have := ha.1
            rw [List.all_cons, Bool.and_eq_true] at this
            simpa [diB] using this.1
          have : x.toNat ≠ 48 := by
            intro e
            apply hhr
            have : x = 48 := UInt8.toNat_inj.1 e
            rw [this]; rfl
          omega
      rw [dec_big (by omega)]
      have e1 : (decN 0 r * 10 + (c.toNat - 48)) / 10 = decN 0 r := by omega
      have e2 : (decN 0 r * 10 + (c.toNat - 48)) % 10 = c.toNat - 48 := by omega
      rw [e1, e2, ihr, hcC]
theorem num_back (l : List UInt8) (most : Int) (v : Int) (h : numL l most = (v, 0)) : Lib.itoa v = l ∧ 0 ≤ v ∧ v ≤ 9223372036854775807 := by
  unfold numL at h
  by_cases hb : numBad l = true
  · rw [if_pos hb] at h; simp at h
  · rw [if_neg hb] at h
    split at h
    · rename_i hc
      simp at h
      subst h
      have hb' : numBad l = false := by simpa using hb
      unfold numBad at hb'
      simp only [Bool.or_eq_false_iff] at hb'
      obtain ⟨⟨h1, h2⟩, h3⟩ := hb'
      have := dec_num l (by rw [← List.isEmpty_eq_false_iff]; exact h1) (by simpa using h2) (fun e => by
        rw [e] at h3
        simp at h3
        have := List.length_pos_iff.2 (by rw [← List.isEmpty_eq_false_iff]; exact h1 : l ≠ [])
        omega)
      refine ⟨?_, by omega, by have := hc.1; unfold two63 at this; omega⟩
      unfold Lib.itoa
      rw [if_neg (by omega)]
      simpa using this
    · simp at h

/-! ### hexadecimal -/
theorem nib_hex (n : Nat) (h : n < 16) : nib (hexD n) = n := by
  have : ∀ k : Fin 16, nib (hexD k.val) = (k.val : Int) := by decide
  exact this ⟨n, h⟩
theorem unhex_hex : ∀ l : List UInt8, unhexA (hexL l) = some l
  | [] => rfl
  | c :: l => by
    have h1 : hexL (c :: l) = hexD (c.toNat / 16) :: hexD (c.toNat % 16) :: hexL l := by unfold hexL; rw [List.flatMap_cons]; rfl
    have hc := c.toNat_lt
    rw [h1, unhexA, nib_hex _ (by omega), nib_hex _ (by omega), if_neg (by omega), unhex_hex l]
    simp only [Option.map_some, Int.toNat_natCast]
    have : UInt8.ofNat (16 * (c.toNat / 16) + c.toNat % 16) = c := by
      apply UInt8.toNat_inj.1
      rw [UInt8.toNat_ofNat']
      omega
    rw [this]
theorem hex_nib (c : UInt8) (h : 0 ≤ nib c) : hexD (nib c).toNat = c := by
  have : ∀ k : Fin 256, 0 ≤ nib (UInt8.ofNat k.val) → hexD (nib (UInt8.ofNat k.val)).toNat = UInt8.ofNat k.val := by decide +kernel
  have := this ⟨c.toNat, c.toNat_lt⟩
  simp at this
  exact this h
theorem hex_unhex : ∀ (n : Nat) (l bs : List UInt8), l.length ≤ n → unhexA l = some bs → hexL bs = l
  | _, [], bs, _, h => by simp [unhexA] at h; subst h; rfl
  | _, [_], bs, _, h => by simp [unhexA] at h
  | 0, _ :: _ :: _, _, h, _ => by simp at h
  | n + 1, a :: b :: l, bs, hl, h => by
    unfold unhexA at h
    by_cases g : nib a < 0 ∨ nib b < 0
    · rw [if_pos g] at h; cases h
    · rw [if_neg g] at h
      obtain ⟨r, hr, rfl⟩ := Option.map_eq_some_iff.1 h
      have ih := hex_unhex n l r (by simp at hl; omega) hr
      have ha := nib_bd a
      have hb := nib_bd b
      have h1 : hexL (UInt8.ofNat (16 * (nib a).toNat + (nib b).toNat) :: r) = hexD ((UInt8.ofNat (16 * (nib a).toNat + (nib b).toNat)).toNat / 16) :: hexD ((UInt8.ofNat (16 * (nib a).toNat + (nib b).toNat)).toNat % 16) :: hexL r := by unfold hexL; rw [List.flatMap_cons]; rfl
      rw [h1, ih, UInt8.toNat_ofNat']
      have e1 : (16 * (nib a).toNat + (nib b).toNat) % 2 ^ 8 / 16 = (nib a).toNat := by omega
      have e2 : (16 * (nib a).toNat + (nib b).toNat) % 2 ^ 8 % 16 = (nib b).toNat := by omega
      rw [e1, e2, hex_nib a (by omega), hex_nib b (by omega)]
end Go.Proofs.YtgmamplnhechjaaDoor
