/-
  The reference of package ascii: Squeeze, decimal numbers: what they answer.
-/
import Derived.Test.YtkiheanpamplpaaDoorRefC
set_option linter.unusedSimpArgs false
set_option linter.unusedVariables false
set_option linter.unnecessarySimpa false
namespace Go.Proofs.YtkiheanpamplpaaDoor
open Go.RowKit Go.Bul
theorem join_snoc : ∀ (ls : List (List UInt8)) (x : List UInt8), Lib.join (ls ++ [x]) [32] = if ls = [] then x else Lib.join ls [32] ++ [32] ++ x
  | [], x => by rw [List.nil_append, Lib.join_one, if_pos rfl]
  | y :: r, x => by
    rw [if_neg (by simp), List.cons_append, Lib.join_cons, Lib.join_cons]
    simp [Lib.joinTail]
theorem join_take_len (ls : List (List UInt8)) : ∀ k, (Lib.join (ls.take k) [32]).length ≤ (Lib.join ls [32]).length := by
  intro k
  have h := List.take_append_drop k ls
  cases ht : ls.take k with
  | nil => simp [Lib.join_nil]
  | cons y r =>
    rw [ht] at h
    rw [← h, List.cons_append, Lib.join_cons, Lib.join_cons]
    simp [Lib.joinTail]
theorem take_ne {ls : List (List UInt8)} {k : Nat} (hk : ¬ k = 0) (hl : k < ls.length) : ls.take k ≠ [] := by
  intro e
  have h : (ls.take k).length = k := by rw [List.length_take]; omega
  rw [e] at h
  exact hk h.symm
theorem size_of (l : List UInt8) : (⟨l.toArray⟩ : ByteArray).size = l.length := by show l.toArray.size = _; simp
theorem size_one (t : ByteArray) (c : UInt8) : (t ++ (⟨#[c]⟩ : ByteArray)).size = t.size + 1 := by rw [ByteArray.size_append]; rfl
set_option maxRecDepth 100000 in
set_option maxHeartbeats 1000000 in
theorem refSqueeze_s (s : ByteArray) (hs : s.size ≤ 4294967270) (w : World) :
    Calls Tryd.prog 70 #[.string s] w fun e w' => e = .returned (St (squeezeL s.data.toList)) ∧ Below w.heap.size w w' := by
  have hj : (Lib.join (wordsL s.data.toList) [32]).length ≤ 4294967280 := by
    have := squeeze_len s.data.toList []
    simp at this
    have h2 : s.data.size = s.size := rfl
    unfold wordsL; omega
  have hn : (wordsL s.data.toList).length ≤ 4294967280 := by
    have := words_len s.data.toList []
    simp at this
    have h2 : s.data.size = s.size := rfl
    unfold wordsL; omega
  have HS := Lib.hid (show squeezeL s.data.toList = Lib.join (wordsL s.data.toList) [32] from rfl)
  go_enter Tryd.func70, Tryd.ntmps70
  go_wp2_with fail
  refine (refWords_s s hs w).mono ?_
  rintro e w1 ⟨v, rfl, hown, hb⟩
  generalize wordsL s.data.toList = ls at *
  have hlens := join_take_len ls
  have HLS := Lib.hid hlens
  clear hlens
  rcases owns_cells hown with ⟨rfl, hnil⟩ | ⟨g, c, rfl, hg, hg2, hc, hcell⟩
  · have HN := Lib.hid hnil
    clear hnil hown
    go_wp2_with fail
    refine wp_loop_rounds 1 ?_
    rw [rounds_succ]
    go_wp2_with fail
    go_ret
    exact ⟨ret_str (by rw [HS.out, HN.out]; rfl), hb⟩
  · clear hown
    have HC := Lib.hid hcell
    clear hcell
    go_wp2_with fail
    go_loop [3, 5] (fun o i => ∃ (k : Nat) (t : ByteArray), k ≤ ls.length ∧ i = .int .i64 k ∧ o = .string t ∧ t.data.toList = Lib.join (ls.take k) [32] ∧ t.size ≤ 4294967280) (fun _ i => ls.length - (intOf i).toNat)
    case atStart => exact ⟨0, _, Nat.zero_le _, rfl, rfl, rfl, Nat.zero_le _⟩
    case round =>
      obtain ⟨k, t, hk, rfl, rfl, ht, hts⟩ := hrel
      have HT := Lib.hid ht
      clear ht
      by_cases hlt : k < ls.length
      · have hcell : w1.cell? ⟨g, k, none⟩ = some (St ls[k]) := by have := HC.out k ls[k] (by simp [hlt]); simpa using this
        have hsn : ls.take (k + 1) = ls.take k ++ [ls[k]] := List.take_succ_eq_append_getElem hlt
        have HSN := Lib.hid hsn
        clear hsn
        have hl1 := HLS.out (k + 1)
        rw [HSN.out, join_snoc] at hl1
        by_cases hk0 : k = 0
        · obtain rfl := hk0
          have hl2 : ls[0].length ≤ 4294967280 := by simp at hl1; omega
          have ht0 : t.size = 0 := by
            have := congrArg List.length HT.out
            simp [Lib.join_nil] at this
            rw [this]; rfl
          have hz := ht0
          have ka := fun (w : World) => run_string_add_sum (P := Tryd.prog) w t (⟨ls[0].toArray⟩ : ByteArray) (by show t.size + ls[0].toArray.size ≤ _; simp; omega)
          clear ht0 hz hl1
          go_wp2_with fail
          go_round
          case rel =>
            refine ⟨1, t ++ (⟨ls[0].toArray⟩ : ByteArray), by omega, rfl, rfl, ?_, ?_⟩
            · have h0 := HT.out
              have h1 := HSN.out
              simp only [Nat.zero_add] at h1
              rw [h1, join_snoc, if_pos (by simp), ByteArray.data_append, Array.toList_append, h0]
              simp [Lib.join_nil]
            · have h0 := congrArg List.length HT.out
              simp [Lib.join_nil] at h0
              rw [ByteArray.size_append, h0]
              show 0 + ls[0].toArray.size ≤ _; simp; omega
          case measure => simp [intOf]; omega
        · have hne : ls.take k ≠ [] := take_ne hk0 hlt
          rw [if_neg hne] at hl1
          have hts2 : t.size = (Lib.join (ls.take k) [32]).length := by rw [← HT.out]; simp
          have hl2 : t.size + 1 + ls[k].length ≤ 4294967280 := by rw [List.length_append, List.length_append, List.length_singleton] at hl1; omega
          have ka1 := fun (w : World) => run_string_add_sum (P := Tryd.prog) w t (⟨#[32]⟩ : ByteArray) (by show t.size + 1 ≤ _; omega)
          have ka2 := fun (w : World) => run_string_add_sum (P := Tryd.prog) w (t ++ (⟨#[32]⟩ : ByteArray)) (⟨ls[k].toArray⟩ : ByteArray) (by rw [size_one, size_of ls[k]]; omega)
          have hk1 : (0 : Int) < (k : Int) := by omega
          have HNE := Lib.hid hne
          clear hts2 hl1 hk0 hne
          go_wp2_with fail
          go_round
          case rel =>
            refine ⟨k + 1, t ++ (⟨#[32]⟩ : ByteArray) ++ (⟨ls[k].toArray⟩ : ByteArray), by omega, by go_num, rfl, ?_, ?_⟩
            · rw [HSN.out, join_snoc, if_neg HNE.out, ByteArray.data_append, ByteArray.data_append, Array.toList_append, Array.toList_append, HT.out]
            · rw [ByteArray.size_append, size_one, size_of ls[k]]; exact hl2
          case measure => simp [intOf]; omega
      · go_wp2_with fail
        go_ret
        exact ⟨ret_str (by rw [HS.out, HT.out, List.take_of_length_le (by omega)]), hb⟩

/-! ### decimal numbers -/
theorem conv_one (c : UInt8) (n : Int) (hn : n = (c.toNat : Int)) (w : World) (b : Nat) (h : w.cell? ⟨b, 0, none⟩ = some (.int .u8 n)) :
    (convert 116 9 (.slice (some ⟨b, 0, none⟩) 1 1)).run Tryd.prog w = .ok (St [c]) w :=
  run_convert_bytes_back (P := Tryd.prog) w 116 9 5 ⟨b, 0, none⟩ 1 [c] Tryd.underlying116 Tryd.underlying5 Tryd.underlying9
    (fun j hj => by
      obtain rfl : j = 0 := by simpa using hj
      show w.cell? ⟨b, 0, none⟩ = _
      rw [h, hn]; rfl)
theorem carry1 {w w1 : World} {x : Value} {t : TypeId} (h : Below (w.alloc (.cells #[x] t)).drew.heap.size (w.alloc (.cells #[x] t)).drew w1) : w1.cell? ⟨w.heap.size, 0, none⟩ = some x := by
  rw [h.cell (p := ⟨w.heap.size, 0, none⟩) (by simp)]; simp
def digC (n : Nat) : UInt8 := UInt8.ofNat (48 + n)
theorem digit_byte (n : Nat) (h : n < 10) : (48 + (n : Int)) = ((digC n).toNat : Int) := by
  unfold digC; rw [UInt8.toNat_ofNat']; omega
theorem dec_small {n : Nat} (h : n < 10) : Lib.decDigits n = [digC n] := by rw [Lib.decDigits, dif_pos h]; rfl
theorem dec_big {n : Nat} (h : ¬ n < 10) : Lib.decDigits n = Lib.decDigits (n / 10) ++ [digC (n % 10)] := by rw [Lib.decDigits, dif_neg h]; rfl
set_option maxRecDepth 100000 in
set_option maxHeartbeats 1000000 in
theorem plain_small (n : Nat) (w : World) (h : n < 10) :
    Calls Tryd.prog 57 #[.int .u64 n] w fun e w' => e = .returned (St (Lib.decDigits n)) ∧ Below w.heap.size w w' := by
  have kc := conv_one _ _ (digit_byte n h) (w.alloc (.cells #[.int .u8 (48 + (n : Int))] 5)) w.heap.size (by simp)
  have HD := Lib.hid (dec_small h)
  have h1 : (n : Int) < 10 := by omega
  go_enter Tryd.func57, Tryd.ntmps57
  go_wp2_with fail
  go_ret
  exact ⟨by rw [HD.out]; rfl, (Below.refl _ _).alloc (Nat.le_refl _) _⟩
set_option maxRecDepth 100000 in
set_option maxHeartbeats 1000000 in
theorem plain_big (n : Nat) (w : World) (h : ¬ n < 10) (hn : (n : Int) < 18446744073709551616) (hlen : (Lib.decDigits (n / 10)).length ≤ 100)
    (ih : ∀ (x : Int) (hx : x = ((n / 10 : Nat) : Int)) w, Calls Tryd.prog 57 #[.int .u64 x] w fun e w' => e = .returned (St (Lib.decDigits (n / 10))) ∧ Below w.heap.size w w') :
    Calls Tryd.prog 57 #[.int .u64 n] w fun e w' => e = .returned (St (Lib.decDigits n)) ∧ Below w.heap.size w w' := by
  have hd : Lib.decDigits n = Lib.decDigits (n / 10) ++ [digC (n % 10)] := dec_big h
  have HD := Lib.hid hd
  have h1 : ¬ (n : Int) < 10 := by omega
  have kc := conv_one (digC (n % 10)) (48 + (n : Int) % 10) (by have := digit_byte (n % 10) (by omega); omega)
  have wt : ((n : Int)).tmod 10 = (n : Int) % 10 := Int.tmod_eq_emod_of_nonneg (by omega)
  have w1 : IntKind.u64.wrap ((n : Int) / 10) = (n : Int) / 10 := by simp [IntKind.wrap, IntKind.signed, IntKind.bits]; omega
  have w2 : IntKind.u64.wrap ((n : Int) % 10) = (n : Int) % 10 := by simp [IntKind.wrap, IntKind.signed, IntKind.bits]; omega
  have w3 : IntKind.u64.wrap (48 + (n : Int) % 10) = 48 + (n : Int) % 10 := by simp [IntKind.wrap, IntKind.signed, IntKind.bits]; omega
  have w4 : IntKind.u8.wrap (48 + (n : Int) % 10) = 48 + (n : Int) % 10 := by simp [IntKind.wrap, IntKind.signed, IntKind.bits]; omega
  have ka := fun (w : World) => run_string_add_sum (P := Tryd.prog) w (⟨(Lib.decDigits (n / 10)).toArray⟩ : ByteArray) (⟨[digC (n % 10)].toArray⟩ : ByteArray) (by rw [size_of, size_of]; simp; omega)
  have HI := Lib.hid ih
  clear ih hd h hn
  go_enter Tryd.func57, Tryd.ntmps57
  go_wp2_with fail
  go_region_with (go_at_call 57; refine (HI.out _ (by omega) _).mono ?_; rintro e w1 ⟨rfl, hb1⟩; first | (have hc1 := carry1 hb1) | skip)
  all_goals
    go_wp2_with fail
    go_ret
    refine ⟨?_, ?_⟩
    · rw [HD.out]
      exact ret_str (a := (⟨(Lib.decDigits (n / 10)).toArray⟩ : ByteArray) ++ (⟨#[digC (n % 10)]⟩ : ByteArray)) (by rw [ByteArray.data_append, Array.toList_append])
    · first
      | exact (((Below.refl _ _).alloc (Nat.le_refl _) _).drew).trans (hb1.mono (by simp))
      | exact (((Below.refl _ _).drew).trans hb1).alloc (by have := hb1.size; simpa using this) _
theorem dec_len : ∀ (f n : Nat), n < 10 ^ f → (Lib.decDigits n).length ≤ f + 1
  | 0, n, h => by
    have : n = 0 := by simpa using h
    subst this
    rw [dec_small (by omega)]; simp
  | f + 1, n, h => by
    by_cases hn : n < 10
    · rw [dec_small hn]; simp
    · rw [dec_big hn, List.length_append]
      have := dec_len f (n / 10) (by rw [Nat.pow_succ] at h; omega)
      simp; omega
theorem plain_c (f : Nat) : ∀ (n : Nat), n < 10 ^ f → f ≤ 20 → (n : Int) < 18446744073709551616 → ∀ (x : Int) (hx : x = (n : Int)) (w : World),
    Calls Tryd.prog 57 #[.int .u64 x] w fun e w' => e = .returned (St (Lib.decDigits n)) ∧ Below w.heap.size w w' := by
  induction f with
  | zero =>
    intro n h _ _ x hx w
    have : n = 0 := by simpa using h
    subst this
    subst hx
    exact plain_small 0 w (by omega)
  | succ f ih =>
    intro n h hf hn x hx w
    subst hx
    by_cases h10 : n < 10
    · exact plain_small n w h10
    · have hd : n / 10 < 10 ^ f := by rw [Nat.pow_succ] at h; omega
      exact plain_big n w h10 hn (by have := dec_len f (n / 10) hd; omega) (ih (n / 10) hd (by omega) (by omega))
theorem plain_s (n : Nat) (hn : (n : Int) < 18446744073709551616) (x : Int) (hx : x = (n : Int)) (w : World) :
    Calls Tryd.prog 57 #[.int .u64 x] w fun e w' => e = .returned (St (Lib.decDigits n)) ∧ Below w.heap.size w w' :=
  plain_c 20 n (by omega) (Nat.le_refl _) hn x hx w
set_option maxRecDepth 100000 in
set_option maxHeartbeats 1000000 in
theorem refDigits_s (n : Int) (h0 : -9223372036854775808 ≤ n) (h1 : n ≤ 9223372036854775807) (w : World) :
    Calls Tryd.prog 35 #[.int .i64 n] w fun e w' => e = .returned (St (Lib.itoa n)) ∧ Below w.heap.size w w' := by
  by_cases hn : n < 0
  · have hi : Lib.itoa n = 45 :: Lib.decDigits n.natAbs := by unfold Lib.itoa; rw [if_pos hn]
    have HI := Lib.hid hi
    have hl : (Lib.decDigits n.natAbs).length ≤ 100 := by have := dec_len 20 n.natAbs (by omega); omega
    have HP := Lib.hid (fun (x : Int) (hx : x = (n.natAbs : Int)) => plain_s n.natAbs (by omega) x hx)
    have ka := fun (w : World) => run_string_add_sum (P := Tryd.prog) w (⟨#[45]⟩ : ByteArray) (⟨(Lib.decDigits n.natAbs).toArray⟩ : ByteArray) (by rw [size_of (Lib.decDigits n.natAbs)]; have : (⟨#[45]⟩ : ByteArray).size = 1 := rfl; omega)
    clear hi
    go_enter Tryd.func35, Tryd.ntmps35
    go_wp2_with fail
    refine (HP.out _ (by omega) _).mono ?_
    rintro e w1 ⟨rfl, hb⟩
    go_wp2_with fail
    go_ret
    refine ⟨?_, hb⟩
    rw [HI.out]
    exact ret_str (a := (⟨#[45]⟩ : ByteArray) ++ (⟨(Lib.decDigits n.natAbs).toArray⟩ : ByteArray)) (by rw [ByteArray.data_append, Array.toList_append]; rfl)
  · have hi : Lib.itoa n = Lib.decDigits n.toNat := by unfold Lib.itoa; rw [if_neg hn]
    have HI := Lib.hid hi
    have HP := Lib.hid (fun (x : Int) (hx : x = (n.toNat : Int)) => plain_s n.toNat (by omega) x hx)
    clear hi
    go_enter Tryd.func35, Tryd.ntmps35
    go_wp2_with fail
    refine (HP.out _ (by omega) _).mono ?_
    rintro e w1 ⟨rfl, hb⟩
    go_wp2_with fail
    go_ret
    exact ⟨by rw [HI.out]; rfl, hb⟩
end Go.Proofs.YtkiheanpamplpaaDoor
