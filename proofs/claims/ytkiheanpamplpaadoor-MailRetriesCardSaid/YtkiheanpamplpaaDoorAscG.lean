/-
  Number: what it answers.
-/
import Derived.Test.YtkiheanpamplpaaDoorAscF
import Derived.Lib.AtoiAll
import Derived.Lib.ConvBytes
set_option linter.unusedSimpArgs false
set_option linter.unusedVariables false
set_option linter.unnecessarySimpa false
namespace Go.Proofs.YtkiheanpamplpaaDoor
open Go.RowKit Go.Bul
def decN (acc : Nat) (l : List UInt8) : Nat := l.foldl (fun a c => a * 10 + (c.toNat - 48)) acc
theorem decN_nil (acc : Nat) : decN acc [] = acc := rfl
theorem decN_cons (acc : Nat) (c : UInt8) (l : List UInt8) : decN acc (c :: l) = decN (acc * 10 + (c.toNat - 48)) l := List.foldl_cons ..
theorem decN_ge : ∀ (l : List UInt8) (acc : Nat), acc ≤ decN acc l
  | [], acc => Nat.le_refl _
  | c :: l, acc => by rw [decN_cons]; have := decN_ge l (acc * 10 + (c.toNat - 48)); omega
def two63 : Nat := 9223372036854775808
def two64 : Nat := 18446744073709551616
theorem parse_digits : ∀ (l : List UInt8) (acc : Nat), l.all diB = true → acc < two64 → (decN acc l < two64 → Lib.parseUint10 acc l = .ok (decN acc l)) ∧ (two64 ≤ decN acc l → Lib.parseUint10 acc l = .range)
  | [], acc, h, ha => ⟨fun _ => rfl, fun h => by rw [decN_nil] at h; omega⟩
  | c :: l, acc, h, ha => by
    simp only [List.all_cons, Bool.and_eq_true] at h
    have hd : 48 ≤ c.toNat ∧ c.toNat ≤ 57 := by simpa [diB] using h.1
    have hge := decN_ge l (acc * 10 + (c.toNat - 48))
    unfold Lib.parseUint10
    rw [if_pos hd, decN_cons]
    unfold two64 at *
    by_cases h1 : 1844674407370955162 ≤ acc
    · rw [if_pos h1]
      exact ⟨fun h => by omega, fun _ => rfl⟩
    · rw [if_neg h1]
      by_cases h2 : 18446744073709551616 ≤ acc * 10 + (c.toNat - 48)
      · rw [if_pos h2]
        exact ⟨fun h => by omega, fun _ => rfl⟩
      · rw [if_neg h2]
        have := parse_digits l (acc * 10 + (c.toNat - 48)) h.2 (by unfold two64; omega)
        unfold two64 at this
        exact this
theorem atoi_digits (l : List UInt8) (h0 : l ≠ []) (h : l.all diB = true) : (decN 0 l < two63 → Lib.atoiAll l = .ok (decN 0 l : Int)) ∧ (two63 ≤ decN 0 l → Lib.atoiAll l = .range) := by
  have hp := parse_digits l 0 h (by unfold two64; omega)
  cases l with
  | nil => exact absurd rfl h0
  | cons c r =>
    have hd : 48 ≤ c.toNat ∧ c.toNat ≤ 57 := by
      simp only [List.all_cons, Bool.and_eq_true] at h
      simpa [diB] using h.1
    unfold Lib.atoiAll
    have hs : (if c.toNat = 43 ∨ c.toNat = 45 then r else c :: r) = c :: r := by rw [if_neg (by omega)]
    have hn : ¬ c.toNat = 45 := by omega
    simp only [hs, Lib.parseMag]
    rw [if_neg (by simp)]
    unfold two63
    unfold two64 at hp
    by_cases h3 : decN 0 (c :: r) < 18446744073709551616
    · rw [hp.1 h3]
      simp only [hn]
      refine ⟨fun h => ?_, fun h => ?_⟩
      · rw [if_neg (by omega)]; simp
      · rw [if_pos (by simp; omega)]
    · rw [hp.2 (by omega)]
      exact ⟨fun h => by omega, fun _ => rfl⟩

/-- Number's answer: the number and the kind of error. -/
def numBad (l : List UInt8) : Bool := l.isEmpty || !l.all diB || (l.head? == some 48 && decide (1 < l.length))
def numL (l : List UInt8) (most : Int) : Int × Int :=
  if numBad l then (0, 3) else if decN 0 l < two63 ∧ (decN 0 l : Int) ≤ most then ((decN 0 l : Int), 0) else (0, 2)
theorem numL_bad {l : List UInt8} (h : numBad l = true) (most : Int) : numL l most = (0, 3) := by unfold numL; rw [if_pos h]
theorem span_all (s : ByteArray) (p : UInt8 → Bool) : spanL p s 0 = s.size ↔ s.data.toList.all p = true := by
  have hl : s.data.toList.length = s.size := by simp
  unfold spanL
  rw [List.drop_zero, Nat.zero_add, ← hl]
  generalize s.data.toList = l
  induction l with
  | nil => simp
  | cons c l ih =>
    rw [List.takeWhile_cons, List.all_cons]
    split
    · rename_i h; simp [h, ih]
    · rename_i h; simp [h]
theorem below_bytesWorld (w : World) (e : TypeId) (t : ByteArray) : Below w.heap.size w (Lib.bytesWorld w e t) :=
  ⟨by simp [Lib.bytesWorld, World.freeze]; rfl, by simp [Lib.bytesWorld, World.freeze], by simp [Lib.bytesWorld, World.freeze]; rfl, by simp [Lib.bytesWorld, World.freeze], fun k hk => by
    simp only [Lib.bytesWorld, World.freeze]
    rw [if_neg (by omega)]
    simp only [Array.getElem?_modify]
    rw [if_neg (by omega)]
    exact Below.heap_alloc _ _ _ hk⟩
def tupN (p : Int × Int) : Value := .tuple #[.int .i64 p.1, .int .i64 p.2]
end Go.Proofs.YtkiheanpamplpaaDoor
