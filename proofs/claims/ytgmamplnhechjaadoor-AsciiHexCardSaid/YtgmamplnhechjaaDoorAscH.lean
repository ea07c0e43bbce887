/-
  Hex: what it answers.
-/
import Derived.Test.YtgmamplnhechjaaDoorAscG
set_option linter.unusedSimpArgs false
set_option linter.unusedVariables false
set_option linter.unnecessarySimpa false
namespace Go.Proofs.YtgmamplnhechjaaDoor
open Go.RowKit Go.Bul
/-- a slice of bytes that reads as l -/
def BysIn (w : World) (v : Value) (l : List UInt8) : Prop :=
  (l = [] ∧ ∃ a c, v = .slice a 0 c) ∨ ∃ b off c, v = .slice (some ⟨b, off, none⟩) l.length c ∧ b < w.heap.size ∧ ∀ j (h : j < l.length), w.cell? ⟨b, off + j, none⟩ = some (B8 l[j])
theorem BysIn.below {w w' : World} {v : Value} {l : List UInt8} (h : BysIn w v l) (hb : Below w.heap.size w w') : BysIn w' v l := by
  rcases h with h | ⟨b, off, c, h1, h2, h3⟩
  · exact .inl h
  · exact .inr ⟨b, off, c, h1, Nat.lt_of_lt_of_le h2 hb.size, fun j hj => by rw [hb.cell (p := ⟨b, off + j, none⟩) h2]; exact h3 j hj⟩
def hexD (n : Nat) : UInt8 := if n < 10 then UInt8.ofNat (48 + n) else UInt8.ofNat (87 + n)
def hexL (l : List UInt8) : List UInt8 := l.flatMap fun c => [hexD (c.toNat / 16), hexD (c.toNat % 16)]
def hexS : ByteArray := ⟨#[48, 49, 50, 51, 52, 53, 54, 55, 56, 57, 97, 98, 99, 100, 101, 102]⟩
theorem hexS_at (n : Nat) (h : n < 16) : hexS[n]'h = hexD n := by
  have : ∀ k : Fin 16, hexS[k.val]'(k.isLt) = hexD k.val := by decide
  exact this ⟨n, h⟩
theorem hexL_snoc (l : List UInt8) (k : Nat) (h : k < l.length) : hexL (l.take (k + 1)) = hexL (l.take k) ++ [hexD (l[k].toNat / 16)] ++ [hexD (l[k].toNat % 16)] := by
  rw [List.take_succ_eq_append_getElem h]
  unfold hexL
  rw [List.flatMap_append]
  simp
theorem byteCells_snoc (l : List UInt8) (c : UInt8) : Lib.byteCells l ++ [.int .u8 (c.toNat : Int)] = Lib.byteCells (l ++ [c]) := by
  simp [Lib.byteCells]
theorem hexL_len (l : List UInt8) : (hexL l).length = 2 * l.length := by
  induction l with
  | nil => rfl
  | cons c l ih =>
    have : hexL (c :: l) = [hexD (c.toNat / 16), hexD (c.toNat % 16)] ++ hexL l := List.flatMap_cons ..
    rw [this, List.length_append, ih]
    simp only [List.length_cons, List.length_nil]
    omega
theorem byteCells_len (l : List UInt8) : (Lib.byteCells l).length = l.length := Lib.byteCells_length l
set_option maxRecDepth 100000 in
set_option maxHeartbeats 400000 in
theorem hex_row (b off c : Nat) (l : List UInt8) (w : World) (hl : l.length ≤ 4294967280) (hb : b < w.heap.size) (hc : ∀ j (h : j < l.length), w.cell? ⟨b, off + j, none⟩ = some (B8 l[j])) :
    Calls Tryd.prog 32 #[.slice (some ⟨b, off, none⟩) l.length c] w fun e w' => e = .returned (St (hexL l)) ∧ Below w.heap.size w w' := by
  go_enter Tryd.func32, Tryd.ntmps32
  go_wp2_with fail
  go_loopw [8] (fun u wr => ∃ k : Nat, k ≤ l.length ∧ u = .int .i64 k ∧ Lib.IsBuilder 61 5 w.heap.size w.heap.size (Lib.byteCells (hexL (l.take k))) wr ∧ Below w.heap.size w wr) (fun u _ => l.length - (intOf u).toNat)
  case atStart => exact ⟨0, Nat.zero_le _, rfl, Lib.fresh_isBuilder _ _ _, (Below.refl _ _).alloc (Nat.le_refl _) _⟩
  case round =>
    obtain ⟨k, hk, rfl, hbd, hbw⟩ := hrel
    have HBD := Lib.hid hbd
    clear hbd
    by_cases hlt : k < l.length
    · have hcell : wr.cell? ⟨b, off + k, none⟩ = some (B8 l[k]) := by rw [hbw.cell (p := ⟨b, off + k, none⟩) hb]; exact hc k hlt
      have hc8 := (l[k]).toNat_lt
      have hlen : (Lib.byteCells (hexL (l.take k))).length ≤ 2 * l.length := by
        rw [byteCells_len, hexL_len, List.length_take]; omega
      have hi1 := hexS_at (l[k].toNat / 16) (by omega)
      have hi2 := hexS_at (l[k].toNat % 16) (by omega)
      have HI1 := Lib.hid hi1
      have HI2 := Lib.hid hi2
      clear hi1 hi2
      go_wp2_with fail
      refine (Tryd.Builder_WriteByte w.heap.size w.heap.size _ _ wr HBD.out (by omega) hbw.size).mono ?_
      rintro e w1 ⟨rfl, hb1, hw1⟩
      have HB1 := Lib.hid hb1
      clear hb1
      have hs1 := hw1.size
      have hs0 := hbw.size
      go_wp2_with fail
      refine (Tryd.Builder_WriteByte w.heap.size w.heap.size _ _ w1 (Or.inr HB1.out) (by simp; omega) (by omega)).mono ?_
      rintro e w2 ⟨rfl, hb2, hw2⟩
      have HB2 := Lib.hid hb2
      clear hb2
      go_wp2_with fail
      go_roundw
      case rel =>
        refine ⟨k + 1, by omega, by go_num, Or.inr ?_, hbw.trans (hw1.trans hw2)⟩
        rw [hexL_snoc l k hlt, ← byteCells_snoc, ← byteCells_snoc, ← HI1.out, ← HI2.out]
        have h9 := HB2.out
        exact h9
      case measure => simp [intOf]; omega
    · go_wp2_with fail
      refine (Tryd.Builder_String_any w.heap.size w.heap.size (hexL (l.take k)) wr HBD.out hbw.size).mono ?_
      rintro e w1 ⟨rfl, hw1⟩
      go_wp2_with fail
      go_ret
      exact ⟨congrArg (fun l => Ending.returned (St (hexL l))) (List.take_of_length_le (by omega)), hbw.trans hw1⟩
set_option maxRecDepth 100000 in
theorem hex_none (a : Option Addr) (c : Nat) (w : World) :
    Calls Tryd.prog 32 #[.slice a 0 c] w fun e w' => e = .returned (St (hexL [])) ∧ Below w.heap.size w w' := by
  go_enter Tryd.func32, Tryd.ntmps32
  go_wp2_with fail
  refine wp_loop_rounds 1 ?_
  rw [rounds_succ]
  go_wp2_with fail
  refine (Tryd.Builder_String_any w.heap.size w.heap.size [] _ (Lib.fresh_isBuilder _ _ _) (by simp)).mono ?_
  rintro e w1 ⟨rfl, hw1⟩
  go_wp2_with fail
  go_ret
  exact ⟨rfl, ((Below.refl _ _).alloc (Nat.le_refl _) _).trans hw1⟩
theorem hex_s (v : Value) (l : List UInt8) (w : World) (hl : l.length ≤ 4294967280) (h : BysIn w v l) :
    Calls Tryd.prog 32 #[v] w fun e w' => e = .returned (St (hexL l)) ∧ Below w.heap.size w w' := by
  rcases h with ⟨rfl, a, c, rfl⟩ | ⟨b, off, c, rfl, h2, h3⟩
  · exact hex_none a c w
  · exact hex_row b off c l w hl h2 h3
end Go.Proofs.YtgmamplnhechjaaDoor
