/-
  Words: what it answers.
-/
import Derived.Test.YtkiheanpamplpaaDoorAscC
set_option linter.unusedSimpArgs false
set_option linter.unusedVariables false
set_option linter.unnecessarySimpa false
namespace Go.Proofs.YtkiheanpamplpaaDoor
open Go.RowKit Go.Bul
def nbB (c : UInt8) : Bool := !blB c
def wordsA : List UInt8 → List UInt8 → List (List UInt8)
  | [], cur => if cur = [] then [] else [cur]
  | c :: l, cur => if blB c then (if cur = [] then wordsA l [] else cur :: wordsA l []) else wordsA l (cur ++ [c])
def wordsL (l : List UInt8) : List (List UInt8) := wordsA l []
theorem words_blank : ∀ l : List UInt8, wordsL l = wordsL (l.dropWhile blB)
  | [] => rfl
  | c :: l => by
    rw [List.dropWhile_cons]
    split
    · rename_i h
      rw [← words_blank l]
      show wordsA (c :: l) [] = _
      rw [wordsA, if_pos h, if_pos rfl]; rfl
    · rfl
theorem words_run : ∀ (l cur : List UInt8), cur ≠ [] → wordsA l cur = (cur ++ l.takeWhile nbB) :: wordsL (l.dropWhile nbB)
  | [], cur, h => by simp [wordsA, h, wordsL]
  | c :: l, cur, h => by
    rw [wordsA, List.takeWhile_cons, List.dropWhile_cons]
    by_cases hb : blB c = true
    · have hn : nbB c = false := by simp [nbB, hb]
      rw [if_pos hb, if_neg h, hn]
      simp [wordsL, wordsA, hb]
    · have hn : nbB c = true := by simp [nbB, hb]
      rw [if_neg hb, hn, words_run l _ (by simp)]
      simp
theorem words_cons (c : UInt8) (l : List UInt8) (h : blB c = false) : wordsL (c :: l) = (c :: l).takeWhile nbB :: wordsL ((c :: l).dropWhile nbB) := by
  have hn : nbB c = true := by simp [nbB, h]
  rw [wordsL, wordsA, if_neg (by simp [h]), List.nil_append, words_run l [c] (by simp), List.takeWhile_cons, List.dropWhile_cons, hn]
  simp
theorem take_takeWhile (p : UInt8 → Bool) : ∀ l : List UInt8, l.take (l.takeWhile p).length = l.takeWhile p
  | [] => rfl
  | c :: l => by
    rw [List.takeWhile_cons]
    split
    · rw [List.length_cons, List.take_succ_cons, take_takeWhile p l]
    · rfl
theorem words_len : ∀ (l cur : List UInt8), (wordsA l cur).length ≤ l.length + (if cur = [] then 0 else 1)
  | [], cur => by unfold wordsA; split <;> simp_all
  | c :: l, cur => by
    unfold wordsA
    have h1 := words_len l []
    have h2 := words_len l (cur ++ [c])
    simp at h1 h2
    split
    · split <;> simp_all <;> omega
    · split <;> simp <;> omega
theorem extract_run (s : ByteArray) (p : UInt8 → Bool) (k : Nat) : (s.extract k (spanL p s k)).data.toList = (s.data.toList.drop k).takeWhile p := by
  rw [Lib.extract_data]
  unfold spanL
  rw [Nat.add_sub_cancel_left, take_takeWhile]
/-- One word more. -/
theorem words_step (s : ByteArray) (k : Nat) (h : k < s.size) (hb : blB s[k] = false) :
    wordsL (s.data.toList.drop k) = (s.extract k (spanL nbB s k)).data.toList :: wordsL (s.data.toList.drop (spanL blB s (spanL nbB s k))) := by
  rw [drop_at s k h, words_cons _ _ hb, extract_run, drop_at s k h]
  rw [spanL_drop, ← words_blank, spanL_drop, drop_at s k h]
theorem span_at (s : ByteArray) (k : Nat) (h : spanL blB s k < s.size) : blB s[spanL blB s k] = false := by
  have h1 := spanL_drop blB s k
  rw [drop_at s _ h] at h1
  have h2 := List.head?_dropWhile_not (p := blB) (l := s.data.toList.drop k)
  rw [← h1] at h2
  simpa using h2
theorem span_pos (s : ByteArray) (k : Nat) (h : k < s.size) (hb : blB s[k] = false) : k < spanL nbB s k := by
  unfold spanL
  rw [drop_at s k h, List.takeWhile_cons, if_pos (by simp [nbB, hb])]
  simp

/-- as it was but for block b, below B -/
structure But (B b : Nat) (w w' : World) : Prop where
  os : w'.os = w.os
  tape : w'.tape = w.tape
  output : w'.output = w.output
  size : w.heap.size ≤ w'.heap.size
  block : ∀ k, k < B → k ≠ b → w'.heap[k]? = w.heap[k]?
theorem But.refl (B b : Nat) (w : World) : But B b w w := ⟨rfl, rfl, rfl, Nat.le_refl _, fun _ _ _ => rfl⟩
theorem But.trans {B b : Nat} {a c d : World} (h : But B b a c) (k : But B b c d) : But B b a d :=
  ⟨k.os.trans h.os, k.tape.trans h.tape, k.output.trans h.output, Nat.le_trans h.size k.size, fun i hi hb => (k.block i hi hb).trans (h.block i hi hb)⟩
theorem But.mono {B B' b : Nat} {w w' : World} (h : But B b w w') (hB : B' ≤ B) : But B' b w w' := ⟨h.os, h.tape, h.output, h.size, fun k hk hb => h.block k (by omega) hb⟩
theorem But.of_below {B b : Nat} {w w' : World} (h : Below B w w') : But B b w w' := ⟨h.os, h.tape, h.output, h.size, fun k hk _ => h.block k hk⟩
theorem But.to_below {B b : Nat} {w w' : World} (h : But B b w w') (hb : B ≤ b) : Below B w w' := ⟨h.os, h.tape, h.output, h.size, fun k hk => h.block k hk (by omega)⟩
theorem heap_setCell_same {w : World} {b : Nat} {u v : Value} {t : TypeId} (h : w.heap[b]? = some (.cells #[u] t (0, 0))) : (w.setCell ⟨b, 0, none⟩ v).heap[b]? = some (.cells #[v] t (0, 0)) := by
  simp [World.setCell, Array.getElem?_modify, h]
theorem But.grown {B b : Nat} {a w w' : World} {row : Option Nat} (h : But B b a w) (hg : w.grownBy w' row) (hB : B ≤ w.heap.size) (hr : ∀ k, row = some k → B ≤ k) : But B b a w' :=
  h.trans (But.of_below ((Below.refl _ _).grown hg hB hr))
theorem But.alloc {B b : Nat} {a w : World} (h : But B b a w) (hB : B ≤ w.heap.size) (o : Obj) : But B b a (w.alloc o) :=
  h.trans (But.of_below ((Below.refl _ _).alloc hB o))
theorem But.setCell {B b : Nat} {a w : World} (h : But B b a w) (u : Value) : But B b a (w.setCell ⟨b, 0, none⟩ u) :=
  h.trans ⟨rfl, rfl, rfl, by simp [World.setCell], fun k hk hb => Below.heap_setCell _ _ _ _ (by simpa using hb)⟩

theorem owns_slice {w : World} {B : Nat} {e : TypeId} {sz : Nat} {v : Value} {n : Nat} {xs : List Value} (h : w.ownsRow B e sz v n xs) : ∃ a l c, v = .slice a l c := by
  rcases h.2 with ⟨h, _⟩ | ⟨g, c, cur, h, _⟩
  · exact ⟨_, _, _, h⟩
  · exact ⟨_, _, _, h⟩
theorem cell_of_block {w : World} {b : Nat} {v : Value} {t : TypeId} (h : w.heap[b]? = some (.cells #[v] t (0, 0))) : w.cell? ⟨b, 0, none⟩ = some v ∧ w.frozen? ⟨b, 0, none⟩ = false := by
  simp [World.cell?, World.frozen?, h]
theorem infoString : (Tryd.prog.info? 9).map (fun i => (i.zero, i.size, i.bytes)) = some (some (.string ⟨#[]⟩), 1, 16) := by kernel_rfl
set_option maxRecDepth 100000 in
set_option maxHeartbeats 400000 in
theorem word_c (s : ByteArray) (B b : Nat) (v : Value) (n : Nat) (xs : List Value) (w : World) (hn : n ≤ 4294967280) (hb : b < B) (hB : B ≤ w.heap.size)
    (hc : w.heap[b]? = some (.cells #[v] 24 (0, 0))) (hown : w.ownsRow B 9 1 v n xs) :
    Calls Tryd.prog 108 #[.string s, .pointer (some ⟨b, 0, none⟩)] w fun e w' => e = .returned (.tuple #[]) ∧ ∃ v', w'.heap[b]? = some (.cells #[v'] 24 (0, 0)) ∧ w'.ownsRow B 9 1 v' (n + 1) (xs ++ [.string s]) ∧ But B b w w' := by
  obtain ⟨i0, hi, hz0, hz1, hz2⟩ := info_parts infoString
  have h0 : w.cell? ⟨b, 0, none⟩ = some v := by simp [World.cell?, hc]
  have hf : w.frozen? ⟨b, 0, none⟩ = false := by simp [World.frozen?, hc]
  have hbw : b < w.heap.size := by omega
  have hlt := hown.lt
  go_enter Tryd.func108, Tryd.ntmps108
  go_wp2_with (at_builtin; refine wpList_append_own _ rfl _ _ 24 rfl B 9 i0 (.string ⟨#[]⟩) 1 16 Tryd.underlying24 hi hz0 hz1 hz2 rfl (by decide) _ _ _ rfl (hown.alloc _) ⟨w.heap.size, 0, none⟩ 1 1 [.string s] rfl rfl (cell_one_new _ _ _) (by simp [Value.oneCell']) (by unfold maxLen; omega) (by omega) (by simp; omega) ?_; intro v' w1 hown1 hgr1 _; have hne : ∀ k, v.ownBlock = some k → k ≠ b := (fun k hk => by have := hlt k hk; omega); have hbl := hgr1.block b (by simp; omega) (fun e => hne b e.symm rfl); have hc1 : w1.heap[b]? = some (.cells #[v] 24 (0, 0)) := (by rw [hbl, Below.heap_alloc _ _ _ hbw]; exact hc); obtain ⟨a9, l9, c9, rfl⟩ := owns_slice hown1; have hc2 := (cell_of_block hc1).1; have hc3 := (cell_of_block hc1).2)
  go_end0
  exact ⟨rfl, _, heap_setCell_same hc1, ownsRow_setCell_below hown1 hb _, (((But.refl _ _ _).alloc hB _).grown hgr1 (by simp; omega) (fun k hk => (hlt k hk).1)).setCell _⟩
end Go.Proofs.YtkiheanpamplpaaDoor
