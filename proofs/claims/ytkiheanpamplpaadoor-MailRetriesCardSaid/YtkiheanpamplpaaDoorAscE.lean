/-
  each, Words and Squeeze: what they answer.
-/
import Derived.Test.YtkiheanpamplpaaDoorAscD
set_option linter.unusedSimpArgs false
set_option linter.unusedVariables false
set_option linter.unnecessarySimpa false
namespace Go.Proofs.YtkiheanpamplpaaDoor
open Go.RowKit Go.Bul
theorem heap_alloc_new (w : World) (o : Obj) : (w.alloc o).heap[w.heap.size]? = some o := by
  show (w.heap.push o)[w.heap.size]? = _
  simp
theorem size_alloc (w : World) (o : Obj) : (w.alloc o).heap.size = w.heap.size + 1 := by
  show (w.heap.push o).size = _
  simp
theorem not_c (w : World) : Calls Tryd.prog 127 #[.func (.func 128) #[] #[]] w fun e w' => e = .returned (.func (.func 136) #[] #[.pointer (some ⟨w.heap.size, 0, none⟩)]) ∧ w.alloc (.cells #[.func (.func 128) #[] #[]] 107) = w' := by
  have hmf : ∀ (fn : Fn) (first cap : Array Value) (w : World), (Instr.makeFunc fn first cap).run Tryd.prog w = .ok (.func fn first cap) w := fun _ _ _ _ => rfl
  go_enter Tryd.func127, Tryd.ntmps127
  go_wp2
  go_ret
  exact ⟨rfl, rfl⟩
/-- what stands at the head of a round -/
structure EachRel (s : ByteArray) (w : World) (b : Nat) (k : Nat) (wr : World) : Prop where
  le : k ≤ s.size
  nb : ∀ h : k < s.size, blB s[k] = false
  body : ∃ v done, wr.heap[b]? = some (.cells #[v] 24 (0, 0)) ∧ wr.ownsRow (w.heap.size + 1) 9 1 v done.length (done.map St) ∧ done ++ wordsL (s.data.toList.drop k) = wordsL s.data.toList ∧ done.length ≤ k
  but : But (w.heap.size + 1) b (w.alloc (.cells #[.func (.func 128) #[] #[]] 107)) wr
theorem words_start (s : ByteArray) : wordsL (s.data.toList.drop (spanL blB s 0)) = wordsL s.data.toList := by
  rw [spanL_drop, ← words_blank, List.drop_zero]
theorem EachRel.start {s : ByteArray} {w : World} {b : Nat} (hb : b < w.heap.size) (hc : w.heap[b]? = some (.cells #[.slice none 0 0] 24 (0, 0))) :
    EachRel s w b (spanL blB s 0) (w.alloc (.cells #[.func (.func 128) #[] #[]] 107)) :=
  ⟨(span_le blB s 0 (Nat.zero_le _)).2, fun h => span_at s 0 h, ⟨_, [], by rw [Below.heap_alloc _ _ _ hb]; exact hc, World.ownsRow_nil _ _ _ _, by rw [List.nil_append, words_start], Nat.zero_le _⟩, But.refl _ _ _⟩
theorem EachRel.cell {s : ByteArray} {w wr : World} {b k : Nat} (h : EachRel s w b k wr) (hb : b < w.heap.size) : wr.cell? ⟨w.heap.size, 0, none⟩ = some (.func (.func 128) #[] #[]) := by
  have h1 := h.but.block w.heap.size (by omega) (by omega)
  rw [World.cell?_of_block (w := w.alloc (.cells #[.func (.func 128) #[] #[]] 107)) (a := ⟨w.heap.size, 0, none⟩) h1]
  simp
theorem EachRel.step {s : ByteArray} {w wr w2 : World} {b k : Nat} {v' : Value} {done : List (List UInt8)} (h : EachRel s w b k wr) (hlt : k < s.size)
    (hc : w2.heap[b]? = some (.cells #[v'] 24 (0, 0))) (ho : w2.ownsRow (w.heap.size + 1) 9 1 v' (done.length + 1) (done.map St ++ [.string (s.extract k (spanL nbB s k))]))
    (hb : But (w.heap.size + 1) b wr w2) (hd : done ++ wordsL (s.data.toList.drop k) = wordsL s.data.toList) (hl : done.length ≤ k) : EachRel s w b (spanL blB s (spanL nbB s k)) w2 := by
  have hnb := h.nb hlt
  have hpos := span_pos s k hlt hnb
  have hle := span_le nbB s k h.le
  have hle2 := span_le blB s (spanL nbB s k) hle.2
  refine ⟨hle2.2, fun h => span_at s _ h, ⟨v', done ++ [(s.extract k (spanL nbB s k)).data.toList], hc, ?_, ?_, by simp; omega⟩, h.but.trans hb⟩
  · rw [List.length_append, List.map_append]
    exact ho
  · rw [← hd, words_step s k hlt hnb]; simp
theorem EachRel.base {s : ByteArray} {w wr : World} {b k : Nat} (h : EachRel s w b k wr) : w.heap.size + 1 ≤ wr.heap.size := by
  have h1 := h.but.size
  rw [size_alloc] at h1
  exact h1
theorem EachRel.final {s : ByteArray} {w wr : World} {b k : Nat} (h : EachRel s w b k wr) (hb : b < w.heap.size) : But w.heap.size b w wr :=
  (But.of_below ((Below.refl _ _).alloc (Nat.le_refl _) _)).trans (h.but.mono (by omega))
theorem owns_mono {w : World} {B B' : Nat} {e : TypeId} {sz : Nat} {v : Value} {n : Nat} {xs : List Value} (h : w.ownsRow B e sz v n xs) (hB : B' ≤ B) : w.ownsRow B' e sz v n xs := by
  refine ⟨h.1, ?_⟩
  rcases h.2 with h | ⟨g, c, cur, h1, h2, h3⟩
  · exact .inl h
  · exact .inr ⟨g, c, cur, h1, by omega, h3⟩
theorem But.to_below' {B B' b : Nat} {w w' : World} (h : But B b w w') (hB : B' ≤ B) (hb : B' ≤ b) : Below B' w w' := ⟨h.os, h.tape, h.output, h.size, fun k hk => h.block k (by omega) (by omega)⟩
set_option maxRecDepth 100000 in
set_option maxHeartbeats 400000 in
theorem each_c (s : ByteArray) (b : Nat) (w : World) (hs : s.size ≤ 4294967280) (hb : b < w.heap.size) (hc : w.heap[b]? = some (.cells #[.slice none 0 0] 24 (0, 0))) :
    Calls Tryd.prog 107 #[.string s, .func (.func 108) #[] #[.pointer (some ⟨b, 0, none⟩)]] w fun e w' => e = .returned (.tuple #[]) ∧ ∃ v, w'.heap[b]? = some (.cells #[v] 24 (0, 0)) ∧
      w'.ownsRow w.heap.size 9 1 v (wordsL s.data.toList).length ((wordsL s.data.toList).map St) ∧ But w.heap.size b w w' := by
  have hs' : s.size ≤ maxLen := by unfold maxLen; omega
  have hst := EachRel.start (s := s) hb hc
  have HC := Lib.hid hc
  clear hc
  go_enter Tryd.func107, Tryd.ntmps107
  go_wp2_with (first | (go_at_call 127; refine (not_c _).mono ?_; rintro e w' ⟨rfl, rfl⟩) | (go_at_call 85; refine (span_c s hs' 0 (Nat.zero_le _) _ cf_isBlank blB _ (fun c => isBlank_c c _)).mono ?_; rintro e w' ⟨rfl, rfl⟩))
  go_loopw [5] (fun u wr => ∃ k : Nat, u = .int .i64 k ∧ EachRel s w b k wr) (fun u _ => s.size - (intOf u).toNat)
  case atStart => exact ⟨_, rfl, hst⟩
  case round =>
    clear hst
    obtain ⟨k, rfl, hr⟩ := hrel
    have hcell := hr.cell hb
    have hk := hr.le
    by_cases hlt : k < s.size
    · have hnb := hr.nb hlt
      have hpos := span_pos s k hlt hnb
      have hle := span_le nbB s k hk
      have hle2 := span_le blB s (spanL nbB s k) hle.2
      go_wp2_with fail
      refine (span_c1 s hs' k hk _ _ cf_notc nbB wr (fun c => notBlank_c c w.heap.size wr hcell)).mono ?_
      rintro e w' ⟨rfl, rfl⟩
      go_wp2_with fail
      obtain ⟨v, done, hcb, hown, hdone, hlen⟩ := hr.body
      refine (word_c _ (w.heap.size + 1) b v _ _ wr (by omega) (by omega) hr.base hcb hown).mono ?_
      rintro e w2 ⟨rfl, v', hcb', hown', hbut'⟩
      have HD := Lib.hid hdone
      clear hdone hcb hcell hnb
      go_wp2_with (go_at_call 85; refine (span_c s hs' _ hle.2 _ cf_isBlank blB _ (fun c => isBlank_c c _)).mono ?_; rintro e w' ⟨rfl, rfl⟩)
      go_roundw
      case rel => exact ⟨_, rfl, hr.step hlt hcb' hown' hbut' HD.out hlen⟩
      case measure => simp [intOf]; omega
    · obtain ⟨v, done, hcb, hown, hdone, hlen⟩ := hr.body
      have HD := Lib.hid hdone
      clear hdone
      go_wp2_with fail
      go_end0
      refine ⟨rfl, v, hcb, ?_, hr.final hb⟩
      have h1 : done = wordsL s.data.toList := by
        rw [← HD.out, List.drop_eq_nil_of_le (by simp; omega)]; simp [wordsL, wordsA]
      rw [← h1]
      exact owns_mono hown (by omega)
theorem cf_word (args : Array Value) (w : World) : (callFunc 108 args).run Tryd.prog w = .ok (.enter 108 args) w := by kernel_rfl
set_option maxRecDepth 100000 in
set_option maxHeartbeats 400000 in
theorem words_s (s : ByteArray) (w : World) (hs : s.size ≤ 4294967280) :
    Calls Tryd.prog 88 #[.string s] w fun e w' => ∃ v, e = .returned v ∧ w'.ownsRow w.heap.size 9 1 v (wordsL s.data.toList).length ((wordsL s.data.toList).map St) ∧ Below w.heap.size w w' := by
  have hmf : ∀ (fn : Fn) (first cap : Array Value) (w : World), (Instr.makeFunc fn first cap).run Tryd.prog w = .ok (.func fn first cap) w := fun _ _ _ _ => rfl
  have hblk : (w.alloc (.cells #[.slice none 0 0] 24)).heap[w.heap.size]? = some (.cells #[.slice none 0 0] 24 (0, 0)) := heap_alloc_new _ _
  have HB := Lib.hid hblk
  clear hblk
  go_enter Tryd.func88, Tryd.ntmps88
  go_wp2_with fail
  refine (each_c s w.heap.size _ hs (by simp) HB.out).mono ?_
  rintro e w1 ⟨rfl, v, hc, hown, hbut⟩
  have hc1 := (cell_of_block hc).1
  go_wp2_with fail
  go_ret
  refine ⟨v, rfl, owns_mono hown (by simp), ?_⟩
  have := hbut.to_below' (B' := w.heap.size) (by simp) (Nat.le_refl _)
  exact ((Below.refl _ _).alloc (Nat.le_refl _) _).trans this
end Go.Proofs.YtkiheanpamplpaaDoor
