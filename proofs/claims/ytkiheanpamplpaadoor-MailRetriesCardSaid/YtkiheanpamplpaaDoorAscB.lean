/-
  Lower, the runs of a class of bytes, Trim, Printable: what they answer.
-/
import Derived.Test.YtkiheanpamplpaaDoorAscA
set_option linter.unusedSimpArgs false
set_option linter.unusedVariables false
set_option linter.unnecessarySimpa false
namespace Go.Proofs.YtkiheanpamplpaaDoor
open Go.RowKit Go.Bul

/-! ### Lower -/
def LowRel (w : World) (s : ByteArray) (k : Nat) (wr : World) : Prop :=
  Below w.heap.size w wr ∧ w.heap.size < wr.heap.size ∧ (∀ j (h : j < s.size), wr.cell? ⟨w.heap.size, j, none⟩ = some (B8 (if j < k then lowC s[j] else s[j]))) ∧ ∀ j, j < s.size → wr.frozen? ⟨w.heap.size, j, none⟩ = false
theorem LowRel.step {w wr : World} {s : ByteArray} {k : Nat} (h : LowRel w s k wr) (hk : k < s.size) : LowRel w s (k + 1) (wr.setCell ⟨w.heap.size, k, none⟩ (B8 (lowC s[k]))) := by
  obtain ⟨h1, h2, h3, h4⟩ := h
  refine ⟨h1.setCell (Nat.le_refl _) _, by simpa using h2, fun j hj => ?_, fun j hj => by simpa using h4 j hj⟩
  by_cases e : j = k
  · subst e
    simp [World.cell?_setCell_same, h3 j hj]
  · rw [World.cell?_setCell_other _ _ _ _ (by simpa using fun h => e h.symm)]
    rw [h3 j hj]
    have : (j < k + 1) = (j < k) := by simp; omega
    simp [this]
def lowL (l : List UInt8) : List UInt8 := l.map lowC
/-! ### The runs of a class -/
/-- where the run of bytes of a class ends -/
def spanL (p : UInt8 → Bool) (s : ByteArray) (k : Nat) : Nat := k + ((s.data.toList.drop k).takeWhile p).length
theorem drop_at (s : ByteArray) (k : Nat) (h : k < s.size) : s.data.toList.drop k = s[k] :: s.data.toList.drop (k + 1) := by
  rw [List.drop_eq_getElem_cons (by simpa using h)]; rfl
theorem span_go {p : UInt8 → Bool} {s : ByteArray} {k : Nat} (h : k < s.size) (hp : p s[k] = true) : spanL p s k = spanL p s (k + 1) := by
  unfold spanL; rw [drop_at s k h, List.takeWhile_cons, if_pos hp]; simp; omega
theorem span_stop {p : UInt8 → Bool} {s : ByteArray} {k : Nat} (h : k < s.size) (hp : p s[k] = false) : spanL p s k = k := by
  unfold spanL; rw [drop_at s k h, List.takeWhile_cons, if_neg (by simp [hp])]; simp
theorem span_end {p : UInt8 → Bool} {s : ByteArray} {k : Nat} (h : s.size ≤ k) : spanL p s k = k := by
  unfold spanL; rw [List.drop_eq_nil_of_le (by simpa using h)]; simp
theorem span_le (p : UInt8 → Bool) (s : ByteArray) (k : Nat) (hk : k ≤ s.size) : k ≤ spanL p s k ∧ spanL p s k ≤ s.size := by
  unfold spanL
  have h1 := (List.takeWhile_prefix (p := p) (l := s.data.toList.drop k)).length_le
  simp only [List.length_drop, Array.length_toList] at h1
  have : s.data.size = s.size := rfl
  omega
theorem toIntBounds {n : Nat} (h : n ≤ 2 ^ 63 - 1) : (0 : Int) ≤ n ∧ (n : Int) ≤ 9223372036854775807 := by omega

set_option maxRecDepth 100000 in
set_option maxHeartbeats 400000 in
theorem span_c (s : ByteArray) (hs : s.size ≤ maxLen) (n : Nat) (hn : n ≤ s.size) (f : Nat) (hcf : ∀ (args : Array Value) (w : World), (callFunc f args).run Tryd.prog w = .ok (.enter f args) w) (p : UInt8 → Bool) (w : World) (hf : ∀ c, Calls Tryd.prog f #[B8 c] w fun e w' => e = .returned (.bool (p c)) ∧ w = w') :
    Calls Tryd.prog 85 #[.string s, .int .i64 n, .func (.func f) #[] #[]] w fun e w' => e = .returned (.int .i64 (spanL p s n)) ∧ w = w' := by
  unfold maxLen at hs
  have HF := Lib.hid hf
  clear hf
  go_enter Tryd.func85, Tryd.ntmps85
  go_wp2
  go_loop [1] (fun i => ∃ k : Nat, n ≤ k ∧ k ≤ s.size ∧ i = .int .i64 k ∧ spanL p s n = spanL p s k) (fun i => s.size - (intOf i).toNat)
  case atStart => exact ⟨n, Nat.le_refl _, hn, rfl, rfl⟩
  case round =>
    obtain ⟨k, hnk, hk, rfl, hsp⟩ := hrel
    have HS := Lib.hid hsp
    clear hsp
    by_cases hlt : k < s.size
    · go_wp2_with fail
      refine (HF.out s[k]).mono ?_
      rintro e w' ⟨rfl, rfl⟩
      cases hp : p s[k]
      · go_wp2_with fail
        go_ret
        exact ⟨ret_int (by rw [HS.out, span_stop hlt hp]), rfl⟩
      · go_wp2_with fail
        go_round
        case rel => exact ⟨k + 1, by omega, by omega, by go_num, by rw [HS.out, span_go hlt hp]⟩
        case measure => simp [intOf]; omega
    · go_wp2_with fail
      go_ret
      exact ⟨ret_int (by rw [HS.out, span_end (by omega)]), rfl⟩

set_option maxRecDepth 100000 in
set_option maxHeartbeats 400000 in
/-- The same for a function value that has captured one value. -/
theorem span_c1 (s : ByteArray) (hs : s.size ≤ maxLen) (n : Nat) (hn : n ≤ s.size) (f : Nat) (x : Value) (hcf : ∀ (args : Array Value) (w : World), (callFunc f args).run Tryd.prog w = .ok (.enter f args) w) (p : UInt8 → Bool) (w : World) (hf : ∀ c, Calls Tryd.prog f #[B8 c, x] w fun e w' => e = .returned (.bool (p c)) ∧ w = w') :
    Calls Tryd.prog 85 #[.string s, .int .i64 n, .func (.func f) #[] #[x]] w fun e w' => e = .returned (.int .i64 (spanL p s n)) ∧ w = w' := by
  unfold maxLen at hs
  have HF := Lib.hid hf
  clear hf
  go_enter Tryd.func85, Tryd.ntmps85
  go_wp2
  go_loop [1] (fun i => ∃ k : Nat, n ≤ k ∧ k ≤ s.size ∧ i = .int .i64 k ∧ spanL p s n = spanL p s k) (fun i => s.size - (intOf i).toNat)
  case atStart => exact ⟨n, Nat.le_refl _, hn, rfl, rfl⟩
  case round =>
    obtain ⟨k, hnk, hk, rfl, hsp⟩ := hrel
    have HS := Lib.hid hsp
    clear hsp
    by_cases hlt : k < s.size
    · go_wp2_with fail
      refine (HF.out s[k]).mono ?_
      rintro e w' ⟨rfl, rfl⟩
      cases hp : p s[k]
      · go_wp2_with fail
        go_ret
        exact ⟨ret_int (by rw [HS.out, span_stop hlt hp]), rfl⟩
      · go_wp2_with fail
        go_round
        case rel => exact ⟨k + 1, by omega, by omega, by go_num, by rw [HS.out, span_go hlt hp]⟩
        case measure => simp [intOf]; omega
    · go_wp2_with fail
      go_ret
      exact ⟨ret_int (by rw [HS.out, span_end (by omega)]), rfl⟩

theorem cf_isBlank (args : Array Value) (w : World) : (callFunc 128 args).run Tryd.prog w = .ok (.enter 128 args) w := by kernel_rfl
theorem cf_isDigit (args : Array Value) (w : World) : (callFunc 62 args).run Tryd.prog w = .ok (.enter 62 args) w := by kernel_rfl
theorem cf_notc (args : Array Value) (w : World) : (callFunc 136 args).run Tryd.prog w = .ok (.enter 136 args) w := by kernel_rfl
theorem cf_print (args : Array Value) (w : World) : (callFunc 86 args).run Tryd.prog w = .ok (.enter 86 args) w := by kernel_rfl

def prB (c : UInt8) : Bool := c.toNat == 32 || viB c
theorem print_c (c : UInt8) (w : World) : Calls Tryd.prog 86 #[B8 c] w fun e w' => e = .returned (.bool (prB c)) ∧ w = w' := by
  have hn : ((c.toNat : Int) == 32) = (c.toNat == 32) := by rw [Bool.eq_iff_iff]; simp; omega
  have H := Lib.hid hn
  clear hn
  cases h : (c.toNat == 32)
  all_goals
    have h' := h
    simp at h'
    go_enter Tryd.func86, Tryd.ntmps86
    go_wp2_with (go_at_call 87; refine (isVisible_c _ _).mono ?_; rintro e w' ⟨rfl, rfl⟩)
    go_ret
    exact ⟨ret_bool (by first | (rw [H.out]; simp [prB, h]) | simp [prB, h]), rfl⟩
theorem notBlank_c (c : UInt8) (b : Nat) (w : World) (hc : w.cell? ⟨b, 0, none⟩ = some (.func (.func 128) #[] #[])) : Calls Tryd.prog 136 #[B8 c, .pointer (some ⟨b, 0, none⟩)] w fun e w' => e = .returned (.bool (!blB c)) ∧ w = w' := by
  go_enter Tryd.func136, Tryd.ntmps136
  go_wp2_with (go_at_call 128; refine (isBlank_c _ _).mono ?_; rintro e w' ⟨rfl, rfl⟩)
  go_ret
  exact ⟨ret_bool (by simp), rfl⟩

def printableL (l : List UInt8) : Int := if (l.takeWhile prB).length = l.length then -1 else (l.takeWhile prB).length
set_option maxRecDepth 100000 in
theorem printable_s (s : ByteArray) (hs : s.size ≤ maxLen) (w : World) : Calls Tryd.prog 64 #[.string s] w fun e w' => e = .returned (.int .i64 (printableL s.data.toList)) ∧ w = w' := by
  have h0 : spanL prB s 0 = (s.data.toList.takeWhile prB).length := by simp [spanL]
  have hl : s.data.toList.length = s.size := by simp
  by_cases h : spanL prB s 0 = s.size
  · have h1 : (((spanL prB s 0 : Nat) : Int) == (s.size : Int)) = true := by rw [beq_iff_eq]; omega
    have H := Lib.hid h
    clear h
    have H0 := Lib.hid h0
    clear h0
    go_enter Tryd.func64, Tryd.ntmps64
    go_wp2_with (go_at_call 85; refine (span_c s hs 0 (Nat.zero_le _) _ cf_print prB _ (fun c => print_c c _)).mono ?_; rintro e w' ⟨rfl, rfl⟩)
    go_ret
    exact ⟨ret_int (by have := H.out; have := H0.out; unfold printableL; rw [if_pos (by omega)]), rfl⟩
  · have h1 : (((spanL prB s 0 : Nat) : Int) == (s.size : Int)) = false := by rw [beq_eq_false_iff_ne]; omega
    have H := Lib.hid h
    clear h
    have H0 := Lib.hid h0
    clear h0
    go_enter Tryd.func64, Tryd.ntmps64
    go_wp2_with (go_at_call 85; refine (span_c s hs 0 (Nat.zero_le _) _ cf_print prB _ (fun c => print_c c _)).mono ?_; rintro e w' ⟨rfl, rfl⟩)
    go_ret
    exact ⟨ret_int (by have := H.out; have := H0.out; unfold printableL; rw [if_neg (by omega)]; omega), rfl⟩
end Go.Proofs.YtkiheanpamplpaaDoor
