/-
  The examples of the chapter on ASCII: each call at its constant arguments; the function known returns true.
-/
import Derived.Test.YtgmamplnhechjaaDoorRefG
set_option linter.unusedSimpArgs false
set_option linter.unusedVariables false
set_option linter.unnecessarySimpa false
namespace Go.Proofs.YtgmamplnhechjaaDoor
open Go.RowKit Go.Bul
theorem sizeLe (n : Nat) (h : n ≤ 4294967280) : n ≤ maxLen := by unfold maxLen; omega
theorem k_equal (w : World) : Calls Tryd.prog 16 #[.string ⟨#[82, 101, 58, 32, 65]⟩, .string ⟨#[82, 69, 58, 32, 97]⟩] w fun e w' => e = .returned (.bool true) ∧ Below w.heap.size w w' := by
  have h := equalFold_s ⟨#[82, 101, 58, 32, 65]⟩ ⟨#[82, 69, 58, 32, 97]⟩ (sizeLe _ (by decide)) (sizeLe _ (by decide)) w
  rw [show (cmpFoldL (⟨#[82, 101, 58, 32, 65]⟩ : ByteArray).data.toList (⟨#[82, 69, 58, 32, 97]⟩ : ByteArray).data.toList == 0) = true by decide] at h
  exact h
theorem k_compare (w : World) : Calls Tryd.prog 17 #[.string ⟨#[66]⟩, .string ⟨#[97]⟩] w fun e w' => e = .returned (.int .i64 1) ∧ Below w.heap.size w w' := by
  have h := compareFold_s ⟨#[66]⟩ ⟨#[97]⟩ (sizeLe _ (by decide)) (sizeLe _ (by decide)) w
  rw [show cmpFoldL (⟨#[66]⟩ : ByteArray).data.toList (⟨#[97]⟩ : ByteArray).data.toList = 1 by decide] at h
  exact h
theorem k_index (w : World) (hg : Gl w) : Calls Tryd.prog 19 #[.string ⟨#[77, 101, 115, 115, 97, 103, 101, 45, 73, 68]⟩, .string ⟨#[105, 100]⟩] w fun e w' => e = .returned (.int .i64 8) ∧ Below w.heap.size w w' := by
  have h := indexFold_s ⟨#[77, 101, 115, 115, 97, 103, 101, 45, 73, 68]⟩ ⟨#[105, 100]⟩ (by decide) (sizeLe _ (by decide)) w hg
  rw [show idxFoldL (⟨#[77, 101, 115, 115, 97, 103, 101, 45, 73, 68]⟩ : ByteArray).data.toList (⟨#[105, 100]⟩ : ByteArray).data.toList = 8 by decide] at h
  exact h
theorem k_trim (w : World) : Calls Tryd.prog 26 #[.string ⟨#[32, 97, 32, 32, 98, 9]⟩] w fun e w' => e = .returned (.string ⟨#[97, 32, 32, 98]⟩) ∧ Below w.heap.size w w' :=
  (trim_s ⟨#[32, 97, 32, 32, 98, 9]⟩ (sizeLe _ (by decide)) w).mono fun e w' ⟨he, hw⟩ => ⟨by rw [he, show trimL (⟨#[32, 97, 32, 32, 98, 9]⟩ : ByteArray).data.toList = [97, 32, 32, 98] by decide], by subst hw; exact Below.refl _ _⟩
theorem k_squeeze (w : World) : Calls Tryd.prog 22 #[.string ⟨#[32, 97, 32, 32, 98, 9]⟩] w fun e w' => e = .returned (.string ⟨#[97, 32, 98]⟩) ∧ Below w.heap.size w w' :=
  (squeeze_s ⟨#[32, 97, 32, 32, 98, 9]⟩ w (by decide)).mono fun e w' ⟨he, hw⟩ => ⟨by rw [he, show squeezeL (⟨#[32, 97, 32, 32, 98, 9]⟩ : ByteArray).data.toList = [97, 32, 98] by decide], hw⟩
theorem k_words (w : World) : Calls Tryd.prog 21 #[.string ⟨#[32, 97, 32, 32, 98, 9]⟩] w fun e w' => ∃ g c, e = .returned (.slice (some ⟨g, 0, none⟩) 2 c) ∧ g < w'.heap.size ∧ w'.cell? ⟨g, 1, none⟩ = some (.string ⟨#[98]⟩) ∧ Below w.heap.size w w' :=
  (words_s ⟨#[32, 97, 32, 32, 98, 9]⟩ w (by decide)).mono fun e w' ⟨v, he, ho, hw⟩ => by
    rw [show wordsL (⟨#[32, 97, 32, 32, 98, 9]⟩ : ByteArray).data.toList = [[97], [98]] by decide] at ho
    rcases owns_cells ho with ⟨_, h⟩ | ⟨g, c, rfl, _, h3, _, h5⟩
    · cases h
    · exact ⟨g, c, he, h3, h5 1 [98] rfl, hw⟩
theorem k_num (s : ByteArray) (m a b : Int) (hs : s.size ≤ 4294967280) (hp : numL s.data.toList m = (a, b)) (w : World) (hg : Gl w) : Calls Tryd.prog 29 #[.string s, .int .i64 m] w fun e w' => e = .returned (.tuple #[.int .i64 a, .int .i64 b]) ∧ Below w.heap.size w w' := by
  have h := number_s s m hs w hg
  rw [hp] at h; exact h
theorem k_unhex (w : World) : Calls Tryd.prog 33 #[.string ⟨#[48, 65]⟩] w fun e w' => e = .returned (.tuple #[.slice none 0 0, .int .i64 3]) ∧ Below w.heap.size w w' := by
  have h := unhex_s ⟨#[48, 65]⟩ (by decide) w
  rw [show unhexA (⟨#[48, 65]⟩ : ByteArray).data.toList = none by decide] at h
  exact h
theorem itoa_m5 : Lib.itoa (-5) = [45, 53] := by
  unfold Lib.itoa
  rw [if_pos (by decide), dec_small (by decide)]
  rfl
theorem k_digits (w : World) (hg : Gl w) : Calls Tryd.prog 28 #[.int .i64 (-5)] w fun e w' => e = .returned (.string ⟨#[45, 53]⟩) ∧ Below w.heap.size w w' := by
  have h := digits_s (-5) (by decide) (by decide) w hg
  rw [itoa_m5] at h; exact h
theorem k_hex (b c : Nat) (w : World) (hb : b < w.heap.size) (h0 : w.cell? ⟨b, 0, none⟩ = some (.int .u8 0)) (h1 : w.cell? ⟨b, 1, none⟩ = some (.int .u8 171)) : Calls Tryd.prog 32 #[.slice (some ⟨b, 0, none⟩) 2 c] w fun e w' => e = .returned (.string ⟨#[48, 48, 97, 98]⟩) ∧ Below w.heap.size w w' := by
  have h := hex_s (.slice (some ⟨b, 0, none⟩) 2 c) [0, 171] w (by decide) (.inr ⟨b, 0, c, rfl, hb, fun j hj => by
    match j, hj with
    | 0, _ => exact h0
    | 1, _ => exact h1⟩)
  rw [show hexL [0, 171] = [48, 48, 97, 98] by decide] at h
  exact h
theorem k_print (w : World) : Calls Tryd.prog 47 #[.string ⟨#[97, 9, 98]⟩] w fun e w' => e = .returned (.int .i64 1) ∧ Below w.heap.size w w' :=
  (printable_s ⟨#[97, 9, 98]⟩ (sizeLe _ (by decide)) w).mono fun e w' ⟨he, hw⟩ => ⟨by rw [he, show printableL (⟨#[97, 9, 98]⟩ : ByteArray).data.toList = 1 by decide], by subst hw; exact Below.refl _ _⟩
end Go.Proofs.YtgmamplnhechjaaDoor
