/-
  Squeeze, the comparisons without regard to case, decimal numbers: what they answer.
-/
import Derived.Test.YtkiheanpamplpaaDoorAscE
set_option linter.unusedSimpArgs false
set_option linter.unusedVariables false
set_option linter.unnecessarySimpa false
namespace Go.Proofs.YtkiheanpamplpaaDoor
open Go.RowKit Go.Bul
def squeezeL (l : List UInt8) : List UInt8 := Lib.join (wordsL l) [32]
theorem join_len_cons (x : List UInt8) (r : List (List UInt8)) : (Lib.join (x :: r) [32]).length ≤ x.length + 1 + (Lib.join r [32]).length := by
  cases r with
  | nil => rw [Lib.join_one]; omega
  | cons y r =>
    rw [Lib.join_cons, Lib.join_cons]
    simp [Lib.joinTail]
    omega
theorem squeeze_len : ∀ (l cur : List UInt8), (Lib.join (wordsA l cur) [32]).length ≤ cur.length + l.length
  | [], cur => by
    unfold wordsA
    split
    · simp [Lib.join_nil]
    · rw [Lib.join_one]; simp
  | c :: l, cur => by
    unfold wordsA
    have h1 := squeeze_len l []
    have h2 := squeeze_len l (cur ++ [c])
    simp at h1 h2
    split
    · split
      · simp; omega
      · have := join_len_cons cur (wordsA l [])
        simp; omega
    · simp; omega
theorem owns_cells {w : World} {B : Nat} {e : TypeId} {v : Value} {ls : List (List UInt8)} (h : w.ownsRow B e 1 v ls.length (ls.map St)) :
    (v = .slice none 0 0 ∧ ls = []) ∨ ∃ g c, v = .slice (some ⟨g, 0, none⟩) ls.length c ∧ B ≤ g ∧ g < w.heap.size ∧ ls.length ≤ c ∧ ∀ (j : Nat) x, ls[j]? = some x → w.cell? ⟨g, 0 + j, none⟩ = some (St x) := by
  have hlt := h.lt
  rcases h.2 with ⟨h1, h2⟩ | ⟨g, c, cur, h1, h2, h3, h4, h5⟩
  · exact .inl ⟨h1, List.eq_nil_of_length_eq_zero h2⟩
  · refine .inr ⟨g, c, h1, h2, (hlt g (by rw [h1]; rfl)).2, h4, fun j x hj => ?_⟩
    have := h.cells (g := g) (by rw [h1]; rfl) j (St x) (by simp [hj])
    rw [show (⟨g, 0, none⟩ : Addr).add j = ⟨g, 0 + j, none⟩ by unfold Addr.add; split <;> simp_all] at this
    exact this
set_option maxRecDepth 100000 in
theorem squeeze_s (s : ByteArray) (w : World) (hs : s.size ≤ 4294967280) :
    Calls Tryd.prog 65 #[.string s] w fun e w' => e = .returned (St (squeezeL s.data.toList)) ∧ Below w.heap.size w w' := by
  have hl : (wordsL s.data.toList).length ≤ 4294967280 := by
    have := words_len s.data.toList []
    simp at this
    have h2 : s.data.size = s.size := rfl
    unfold wordsL; omega
  have hj : (Lib.join (wordsL s.data.toList) [32]).length ≤ 4294967280 := by
    have := squeeze_len s.data.toList []
    simp at this
    have h2 : s.data.size = s.size := rfl
    unfold wordsL; omega
  go_enter Tryd.func65, Tryd.ntmps65
  go_wp2_with fail
  refine (words_s s w hs).mono ?_
  rintro e w1 ⟨v, rfl, hown, hb⟩
  rcases owns_cells hown with ⟨rfl, hn⟩ | ⟨g, c, rfl, hg, hg2, hc, hcell⟩
  · have HN := Lib.hid hn
    clear hn
    go_wp2_with (go_at_call 58; refine (Tryd.strings_Join_none none 0 _ _).mono ?_; rintro e w' ⟨rfl, rfl⟩)
    go_ret
    refine ⟨?_, hb⟩
    unfold squeezeL; rw [HN.out]; rfl
  · clear hown
    have HC := Lib.hid hcell
    clear hcell
    go_wp2_with (go_at_call 58; refine (join_g g 0 c (wordsL s.data.toList) _ _ HC.out hg2 (by omega) hc (by simpa using (by omega : (Lib.join (wordsL s.data.toList) [32]).length ≤ 140737488355328))).mono ?_; rintro e w' ⟨rfl, hb2⟩)
    go_ret
    exact ⟨rfl, hb.trans (hb2.mono hb.size)⟩

def cmpFoldL (a b : List UInt8) : Int := Lib.compareBytes (lowL a) (lowL b)
def idxFoldL (a b : List UInt8) : Int := Lib.index (lowL a) (lowL b)
theorem digits_s (n : Int) (h0 : -9223372036854775808 ≤ n) (h1 : n ≤ 9223372036854775807) (w : World) (hg : Gl w) :
    Calls Tryd.prog 31 #[.int .i64 n] w fun e w' => e = .returned (St (Lib.itoa n)) ∧ Below w.heap.size w w' := by
  have H := Lib.hid (itoa_g n h0 h1 w hg)
  clear h0 h1
  go_enter Tryd.func31, Tryd.ntmps31
  go_wp2_with fail
  refine (H.out).mono ?_
  rintro e w1 ⟨rfl, hb1⟩
  go_wp2_with fail
  go_ret
  exact ⟨rfl, hb1⟩
end Go.Proofs.YtkiheanpamplpaaDoor
