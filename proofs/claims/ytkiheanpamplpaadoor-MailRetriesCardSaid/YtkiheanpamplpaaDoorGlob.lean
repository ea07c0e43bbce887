/-
  What a call finds in the library's own variables (the table of powers of ten, the sentinel error, the length up to which the search is by one routine), and that it stays so while a call only makes memory of its own; the library's functions in those words.
-/
import Derived.Test.YtkiheanpamplpaaDoorAscA
import Derived.Test.YtkiheanpamplpaaDoorShelf
import Derived.WalkSmall
set_option linter.unusedSimpArgs false
set_option linter.unusedVariables false
namespace Go.Proofs.YtkiheanpamplpaaDoor
open Go.RowKit Go.Bul
theorem gPow : Tryd.prog.globalNamed "internal/strconv.uint64pow10" = some 1 := by kernel_rfl
structure Gl (w : World) : Prop where
  size : 1 + 0 + 1 ≤ w.heap.size
  maxLen : ∃ m, w.cell? ⟨0, 0, none⟩ = some (.int .i64 m)
  pow : Lib.TabIs Tryd.prog w "internal/strconv.uint64pow10" .u64 Lib.pow10Tab
theorem Gl.below {w w' : World} (h : Gl w) (hb : Below w.heap.size w w') : Gl w' := by
  have hs := h.size
  refine ⟨Nat.le_trans h.size hb.size, ?_, ?_⟩
  · obtain ⟨m, hm⟩ := h.maxLen
    exact ⟨m, by rw [hb.cell (p := ⟨_, 0, none⟩) (by simp; omega)]; exact hm⟩
  · exact var?_below hb gPow (by omega) h.pow

/-- A string out of a list of bytes. -/
abbrev St (l : List UInt8) : Value := .string ⟨l.toArray⟩

theorem itoa_g (n : Int) (h0 : -9223372036854775808 ≤ n) (h1 : n ≤ 9223372036854775807) (w : World) (hg : Gl w) :
    Calls Tryd.prog 55 #[.int .i64 n] w fun e w' => e = .returned (St (Lib.itoa n)) ∧ Below w.heap.size w w' :=
  (Tryd.strconv_Itoa n h0 h1 w hg.pow).mono fun e w' ⟨he, k, os, hw⟩ => ⟨he, by
    subst hw
    refine ⟨rfl, rfl, rfl, by simp [Sort.grow], fun k hk => ?_⟩
    simp [Sort.grow]
    rw [Array.getElem?_append_left (by simpa using hk)]⟩
theorem index_g (a b : ByteArray) (ha : a.size < 4294967281) (w : World) (hg : Gl w) :
    Calls Tryd.prog 72 #[.string a, .string b] w fun e w' => e = .returned (.int .i64 (Lib.index a.data.toList b.data.toList)) ∧ w = w' := by
  obtain ⟨m, hm⟩ := hg.maxLen
  exact (Tryd.strings_Index a b m w ha hm).mono fun _ _ ⟨he, hw⟩ => ⟨he, hw.symm⟩
theorem indexByte_g (a : ByteArray) (c : Int) (w : World) :
    Calls Tryd.prog 63 #[.string a, .int .u8 c] w fun e w' => e = .returned (.int .i64 (Lib.indexByte a.data.toList c.toNat.toUInt8)) ∧ w = w' :=
  (Tryd.strings_IndexByte a c w).mono fun _ _ ⟨he, hw⟩ => ⟨he, hw.symm⟩
theorem join_g (bk o c : Nat) (ls : List (List UInt8)) (sep : ByteArray) (w : World) (hcells : ∀ (j : Nat) x, ls[j]? = some x → w.cell? ⟨bk, o + j, none⟩ = some (St x)) (hbk : bk < w.heap.size) (hN : ls.length ≤ 140737488355328) (hcap : ls.length ≤ c) (hlen : (Lib.join ls sep.data.toList).length ≤ 140737488355328) :
    Calls Tryd.prog 58 #[.slice (some ⟨bk, o, none⟩) ls.length c, .string sep] w fun e w' => e = .returned (St (Lib.join ls sep.data.toList)) ∧ Below w.heap.size w w' := by
  have hm : (ls.map fun l => (⟨l.toArray⟩ : ByteArray)).map (·.data.toList) = ls := by rw [List.map_map]; exact List.map_id ls
  have h := Tryd.strings_Join bk o c (ls.map fun l => (⟨l.toArray⟩ : ByteArray)) sep w (fun j x hj => by
    simp only [List.getElem?_map, Option.map_eq_some_iff] at hj
    obtain ⟨l, hl, rfl⟩ := hj
    exact hcells j l hl) hbk (by simpa using hN) (by simpa using hcap) (by rw [hm]; exact hlen)
  rw [hm, List.length_map] at h
  exact h
end Go.Proofs.YtkiheanpamplpaaDoor
