/-
  A slice of bytes among the arguments, as the walks take it.
-/
import Derived.Test.YtgmamplnhechjaaDoorClose
import Derived.Test.YtgmamplnhechjaaDoorAscH
import Derived.Carry
set_option linter.unusedSimpArgs false
set_option linter.unusedVariables false
set_option linter.unnecessarySimpa false
namespace Go.Proofs.YtgmamplnhechjaaDoor
open Go.ChangeShapes Go.WideShapes Go.ChangeAt Go.RowKit Go.Bul
theorem laidOutP : laidOutB Tryd.prog = true := by kernel_rfl
theorem cellsU8 : Tryd.prog.cellsOf 5 = 1 := by kernel_rfl
theorem bys_of {H : Type} {enc : TypeId × Value → H} {W : World} {base : Nat} {v : Value} {d : DataW H} {p : List MemPlace} (hv : Value.okWide Tryd.prog W .any base 39 v)
    (h : DataW.Trod enc Tryd.prog W 0 (fun _ => true) true 39 v d p) : ∃ l, BysIn W v l ∧ l.length ≤ maxLen ∧ ∀ a n c, v = .slice a n c → n ≤ c := by
  obtain ⟨a0, len, cap, rfl⟩ := okWide_slice Tryd.underlying39 hv
  obtain ⟨fuel, hf⟩ := h
  rcases open_ints Tryd.underlying39 Tryd.underlying5 cellsU8 hf with ⟨hcs, hx⟩ | ⟨a, len', cap', zs, hcs, _, hle, hmax, hall, hx, cell, wf⟩
  · simp [Value.cells] at hcs
    obtain ⟨rfl, rfl, rfl⟩ := hcs
    exact ⟨[], .inl ⟨rfl, _, _, rfl⟩, by unfold maxLen; simp, fun a n c e => by cases e; exact Nat.le_refl _⟩
  · simp [Value.cells] at hcs
    obtain ⟨rfl, rfl, rfl⟩ := hcs
    have hall : zs.length = cap := by simpa using hall
    by_cases h0 : len = 0
    · subst h0
      exact ⟨[], .inl ⟨rfl, _, _, rfl⟩, by unfold maxLen; simp, fun a n c e => by cases e; exact Nat.zero_le _⟩
    · obtain ⟨b, off, rfl, hc⟩ := ints_at cell (by omega)
      have hb : b < W.heap.size := by
        rcases Nat.lt_or_ge b W.heap.size with h | h
        · exact h
        · exfalso
          have h1 := hc 0 (by omega)
          have h2 : W.heap[b]? = none := by simp [h]
          simp [World.cell?, h2] at h1
      refine ⟨(zs.take len).map (fun z => UInt8.ofNat z.toNat), .inr ⟨b, off, cap, by simp; omega, hb, fun j hj => ?_⟩, by simp; omega, fun a n c e => by cases e; exact hle⟩
      simp at hj
      rw [hc j (by omega)]
      have hz : zs.getD j 0 ∈ zs := by
        rw [List.getD_eq_getElem?_getD, List.getElem?_eq_getElem (by omega), Option.getD_some]
        exact List.getElem_mem _
      have h5 := wf _ hz
      have e1 : IntKind.u8.min = 0 := rfl
      have e2 : IntKind.u8.max = 255 := rfl
      have h6 : 0 ≤ zs.getD j 0 ∧ zs.getD j 0 ≤ 255 := by simpa [Lit.wf, e1, e2] using h5
      simp only [List.getElem_map, List.getElem_take]
      rw [List.getD_eq_getElem?_getD, List.getElem?_eq_getElem (by omega), Option.getD_some] at h6 ⊢
      congr 2
      rw [UInt8.toNat_ofNat']
      omega
end Go.Proofs.YtgmamplnhechjaaDoor
