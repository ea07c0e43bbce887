/-
  A message of the reference among the arguments, as the walks take it.
-/
import Derived.Test.YtkiheanpamplpaaDoorClose
import Derived.Test.YtkiheanpamplpaaDoorMaiB
import Derived.Carry
import Derived.SliceStrings
import Derived.ChangeArms
set_option linter.unusedSimpArgs false
set_option linter.unusedVariables false
set_option linter.unnecessarySimpa false
namespace Go.Proofs.YtkiheanpamplpaaDoor
open Go.ChangeShapes Go.WideShapes Go.ChangeAt Go.RowKit Go.Bul
theorem laidOutM : laidOutB Tryd.prog = true := by kernel_rfl
theorem cellsStr : Tryd.prog.cellsOf 9 = 1 := by kernel_rfl
theorem cellsInt : Tryd.prog.cellsOf 3 = 1 := by kernel_rfl
theorem cellsSl : Tryd.prog.cellsOf 24 = 1 := by kernel_rfl
theorem cellsA : Tryd.prog.cellsOf 23 = 2 := by kernel_rfl
theorem cellsM : Tryd.prog.cellsOf 26 = 9 := by kernel_rfl
section
variable {H : Type} {enc : TypeId × Value → H} {W : World} {base : Nat} {sp : Nat → Bool} {held : Bool}
theorem hops_of {t : TypeId} (ht : Tryd.prog.underlying t = some (.slice 9)) {fuel : Nat} {v : Value} {x : DataW H × List MemPlace} (h : DataW.trod enc Tryd.prog W base sp held fuel t [v] = some x) : ∃ zs, HopsIn W v zs ∧ zs.length ≤ maxLen ∧ ∀ z ∈ zs, z.size ≤ maxLen := by
  rcases open_strings ht Tryd.underlying9 cellsStr h with ⟨hcs, hx⟩ | ⟨a, len, cap, ss, hcs, _, hle, hmax, hall, hx, hcell, hsz⟩
  · obtain rfl : v = .slice none 0 0 := by simpa using hcs
    exact ⟨[], .inl ⟨rfl, none, 0, rfl, fun _ => rfl⟩, by unfold maxLen; simp, fun z hz => by cases hz⟩
  · obtain rfl : v = .slice (some a) len cap := by simpa using hcs
    have hlen : len ≤ ss.length := by rw [hall]; split <;> omega
    by_cases h0 : len = 0
    · subst h0
      exact ⟨[], .inl ⟨rfl, some a, cap, rfl, fun e => by cases e⟩, by unfold maxLen; simp, fun z hz => by cases hz⟩
    · obtain ⟨b, off, hab⟩ : ∃ b off, a = ⟨b, off, none⟩ := by
        have h1 := hcell 0 (by omega)
        have h2 : a.add 0 = a := by unfold Addr.add; simp
        rw [h2] at h1
        obtain ⟨b, off, f⟩ := a
        cases f with
        | none => exact ⟨b, off, rfl⟩
        | some f =>
          exfalso
          simp [World.cell?] at h1
          split at h1 <;> cases h1
      subst hab
      have hadd : ∀ i, (⟨b, off, none⟩ : Addr).add i = ⟨b, off + i, none⟩ := fun i => by unfold Addr.add; split <;> simp_all
      have hb : b < W.heap.size := by
        have h1 := hcell 0 (by omega)
        rw [hadd] at h1
        rcases Nat.lt_or_ge b W.heap.size with h | h
        · exact h
        · exfalso
          have h2 : W.heap[b]? = none := by simp [h]
          simp [World.cell?, h2] at h1
      have hl : (ss.take len).length = len := by rw [List.length_take]; omega
      refine ⟨ss.take len, .inr ⟨b, off, cap, by rw [hl], hb, by rw [hl]; exact hle, fun j hj => ?_⟩, by rw [hl]; omega, fun z hz => hsz z (List.mem_of_mem_take hz)⟩
      rw [hl] at hj
      have h1 := hcell j (by omega)
      rw [hadd] at h1
      rw [h1, List.getD_eq_getElem?_getD, List.getElem?_eq_getElem (by omega), Option.getD_some, List.getElem_take]
structure Ms.Big (m : Ms) : Prop where
  fu : m.fu.size ≤ maxLen
  fs : m.fs.size ≤ maxLen
  tu : m.tu.size ≤ maxLen
  ts : m.ts.size ≤ maxLen
  su : m.su.size ≤ maxLen
  bo : m.bo.size ≤ maxLen
  ho : ∀ z ∈ m.ho, z.size ≤ maxLen
  hn : m.ho.length ≤ maxLen
  nu : -9223372036854775808 ≤ m.nu ∧ m.nu ≤ 9223372036854775807
  da : -9223372036854775808 ≤ m.da ∧ m.da ≤ 9223372036854775807
set_option maxRecDepth 100000 in
theorem pair_of {c0 c1 : Value} {fuel : Nat} {x : DataW H × List MemPlace} (h : DataW.trod enc Tryd.prog W base sp held fuel 23 [c0, c1] = some x) : ∃ u s : ByteArray, c0 = .string u ∧ c1 = .string s ∧ u.size ≤ maxLen ∧ s.size ≤ maxLen := by
  obtain ⟨xs, n, _, hx, _, hlen, hg⟩ := DataW.trod_struct Tryd.underlying23 h
  match xs, hlen with
  | [y0, y1], _ =>
    have g0 : DataW.trod enc Tryd.prog W base sp held n 9 [c0] = some y0 := by have := hg 0 _ rfl; simpa [cellsStr] using this
    have g1 : DataW.trod enc Tryd.prog W base sp held n 9 [c1] = some y1 := by have := hg 1 _ rfl; simpa [cellsStr] using this
    obtain ⟨u, hu, _, su⟩ := DataW.trod_string Tryd.underlying9 g0
    obtain ⟨s, hs, _, ss⟩ := DataW.trod_string Tryd.underlying9 g1
    exact ⟨u, s, by simpa using hu, by simpa using hs, su, ss⟩
set_option maxRecDepth 100000 in
theorem open_M {r : Reach} {b0 : Nat} {v : Value} {d : DataW H} {p : List MemPlace} (hv : Value.okWide Tryd.prog W r b0 26 v) (h : DataW.Trod enc Tryd.prog W base sp held 26 v d p) : ∃ m hv', v = msgV m hv' ∧ HopsIn W hv' m.ho ∧ m.Big := by
  obtain ⟨cs, rfl, hsz⟩ := okWide_struct Tryd.underlying26 hv
  obtain ⟨l⟩ := cs
  match l, hsz.trans cellsM with
  | [c0, c1, c2, c3, c4, c5, c6, c7, c8], _ =>
    obtain ⟨fuel, hf⟩ := h
    obtain ⟨xs, n, _, hx, _, hlen, hg⟩ := DataW.trod_struct Tryd.underlying26 hf
    match xs, hlen with
    | [y0, y1, y2, y3, y4, y5, y6], _ =>
      have g0 : DataW.trod enc Tryd.prog W base sp held n 23 [c0, c1] = some y0 := by have := hg 0 _ rfl; simpa [cellsA, Value.cells] using this
      have g1 : DataW.trod enc Tryd.prog W base sp held n 23 [c2, c3] = some y1 := by have := hg 1 _ rfl; simpa [cellsA, Value.cells] using this
      have g2 : DataW.trod enc Tryd.prog W base sp held n 3 [c4] = some y2 := by have := hg 2 _ rfl; simpa [cellsInt, Value.cells] using this
      have g3 : DataW.trod enc Tryd.prog W base sp held n 3 [c5] = some y3 := by have := hg 3 _ rfl; simpa [cellsInt, Value.cells] using this
      have g4 : DataW.trod enc Tryd.prog W base sp held n 9 [c6] = some y4 := by have := hg 4 _ rfl; simpa [cellsStr, Value.cells] using this
      have g5 : DataW.trod enc Tryd.prog W base sp held n 24 [c7] = some y5 := by have := hg 5 _ rfl; simpa [cellsSl, Value.cells] using this
      have g6 : DataW.trod enc Tryd.prog W base sp held n 9 [c8] = some y6 := by have := hg 6 _ rfl; simpa [cellsStr, Value.cells] using this
      obtain ⟨fu, fs, e0, e1, s0, s1⟩ := pair_of g0
      obtain ⟨tu, ts, e2, e3, s2, s3⟩ := pair_of g1
      obtain ⟨nu, e4, _, s4⟩ := DataW.trod_int Tryd.underlying3 g2
      obtain ⟨da, e5, _, s5⟩ := DataW.trod_int Tryd.underlying3 g3
      obtain ⟨su, e6, _, s6⟩ := DataW.trod_string Tryd.underlying9 g4
      obtain ⟨ho, s7, s7', s7''⟩ := hops_of Tryd.underlying24 g5
      obtain ⟨bo, e8, _, s8⟩ := DataW.trod_string Tryd.underlying9 g6
      obtain rfl : c4 = .int .i64 nu := by simpa using e4
      obtain rfl : c5 = .int .i64 da := by simpa using e5
      obtain rfl : c6 = .string su := by simpa using e6
      obtain rfl : c8 = .string bo := by simpa using e8
      subst e0 e1 e2 e3
      exact ⟨⟨fu, fs, tu, ts, nu, da, su, ho, bo⟩, c7, rfl, s7, ⟨s0, s1, s2, s3, s6, s8, s7'', s7', by simpa [Lit.wf, IntKind.min, IntKind.max, IntKind.signed, IntKind.bits] using s4, by simpa [Lit.wf, IntKind.min, IntKind.max, IntKind.signed, IntKind.bits] using s5⟩⟩
end
end Go.Proofs.YtkiheanpamplpaaDoor
