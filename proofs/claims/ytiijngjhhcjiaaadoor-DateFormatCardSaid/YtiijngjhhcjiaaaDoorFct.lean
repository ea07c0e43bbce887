/-
  A region that draws its order, by facts: each operation has a fact about its slot that lasts in all later worlds; one obligation an operation serves every order.
-/
import Derived.Test.YtiijngjhhcjiaaaDoorBase
set_option linter.unusedSimpArgs false
set_option linter.unusedVariables false
set_option linter.unnecessarySimpa false
namespace Go.Bul
open Go.RowKit
section
variable {P : Program} {ops : Array Oper} {md : Region.Mode} {Q : Exit → Act → World → Prop}
def unF (listed : Array Bool) : Nat := listed.toList.count false
theorem unF_set {listed : Array Bool} {i : Nat} (h : listed.getD i true = false) : unF (listed.setIfInBounds i true) + 1 = unF listed := by
  have hi : i < listed.size := by
    rcases Nat.lt_or_ge i listed.size with h' | h'
    · exact h'
    · simp [Array.getElem?_eq_none h'] at h
  have hl : listed.toList[i]'(by simpa using hi) = false := by simpa [hi] using h
  unfold unF
  have h0 : 0 < listed.toList.count false := List.count_pos_iff.2 (by rw [← hl]; exact List.getElem_mem _)
  have h1 := List.count_set (a := true) (b := false) (l := listed.toList) (i := i) (by simpa using hi)
  rw [hl, if_pos (by decide), if_neg (by decide)] at h1
  rw [Array.toList_setIfInBounds]
  omega
theorem unF_zero {listed : Array Bool} (h : unF listed = 0) (i : Nat) : listed.getD i true = true := by
  rcases Nat.lt_or_ge i listed.size with h' | h'
  · have := List.count_eq_zero.1 h
    cases hb : listed[i] with
    | true => simp [h', hb]
    | false => exact absurd (by rw [← hb]; simp) this
  · simp [Array.getElem?_eq_none h']
theorem wpAny_by {Inv : Array Bool → Act → World → Prop}
    (hstep : ∀ (i : Nat) (o : Oper), ops[i]? = some o → ∀ listed a w, Inv listed a w → listed.getD i true = false → (∀ e ∈ o.after, Region.binds md e = true → listed.getD e.on false = true) → wpOp P ops Q i (fun a' w' => Inv (listed.setIfInBounds i true) a' w') a w)
    (hend : ∀ listed a w, Inv listed a w → Region.ready md ops listed = [] → Q .normal a w) :
    ∀ (fuel : Nat) (listed : Array Bool) (a : Act) (w : World), Inv listed a w → unF listed ≤ fuel → wpAny P md ops Q fuel listed a w
  | 0, listed, a, w, h, hf => by
    have h0 : Region.ready md ops listed = [] := by
      rw [List.eq_nil_iff_forall_not_mem]
      intro i hi
      have := (mem_ready.1 hi).1
      rw [unF_zero (by omega) i] at this
      cases this
    exact ⟨h0, hend _ _ _ h h0⟩
  | fuel + 1, listed, a, w, h, hf => ⟨fun h0 => hend _ _ _ h h0, fun i hi => by
    obtain ⟨h1, o, ho, h2⟩ := mem_ready.1 hi
    refine wpOp_mono (fun a' w' h' => wpAny_by hstep hend fuel _ a' w' h' ?_) (hstep i o ho listed a w h h1 h2)
    have := unF_set h1
    omega⟩
/-- the slot that operation i writes -/
def slotAt (ops : Array Oper) (i : Nat) : Option Tmp := (ops[i]?).bind (·.dst)
/-- no operation writes slot d -/
def freeB (ops : Array Oper) (d : Nat) : Bool := (List.range ops.size).all fun i => slotAt ops i != some d
theorem free_of {d : Nat} (h : freeB ops d = true) (i : Nat) : slotAt ops i ≠ some d := by
  rcases Nat.lt_or_ge i ops.size with hi | hi
  · have := List.all_eq_true.1 h i (List.mem_range.2 hi)
    simpa using this
  · unfold slotAt
    rw [Array.getElem?_eq_none hi]
    simp
/-- each operation has a slot of its own below n, and waits for earlier ones alone -/
def factsB (ops : Array Oper) (n : Nat) : Bool :=
  (List.range ops.size).all fun i => match ops[i]? with
    | none => false
    | some o => (o.after.toList.all fun e => decide (e.on < i)) && (match o.dst with
      | some d => decide (d < n) && (List.range i).all (fun j => slotAt ops j != some d)
      | none => false)
theorem facts_at {n : Nat} (h : factsB ops n = true) {i : Nat} {o : Oper} (ho : ops[i]? = some o) :
    (∀ e ∈ o.after, e.on < i) ∧ ∃ d, o.dst = some d ∧ d < n ∧ ∀ j, j < i → slotAt ops j ≠ some d := by
  have hi : i < ops.size := (Array.getElem?_eq_some_iff.1 ho).1
  have := List.all_eq_true.1 h i (List.mem_range.2 hi)
  rw [ho] at this
  simp only [Bool.and_eq_true] at this
  obtain ⟨h1, h2⟩ := this
  refine ⟨fun e he => by simpa using List.all_eq_true.1 h1 e (by simpa using he), ?_⟩
  cases hd : o.dst with
  | none => rw [hd] at h2; cases h2
  | some d =>
    rw [hd] at h2
    simp only [Bool.and_eq_true, decide_eq_true_eq] at h2
    exact ⟨d, rfl, h2.1, fun j hj => by simpa using List.all_eq_true.1 h2.2 j (List.mem_range.2 hj)⟩
theorem slot_inj {n : Nat} (h : factsB ops n = true) {i j d : Nat} (hi : slotAt ops i = some d) (hj : slotAt ops j = some d) : i = j := by
  have key : ∀ i j, i < j → slotAt ops i = some d → slotAt ops j = some d → False := by
    intro i j hlt hi hj
    unfold slotAt at hj
    cases ho : ops[j]? with
    | none => rw [ho] at hj; cases hj
    | some o =>
      rw [ho] at hj
      obtain ⟨_, d', hd', _, hne⟩ := facts_at h ho
      have : d' = d := by
        have hj' : o.dst = some d := hj
        rw [hd'] at hj'
        exact Option.some.inj hj'
      exact hne i hlt (by rw [this]; exact hi)
  rcases Nat.lt_trichotomy i j with hlt | rfl | hlt
  · exact (key i j hlt hi hj).elim
  · rfl
  · exact (key j i hlt hj hi).elim
theorem getD_put_same {a : Act} {d : Nat} (h : d < a.tmps.size) (v : Value) : (a.put (some d) v).tmps.getD d undef = v := by
  simp [Act.put, h]
theorem getD_put_ne {a : Act} {d d' : Nat} (h : d' ≠ d) (v : Value) : (a.put (some d) v).tmps.getD d' undef = a.tmps.getD d' undef := by
  simp only [Act.put, Array.getD_eq_getD_getElem?]
  rw [Array.getElem?_setIfInBounds_ne (by omega)]
theorem size_put (a : Act) (d : Option Tmp) (v : Value) : (a.put d v).tmps.size = a.tmps.size := by
  cases d <;> simp [Act.put]
theorem defers_put (a : Act) (d : Option Tmp) (v : Value) : (a.put d v).defers = a.defers := by
  cases d <;> rfl
theorem wp_region_facts {id : Nat} {a : Act} {w : World} (Good : World → Prop) (Le : World → World → Prop) (Fact : Nat → World → Value → Prop) (hm : P.follows .mixedOrders = true)
    (hfb : factsB ops a.tmps.size = true) (hgood : Good w.drew) (hrefl : ∀ W, Le W W)
    (hmono : ∀ i W W' v, Fact i W v → Le W W' → Fact i W' v)
    (hstep : ∀ (i : Nat) (o : Oper) (d : Nat), ops[i]? = some o → o.dst = some d → ∀ (a' : Act) (W : World), Good W → (∀ x, freeB ops x = true → a'.tmps.getD x undef = a.tmps.getD x undef) →
      (∀ j g, Edge.mk j g ∈ o.after → Region.binds .any ⟨j, g⟩ = true → ∀ x, slotAt ops j = some x → Fact j W (a'.tmps.getD x undef)) →
      ∀ K : Act → World → Prop, (∀ v W', Good W' → Le W W' → Fact i W' v → K (a'.put (some d) v) W') → if Region.wanted o (yielded ops a'.tmps) = true then Oper.wp P o a' W K Q else K (a'.put (some d) undef) W)
    (hend : ∀ (a' : Act) (W : World), a'.defers = a.defers → a'.tmps.size = a.tmps.size → Good W → (∀ x, freeB ops x = true → a'.tmps.getD x undef = a.tmps.getD x undef) →
      (∀ i x, slotAt ops i = some x → Fact i W (a'.tmps.getD x undef)) → Q .normal a' W) : (Code.region id ops true).wp P Q a w := by
  refine wp_region_any hm (wpAny_by (Inv := fun listed a' W => a'.defers = a.defers ∧ a'.tmps.size = a.tmps.size ∧ (∀ x, freeB ops x = true → a'.tmps.getD x undef = a.tmps.getD x undef) ∧ Good W ∧
    (∀ i x, slotAt ops i = some x → listed.getD i false = true → Fact i W (a'.tmps.getD x undef)) ∧ listed.size = ops.size) ?_ ?_ _ _ _ _ ⟨rfl, rfl, fun _ _ => rfl, hgood, fun i x hx hl => ?_, by simp⟩ (by unfold unF; simp))
  · rintro i o ho listed a' W ⟨h1, h2, h3, h4, h5, h6⟩ hun hdeps
    obtain ⟨hback, d, hd, hdn, hne⟩ := facts_at hfb ho
    have hsl : slotAt ops i = some d := by unfold slotAt; rw [ho]; exact hd
    have hi : i < listed.size := by rw [h6]; exact (Array.getElem?_eq_some_iff.1 ho).1
    refine wpOp_step ho (fun K hK => ?_)
    rw [hd]
    refine hstep i o d ho hd a' W h4 h3 (fun j g he hb x hx => h5 j x hx (hdeps _ he hb)) K (fun v W' hg hle hf => hK _ _ ⟨?_, ?_, ?_, hg, ?_, ?_⟩)
    · rw [defers_put]; exact h1
    · rw [size_put]; exact h2
    · intro x hx
      rw [getD_put_ne (fun e => free_of hx i (by rw [hsl, e])), h3 x hx]
    · intro j x hx hl
      by_cases hji : j = i
      · subst hji
        rw [hsl] at hx
        obtain rfl := Option.some.inj hx
        rw [getD_put_same (by rw [h2]; exact hdn)]
        exact hf
      · rw [getD_put_ne (fun e => hji (slot_inj hfb (by rw [hx, e]) hsl))]
        refine hmono _ _ _ _ (h5 j x hx ?_) hle
        rw [Array.getD_eq_getD_getElem?, Array.getElem?_setIfInBounds_ne (fun e => hji e.symm)] at hl
        rw [Array.getD_eq_getD_getElem?]
        exact hl
    · rw [Array.size_setIfInBounds]; exact h6
  · rintro listed a' W ⟨h1, h2, h3, h4, h5, h6⟩ hready
    refine hend a' W h1 h2 h4 h3 (fun i x hx => h5 i x hx ?_)
    have all : ∀ k i, i < k → i < ops.size → listed.getD i false = true := by
      intro k
      induction k with
      | zero => intro i hi; omega
      | succ k ih =>
        intro i hik hi
        cases hl : listed.getD i false with
        | true => rfl
        | false =>
          exfalso
          have hmem : i ∈ Region.ready .any ops listed := by
            refine mem_ready.2 ⟨?_, ops[i], by simp [hi], fun e he _ => ?_⟩
            · rw [Array.getD_eq_getD_getElem?, Array.getElem?_eq_getElem (by omega)] at hl ⊢
              exact hl
            · obtain ⟨hback, _⟩ := facts_at hfb (show ops[i]? = some ops[i] by simp [hi])
              have := hback e he
              exact ih e.on (by omega) (by omega)
          rw [hready] at hmem
          cases hmem
    have hi : i < ops.size := by
      unfold slotAt at hx
      cases ho : ops[i]? with
      | none => rw [ho] at hx; cases hx
      | some o => exact (Array.getElem?_eq_some_iff.1 ho).1
    exact all (i + 1) i (by omega) hi
  · exfalso
    rw [Array.getD_eq_getD_getElem?] at hl
    rcases Nat.lt_or_ge i ops.size with h | h
    · rw [Array.getElem?_eq_getElem (by simpa using h)] at hl
      simp at hl
    · rw [Array.getElem?_eq_none (by simpa using h)] at hl
      simp at hl
theorem act_ext {a : Act} {vs : Array Value} {ds : List Deferred} (hd : a.defers = ds) (hs : a.tmps.size = vs.size) (h : ∀ d, d < vs.size → a.tmps.getD d undef = vs.getD d undef) : a = ⟨vs, ds⟩ := by
  obtain ⟨t, ds'⟩ := a
  obtain rfl : ds' = ds := hd
  congr
  refine Array.ext hs (fun i h1 h2 => ?_)
  have := h i h2
  simpa [h1, h2] using this
end
end Go.Bul
