/-
  The calendar, plainly: the later minute has the later calendar date and time.
-/
import Derived.Test.YtiijngjhhcjiaaaDoorDatA
set_option linter.unusedSimpArgs false
set_option linter.unusedVariables false
set_option linter.unnecessarySimpa false
namespace Go.Bul
theorem sumY_add (y a : Nat) : ∀ b, sumY y a ≤ sumY y (a + b)
  | 0 => Nat.le_refl _
  | b + 1 => by have := sumY_add y a b; rw [← Nat.add_assoc, sumY_snoc]; omega
theorem sumY_mono {y a b : Nat} (h : a ≤ b) : sumY y a ≤ sumY y b := by
  have := sumY_add y a (b - a)
  rwa [show a + (b - a) = b by omega] at this
theorem sumM_add (y m a : Nat) : ∀ b, sumM y m a ≤ sumM y m (a + b)
  | 0 => Nat.le_refl _
  | b + 1 => by have := sumM_add y m a b; rw [← Nat.add_assoc, sumM_snoc]; omega
theorem sumM_mono {y m a b : Nat} (h : a ≤ b) : sumM y m a ≤ sumM y m b := by
  have := sumM_add y m a (b - a)
  rwa [show a + (b - a) = b by omega] at this
/-- the days before a date, from day 0 on -/
def daysOf (c : Civ) : Nat := c.d - 1 + sumY 2000 (c.y - 2000) + sumM c.y 1 (c.m - 1)
theorem days_month {c : Civ} (h : CivOk c) : c.d - 1 + sumM c.y 1 (c.m - 1) < sumM c.y 1 c.m := by
  have h1 := h.m0
  have h2 := h.d0
  have h3 := h.d1
  have h4 := sumM_snoc c.y 1 (c.m - 1)
  rw [show c.m - 1 + 1 = c.m by omega, show 1 + (c.m - 1) = c.m by omega] at h4
  omega
theorem days_year {c : Civ} (h : CivOk c) : daysOf c < sumY 2000 (c.y - 2000 + 1) := by
  have h1 := days_month h
  have h2 : sumM c.y 1 c.m ≤ sumM c.y 1 12 := sumM_mono h.m1
  rw [sumM_year] at h2
  have h3 := sumY_snoc 2000 (c.y - 2000)
  rw [show 2000 + (c.y - 2000) = c.y by have := h.y0; omega] at h3
  unfold daysOf
  omega
theorem minOf_days (c : Civ) : minOf c = daysOf c * 1440 + c.h * 60 + c.mi := rfl
theorem lt_days {x y : Civ} (hx : CivOk x) (hy : CivOk y) (h : daysOf x < daysOf y) : minOf x < minOf y := by
  rw [minOf_days, minOf_days]
  have := hx.h1
  have := hx.mi1
  omega
theorem lt_year {x y : Civ} (hx : CivOk x) (hy : CivOk y) (h : x.y < y.y) : minOf x < minOf y := by
  refine lt_days hx hy ?_
  have h1 := days_year hx
  have h2 : sumY 2000 (x.y - 2000 + 1) ≤ sumY 2000 (y.y - 2000) := sumY_mono (by have := hx.y0; omega)
  have h3 : sumY 2000 (y.y - 2000) ≤ daysOf y := by unfold daysOf; omega
  omega
theorem lt_month {x y : Civ} (hx : CivOk x) (hy : CivOk y) (e1 : x.y = y.y) (h : x.m < y.m) : minOf x < minOf y := by
  refine lt_days hx hy ?_
  have h1 := days_month hx
  have h2 : sumM x.y 1 x.m ≤ sumM x.y 1 (y.m - 1) := sumM_mono (by omega)
  unfold daysOf
  rw [← e1]
  omega
theorem lt_day {x y : Civ} (hx : CivOk x) (hy : CivOk y) (e1 : x.y = y.y) (e2 : x.m = y.m) (h : x.d < y.d) : minOf x < minOf y := by
  refine lt_days hx hy ?_
  have := hx.d0
  unfold daysOf
  rw [← e1, ← e2]
  omega
theorem lt_hour {x y : Civ} (hx : CivOk x) (hy : CivOk y) (e1 : x.y = y.y) (e2 : x.m = y.m) (e3 : x.d = y.d) (h : x.h < y.h) : minOf x < minOf y := by
  rw [minOf_days, minOf_days, show daysOf x = daysOf y by unfold daysOf; rw [e1, e2, e3]]
  have := hx.mi1
  omega
theorem lt_min {x y : Civ} (e1 : x.y = y.y) (e2 : x.m = y.m) (e3 : x.d = y.d) (e4 : x.h = y.h) (h : x.mi < y.mi) : minOf x < minOf y := by
  rw [minOf_days, minOf_days, show daysOf x = daysOf y by unfold daysOf; rw [e1, e2, e3], e4]
  omega
/-- P of the components, as the law DateOrder compares them: the first that differs decides -/
theorem order_law (a b : Nat) :
    let x := civOf a
    let y := civOf b
    (x.y ≠ y.y → (a < b ↔ x.y < y.y)) ∧ (x.y = y.y → x.m ≠ y.m → (a < b ↔ x.m < y.m)) ∧ (x.y = y.y → x.m = y.m → x.d ≠ y.d → (a < b ↔ x.d < y.d)) ∧
    (x.y = y.y → x.m = y.m → x.d = y.d → x.h ≠ y.h → (a < b ↔ x.h < y.h)) ∧ (x.y = y.y → x.m = y.m → x.d = y.d → x.h = y.h → x.mi ≠ y.mi → (a < b ↔ x.mi < y.mi)) ∧
    (x.y = y.y → x.m = y.m → x.d = y.d → x.h = y.h → x.mi = y.mi → a = b) := by
  have hx := civOf_ok a
  have hy := civOf_ok b
  have ha := minOf_civOf a
  have hb := minOf_civOf b
  intro x y
  change CivOk x at hx
  change CivOk y at hy
  change minOf x = a at ha
  change minOf y = b at hb
  have key : ∀ (P Q : Prop), (P → minOf x < minOf y) → (Q → minOf y < minOf x) → (P ∨ Q) → (a < b ↔ P) := by
    intro P Q h1 h2 h3
    rw [← ha, ← hb]
    constructor
    · intro h
      rcases h3 with h4 | h4
      · exact h4
      · have := h2 h4; omega
    · exact h1
  refine ⟨fun h => ?_, fun e1 h => ?_, fun e1 e2 h => ?_, fun e1 e2 e3 h => ?_, fun e1 e2 e3 e4 h => ?_, fun e1 e2 e3 e4 e5 => ?_⟩
  · exact key _ (y.y < x.y) (lt_year hx hy) (lt_year hy hx) (by omega)
  · exact key _ (y.m < x.m) (lt_month hx hy e1) (lt_month hy hx e1.symm) (by omega)
  · exact key _ (y.d < x.d) (lt_day hx hy e1 e2) (lt_day hy hx e1.symm e2.symm) (by omega)
  · exact key _ (y.h < x.h) (lt_hour hx hy e1 e2 e3) (lt_hour hy hx e1.symm e2.symm e3.symm) (by omega)
  · exact key _ (y.mi < x.mi) (lt_min e1 e2 e3 e4) (lt_min e1.symm e2.symm e3.symm e4.symm) (by omega)
  · rw [← ha, ← hb, minOf_days, minOf_days, show daysOf x = daysOf y by unfold daysOf; rw [e1, e2, e3], e4, e5]
end Go.Bul
