/-
  Package date: leap years, the days of years and months.
-/
import Derived.Test.YtiijngjhhcjiaaaDoorDatA
set_option linter.unusedSimpArgs false
set_option linter.unusedVariables false
set_option linter.unnecessarySimpa false
namespace Go.Proofs.YtiijngjhhcjiaaaDoor
open Go.RowKit Go.Bul
theorem setCell_block {w : World} {b k : Nat} {u : Value} {cs : Array Value} {t : TypeId} {fr : Nat × Nat} (h : w.heap[b]? = some (.cells cs t fr)) : (w.setCell ⟨b, k, none⟩ u).heap[b]? = some (.cells (cs.setIfInBounds k u) t fr) := by
  simp [World.setCell, Array.getElem?_modify, h]
set_option maxRecDepth 100000 in
theorem valid_s (n : Int) (w : World) : Calls Tryd.prog 13 #[.int .i64 n] w fun e w' => e = .returned (.bool (decide (0 ≤ n ∧ n ≤ 105190559))) ∧ w = w' := by
  by_cases h0 : 0 ≤ n <;> by_cases h1 : n ≤ 105190559
  all_goals
    go_enter Tryd.func13, Tryd.ntmps13
    go_wp2_with fail
    go_ret
    exact ⟨by simp [h0, h1], rfl⟩
theorem mod_eq (y k : Nat) (b : Bool) (h : (y % k == 0) = b) : ((y : Int) % (k : Int) == 0) = b := by
  rw [← h, Bool.eq_iff_iff]
  simp
  omega
theorem mod_ne (y k : Nat) (b : Bool) (h : (y % k != 0) = b) : ((y : Int) % (k : Int) != 0) = b := by
  rw [← h, Bool.eq_iff_iff]
  simp
  omega
set_option maxRecDepth 100000 in
theorem leap_s (y : Nat) (w : World) : Calls Tryd.prog 40 #[.int .i64 y] w fun e w' => e = .returned (.bool (leapB y)) ∧ w = w' := by
  have hm4 : ((y : Int) % 4 == 0) = _ := mod_eq y 4 _ rfl
  have hm100 : ((y : Int) % 100 != 0) = _ := mod_ne y 100 _ rfl
  have hm400 : ((y : Int) % 400 == 0) = _ := mod_eq y 400 _ rfl
  cases h4 : (y % 4 == 0) <;> cases h100 : (y % 100 != 0) <;> cases h400 : (y % 400 == 0)
  all_goals
    rw [h4] at hm4
    rw [h100] at hm100
    rw [h400] at hm400
    go_enter Tryd.func40, Tryd.ntmps40
    go_wp2_with fail
    go_ret
    exact ⟨by unfold leapB; rw [h4, h100, h400]; rfl, rfl⟩
set_option maxRecDepth 100000 in
theorem refLeap_s (y : Nat) (w : World) : Calls Tryd.prog 29 #[.int .i64 y] w fun e w' => e = .returned (.bool (leapB y)) ∧ w = w' := by
  have hm4 : ((y : Int) % 4 == 0) = _ := mod_eq y 4 _ rfl
  have hm100 : ((y : Int) % 100 != 0) = _ := mod_ne y 100 _ rfl
  have hm400 : ((y : Int) % 400 == 0) = _ := mod_eq y 400 _ rfl
  cases h4 : (y % 4 == 0) <;> cases h100 : (y % 100 != 0) <;> cases h400 : (y % 400 == 0)
  all_goals
    rw [h4] at hm4
    rw [h100] at hm100
    rw [h400] at hm400
    go_enter Tryd.func29, Tryd.ntmps29
    go_wp2_with fail
    go_ret
    exact ⟨by unfold leapB; rw [h4, h100, h400]; rfl, rfl⟩
set_option maxRecDepth 100000 in
theorem yearDays_s (y : Nat) (w : World) : Calls Tryd.prog 27 #[.int .i64 y] w fun e w' => e = .returned (.int .i64 (yearD y)) ∧ w = w' := by
  go_enter Tryd.func27, Tryd.ntmps27
  go_wp2_with fail
  refine (leap_s y w).mono ?_
  rintro e w' ⟨rfl, rfl⟩
  cases h : leapB y
  all_goals
    go_wp2_with fail
    go_ret
    exact ⟨by unfold yearD; rw [h]; rfl, rfl⟩
set_option maxRecDepth 100000 in
set_option maxHeartbeats 4000000 in
theorem monthDays_s (y m : Nat) (h0 : 1 ≤ m) (h1 : m ≤ 12) (w : World) : Calls Tryd.prog 28 #[.int .i64 y, .int .i64 m] w fun e w' => e = .returned (.int .i64 (monthD y m)) ∧ Below w.heap.size w w' := by
  by_cases h2 : m = 2
  · subst h2
    go_enter Tryd.func28, Tryd.ntmps28
    go_wp2_with fail
    refine (leap_s y _).mono ?_
    rintro e w' ⟨rfl, rfl⟩
    cases h : leapB y
    all_goals
      go_wp2_with fail
      go_ret
      first
        | exact ⟨by simp [monthD, monthT, h], (Below.refl _ _).alloc (Nat.le_refl _) _⟩
        | exact ⟨by simp [monthD, monthT, h], Below.refl _ _⟩
  · obtain rfl | rfl | rfl | rfl | rfl | rfl | rfl | rfl | rfl | rfl | rfl : m = 1 ∨ m = 3 ∨ m = 4 ∨ m = 5 ∨ m = 6 ∨ m = 7 ∨ m = 8 ∨ m = 9 ∨ m = 10 ∨ m = 11 ∨ m = 12 := by omega
    all_goals
      go_enter Tryd.func28, Tryd.ntmps28
      go_wp2_with fail
      go_ret
      exact ⟨by simp [monthD, monthT], (Below.refl _ _).alloc (Nat.le_refl _) _⟩
set_option maxRecDepth 100000 in
set_option maxHeartbeats 4000000 in
theorem refDays_s (y m : Nat) (h0 : 1 ≤ m) (h1 : m ≤ 12) (w : World) : Calls Tryd.prog 30 #[.int .i64 y, .int .i64 m] w fun e w' => e = .returned (.int .i64 (monthD y m)) ∧ Below w.heap.size w w' := by
  by_cases h2 : m = 2
  · subst h2
    go_enter Tryd.func30, Tryd.ntmps30
    go_wp2_with fail
    refine (refLeap_s y _).mono ?_
    rintro e w' ⟨rfl, rfl⟩
    cases h : leapB y
    all_goals
      go_wp2_with fail
      go_ret
      first
        | exact ⟨by simp [monthD, monthT, h], (Below.refl _ _).alloc (Nat.le_refl _) _⟩
        | exact ⟨by simp [monthD, monthT, h], Below.refl _ _⟩
  · obtain rfl | rfl | rfl | rfl | rfl | rfl | rfl | rfl | rfl | rfl | rfl : m = 1 ∨ m = 3 ∨ m = 4 ∨ m = 5 ∨ m = 6 ∨ m = 7 ∨ m = 8 ∨ m = 9 ∨ m = 10 ∨ m = 11 ∨ m = 12 := by omega
    all_goals
      go_enter Tryd.func30, Tryd.ntmps30
      go_wp2_with fail
      go_ret
      exact ⟨by simp [monthD, monthT], (Below.refl _ _).alloc (Nat.le_refl _) _⟩
end Go.Proofs.YtiijngjhhcjiaaaDoor
