/-
  The calendar, plainly: years, months, days; the inverse; the order.
-/
import Derived.Test.YtiijngjhhcjiaaaDoorBase
set_option linter.unusedSimpArgs false
set_option linter.unusedVariables false
set_option linter.unnecessarySimpa false
namespace Go.Bul
def leapB (y : Nat) : Bool := (y % 4 == 0 && y % 100 != 0) || y % 400 == 0
def yearD (y : Nat) : Nat := if leapB y then 366 else 365
theorem yearD_ge (y : Nat) : 365 ≤ yearD y := by unfold yearD; split <;> omega
theorem yearD_le (y : Nat) : yearD y ≤ 366 := by unfold yearD; split <;> omega
def monthT : List Nat := [31, 28, 31, 30, 31, 30, 31, 31, 30, 31, 30, 31]
def monthD (y m : Nat) : Nat := if m = 2 ∧ leapB y = true then 29 else monthT.getD (m - 1) 31
theorem monthD_ge (y m : Nat) : 28 ≤ monthD y m := by
  unfold monthD
  split
  · omega
  · have : ∀ k, k < 12 → 28 ≤ monthT.getD k 31 := by decide
    rcases Nat.lt_or_ge (m - 1) 12 with h | h
    · exact this _ h
    · rw [List.getD_eq_getElem?_getD, List.getElem?_eq_none (by simpa [monthT] using h)]; decide
theorem monthD_le (y m : Nat) : monthD y m ≤ 31 := by
  unfold monthD
  split
  · omega
  · have : ∀ k, k < 12 → monthT.getD k 31 ≤ 31 := by decide
    rcases Nat.lt_or_ge (m - 1) 12 with h | h
    · exact this _ h
    · rw [List.getD_eq_getElem?_getD, List.getElem?_eq_none (by simpa [monthT] using h)]; decide
def yearG (d y : Nat) : Nat × Nat := if h : d < yearD y then (d, y) else yearG (d - yearD y) (y + 1)
termination_by d
decreasing_by have := yearD_ge y; omega
theorem yearG_lt {d y : Nat} (h : d < yearD y) : yearG d y = (d, y) := by rw [yearG, dif_pos h]
theorem yearG_ge {d y : Nat} (h : yearD y ≤ d) : yearG d y = yearG (d - yearD y) (y + 1) := by rw [yearG, dif_neg (by omega)]
def monthG (d y m : Nat) : Nat × Nat := if h : 12 ≤ m ∨ d < monthD y m then (d, m) else monthG (d - monthD y m) y (m + 1)
termination_by 12 - m
theorem monthG_lt {d y m : Nat} (h : d < monthD y m) : monthG d y m = (d, m) := by rw [monthG, dif_pos (.inr h)]
theorem monthG_ge {d y m : Nat} (h : monthD y m ≤ d) (hm : m < 12) : monthG d y m = monthG (d - monthD y m) y (m + 1) := by rw [monthG, dif_neg (by omega)]
/-- the days of the k years from y on -/
def sumY (y : Nat) : Nat → Nat
  | 0 => 0
  | k + 1 => yearD y + sumY (y + 1) k
theorem sumY_snoc (y : Nat) : ∀ k, sumY y (k + 1) = sumY y k + yearD (y + k)
  | 0 => by simp [sumY]
  | k + 1 => by
    have := sumY_snoc (y + 1) k
    rw [sumY, this, sumY, show y + 1 + k = y + (k + 1) by omega]
    omega
/-- the days of the k months from m on -/
def sumM (y m : Nat) : Nat → Nat
  | 0 => 0
  | k + 1 => monthD y m + sumM y (m + 1) k
theorem sumM_snoc (y m : Nat) : ∀ k, sumM y m (k + 1) = sumM y m k + monthD y (m + k)
  | 0 => by simp [sumM]
  | k + 1 => by
    have := sumM_snoc y (m + 1) k
    rw [sumM, this, sumM, show m + 1 + k = m + (k + 1) by omega]
    omega
theorem sumM_year (y : Nat) : sumM y 1 12 = yearD y := by
  unfold yearD
  simp only [sumM, monthD, monthT]
  cases h : leapB y <;> simp
theorem yearG_spec : ∀ (n d y : Nat), d ≤ n → ∃ k, (yearG d y).2 = y + k ∧ d = (yearG d y).1 + sumY y k ∧ (yearG d y).1 < yearD (y + k)
  | n, d, y, hn => by
    rcases Nat.lt_or_ge d (yearD y) with h | h
    · exact ⟨0, by rw [yearG_lt h]; rfl, by rw [yearG_lt h]; rfl, by rw [yearG_lt h]; exact h⟩
    · have := yearD_ge y
      match n, hn with
      | 0, hn => omega
      | n + 1, hn =>
        obtain ⟨k, h1, h2, h3⟩ := yearG_spec n (d - yearD y) (y + 1) (by omega)
        rw [yearG_ge h]
        exact ⟨k + 1, by rw [h1]; omega, by rw [sumY]; omega, by rw [show y + (k + 1) = y + 1 + k by omega]; exact h3⟩
theorem monthG_spec (y : Nat) : ∀ (n d m : Nat), m + n = 12 → 1 ≤ m → d < sumM y m (n + 1) → ∃ k, k ≤ n ∧ (monthG d y m).2 = m + k ∧ d = (monthG d y m).1 + sumM y m k ∧ (monthG d y m).1 < monthD y (m + k)
  | n, d, m, hn, h1, hd => by
    rcases Nat.lt_or_ge d (monthD y m) with h | h
    · exact ⟨0, Nat.zero_le _, by rw [monthG_lt h]; rfl, by rw [monthG_lt h]; rfl, by rw [monthG_lt h]; exact h⟩
    · match n, hn, hd with
      | 0, hn, hd => simp [sumM] at hd; omega
      | n + 1, hn, hd =>
        rw [sumM] at hd
        obtain ⟨k, h0, h2, h3, h4⟩ := monthG_spec y n (d - monthD y m) (m + 1) (by omega) (by omega) (by omega)
        rw [monthG_ge h (by omega)]
        exact ⟨k + 1, by omega, by rw [h2]; omega, by rw [sumM]; omega, by rw [show m + (k + 1) = m + 1 + k by omega]; exact h4⟩
structure Civ where
  y : Nat
  m : Nat
  d : Nat
  h : Nat
  mi : Nat
deriving DecidableEq
def civOf (n : Nat) : Civ :=
  let g := yearG (n / 1440) 2000
  let q := monthG g.1 g.2 1
  ⟨g.2, q.2, q.1 + 1, n % 1440 / 60, n % 60⟩
/-- what FromCivil computes -/
def minOf (c : Civ) : Nat := (c.d - 1 + sumY 2000 (c.y - 2000) + sumM c.y 1 (c.m - 1)) * 1440 + c.h * 60 + c.mi
structure CivOk (c : Civ) : Prop where
  y0 : 2000 ≤ c.y
  m0 : 1 ≤ c.m
  m1 : c.m ≤ 12
  d0 : 1 ≤ c.d
  d1 : c.d ≤ monthD c.y c.m
  h1 : c.h ≤ 23
  mi1 : c.mi ≤ 59
theorem civOf_ok (n : Nat) : CivOk (civOf n) := by
  obtain ⟨k, h1, h2, h3⟩ := yearG_spec (n / 1440) (n / 1440) 2000 (Nat.le_refl _)
  rw [← h1, ← sumM_year] at h3
  obtain ⟨j, g0, g1, g2, g3⟩ := monthG_spec (yearG (n / 1440) 2000).2 11 (yearG (n / 1440) 2000).1 1 rfl (Nat.le_refl _) h3
  refine ⟨?_, ?_, ?_, ?_, ?_, ?_, ?_⟩
  · show 2000 ≤ (yearG (n / 1440) 2000).2
    omega
  · show 1 ≤ (monthG (yearG (n / 1440) 2000).1 (yearG (n / 1440) 2000).2 1).2
    omega
  · show (monthG (yearG (n / 1440) 2000).1 (yearG (n / 1440) 2000).2 1).2 ≤ 12
    omega
  · show 1 ≤ _ + 1
    omega
  · show (monthG (yearG (n / 1440) 2000).1 (yearG (n / 1440) 2000).2 1).1 + 1 ≤ monthD (yearG (n / 1440) 2000).2 (monthG (yearG (n / 1440) 2000).1 (yearG (n / 1440) 2000).2 1).2
    rw [g1]
    exact g3
  · show n % 1440 / 60 ≤ 23
    omega
  · show n % 60 ≤ 59
    omega
theorem minOf_civOf (n : Nat) : minOf (civOf n) = n := by
  obtain ⟨k, h1, h2, h3⟩ := yearG_spec (n / 1440) (n / 1440) 2000 (Nat.le_refl _)
  rw [← h1, ← sumM_year] at h3
  obtain ⟨j, g0, g1, g2, g3⟩ := monthG_spec (yearG (n / 1440) 2000).2 11 (yearG (n / 1440) 2000).1 1 rfl (Nat.le_refl _) h3
  unfold minOf
  simp only [civOf]
  rw [g1, show 1 + j - 1 = j by omega]
  rw [show (yearG (n / 1440) 2000).2 - 2000 = k by omega]
  have hm : n % 60 = n % 1440 % 60 := by omega
  omega
theorem year_le {n : Nat} (h : n ≤ 105190559) : (civOf n).y ≤ 2199 := by
  obtain ⟨k, h1, h2, h3⟩ := yearG_spec (n / 1440) (n / 1440) 2000 (Nat.le_refl _)
  show (yearG (n / 1440) 2000).2 ≤ 2199
  rw [h1]
  rcases Nat.lt_or_ge k 200 with hk | hk
  · omega
  · exfalso
    have mono : ∀ (a b y : Nat), sumY y a ≤ sumY y (a + b) := by
      intro a b y
      induction b with
      | zero => exact Nat.le_refl _
      | succ b ih => rw [← Nat.add_assoc, sumY_snoc]; omega
    have h200 : sumY 2000 200 = 73049 := by decide +kernel
    have := mono 200 (k - 200) 2000
    rw [show 200 + (k - 200) = k by omega] at this
    omega
end Go.Bul
