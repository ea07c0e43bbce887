/-
  Package date: numbers with leading zeros, the names of days and months.
-/
import Derived.Test.YtiijngjhhcjiaaaDoorDatC
import Derived.Test.YtiijngjhhcjiaaaDoorShelf
import Derived.WalkSmall
import Derived.Shelf.Unicode.DecodeSlow
set_option linter.unusedSimpArgs false
set_option linter.unusedVariables false
set_option linter.unnecessarySimpa false
namespace Go.Proofs.YtiijngjhhcjiaaaDoor
open Go.RowKit Go.Bul
/-- what a call finds in the library's own tables -/
structure Gd (w : World) : Prop where
  size : 7 ≤ w.heap.size
  pow : Lib.TabIs Tryd.prog w "internal/strconv.uint64pow10" .u64 Lib.pow10Tab
  utf : Lib.Utf8Tabs 3 4 w
theorem gPowD : Tryd.prog.globalNamed "internal/strconv.uint64pow10" = some 1 := by kernel_rfl
theorem Gd.below {w w' : World} (h : Gd w) (hb : Below w.heap.size w w') : Gd w' := by
  have hs := h.size
  exact ⟨Nat.le_trans hs hb.size, var?_below hb gPowD (by omega) h.pow, Utf8Tabs_below h.utf hb⟩
abbrev Sb (l : List UInt8) : Value := .string ⟨l.toArray⟩
theorem itoa_d (n : Int) (h0 : -9223372036854775808 ≤ n) (h1 : n ≤ 9223372036854775807) (w : World) (hg : Gd w) :
    Calls Tryd.prog 41 #[.int .i64 n] w fun e w' => e = .returned (Sb (Lib.itoa n)) ∧ Below w.heap.size w w' :=
  (Tryd.strconv_Itoa n h0 h1 w hg.pow).mono fun e w' ⟨he, k, os, hw⟩ => ⟨he, by
    subst hw
    refine ⟨rfl, rfl, rfl, by simp [Sort.grow], fun k hk => ?_⟩
    simp [Sort.grow]
    rw [Array.getElem?_append_left (by simpa using hk)]⟩
def dgC (n : Nat) : UInt8 := UInt8.ofNat (48 + n)
def dg2 (n : Nat) : List UInt8 := [dgC (n / 10), dgC (n % 10)]
def dg4 (n : Nat) : List UInt8 := [dgC (n / 1000), dgC (n / 100 % 10), dgC (n / 10 % 10), dgC (n % 10)]
theorem itoa_one {n : Nat} (h : n < 10) : Lib.itoa (n : Int) = [dgC n] := by rw [Lib.itoa_nonneg, Lib.decDigits_one h]; rfl
theorem itoa_two {n : Nat} (h1 : 10 ≤ n) (h2 : n < 100) : Lib.itoa (n : Int) = dg2 n := by rw [Lib.itoa_nonneg, Lib.decDigits_two (by omega) h2]; rfl
theorem itoa_four {n : Nat} (h1 : 1000 ≤ n) (h2 : n < 10000) : Lib.itoa (n : Int) = dg4 n := by
  rw [Lib.itoa_nonneg, Lib.decDigits, dif_neg (by omega), Lib.decDigits, dif_neg (by omega), Lib.decDigits_two (by omega) (by omega)]
  unfold dg4 dgC
  simp only [List.cons_append, List.nil_append, List.append_assoc]
  rw [show n / 10 / 10 / 10 = n / 1000 by omega, show n / 10 / 10 % 10 = n / 100 % 10 by omega]
theorem sbSize (l : List UInt8) : (⟨l.toArray⟩ : ByteArray).size = l.length := by show l.toArray.size = _; simp
set_option maxRecDepth 100000 in
set_option maxHeartbeats 1000000 in
theorem padded2_s (n : Nat) (hn : n < 100) (w : World) (hg : Gd w) : Calls Tryd.prog 35 #[.int .i64 n, .int .i64 2] w fun e w' => e = .returned (Sb (dg2 n)) ∧ Below w.heap.size w w' := by
  go_enter Tryd.func35, Tryd.ntmps35
  go_wp2_with fail
  refine (itoa_d n (by omega) (by omega) w hg).mono ?_
  rintro e w1 ⟨rfl, b1⟩
  by_cases h : n < 10
  · rw [itoa_one h]
    go_wp2_with fail
    refine (Tryd.strings_Repeat_one _ _).mono ?_
    rintro e w2 ⟨rfl, rfl⟩
    go_wp2_with fail
    go_ret
    refine ⟨?_, b1⟩
    unfold dg2
    rw [show n / 10 = 0 by omega, show n % 10 = n by omega]
    rfl
  · rw [itoa_two (by omega) hn]
    unfold dg2
    go_wp2_with fail
    refine (Tryd.strings_Repeat_zero _ _).mono ?_
    rintro e w2 ⟨rfl, rfl⟩
    go_wp2_with fail
    go_ret
    exact ⟨rfl, b1⟩
set_option maxRecDepth 100000 in
set_option maxHeartbeats 1000000 in
theorem padded4_s (n : Nat) (h0 : 1000 ≤ n) (hn : n < 10000) (w : World) (hg : Gd w) : Calls Tryd.prog 35 #[.int .i64 n, .int .i64 4] w fun e w' => e = .returned (Sb (dg4 n)) ∧ Below w.heap.size w w' := by
  go_enter Tryd.func35, Tryd.ntmps35
  go_wp2_with fail
  refine (itoa_d n (by omega) (by omega) w hg).mono ?_
  rintro e w1 ⟨rfl, b1⟩
  rw [itoa_four h0 hn]
  unfold dg4
  go_wp2_with fail
  refine (Tryd.strings_Repeat_zero _ _).mono ?_
  rintro e w2 ⟨rfl, rfl⟩
  go_wp2_with fail
  go_ret
  exact ⟨rfl, b1⟩
end Go.Proofs.YtiijngjhhcjiaaaDoor
