/-
  The law DateCivil, walked.
-/
import Derived.Test.YtiijngjhhcjiaaaDoorDatX
set_option linter.unusedSimpArgs false
set_option linter.unusedVariables false
set_option linter.unnecessarySimpa false
namespace Go.Proofs.YtiijngjhhcjiaaaDoor
open Go.RowKit Go.Bul
set_option maxRecDepth 100000 in
set_option maxHeartbeats 4000000 in
theorem lawCivil_bad (n : Int) (hn : ¬ (0 ≤ n ∧ n ≤ 105190559)) (w : World) (hg : Gd w) : Calls Tryd.prog 3 #[.int .i64 n] w fun e w' => e = .returned (.bool true) ∧ Below w.heap.size w w' := by
  have HG := Lib.hid hg
  clear hg
  go_enter Tryd.func3, Tryd.ntmps3
  go_wp2_with fail
  refine (known04_s _ HG.out).mono ?_
  rintro r w1 ⟨rfl, b1⟩
  have HB1 := Lib.hid b1
  clear b1
  go_wp2_with fail
  refine (toCivil_bad n hn w1).mono ?_
  rintro r w2 ⟨rfl, b2⟩
  have HB2 := Lib.hid (HB1.out.trans (b2.mono HB1.out.size))
  clear b2
  simp only [civCells, noCiv]
  go_wp2_with fail
  refine (refToCivil_bad n hn _).mono ?_
  rintro r w3 ⟨rfl, b3⟩
  have hs3 : w2.heap.size < w3.heap.size := by have := b3.size; rw [sizeA] at this; omega
  have HZ3 := Lib.hid ((b3.block w2.heap.size (by rw [sizeA]; omega)).trans (heapNew w2 (.cells #[.int .i64 0, .int .i64 0, .int .i64 0, .int .i64 0, .int .i64 0] 24)))
  have HB3 := Lib.hid ((HB2.out.alloc HB2.out.size (.cells #[.int .i64 0, .int .i64 0, .int .i64 0, .int .i64 0, .int .i64 0] 24)).trans (b3.mono (by rw [sizeA]; have := HB2.out.size; omega)))
  clear b3
  have x0 := cellAt HZ3.out 0
  have x1 := cellAt HZ3.out 1
  have x2 := cellAt HZ3.out 2
  have x3 := cellAt HZ3.out 3
  have x4 := cellAt HZ3.out 4
  simp only [civCells, noCiv]
  go_wp2_with fail
  refine (valid_s n _).mono ?_
  rintro r w4 ⟨rfl, rfl⟩
  rw [show decide (0 ≤ n ∧ n ≤ 105190559) = false by simpa using hn]
  go_wp2_with fail
  go_ret
  exact ⟨rfl, HB3.out.alloc HB3.out.size _⟩
set_option maxRecDepth 100000 in
set_option maxHeartbeats 4000000 in
theorem lawCivil_good (n : Nat) (hn : n ≤ 105190559) (w : World) (hg : Gd w) : Calls Tryd.prog 3 #[.int .i64 n] w fun e w' => e = .returned (.bool true) ∧ Below w.heap.size w w' := by
  have HG := Lib.hid hg
  have h1 := toCivil_s n hn
  have h2 := refToCivil_s n hn
  have hy := year_le hn
  have hmo := minOf_civOf n
  have HO := Lib.hid (civOf_ok n)
  obtain ⟨c, hc⟩ : ∃ c, civOf n = c := ⟨_, rfl⟩
  rw [hc] at h1 h2 hy hmo HO
  have hfr := from_good c.y c.m c.d c.h c.mi HO.out.y0 hy HO.out.m0 HO.out.m1 HO.out.d0 HO.out.d1 HO.out.h1 HO.out.mi1
  rw [show minOf ⟨c.y, c.m, c.d, c.h, c.mi⟩ = n from hmo] at hfr
  simp only [civCells] at h1 h2
  unfold civV at hfr
  have H1 := Lib.hid h1
  have H2 := Lib.hid h2
  have HF := Lib.hid hfr
  clear hg h1 h2 hfr hmo hc hy
  go_enter Tryd.func3, Tryd.ntmps3
  go_wp2_with fail
  refine (known04_s _ HG.out).mono ?_
  rintro r w1 ⟨rfl, b1⟩
  have HB1 := Lib.hid b1
  clear b1
  go_wp2_with fail
  refine (H1.out w1).mono ?_
  rintro r w2 ⟨rfl, b2⟩
  have HB2 := Lib.hid (HB1.out.trans (b2.mono HB1.out.size))
  clear b2
  go_wp2_with fail
  refine (H2.out _).mono ?_
  rintro r w3 ⟨rfl, b3⟩
  have hs3 : w2.heap.size < w3.heap.size := by have := b3.size; rw [sizeA] at this; omega
  have HZ3 := Lib.hid ((b3.block w2.heap.size (by rw [sizeA]; omega)).trans (heapNew w2 (.cells #[.int .i64 c.y, .int .i64 c.m, .int .i64 c.d, .int .i64 c.h, .int .i64 c.mi] 24)))
  have HB3 := Lib.hid ((HB2.out.alloc HB2.out.size (.cells #[.int .i64 c.y, .int .i64 c.m, .int .i64 c.d, .int .i64 c.h, .int .i64 c.mi] 24)).trans (b3.mono (by rw [sizeA]; have := HB2.out.size; omega)))
  clear b3
  have x0 := cellAt HZ3.out 0
  have x1 := cellAt HZ3.out 1
  have x2 := cellAt HZ3.out 2
  have x3 := cellAt HZ3.out 3
  have x4 := cellAt HZ3.out 4
  go_wp2_with fail
  refine (valid_s n _).mono ?_
  rintro r w4 ⟨rfl, rfl⟩
  rw [show decide ((0 : Int) ≤ n ∧ (n : Int) ≤ 105190559) = true by simp; omega]
  go_wp2_with fail
  refine (HF.out _).mono ?_
  rintro r w5 ⟨rfl, b5⟩
  have HB5 := Lib.hid ((HB3.out.alloc HB3.out.size _).trans (b5.mono (by rw [sizeA]; have := HB3.out.size; omega)))
  clear b5
  go_wp2_with fail
  go_ret
  exact ⟨rfl, HB5.out⟩
theorem lawCivil_c (n : Int) (n0 : -9223372036854775808 ≤ n) (n1 : n ≤ 9223372036854775807) (w : World) (hg : Gd w) : Calls Tryd.prog 3 #[.int .i64 n] w fun e w' => e = .returned (.bool true) ∧ Below w.heap.size w w' := by
  by_cases hn : 0 ≤ n ∧ n ≤ 105190559
  · obtain ⟨N, rfl⟩ : ∃ N : Nat, n = N := ⟨n.toNat, by omega⟩
    exact lawCivil_good N (by omega) w hg
  · exact lawCivil_bad n hn w hg
end Go.Proofs.YtiijngjhhcjiaaaDoor
