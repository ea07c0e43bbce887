/-
  The law DateDays, walked.
-/
import Derived.Test.YtiijngjhhcjiaaaDoorDbB
set_option linter.unusedSimpArgs false
set_option linter.unusedVariables false
set_option linter.unnecessarySimpa false
namespace Go.Proofs.YtiijngjhhcjiaaaDoor
open Go.RowKit Go.Bul
theorem formatDay_both (d : Int) : ∃ (s : ByteArray) (e : Int), (∀ w, Gd w → Calls Tryd.prog 22 #[.int .i64 d] w fun r w' => r = .returned (.tuple #[.string s, .int .i64 e]) ∧ Below w.heap.size w w') ∧
    (∀ w, Gd w → Calls Tryd.prog 23 #[.int .i64 d] w fun r w' => r = .returned (.tuple #[.string s, .int .i64 e]) ∧ Below w.heap.size w w') := by
  by_cases hd : 0 ≤ d ∧ d ≤ 73048
  · obtain ⟨D, rfl⟩ : ∃ D : Nat, d = D := ⟨d.toNat, by omega⟩
    exact ⟨_, 0, fun w hg => formatDay_s D (by omega) w hg, fun w hg => refFormatDay_s D (by omega) w hg⟩
  · exact ⟨_, 2, fun w hg => (formatDay_bad d hd w).mono fun r w' ⟨h1, h2⟩ => ⟨h1, h2 ▸ Below.refl _ _⟩, fun w hg => (refFormatDay_bad d hd w).mono fun r w' ⟨h1, h2⟩ => ⟨h1, h2 ▸ Below.refl _ _⟩⟩
set_option maxRecDepth 100000 in
set_option maxHeartbeats 4000000 in
theorem lawDays_bad (n d : Int) (hn : ¬ (0 ≤ n ∧ n ≤ 105190559)) (w : World) (hg : Gd w) : Calls Tryd.prog 9 #[.int .i64 n, .int .i64 d] w fun e w' => e = .returned (.bool true) ∧ Below w.heap.size w w' := by
  have HG := Lib.hid hg
  obtain ⟨s, e0, h1, h2⟩ := formatDay_both d
  have H1 := Lib.hid h1
  have H2 := Lib.hid h2
  have hv := refValid_s n
  rw [show decide (0 ≤ n ∧ n ≤ 105190559) = false by simpa using hn] at hv
  have HV := Lib.hid hv
  have HW := Lib.hid (weekday_bad n hn)
  have HD := Lib.hid (day_bad n hn)
  clear hg h1 h2 hv hn
  go_enter Tryd.func9, Tryd.ntmps9
  go_wp2_with fail
  refine (known04_s _ HG.out).mono ?_
  rintro r w1 ⟨rfl, b1⟩
  have HB1 := Lib.hid b1
  clear b1
  go_wp2_with fail
  refine (H1.out w1 (HG.out.below HB1.out)).mono ?_
  rintro r w2 ⟨rfl, b2⟩
  have HB2 := Lib.hid (HB1.out.trans (b2.mono HB1.out.size))
  clear b2
  go_wp2_with fail
  refine (H2.out w2 (HG.out.below HB2.out)).mono ?_
  rintro r w3 ⟨rfl, b3⟩
  have HB3 := Lib.hid (HB2.out.trans (b3.mono HB2.out.size))
  clear b3
  go_wp2_with fail
  refine (HW.out w3).mono ?_
  rintro r w4 ⟨rfl, rfl⟩
  go_wp2_with fail
  refine (HD.out w3).mono ?_
  rintro r w4 ⟨rfl, rfl⟩
  go_wp2_with fail
  refine (HV.out w3).mono ?_
  rintro r w4 ⟨rfl, rfl⟩
  go_wp2_with fail
  go_ret
  exact ⟨rfl, HB3.out⟩
set_option maxRecDepth 100000 in
set_option maxHeartbeats 4000000 in
theorem lawDays_good (n : Nat) (d : Int) (hn : n ≤ 105190559) (w : World) (hg : Gd w) : Calls Tryd.prog 9 #[.int .i64 n, .int .i64 d] w fun e w' => e = .returned (.bool true) ∧ Below w.heap.size w w' := by
  have HG := Lib.hid hg
  obtain ⟨s, e0, h1, h2⟩ := formatDay_both d
  have H1 := Lib.hid h1
  have H2 := Lib.hid h2
  have hv := refValid_s n
  rw [show decide ((0 : Int) ≤ n ∧ (n : Int) ≤ 105190559) = true by simp; omega] at hv
  have HV := Lib.hid hv
  have hwk := weekday_s n hn
  have hdy := day_s n hn
  have hrw := refWeekday_s n hn
  have hq : ((n / 1440 : Nat) : Int) = (n : Int) / 1440 := by push_cast; rfl
  rw [hq] at hdy
  obtain ⟨W, hW⟩ : ∃ W : Nat, (n / 1440 + 5) % 7 = W := ⟨_, rfl⟩
  have hW7 : W < 7 := by rw [← hW]; exact Nat.mod_lt _ (by decide)
  rw [hW] at hwk hrw
  have hsum : IntKind.i64.wrap ((n : Int) + 1440) = ((n + 1440 : Nat) : Int) := by rw [IntWalk.i64_in _ (by omega)]; push_cast; rfl
  have HK := Lib.hid hwk
  have HD := Lib.hid hdy
  have HR := Lib.hid hrw
  have hnx : n + 1440 ≤ 105190559 → ((n + 1440) / 1440 + 5) % 7 = (W + 1) % 7 := by omega
  have HN := Lib.hid hnx
  clear hg h1 h2 hv hwk hdy hrw hq hnx hW
  obtain ⟨M, hM⟩ : ∃ M : Nat, n + 1440 = M := ⟨_, rfl⟩
  rw [hM] at hsum HN
  have hM0 : M ≤ 105191999 := by omega
  clear hM
  have hwr : IntKind.i64.wrap ((W : Int) + 1) = (W : Int) + 1 := IntWalk.i64_in _ (by omega)
  by_cases hMv : M ≤ 105190559
  · have hnx := HN.out hMv
    have hkn := weekday_s M hMv
    rw [hnx] at hkn
    rw [show (((W + 1) % 7 : Nat) : Int) = ((W : Int) + 1) % 7 by push_cast; rfl] at hkn
    have HKN := Lib.hid hkn
    have hvm := refValid_s M
    rw [show decide ((0 : Int) ≤ M ∧ (M : Int) ≤ 105190559) = true by simp; omega] at hvm
    have HVM := Lib.hid hvm
    clear hnx hkn hvm
    go_enter Tryd.func9, Tryd.ntmps9
    go_wp2_with fail
    refine (known04_s _ HG.out).mono ?_
    rintro r w1 ⟨rfl, b1⟩
    have HB1 := Lib.hid b1
    clear b1
    go_wp2_with fail
    refine (H1.out w1 (HG.out.below HB1.out)).mono ?_
    rintro r w2 ⟨rfl, b2⟩
    have HB2 := Lib.hid (HB1.out.trans (b2.mono HB1.out.size))
    clear b2
    go_wp2_with fail
    refine (H2.out w2 (HG.out.below HB2.out)).mono ?_
    rintro r w3 ⟨rfl, b3⟩
    have HB3 := Lib.hid (HB2.out.trans (b3.mono HB2.out.size))
    clear b3
    go_wp2_with fail
    refine (HK.out w3).mono ?_
    rintro r w4 ⟨rfl, rfl⟩
    go_wp2_with fail
    refine (HD.out w3).mono ?_
    rintro r w4 ⟨rfl, rfl⟩
    go_wp2_with fail
    refine (HV.out w3).mono ?_
    rintro r w4 ⟨rfl, rfl⟩
    go_wp2_with fail
    refine (HR.out w3).mono ?_
    rintro r w4 ⟨rfl, rfl⟩
    go_wp2_with fail
    refine (HKN.out w3).mono ?_
    rintro r w4 ⟨rfl, rfl⟩
    go_wp2_with fail
    refine (HVM.out w3).mono ?_
    rintro r w4 ⟨rfl, rfl⟩
    go_wp2_with fail
    go_ret
    exact ⟨retB (by simp), HB3.out⟩
  · have HKN := Lib.hid (weekday_bad M (by omega))
    have hvm := refValid_s M
    rw [show decide ((0 : Int) ≤ M ∧ (M : Int) ≤ 105190559) = false by simp; omega] at hvm
    have HVM := Lib.hid hvm
    clear hvm
    go_enter Tryd.func9, Tryd.ntmps9
    go_wp2_with fail
    refine (known04_s _ HG.out).mono ?_
    rintro r w1 ⟨rfl, b1⟩
    have HB1 := Lib.hid b1
    clear b1
    go_wp2_with fail
    refine (H1.out w1 (HG.out.below HB1.out)).mono ?_
    rintro r w2 ⟨rfl, b2⟩
    have HB2 := Lib.hid (HB1.out.trans (b2.mono HB1.out.size))
    clear b2
    go_wp2_with fail
    refine (H2.out w2 (HG.out.below HB2.out)).mono ?_
    rintro r w3 ⟨rfl, b3⟩
    have HB3 := Lib.hid (HB2.out.trans (b3.mono HB2.out.size))
    clear b3
    go_wp2_with fail
    refine (HK.out w3).mono ?_
    rintro r w4 ⟨rfl, rfl⟩
    go_wp2_with fail
    refine (HD.out w3).mono ?_
    rintro r w4 ⟨rfl, rfl⟩
    go_wp2_with fail
    refine (HV.out w3).mono ?_
    rintro r w4 ⟨rfl, rfl⟩
    go_wp2_with fail
    refine (HR.out w3).mono ?_
    rintro r w4 ⟨rfl, rfl⟩
    go_wp2_with fail
    refine (HKN.out w3).mono ?_
    rintro r w4 ⟨rfl, rfl⟩
    go_wp2_with fail
    refine (HVM.out w3).mono ?_
    rintro r w4 ⟨rfl, rfl⟩
    go_wp2_with fail
    go_ret
    exact ⟨rfl, HB3.out⟩
theorem lawDays_c (n d : Int) (n0 : -9223372036854775808 ≤ n) (n1 : n ≤ 9223372036854775807) (d0 : -9223372036854775808 ≤ d) (d1 : d ≤ 9223372036854775807) (w : World) (hg : Gd w) :
    Calls Tryd.prog 9 #[.int .i64 n, .int .i64 d] w fun e w' => e = .returned (.bool true) ∧ Below w.heap.size w w' := by
  by_cases hn : 0 ≤ n ∧ n ≤ 105190559
  · obtain ⟨N, rfl⟩ : ∃ N : Nat, n = N := ⟨n.toNat, by omega⟩
    exact lawDays_good N d (by omega) w hg
  · exact lawDays_bad n d hn w hg
end Go.Proofs.YtiijngjhhcjiaaaDoor
