/-
  Package date, and its reference: FromCivil.
-/
import Derived.Test.YtiijngjhhcjiaaaDoorDatC
set_option linter.unusedSimpArgs false
set_option linter.unusedVariables false
set_option linter.unnecessarySimpa false
namespace Go.Proofs.YtiijngjhhcjiaaaDoor
open Go.RowKit Go.Bul
def civV (y m d h mi : Int) : Value := .agg #[.int .i64 y, .int .i64 m, .int .i64 d, .int .i64 h, .int .i64 mi]
theorem callBelow {P : Program} {f : FuncId} {args : Array Value} {v : Value} {w : World} (x : After w.heap.size w) (h : Calls P f args x.W fun e w' => e = .returned v ∧ Below x.W.heap.size x.W w') :
    Calls P f args x.W fun e w'' => e = .returned v ∧ ∃ y : After w.heap.size w, w'' = y.W :=
  h.mono fun _ w' ⟨he, hb⟩ => ⟨he, ⟨w', x.below.trans (hb.mono x.below.size)⟩, rfl⟩
theorem sumY_le (y : Nat) : ∀ k, sumY y k ≤ 366 * k
  | 0 => Nat.le_refl _
  | k + 1 => by have := sumY_le y k; have := yearD_le (y + k); rw [sumY_snoc]; omega
theorem sumM_le31 (y m : Nat) : ∀ k, sumM y m k ≤ 31 * k
  | 0 => Nat.le_refl _
  | k + 1 => by have := sumM_le31 y m k; have := monthD_le y (m + k); rw [sumM_snoc]; omega
set_option maxRecDepth 100000 in
set_option maxHeartbeats 4000000 in
theorem from_range (y m d h mi : Int) (hb : y < 2000 ∨ 2199 < y ∨ m < 1 ∨ 12 < m) (w : World) : Calls Tryd.prog 14 #[civV y m d h mi] w fun e w' => e = .returned (.tuple #[.int .i64 0, .int .i64 2]) ∧ Below w.heap.size w w' := by
  unfold civV
  by_cases c1 : y < 2000
  · go_enter Tryd.func14, Tryd.ntmps14
    go_wp2_with fail
    go_ret2
    exact ⟨rfl, (Below.refl _ _).alloc (Nat.le_refl _) _⟩
  have b1 : decide (y < 2000) = false := by simp; omega
  by_cases c2 : 2199 < y
  · go_enter Tryd.func14, Tryd.ntmps14
    go_wp2_with fail
    go_ret2
    exact ⟨rfl, (Below.refl _ _).alloc (Nat.le_refl _) _⟩
  have b2 : decide (2199 < y) = false := by simp; omega
  by_cases c3 : m < 1
  · go_enter Tryd.func14, Tryd.ntmps14
    go_wp2_with fail
    go_ret2
    exact ⟨rfl, (Below.refl _ _).alloc (Nat.le_refl _) _⟩
  have b3 : decide (m < 1) = false := by simp; omega
  have c4 : 12 < m := by omega
  go_enter Tryd.func14, Tryd.ntmps14
  go_wp2_with fail
  go_ret2
  exact ⟨rfl, (Below.refl _ _).alloc (Nat.le_refl _) _⟩
set_option maxRecDepth 100000 in
set_option maxHeartbeats 8000000 in
theorem from_date (y m : Nat) (y0 : 2000 ≤ y) (y1 : y ≤ 2199) (m0 : 1 ≤ m) (m1 : m ≤ 12) (d h mi : Int) (hb : d < 1 ∨ (monthD y m : Int) < d ∨ h < 0 ∨ 23 < h ∨ mi < 0 ∨ 59 < mi) (w : World) : Calls Tryd.prog 14 #[civV y m d h mi] w fun e w' => e = .returned (.tuple #[.int .i64 0, .int .i64 13]) ∧ Below w.heap.size w w' := by
  unfold civV
  have a1 : ¬ (y : Int) < 2000 := by omega
  have a2 : ¬ (2199 : Int) < (y : Int) := by omega
  have a3 : ¬ (m : Int) < 1 := by omega
  have a4 : ¬ (12 : Int) < (m : Int) := by omega
  go_enter Tryd.func14, Tryd.ntmps14
  go_wp2_with fail
  obtain ⟨wq, hwq⟩ : ∃ wq, wq = w.alloc (.cells #[.int .i64 y, .int .i64 m, .int .i64 d, .int .i64 h, .int .i64 mi] 24) := ⟨_, rfl⟩
  have hsq : wq.heap.size = w.heap.size + 1 := by rw [hwq, sizeA]
  have HB := Lib.hid (show Below w.heap.size w wq by rw [hwq]; exact (Below.refl _ _).alloc (Nat.le_refl _) _)
  have HZ := Lib.hid (show wq.heap[w.heap.size]? = some (.cells #[.int .i64 y, .int .i64 m, .int .i64 d, .int .i64 h, .int .i64 mi] 24 (0, 0)) by rw [hwq]; exact heapNew _ _)
  rw [← hwq]
  clear hwq
  have HZa := Lib.hid (show ∀ x : After wq.heap.size wq, x.W.heap[w.heap.size]? = some (.cells #[.int .i64 y, .int .i64 m, .int .i64 d, .int .i64 h, .int .i64 mi] 24 (0, 0)) from fun x => (x.below.block _ (by omega)).trans HZ.out)
  have x0 : ∀ x : After wq.heap.size wq, x.W.cell? ⟨w.heap.size, 0, none⟩ = some (.int .i64 y) := fun x => cellAt (HZa.out x) 0
  have x1 : ∀ x : After wq.heap.size wq, x.W.cell? ⟨w.heap.size, 1, none⟩ = some (.int .i64 m) := fun x => cellAt (HZa.out x) 1
  have x2 : ∀ x : After wq.heap.size wq, x.W.cell? ⟨w.heap.size, 2, none⟩ = some (.int .i64 d) := fun x => cellAt (HZa.out x) 2
  have x3 : ∀ x : After wq.heap.size wq, x.W.cell? ⟨w.heap.size, 3, none⟩ = some (.int .i64 h) := fun x => cellAt (HZa.out x) 3
  have x4 : ∀ x : After wq.heap.size wq, x.W.cell? ⟨w.heap.size, 4, none⟩ = some (.int .i64 mi) := fun x => cellAt (HZa.out x) 4
  by_cases c0 : d < 1
  · have b0 : decide (d < 1) = true := decide_eq_true c0
    refine wp_region_after (by kernel_rfl) (by kernel_rfl) ?_
    iterate 33 (go_big_quiet_step ((go_at_call 28; with_reducible exact callBelow _ (monthDays_s y m (by omega) (by omega) _))))
    refine wpQuiet_nil ?_
    rintro w2 ⟨⟨_, hb2⟩, rfl⟩
    go_wp2_with fail
    go_ret2
    exact ⟨rfl, HB.out.trans (hb2.mono (by omega))⟩
  have b0 : decide (d < 1) = false := decide_eq_false c0
  by_cases c1 : (monthD y m : Int) < d
  · have b1 : decide ((monthD y m : Int) < d) = true := decide_eq_true c1
    refine wp_region_after (by kernel_rfl) (by kernel_rfl) ?_
    iterate 33 (go_big_quiet_step ((go_at_call 28; with_reducible exact callBelow _ (monthDays_s y m (by omega) (by omega) _))))
    refine wpQuiet_nil ?_
    rintro w2 ⟨⟨_, hb2⟩, rfl⟩
    go_wp2_with fail
    go_ret2
    exact ⟨rfl, HB.out.trans (hb2.mono (by omega))⟩
  have b1 : decide ((monthD y m : Int) < d) = false := decide_eq_false c1
  by_cases c2 : h < 0
  · have b2 : decide (h < 0) = true := decide_eq_true c2
    refine wp_region_after (by kernel_rfl) (by kernel_rfl) ?_
    iterate 33 (go_big_quiet_step ((go_at_call 28; with_reducible exact callBelow _ (monthDays_s y m (by omega) (by omega) _))))
    refine wpQuiet_nil ?_
    rintro w2 ⟨⟨_, hb2⟩, rfl⟩
    go_wp2_with fail
    go_ret2
    exact ⟨rfl, HB.out.trans (hb2.mono (by omega))⟩
  have b2 : decide (h < 0) = false := decide_eq_false c2
  by_cases c3 : 23 < h
  · have b3 : decide (23 < h) = true := decide_eq_true c3
    refine wp_region_after (by kernel_rfl) (by kernel_rfl) ?_
    iterate 33 (go_big_quiet_step ((go_at_call 28; with_reducible exact callBelow _ (monthDays_s y m (by omega) (by omega) _))))
    refine wpQuiet_nil ?_
    rintro w2 ⟨⟨_, hb2⟩, rfl⟩
    go_wp2_with fail
    go_ret2
    exact ⟨rfl, HB.out.trans (hb2.mono (by omega))⟩
  have b3 : decide (23 < h) = false := decide_eq_false c3
  by_cases c4 : mi < 0
  · have b4 : decide (mi < 0) = true := decide_eq_true c4
    refine wp_region_after (by kernel_rfl) (by kernel_rfl) ?_
    iterate 33 (go_big_quiet_step ((go_at_call 28; with_reducible exact callBelow _ (monthDays_s y m (by omega) (by omega) _))))
    refine wpQuiet_nil ?_
    rintro w2 ⟨⟨_, hb2⟩, rfl⟩
    go_wp2_with fail
    go_ret2
    exact ⟨rfl, HB.out.trans (hb2.mono (by omega))⟩
  have b4 : decide (mi < 0) = false := decide_eq_false c4
  have c5 : 59 < mi := by omega
  have b5 : decide (59 < mi) = true := decide_eq_true c5
  refine wp_region_after (by kernel_rfl) (by kernel_rfl) ?_
  iterate 33 (go_big_quiet_step ((go_at_call 28; with_reducible exact callBelow _ (monthDays_s y m (by omega) (by omega) _))))
  refine wpQuiet_nil ?_
  rintro w2 ⟨⟨_, hb2⟩, rfl⟩
  go_wp2_with fail
  go_ret2
  exact ⟨rfl, HB.out.trans (hb2.mono (by omega))⟩
set_option maxRecDepth 100000 in
set_option maxHeartbeats 8000000 in
theorem from_good (y m d h mi : Nat) (y0 : 2000 ≤ y) (y1 : y ≤ 2199) (m0 : 1 ≤ m) (m1 : m ≤ 12) (d0 : 1 ≤ d) (d1 : d ≤ monthD y m) (h1 : h ≤ 23) (i1 : mi ≤ 59) (w : World) : Calls Tryd.prog 14 #[civV y m d h mi] w fun e w' => e = .returned (.tuple #[.int .i64 (minOf ⟨y, m, d, h, mi⟩), .int .i64 0]) ∧ Below w.heap.size w w' := by
  unfold civV
  have a1 : ¬ (y : Int) < 2000 := by omega
  have a2 : ¬ (2199 : Int) < (y : Int) := by omega
  have a3 : ¬ (m : Int) < 1 := by omega
  have a4 : ¬ (12 : Int) < (m : Int) := by omega
  go_enter Tryd.func14, Tryd.ntmps14
  go_wp2_with fail
  obtain ⟨wq, hwq⟩ : ∃ wq, wq = w.alloc (.cells #[.int .i64 y, .int .i64 m, .int .i64 d, .int .i64 h, .int .i64 mi] 24) := ⟨_, rfl⟩
  have hsq : wq.heap.size = w.heap.size + 1 := by rw [hwq, sizeA]
  have HB := Lib.hid (show Below w.heap.size w wq by rw [hwq]; exact (Below.refl _ _).alloc (Nat.le_refl _) _)
  have HZ := Lib.hid (show wq.heap[w.heap.size]? = some (.cells #[.int .i64 y, .int .i64 m, .int .i64 d, .int .i64 h, .int .i64 mi] 24 (0, 0)) by rw [hwq]; exact heapNew _ _)
  rw [← hwq]
  clear hwq
  have HZa := Lib.hid (show ∀ x : After wq.heap.size wq, x.W.heap[w.heap.size]? = some (.cells #[.int .i64 y, .int .i64 m, .int .i64 d, .int .i64 h, .int .i64 mi] 24 (0, 0)) from fun x => (x.below.block _ (by omega)).trans HZ.out)
  have x0 : ∀ x : After wq.heap.size wq, x.W.cell? ⟨w.heap.size, 0, none⟩ = some (.int .i64 y) := fun x => cellAt (HZa.out x) 0
  have x1 : ∀ x : After wq.heap.size wq, x.W.cell? ⟨w.heap.size, 1, none⟩ = some (.int .i64 m) := fun x => cellAt (HZa.out x) 1
  have x2 : ∀ x : After wq.heap.size wq, x.W.cell? ⟨w.heap.size, 2, none⟩ = some (.int .i64 d) := fun x => cellAt (HZa.out x) 2
  have x3 : ∀ x : After wq.heap.size wq, x.W.cell? ⟨w.heap.size, 3, none⟩ = some (.int .i64 h) := fun x => cellAt (HZa.out x) 3
  have x4 : ∀ x : After wq.heap.size wq, x.W.cell? ⟨w.heap.size, 4, none⟩ = some (.int .i64 mi) := fun x => cellAt (HZa.out x) 4
  have b0 : decide ((d : Int) < 1) = false := decide_eq_false (by omega)
  have b1 : decide ((monthD y m : Int) < (d : Int)) = false := decide_eq_false (by omega)
  have b2 : decide ((h : Int) < 0) = false := decide_eq_false (by omega)
  have b3 : decide (23 < (h : Int)) = false := decide_eq_false (by omega)
  have b4 : decide ((mi : Int) < 0) = false := decide_eq_false (by omega)
  have b5 : decide (59 < (mi : Int)) = false := decide_eq_false (by omega)
  have nb0 : decide (d < 1) = false := decide_eq_false (by omega)
  have nb1 : decide (monthD y m < d) = false := decide_eq_false (by omega)
  have nb3 : decide (23 < h) = false := decide_eq_false (by omega)
  have nb5 : decide (59 < mi) = false := decide_eq_false (by omega)
  have e1 := monthD_le y m
  refine wp_region_after (by kernel_rfl) (by kernel_rfl) ?_
  iterate 33 (go_big_quiet_step ((go_at_call 28; with_reducible exact callBelow _ (monthDays_s y m (by omega) (by omega) _))))
  refine wpQuiet_nil ?_
  rintro w2 ⟨⟨_, hb2⟩, rfl⟩
  have HB2 := Lib.hid (HB.out.trans (hb2.mono (by omega)))
  have HZ2 := Lib.hid ((hb2.block _ (by omega)).trans HZ.out)
  have hs2 : w.heap.size < w2.heap.size := ltBlock HZ2.out
  clear x0 x1 x2 x3 x4 hb2
  have z2 := cellAt HZ2.out 2
  have hw0 : IntKind.i64.wrap ((d : Int) - 1) = (d : Int) - 1 := IntWalk.i64_in _ (by omega)
  go_wp2_with fail
  clear z2 hw0
  go_loopw [4, 5] (fun day yy wr => ∃ k : Nat, k ≤ y - 2000 ∧ day = .int .i64 ((d : Int) - 1 + sumY 2000 k) ∧ yy = .int .i64 (2000 + (k : Int)) ∧ Below w2.heap.size w2 wr) (fun _ yy _ => 2200 - (intOf yy).toNat)
  case atStart => exact ⟨0, Nat.zero_le _, by simp [sumY], rfl, Below.refl _ _⟩
  case round =>
    obtain ⟨k, hk, rfl, rfl, hR⟩ := hrel
    have HR := Lib.hid hR
    have z0 := cellAt ((hR.block _ hs2).trans HZ2.out) 0
    have z1 := cellAt ((hR.block _ hs2).trans HZ2.out) 1
    have hsk : sumY 2000 k ≤ 366 * k := sumY_le _ _
    have hyd := yearD_le (2000 + k)
    clear hR
    by_cases hlt : k < y - 2000
    · have l1 : (2000 : Int) + (k : Int) < (y : Int) := by omega
      have hw1 : IntKind.i64.wrap ((2000 : Int) + (k : Int) + 1) = (2000 : Int) + (k : Int) + 1 := IntWalk.i64_in _ (by omega)
      have hw3 : IntKind.i64.wrap ((d : Int) - 1 + (sumY 2000 k : Int) + (yearD (2000 + k) : Int)) = (d : Int) - 1 + (sumY 2000 k : Int) + (yearD (2000 + k) : Int) := IntWalk.i64_in _ (by omega)
      have hyd2 := yearDays_s (2000 + k)
      rw [show (((2000 + k : Nat)) : Int) = 2000 + (k : Int) by push_cast; rfl] at hyd2
      have HY := Lib.hid hyd2
      clear hyd2
      go_wp2_with fail
      refine (HY.out _).mono ?_
      rintro e w3 ⟨rfl, rfl⟩
      go_wp2_with fail
      go_roundw
      case rel => exact ⟨k + 1, by omega, by rw [sumY_snoc]; push_cast; rw [Int.add_assoc], by push_cast; rw [Int.add_assoc], HR.out⟩
      case measure => simp only [intOf]; omega
    · obtain rfl : k = y - 2000 := by omega
      have l1 : ¬ (2000 : Int) + ((y - 2000 : Nat) : Int) < (y : Int) := by omega
      have l2 : decide ((2000 : Int) + ((y - 2000 : Nat) : Int) < (y : Int)) = false := decide_eq_false l1
      obtain ⟨S, hS⟩ : ∃ S : Nat, d - 1 + sumY 2000 (y - 2000) = S := ⟨_, rfl⟩
      have hSI : (d : Int) - 1 + (sumY 2000 (y - 2000) : Int) = (S : Int) := by omega
      have hS9 : S ≤ 100000 := by omega
      obtain ⟨K, hK⟩ : ∃ K : Nat, y - 2000 = K := ⟨_, rfl⟩
      rw [hSI]
      go_wp2_with fail
      go_loopw [4, 6] (fun day mm wr => ∃ j : Nat, j ≤ m - 1 ∧ day = .int .i64 ((S : Int) + sumM y 1 j) ∧ mm = .int .i64 (1 + (j : Int)) ∧ Below w2.heap.size w2 wr) (fun _ mm _ => 13 - (intOf mm).toNat)
      case atStart => exact ⟨0, Nat.zero_le _, by simp [sumM], rfl, HR.out⟩
      case round =>
        obtain ⟨j, hj, rfl, rfl, hR2⟩ := hrel
        have HR2 := Lib.hid hR2
        have z0 := cellAt ((hR2.block _ hs2).trans HZ2.out) 0
        have z1 := cellAt ((hR2.block _ hs2).trans HZ2.out) 1
        have hsj : sumM y 1 j ≤ 31 * j := sumM_le31 _ _ _
        have hmd := monthD_le y (1 + j)
        clear hR2
        by_cases hlt2 : j < m - 1
        · have l3 : (1 : Int) + (j : Int) < (m : Int) := by omega
          have hw2 : IntKind.i64.wrap ((1 : Int) + (j : Int) + 1) = (1 : Int) + (j : Int) + 1 := IntWalk.i64_in _ (by omega)
          have hw3 : IntKind.i64.wrap ((S : Int) + (sumM y 1 j : Int) + (monthD y (1 + j) : Int)) = (S : Int) + (sumM y 1 j : Int) + (monthD y (1 + j) : Int) := IntWalk.i64_in _ (by omega)
          have hmd2 := monthDays_s y (1 + j) (by omega) (by omega)
          rw [show (((1 + j : Nat)) : Int) = 1 + (j : Int) by push_cast; rfl] at hmd2
          have HM := Lib.hid hmd2
          clear hmd2
          go_wp2_with fail
          refine (HM.out _).mono ?_
          rintro e w3 ⟨rfl, b3⟩
          have HR3 := Lib.hid (HR2.out.trans (b3.mono HR2.out.size))
          clear b3
          go_wp2_with fail
          go_roundw
          case rel => exact ⟨j + 1, by omega, by rw [sumM_snoc]; push_cast; rw [Int.add_assoc], by push_cast; rw [Int.add_assoc], HR3.out⟩
          case measure => simp only [intOf]; omega
        · obtain rfl : j = m - 1 := by omega
          have l3 : ¬ (1 : Int) + ((m - 1 : Nat) : Int) < (m : Int) := by omega
          have l4 : decide ((1 : Int) + ((m - 1 : Nat) : Int) < (m : Int)) = false := decide_eq_false l3
          obtain ⟨T, hT⟩ : ∃ T : Nat, S + sumM y 1 (m - 1) = T := ⟨_, rfl⟩
          have hTI : (S : Int) + (sumM y 1 (m - 1) : Int) = (T : Int) := by omega
          have hT9 : T ≤ 200000 := by omega
          rw [hTI]
          have z3 := cellAt ((HR2.out.block _ hs2).trans HZ2.out) 3
          have z4 := cellAt ((HR2.out.block _ hs2).trans HZ2.out) 4
          have hw4 : IntKind.i64.wrap ((T : Int) * 1440) = (T : Int) * 1440 := IntWalk.i64_in _ (by omega)
          have hw5 : IntKind.i64.wrap ((h : Int) * 60) = (h : Int) * 60 := IntWalk.i64_in _ (by omega)
          have hw6 : IntKind.i64.wrap ((T : Int) * 1440 + (h : Int) * 60) = (T : Int) * 1440 + (h : Int) * 60 := IntWalk.i64_in _ (by omega)
          have hw7 : IntKind.i64.wrap ((T : Int) * 1440 + (h : Int) * 60 + (mi : Int)) = (T : Int) * 1440 + (h : Int) * 60 + (mi : Int) := IntWalk.i64_in _ (by omega)
          go_wp2_with fail
          go_ret2
          refine ⟨?_, HB2.out.trans (HR2.out.mono (Nat.le_trans (Nat.le_succ _) hs2))⟩
          have e9 : minOf ⟨y, m, d, h, mi⟩ = T * 1440 + h * 60 + mi := by
            unfold minOf
            simp only
            rw [← hT, ← hS]
          rw [e9]
          push_cast
          rfl
end Go.Proofs.YtiijngjhhcjiaaaDoor
