/-
  Package date, and its reference: ToCivil.
-/
import Derived.Test.YtiijngjhhcjiaaaDoorDatB
set_option linter.unusedSimpArgs false
set_option linter.unusedVariables false
set_option linter.unnecessarySimpa false
namespace Go.Proofs.YtiijngjhhcjiaaaDoor
open Go.RowKit Go.Bul
def civCells (c : Civ) : Array Value := #[.int .i64 c.y, .int .i64 c.m, .int .i64 c.d, .int .i64 c.h, .int .i64 c.mi]
def noCiv : Civ := ⟨0, 0, 0, 0, 0⟩
theorem cellAt {w : World} {b : Nat} {cs : Array Value} {t : TypeId} {fr : Nat × Nat} (h : w.heap[b]? = some (.cells cs t fr)) (k : Nat) : w.cell? ⟨b, k, none⟩ = cs[k]? := by
  unfold World.cell?; rw [h]; rfl
theorem frozenAt {w : World} {b : Nat} {cs : Array Value} {t : TypeId} (h : w.heap[b]? = some (.cells cs t (0, 0))) (k : Nat) : w.frozen? ⟨b, k, none⟩ = false := by simp [World.frozen?, h]
theorem heapNew (w : World) (o : Obj) : (w.alloc o).heap[w.heap.size]? = some o := by
  unfold World.alloc
  simp
theorem sizeA (w : World) (o : Obj) : (w.alloc o).heap.size = w.heap.size + 1 := by
  unfold World.alloc
  simp
theorem ltBlock {w : World} {b : Nat} {o : Obj} (h : w.heap[b]? = some o) : b < w.heap.size := (Array.getElem?_eq_some_iff.1 h).1
theorem results_cellC {P : Program} {fn : Func} {p u : Tmp} {ty : TypeId} (h : fn.results = #[.cell p ty, .tmp u]) (tmps : Array Value) (w : World) (g : Nat) (t : TypeId) (cs : Array Value) (fr : Nat × Nat) (d : TypeDesc)
    (hp : tmps.getD p undef = .pointer (some ⟨g, 0, none⟩)) (hg : w.heap[g]? = some (.cells cs t fr))
    (hu : P.underlying ty = some d) (hd : (match d with | .struct _ | .array _ _ => true | _ => false) = true) (hi : (P.info? ty).map (·.size) = some cs.size) :
    (results fn tmps).run P w = .ok (.tuple #[.agg cs, tmps.getD u undef]) w := by
  rw [results_cell_tmp h, hp]
  simp [asAddr, run_loadVar_row w g t ty cs fr d hg hu hd hi]
theorem set5_block {w : World} {b : Nat} {c0 c1 c2 c3 c4 : Value} {t : TypeId} (h : w.heap[b]? = some (.cells #[c0, c1, c2, c3, c4] t (0, 0))) (a0 a1 a2 a3 a4 : Value) :
    (((((w.setCell ⟨b, 0, none⟩ a0).setCell ⟨b, 1, none⟩ a1).setCell ⟨b, 2, none⟩ a2).setCell ⟨b, 3, none⟩ a3).setCell ⟨b, 4, none⟩ a4).heap[b]? = some (.cells #[a0, a1, a2, a3, a4] t (0, 0)) :=
  setCell_block (setCell_block (setCell_block (setCell_block (setCell_block h))))
theorem set5_below {B b : Nat} {a w : World} (h : Below B a w) (hb : B ≤ b) (a0 a1 a2 a3 a4 : Value) : Below B a (((((w.setCell ⟨b, 0, none⟩ a0).setCell ⟨b, 1, none⟩ a1).setCell ⟨b, 2, none⟩ a2).setCell ⟨b, 3, none⟩ a3).setCell ⟨b, 4, none⟩ a4) :=
  ((((h.setCell (p := ⟨b, 0, none⟩) hb _).setCell (p := ⟨b, 1, none⟩) hb _).setCell (p := ⟨b, 2, none⟩) hb _).setCell (p := ⟨b, 3, none⟩) hb _).setCell (p := ⟨b, 4, none⟩) hb _
theorem sumM_le (y m : Nat) (h : 1 ≤ m) : sumM y m (13 - m) ≤ 372 := by
  have key : ∀ k m', sumM y m' k ≤ 31 * k := by
    intro k
    induction k with
    | zero => intro m'; exact Nat.le_refl _
    | succ k ih =>
      intro m'
      have := ih (m' + 1)
      have := monthD_le y m'
      rw [sumM]
      omega
  have := key (13 - m) m
  omega
/-- the calendar date under way, in its block; the result's block -/
structure CRel (T : TypeId) (w : World) (y m d H MI : Int) (wr : World) : Prop where
  blk : wr.heap[w.heap.size + 1]? = some (.cells #[.int .i64 y, .int .i64 m, .int .i64 d, .int .i64 H, .int .i64 MI] T (0, 0))
  res : wr.heap[w.heap.size]? = some (.cells #[.int .i64 0, .int .i64 0, .int .i64 0, .int .i64 0, .int .i64 0] T (0, 0))
  below : Below w.heap.size w wr
theorem CRel.go {T : TypeId} {w : World} {y m d H MI : Int} {wr w' : World} (h : CRel T w y m d H MI wr) (hb : Below wr.heap.size wr w') : CRel T w y m d H MI w' :=
  ⟨(hb.block _ (ltBlock h.blk)).trans h.blk, (hb.block _ (ltBlock h.res)).trans h.res, h.below.trans (hb.mono h.below.size)⟩
theorem CRel.far {w : World} {a b k : Nat} {u : Value} {o : Obj} (h : w.heap[a]? = some o) (hne : a ≠ b) : (w.setCell ⟨b, k, none⟩ u).heap[a]? = some o := (Below.heap_setCell _ _ _ _ (by simpa using hne)).trans h
theorem CRel.year {T : TypeId} {w : World} {y m d H MI : Int} {wr : World} (h : CRel T w y m d H MI wr) (y' : Int) : CRel T w y' m d H MI (wr.setCell ⟨w.heap.size + 1, 0, none⟩ (.int .i64 y')) :=
  ⟨setCell_block h.blk, CRel.far h.res (by omega), h.below.setCell (p := ⟨w.heap.size + 1, 0, none⟩) (by show w.heap.size ≤ w.heap.size + 1; omega) _⟩
theorem CRel.month {T : TypeId} {w : World} {y m d H MI : Int} {wr : World} (h : CRel T w y m d H MI wr) (m' : Int) : CRel T w y m' d H MI (wr.setCell ⟨w.heap.size + 1, 1, none⟩ (.int .i64 m')) :=
  ⟨setCell_block h.blk, CRel.far h.res (by omega), h.below.setCell (p := ⟨w.heap.size + 1, 1, none⟩) (by show w.heap.size ≤ w.heap.size + 1; omega) _⟩
theorem CRel.day {T : TypeId} {w : World} {y m d H MI : Int} {wr : World} (h : CRel T w y m d H MI wr) (d' : Int) : CRel T w y m d' H MI (wr.setCell ⟨w.heap.size + 1, 2, none⟩ (.int .i64 d')) :=
  ⟨setCell_block h.blk, CRel.far h.res (by omega), h.below.setCell (p := ⟨w.heap.size + 1, 2, none⟩) (by show w.heap.size ≤ w.heap.size + 1; omega) _⟩
set_option maxRecDepth 100000 in
theorem refValid_s (n : Int) (w : World) : Calls Tryd.prog 19 #[.int .i64 n] w fun e w' => e = .returned (.bool (decide (0 ≤ n ∧ n ≤ 105190559))) ∧ w = w' := by
  by_cases h0 : 0 ≤ n <;> by_cases h1 : n ≤ 105190559
  all_goals
    go_enter Tryd.func19, Tryd.ntmps19
    go_wp2_with fail
    go_ret
    exact ⟨by simp [h0, h1], rfl⟩
set_option maxRecDepth 100000 in
set_option maxHeartbeats 8000000 in
theorem toCivil_s (n : Nat) (hn : n ≤ 105190559) (w : World) : Calls Tryd.prog 11 #[.int .i64 n] w fun e w' => e = .returned (.tuple #[.agg (civCells (civOf n)), .int .i64 0]) ∧ Below w.heap.size w w' := by
  go_enter Tryd.func11, Tryd.ntmps11
  go_wp2_with fail
  refine (valid_s n _).mono ?_
  rintro e w' ⟨rfl, rfl⟩
  rw [show decide ((0 : Int) ≤ n ∧ (n : Int) ≤ 105190559) = true by simp; omega]
  go_wp2_with fail
  obtain ⟨H, hH⟩ : ∃ H : Int, (n : Int) % 1440 / 60 = H := ⟨_, rfl⟩
  obtain ⟨MI, hMI⟩ : ∃ MI : Int, (n : Int) % 60 = MI := ⟨_, rfl⟩
  obtain ⟨D, hD⟩ : ∃ D : Nat, n / 1440 = D := ⟨_, rfl⟩
  have hDI : (n : Int) / 1440 = (D : Int) := by omega
  have hD9 : D ≤ 73048 := by omega
  have hMI2 : (n : Int) % 1440 % 60 = MI := by omega
  simp only [hH, hMI2, hMI, hDI]
  obtain ⟨ws, hws⟩ : ∃ ws, ws = (w.alloc (.cells #[.int .i64 0, .int .i64 0, .int .i64 0, .int .i64 0, .int .i64 0] 24)).alloc (.cells #[.int .i64 2000, .int .i64 1, .int .i64 0, .int .i64 H, .int .i64 MI] 24) := ⟨_, rfl⟩
  have HR0 := Lib.hid (show CRel 24 w 2000 1 0 H MI ws by
    rw [hws]
    refine ⟨?_, (Below.heap_alloc _ _ _ (by rw [sizeA]; omega)).trans (heapNew _ _), ((Below.refl _ _).alloc (Nat.le_refl _) _).alloc (by rw [sizeA]; omega) _⟩
    rw [← sizeA w (.cells #[.int .i64 0, .int .i64 0, .int .i64 0, .int .i64 0, .int .i64 0] 24)]
    exact heapNew _ _)
  rw [← hws]
  clear hws
  go_loopw [4] (fun day wr => ∃ d y : Nat, day = .int .i64 d ∧ yearG d y = yearG D 2000 ∧ 2000 ≤ y ∧ d + 365 * (y - 2000) ≤ 73048 ∧ CRel 24 w y 1 0 H MI wr) (fun day _ => (intOf day).toNat)
  case atStart => exact ⟨D, 2000, rfl, rfl, Nat.le_refl _, by omega, HR0.out⟩
  case round =>
    obtain ⟨d, y, rfl, hG, hy, hb, hR⟩ := hrel
    have HR := Lib.hid hR
    have y0 := cellAt hR.blk 0
    have y1 := cellAt hR.blk 1
    have yd := yearD_ge y
    have yd2 := yearD_le y
    have f0 := frozenAt hR.blk 0
    clear hR
    have hw1 : IntKind.i64.wrap ((y : Int) + 1) = (y : Int) + 1 := IntWalk.i64_in _ (by omega)
    go_wp2_with fail
    refine (yearDays_s y _).mono ?_
    rintro e w3 ⟨rfl, rfl⟩
    by_cases hlt : yearD y ≤ d
    · have hlt' : (yearD y : Int) ≤ (d : Int) := by omega
      have hw2 : IntKind.i64.wrap ((d : Int) - (yearD y : Int)) = (d : Int) - (yearD y : Int) := IntWalk.i64_in _ (by omega)
      go_wp2_with fail
      refine (yearDays_s y _).mono ?_
      rintro e w3 ⟨rfl, rfl⟩
      go_wp2_with fail
      go_roundw
      case rel => exact ⟨d - yearD y, y + 1, by rw [Int.ofNat_sub hlt], by rw [← hG, yearG_ge hlt], by omega, by omega, by push_cast; exact HR.out.year ((y : Int) + 1)⟩
      case measure => simp only [intOf]; omega
    · have hlt' : ¬ (yearD y : Int) ≤ (d : Int) := by omega
      have hlt2 : (d : Int) < (yearD y : Int) := by omega
      rw [yearG_lt (by omega)] at hG
      clear y0 y1 f0 hw1
      go_wp2_with fail
      go_loopw [4] (fun day wr => ∃ d' m : Nat, day = .int .i64 d' ∧ monthG d' y m = monthG d y 1 ∧ 1 ≤ m ∧ m ≤ 12 ∧ d' < sumM y m (13 - m) ∧ CRel 24 w y m 0 H MI wr) (fun day _ => (intOf day).toNat)
      case atStart => exact ⟨d, 1, rfl, rfl, Nat.le_refl _, by omega, by rw [sumM_year]; omega, HR.out⟩
      case round =>
        obtain ⟨d', m, rfl, hM, m0, m1, hs, hR2⟩ := hrel
        have HR2 := Lib.hid hR2
        have y0 := cellAt hR2.blk 0
        have y1 := cellAt hR2.blk 1
        have md := monthD_ge y m
        have hd9 : d' ≤ 372 := by have := sumM_le y m m0; omega
        have md2 := monthD_le y m
        clear hR2
        go_wp2_with fail
        refine (monthDays_s y m m0 m1 _).mono ?_
        rintro e w3 ⟨rfl, b3⟩
        have HR3 := Lib.hid (HR2.out.go b3)
        have z0 := cellAt HR3.out.blk 0
        have z1 := cellAt HR3.out.blk 1
        clear b3 y0 y1
        by_cases hle : monthD y m ≤ d'
        · have hle' : (monthD y m : Int) ≤ (d' : Int) := by omega
          have hm12 : m < 12 := by
            rcases Nat.lt_or_ge m 12 with h | h
            · exact h
            · obtain rfl : m = 12 := by omega
              simp [sumM] at hs
              omega
          have hw3 : IntKind.i64.wrap ((d' : Int) - (monthD y m : Int)) = (d' : Int) - (monthD y m : Int) := IntWalk.i64_in _ (by omega)
          have hw4 : IntKind.i64.wrap ((m : Int) + 1) = (m : Int) + 1 := IntWalk.i64_in _ (by omega)
          go_wp2_with fail
          refine (monthDays_s y m m0 m1 _).mono ?_
          rintro e w4 ⟨rfl, b4⟩
          have HR4 := Lib.hid (HR3.out.go b4)
          have u0 := cellAt HR4.out.blk 0
          have u1 := cellAt HR4.out.blk 1
          have f1 := frozenAt HR4.out.blk 1
          clear b4 z0 z1
          go_wp2_with fail
          have hs' : d' - monthD y m < sumM y (m + 1) (13 - (m + 1)) := by
            rw [show 13 - m = (13 - (m + 1)) + 1 by omega, sumM] at hs
            omega
          go_roundw
          case rel => exact ⟨d' - monthD y m, m + 1, by rw [Int.ofNat_sub hle], by rw [← hM, monthG_ge hle hm12], by omega, by omega, hs', by push_cast; exact HR4.out.month ((m : Int) + 1)⟩
          case measure => simp only [intOf]; omega
        · have hle' : ¬ (monthD y m : Int) ≤ (d' : Int) := by omega
          rw [monthG_lt (by omega)] at hM
          have hw5 : IntKind.i64.wrap ((d' : Int) + 1) = (d' : Int) + 1 := IntWalk.i64_in _ (by omega)
          have f2 := frozenAt HR3.out.blk 2
          have r0 := frozenAt HR3.out.res 0
          have r1 := frozenAt HR3.out.res 1
          have r2 := frozenAt HR3.out.res 2
          have r3 := frozenAt HR3.out.res 3
          have r4 := frozenAt HR3.out.res 4
          have c0 := cellAt HR3.out.res 0
          have c1 := cellAt HR3.out.res 1
          have c2 := cellAt HR3.out.res 2
          have c3 := cellAt HR3.out.res 3
          have c4 := cellAt HR3.out.res 4
          have z2 := cellAt HR3.out.blk 2
          have z3 := cellAt HR3.out.blk 3
          have z4 := cellAt HR3.out.blk 4
          go_wp2_with fail
          refine bodyPost_ret (results_cellC rfl _ _ w.heap.size _ _ _ _ rfl (set5_block (CRel.far HR3.out.res (by omega)) _ _ _ _ _) Tryd.underlying24 rfl (by kernel_rfl)) rfl ?_
          refine ⟨?_, set5_below ((HR3.out.day _).below) (Nat.le_refl _) _ _ _ _ _⟩
          have e : civOf n = ⟨y, m, d' + 1, n % 1440 / 60, n % 60⟩ := by
            unfold civOf
            simp only [hD, ← hG, ← hM]
          rw [e]
          simp only [civCells]
          rw [← hH, ← hMI]
          push_cast
          rfl
set_option maxRecDepth 100000 in
set_option maxHeartbeats 8000000 in
theorem refToCivil_s (n : Nat) (hn : n ≤ 105190559) (w : World) : Calls Tryd.prog 12 #[.int .i64 n] w fun e w' => e = .returned (.tuple #[.agg (civCells (civOf n)), .int .i64 0]) ∧ Below w.heap.size w w' := by
  go_enter Tryd.func12, Tryd.ntmps12
  go_wp2_with fail
  refine (refValid_s n _).mono ?_
  rintro e w' ⟨rfl, rfl⟩
  rw [show decide ((0 : Int) ≤ n ∧ (n : Int) ≤ 105190559) = true by simp; omega]
  go_wp2_with fail
  obtain ⟨H, hH⟩ : ∃ H : Int, (n : Int) % 1440 / 60 = H := ⟨_, rfl⟩
  obtain ⟨MI, hMI⟩ : ∃ MI : Int, (n : Int) % 60 = MI := ⟨_, rfl⟩
  obtain ⟨D, hD⟩ : ∃ D : Nat, n / 1440 = D := ⟨_, rfl⟩
  have hDI : (n : Int) / 1440 = (D : Int) := by omega
  have hD9 : D ≤ 73048 := by omega
  have hMI2 : (n : Int) % 1440 % 60 = MI := by omega
  simp only [hH, hMI2, hMI, hDI]
  obtain ⟨ws, hws⟩ : ∃ ws, ws = (w.alloc (.cells #[.int .i64 0, .int .i64 0, .int .i64 0, .int .i64 0, .int .i64 0] 28)).alloc (.cells #[.int .i64 2000, .int .i64 1, .int .i64 0, .int .i64 H, .int .i64 MI] 28) := ⟨_, rfl⟩
  have HR0 := Lib.hid (show CRel 28 w 2000 1 0 H MI ws by
    rw [hws]
    refine ⟨?_, (Below.heap_alloc _ _ _ (by rw [sizeA]; omega)).trans (heapNew _ _), ((Below.refl _ _).alloc (Nat.le_refl _) _).alloc (by rw [sizeA]; omega) _⟩
    rw [← sizeA w (.cells #[.int .i64 0, .int .i64 0, .int .i64 0, .int .i64 0, .int .i64 0] 28)]
    exact heapNew _ _)
  rw [← hws]
  clear hws
  go_loopw [4, 6] (fun day _ wr => ∃ d y : Nat, day = .int .i64 d ∧ yearG d y = yearG D 2000 ∧ 2000 ≤ y ∧ d + 365 * (y - 2000) ≤ 73048 ∧ CRel 28 w y 1 0 H MI wr) (fun day _ _ => (intOf day).toNat)
  case atStart => exact ⟨D, 2000, rfl, rfl, Nat.le_refl _, by omega, HR0.out⟩
  case round =>
    obtain ⟨d, y, rfl, hG, hy, hb, hR⟩ := hrel
    have HR := Lib.hid hR
    have y0 := cellAt hR.blk 0
    have y1 := cellAt hR.blk 1
    have yd := yearD_ge y
    have yd2 := yearD_le y
    have f0 := frozenAt hR.blk 0
    clear hR
    have hw1 : IntKind.i64.wrap ((y : Int) + 1) = (y : Int) + 1 := IntWalk.i64_in _ (by omega)
    go_wp2_with fail
    refine (refLeap_s y _).mono ?_
    rintro e w3 ⟨rfl, rfl⟩
    cases hl : leapB y
    case false =>
      have hyv : yearD y = 365 := by unfold yearD; rw [hl]; rfl
      by_cases hlt : yearD y ≤ d
      · have hlt' : (365 : Int) ≤ (d : Int) := by omega
        have hlt9 : ¬ (d : Int) < 365 := by omega
        have hw2 : IntKind.i64.wrap ((d : Int) - 365) = (d : Int) - 365 := IntWalk.i64_in _ (by omega)
        go_wp2_with fail
        go_roundw
        case rel => exact ⟨d - yearD y, y + 1, by rw [Int.ofNat_sub hlt, hyv]; rfl, by rw [← hG, yearG_ge hlt], by omega, by omega, by push_cast; exact HR.out.year ((y : Int) + 1)⟩
        case measure => simp only [intOf]; omega
      · have hlt' : ¬ (365 : Int) ≤ (d : Int) := by omega
        have hlt2 : (d : Int) < 365 := by omega
        rw [yearG_lt (by omega)] at hG
        clear y0 y1 f0 hw1
        go_wp2_with fail
        go_loopw [4] (fun day wr => ∃ d' m : Nat, day = .int .i64 d' ∧ monthG d' y m = monthG d y 1 ∧ 1 ≤ m ∧ m ≤ 12 ∧ d' < sumM y m (13 - m) ∧ CRel 28 w y m 0 H MI wr) (fun day _ => (intOf day).toNat)
        case atStart => exact ⟨d, 1, rfl, rfl, Nat.le_refl _, by omega, by rw [sumM_year]; omega, HR.out⟩
        case round =>
          obtain ⟨d', m, rfl, hM, m0, m1, hs, hR2⟩ := hrel
          have HR2 := Lib.hid hR2
          have y0 := cellAt hR2.blk 0
          have y1 := cellAt hR2.blk 1
          have md := monthD_ge y m
          have hd9 : d' ≤ 372 := by have := sumM_le y m m0; omega
          have md2 := monthD_le y m
          clear hR2
          go_wp2_with fail
          refine (refDays_s y m m0 m1 _).mono ?_
          rintro e w3 ⟨rfl, b3⟩
          have HR3 := Lib.hid (HR2.out.go b3)
          have z0 := cellAt HR3.out.blk 0
          have z1 := cellAt HR3.out.blk 1
          clear b3 y0 y1
          by_cases hle : monthD y m ≤ d'
          · have hle' : (monthD y m : Int) ≤ (d' : Int) := by omega
            have hm12 : m < 12 := by
              rcases Nat.lt_or_ge m 12 with h | h
              · exact h
              · obtain rfl : m = 12 := by omega
                simp [sumM] at hs
                omega
            have hw3 : IntKind.i64.wrap ((d' : Int) - (monthD y m : Int)) = (d' : Int) - (monthD y m : Int) := IntWalk.i64_in _ (by omega)
            have hw4 : IntKind.i64.wrap ((m : Int) + 1) = (m : Int) + 1 := IntWalk.i64_in _ (by omega)
            go_wp2_with fail
            refine (refDays_s y m m0 m1 _).mono ?_
            rintro e w4 ⟨rfl, b4⟩
            have HR4 := Lib.hid (HR3.out.go b4)
            have u0 := cellAt HR4.out.blk 0
            have u1 := cellAt HR4.out.blk 1
            have f1 := frozenAt HR4.out.blk 1
            clear b4 z0 z1
            go_wp2_with fail
            have hs' : d' - monthD y m < sumM y (m + 1) (13 - (m + 1)) := by
              rw [show 13 - m = (13 - (m + 1)) + 1 by omega, sumM] at hs
              omega
            go_roundw
            case rel => exact ⟨d' - monthD y m, m + 1, by rw [Int.ofNat_sub hle], by rw [← hM, monthG_ge hle hm12], by omega, by omega, hs', by push_cast; exact HR4.out.month ((m : Int) + 1)⟩
            case measure => simp only [intOf]; omega
          · have hle' : ¬ (monthD y m : Int) ≤ (d' : Int) := by omega
            rw [monthG_lt (by omega)] at hM
            have hw5 : IntKind.i64.wrap ((d' : Int) + 1) = (d' : Int) + 1 := IntWalk.i64_in _ (by omega)
            have f2 := frozenAt HR3.out.blk 2
            have r0 := frozenAt HR3.out.res 0
            have r1 := frozenAt HR3.out.res 1
            have r2 := frozenAt HR3.out.res 2
            have r3 := frozenAt HR3.out.res 3
            have r4 := frozenAt HR3.out.res 4
            have c0 := cellAt HR3.out.res 0
            have c1 := cellAt HR3.out.res 1
            have c2 := cellAt HR3.out.res 2
            have c3 := cellAt HR3.out.res 3
            have c4 := cellAt HR3.out.res 4
            have z2 := cellAt HR3.out.blk 2
            have z3 := cellAt HR3.out.blk 3
            have z4 := cellAt HR3.out.blk 4
            go_wp2_with fail
            refine bodyPost_ret (results_cellC rfl _ _ w.heap.size _ _ _ _ rfl (set5_block (CRel.far HR3.out.res (by omega)) _ _ _ _ _) Tryd.underlying28 rfl (by kernel_rfl)) rfl ?_
            refine ⟨?_, set5_below ((HR3.out.day _).below) (Nat.le_refl _) _ _ _ _ _⟩
            have e : civOf n = ⟨y, m, d' + 1, n % 1440 / 60, n % 60⟩ := by
              unfold civOf
              simp only [hD, ← hG, ← hM]
            rw [e]
            simp only [civCells]
            rw [← hH, ← hMI]
            push_cast
            rfl
    case true =>
      have hyv : yearD y = 366 := by unfold yearD; rw [hl]; rfl
      by_cases hlt : yearD y ≤ d
      · have hlt' : (366 : Int) ≤ (d : Int) := by omega
        have hlt9 : ¬ (d : Int) < 366 := by omega
        have hw2 : IntKind.i64.wrap ((d : Int) - 366) = (d : Int) - 366 := IntWalk.i64_in _ (by omega)
        go_wp2_with fail
        go_roundw
        case rel => exact ⟨d - yearD y, y + 1, by rw [Int.ofNat_sub hlt, hyv]; rfl, by rw [← hG, yearG_ge hlt], by omega, by omega, by push_cast; exact HR.out.year ((y : Int) + 1)⟩
        case measure => simp only [intOf]; omega
      · have hlt' : ¬ (366 : Int) ≤ (d : Int) := by omega
        have hlt2 : (d : Int) < 366 := by omega
        rw [yearG_lt (by omega)] at hG
        clear y0 y1 f0 hw1
        go_wp2_with fail
        go_loopw [4] (fun day wr => ∃ d' m : Nat, day = .int .i64 d' ∧ monthG d' y m = monthG d y 1 ∧ 1 ≤ m ∧ m ≤ 12 ∧ d' < sumM y m (13 - m) ∧ CRel 28 w y m 0 H MI wr) (fun day _ => (intOf day).toNat)
        case atStart => exact ⟨d, 1, rfl, rfl, Nat.le_refl _, by omega, by rw [sumM_year]; omega, HR.out⟩
        case round =>
          obtain ⟨d', m, rfl, hM, m0, m1, hs, hR2⟩ := hrel
          have HR2 := Lib.hid hR2
          have y0 := cellAt hR2.blk 0
          have y1 := cellAt hR2.blk 1
          have md := monthD_ge y m
          have hd9 : d' ≤ 372 := by have := sumM_le y m m0; omega
          have md2 := monthD_le y m
          clear hR2
          go_wp2_with fail
          refine (refDays_s y m m0 m1 _).mono ?_
          rintro e w3 ⟨rfl, b3⟩
          have HR3 := Lib.hid (HR2.out.go b3)
          have z0 := cellAt HR3.out.blk 0
          have z1 := cellAt HR3.out.blk 1
          clear b3 y0 y1
          by_cases hle : monthD y m ≤ d'
          · have hle' : (monthD y m : Int) ≤ (d' : Int) := by omega
            have hm12 : m < 12 := by
              rcases Nat.lt_or_ge m 12 with h | h
              · exact h
              · obtain rfl : m = 12 := by omega
                simp [sumM] at hs
                omega
            have hw3 : IntKind.i64.wrap ((d' : Int) - (monthD y m : Int)) = (d' : Int) - (monthD y m : Int) := IntWalk.i64_in _ (by omega)
            have hw4 : IntKind.i64.wrap ((m : Int) + 1) = (m : Int) + 1 := IntWalk.i64_in _ (by omega)
            go_wp2_with fail
            refine (refDays_s y m m0 m1 _).mono ?_
            rintro e w4 ⟨rfl, b4⟩
            have HR4 := Lib.hid (HR3.out.go b4)
            have u0 := cellAt HR4.out.blk 0
            have u1 := cellAt HR4.out.blk 1
            have f1 := frozenAt HR4.out.blk 1
            clear b4 z0 z1
            go_wp2_with fail
            have hs' : d' - monthD y m < sumM y (m + 1) (13 - (m + 1)) := by
              rw [show 13 - m = (13 - (m + 1)) + 1 by omega, sumM] at hs
              omega
            go_roundw
            case rel => exact ⟨d' - monthD y m, m + 1, by rw [Int.ofNat_sub hle], by rw [← hM, monthG_ge hle hm12], by omega, by omega, hs', by push_cast; exact HR4.out.month ((m : Int) + 1)⟩
            case measure => simp only [intOf]; omega
          · have hle' : ¬ (monthD y m : Int) ≤ (d' : Int) := by omega
            rw [monthG_lt (by omega)] at hM
            have hw5 : IntKind.i64.wrap ((d' : Int) + 1) = (d' : Int) + 1 := IntWalk.i64_in _ (by omega)
            have f2 := frozenAt HR3.out.blk 2
            have r0 := frozenAt HR3.out.res 0
            have r1 := frozenAt HR3.out.res 1
            have r2 := frozenAt HR3.out.res 2
            have r3 := frozenAt HR3.out.res 3
            have r4 := frozenAt HR3.out.res 4
            have c0 := cellAt HR3.out.res 0
            have c1 := cellAt HR3.out.res 1
            have c2 := cellAt HR3.out.res 2
            have c3 := cellAt HR3.out.res 3
            have c4 := cellAt HR3.out.res 4
            have z2 := cellAt HR3.out.blk 2
            have z3 := cellAt HR3.out.blk 3
            have z4 := cellAt HR3.out.blk 4
            go_wp2_with fail
            refine bodyPost_ret (results_cellC rfl _ _ w.heap.size _ _ _ _ rfl (set5_block (CRel.far HR3.out.res (by omega)) _ _ _ _ _) Tryd.underlying28 rfl (by kernel_rfl)) rfl ?_
            refine ⟨?_, set5_below ((HR3.out.day _).below) (Nat.le_refl _) _ _ _ _ _⟩
            have e : civOf n = ⟨y, m, d' + 1, n % 1440 / 60, n % 60⟩ := by
              unfold civOf
              simp only [hD, ← hG, ← hM]
            rw [e]
            simp only [civCells]
            rw [← hH, ← hMI]
            push_cast
            rfl
set_option maxRecDepth 100000 in
set_option maxHeartbeats 4000000 in
theorem toCivil_bad (n : Int) (hn : ¬ (0 ≤ n ∧ n ≤ 105190559)) (w : World) : Calls Tryd.prog 11 #[.int .i64 n] w fun e w' => e = .returned (.tuple #[.agg (civCells noCiv), .int .i64 2]) ∧ Below w.heap.size w w' := by
  go_enter Tryd.func11, Tryd.ntmps11
  go_wp2_with fail
  refine (valid_s n _).mono ?_
  rintro e w' ⟨rfl, rfl⟩
  rw [show decide (0 ≤ n ∧ n ≤ 105190559) = false by simpa using hn]
  go_wp2_with fail
  refine bodyPost_ret (results_cellC rfl _ _ w.heap.size _ _ _ _ rfl (heapNew _ _) Tryd.underlying24 rfl (by kernel_rfl)) rfl ?_
  exact ⟨rfl, (Below.refl _ _).alloc (Nat.le_refl _) _⟩
set_option maxRecDepth 100000 in
set_option maxHeartbeats 4000000 in
theorem refToCivil_bad (n : Int) (hn : ¬ (0 ≤ n ∧ n ≤ 105190559)) (w : World) : Calls Tryd.prog 12 #[.int .i64 n] w fun e w' => e = .returned (.tuple #[.agg (civCells noCiv), .int .i64 2]) ∧ Below w.heap.size w w' := by
  go_enter Tryd.func12, Tryd.ntmps12
  go_wp2_with fail
  refine (refValid_s n _).mono ?_
  rintro e w' ⟨rfl, rfl⟩
  rw [show decide (0 ≤ n ∧ n ≤ 105190559) = false by simpa using hn]
  go_wp2_with fail
  refine bodyPost_ret (results_cellC rfl _ _ w.heap.size _ _ _ _ rfl (heapNew _ _) Tryd.underlying28 rfl (by kernel_rfl)) rfl ?_
  exact ⟨rfl, (Below.refl _ _).alloc (Nat.le_refl _) _⟩
end Go.Proofs.YtiijngjhhcjiaaaDoor
