/-
  The laws DateFromCivil and DateCivil, walked.
-/
import Derived.Test.YtiijngjhhcjiaaaDoorDatW
import Derived.Test.YtiijngjhhcjiaaaDoorDatE
set_option linter.unusedSimpArgs false
set_option linter.unusedVariables false
set_option linter.unnecessarySimpa false
namespace Go.Proofs.YtiijngjhhcjiaaaDoor
open Go.RowKit Go.Bul
theorem from_both (y m d h mi : Int) : ∃ v e : Int, (∀ w : World, Calls Tryd.prog 14 #[civV y m d h mi] w fun r w' => r = .returned (.tuple #[.int .i64 v, .int .i64 e]) ∧ Below w.heap.size w w') ∧
    (∀ w : World, Calls Tryd.prog 15 #[civV y m d h mi] w fun r w' => r = .returned (.tuple #[.int .i64 v, .int .i64 e]) ∧ Below w.heap.size w w') := by
  by_cases hr : y < 2000 ∨ 2199 < y ∨ m < 1 ∨ 12 < m
  · exact ⟨0, 2, from_range y m d h mi hr, refFrom_range y m d h mi hr⟩
  obtain ⟨Y, rfl⟩ : ∃ Y : Nat, y = Y := ⟨y.toNat, by omega⟩
  obtain ⟨M, rfl⟩ : ∃ M : Nat, m = M := ⟨m.toNat, by omega⟩
  by_cases hd : d < 1 ∨ (monthD Y M : Int) < d ∨ h < 0 ∨ 23 < h ∨ mi < 0 ∨ 59 < mi
  · exact ⟨0, 13, from_date Y M (by omega) (by omega) (by omega) (by omega) d h mi hd, refFrom_date Y M (by omega) (by omega) (by omega) (by omega) d h mi hd⟩
  obtain ⟨D, rfl⟩ : ∃ D : Nat, d = D := ⟨d.toNat, by omega⟩
  obtain ⟨H, rfl⟩ : ∃ H : Nat, h = H := ⟨h.toNat, by omega⟩
  obtain ⟨I, rfl⟩ : ∃ I : Nat, mi = I := ⟨mi.toNat, by omega⟩
  exact ⟨_, 0, from_good Y M D H I (by omega) (by omega) (by omega) (by omega) (by omega) (by omega) (by omega) (by omega), refFrom_good Y M D H I (by omega) (by omega) (by omega) (by omega) (by omega) (by omega) (by omega) (by omega)⟩
set_option maxRecDepth 100000 in
set_option maxHeartbeats 4000000 in
theorem lawFromCivil_c (y m d h mi : Int) (w : World) (hg : Gd w) : Calls Tryd.prog 4 #[civV y m d h mi] w fun e w' => e = .returned (.bool true) ∧ Below w.heap.size w w' := by
  obtain ⟨v, e, h1, h2⟩ := from_both y m d h mi
  unfold civV at h1 h2
  have H1 := Lib.hid h1
  have H2 := Lib.hid h2
  have HG := Lib.hid hg
  clear h1 h2 hg
  unfold civV
  go_enter Tryd.func4, Tryd.ntmps4
  go_wp2_with fail
  refine (known04_s _ (HG.out.below ((Below.refl _ _).alloc (Nat.le_refl _) _))).mono ?_
  rintro r w1 ⟨rfl, b1⟩
  have HB1 := Lib.hid (((Below.refl w.heap.size w).alloc (Nat.le_refl _) (.cells #[.int .i64 y, .int .i64 m, .int .i64 d, .int .i64 h, .int .i64 mi] 28)).trans (b1.mono (by rw [sizeA]; omega)))
  have HZ1 := Lib.hid ((b1.block w.heap.size (by rw [sizeA]; omega)).trans (heapNew w (.cells #[.int .i64 y, .int .i64 m, .int .i64 d, .int .i64 h, .int .i64 mi] 28)))
  clear b1
  have x0 := cellAt HZ1.out 0
  have x1 := cellAt HZ1.out 1
  have x2 := cellAt HZ1.out 2
  have x3 := cellAt HZ1.out 3
  have x4 := cellAt HZ1.out 4
  have hl1 := ltBlock HZ1.out
  go_wp2_with fail
  refine (H1.out _).mono ?_
  rintro r w2 ⟨rfl, b2⟩
  have HB2 := Lib.hid (HB1.out.trans (b2.mono HB1.out.size))
  have HZ2 := Lib.hid ((b2.block w.heap.size hl1).trans HZ1.out)
  clear b2 x0 x1 x2 x3 x4
  have x0 := cellAt HZ2.out 0
  have x1 := cellAt HZ2.out 1
  have x2 := cellAt HZ2.out 2
  have x3 := cellAt HZ2.out 3
  have x4 := cellAt HZ2.out 4
  go_wp2_with fail
  refine (H2.out _).mono ?_
  rintro r w3 ⟨rfl, b3⟩
  have HB3 := Lib.hid (HB2.out.trans (b3.mono HB2.out.size))
  clear b3 x0 x1 x2 x3 x4
  go_wp2_with fail
  go_ret
  exact ⟨rfl, HB3.out⟩
end Go.Proofs.YtiijngjhhcjiaaaDoor
