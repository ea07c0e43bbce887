/-
  The examples of the chapter on ASCII hold: the function known returns true.
-/
import Derived.Test.YtgmamplnhechjaaDoorKnoA
set_option linter.unusedSimpArgs false
set_option linter.unusedVariables false
set_option linter.unnecessarySimpa false
namespace Go.Proofs.YtgmamplnhechjaaDoor
open Go.RowKit Go.Bul
/-- what every operation of the last statement keeps -/
def KS (w0 : World) (g : Nat) (w : World) : Prop := Below w0.heap.size w0 w ∧ w.cell? ⟨g, 1, none⟩ = some (.string ⟨#[98]⟩)
theorem KS.below {w0 w w' : World} {g : Nat} (hg : g < w0.heap.size) (h : KS w0 g w) (hb : Below w.heap.size w w') : KS w0 g w' := by
  have hs := h.1.size
  exact ⟨h.1.trans (hb.mono hs), by rw [hb.cell (p := ⟨g, 1, none⟩) (by simp; omega)]; exact h.2⟩
theorem KS.alloc {w0 w : World} {g : Nat} (hg : g < w0.heap.size) (h : KS w0 g w) (o : Obj) : KS w0 g (w.alloc o) :=
  h.below hg ((Below.refl _ _).alloc (Nat.le_refl _) o)
theorem KS.gl {w0 w : World} {g : Nat} (h : KS w0 g w) (hg : Gl w0) : Gl w := hg.below h.1
set_option maxRecDepth 100000 in
set_option maxHeartbeats 8000000 in
theorem known_s (w : World) (hg : Gl w) : Calls Tryd.prog 14 #[] w fun e w' => e = .returned (.bool true) ∧ Below w.heap.size w w' := by
  have HG := Lib.hid hg
  clear hg
  go_enter Tryd.func14, Tryd.ntmps14
  go_wp2_with fail
  refine (k_words _).mono ?_
  rintro e w1 ⟨g, c, rfl, hg1, hc1, hb1⟩
  have HC1 := Lib.hid hc1
  clear hc1
  go_wp2_with fail
  refine (k_num ⟨#[49, 50, 48]⟩ 120 120 0 (by decide) (by decide) _ (HG.out.below hb1)).mono ?_
  rintro e w2 ⟨rfl, hb2⟩
  have b2 := hb1.trans (hb2.mono hb1.size)
  go_wp2_with fail
  refine (k_num ⟨#[49, 50, 49]⟩ 120 0 2 (by decide) (by decide) _ (HG.out.below b2)).mono ?_
  rintro e w3 ⟨rfl, hb3⟩
  have b3 := b2.trans (hb3.mono b2.size)
  go_wp2_with fail
  refine (k_num ⟨#[48, 48, 55]⟩ 120 0 3 (by decide) (by decide) _ (HG.out.below b3)).mono ?_
  rintro e w4 ⟨rfl, hb4⟩
  have b4 := b3.trans (hb4.mono b3.size)
  go_wp2_with fail
  refine (k_unhex _).mono ?_
  rintro e w5 ⟨rfl, hb5⟩
  have b5 := b4.trans (hb5.mono b4.size)
  have hg5 : g < w5.heap.size := by have := hb2.size; have := hb3.size; have := hb4.size; have := hb5.size; omega
  have c5 : w5.cell? ⟨g, 1, none⟩ = some (.string ⟨#[98]⟩) := by
    have s1 := hb2.size; have s2 := hb3.size; have s3 := hb4.size
    rw [hb5.cell (p := ⟨g, 1, none⟩) (by simp; omega), hb4.cell (p := ⟨g, 1, none⟩) (by simp; omega), hb3.cell (p := ⟨g, 1, none⟩) (by simp; omega), hb2.cell (p := ⟨g, 1, none⟩) hg1]
    exact HC1.out
  have k5 : KS w5 g w5 := ⟨Below.refl _ _, c5⟩
  have G5 := Lib.hid (HG.out.below b5)
  clear HG HC1 hb1 hb2 hb3 hb4 hb5 b2 b3 b4 hg1
  have B5 := Lib.hid b5
  clear b5 c5
  go_wp2_with fail
  refine (k_equal _).mono ?_
  rintro e w6 ⟨rfl, h6⟩
  have k6 := k5.below hg5 h6
  clear h6
  go_wp2_with fail
  refine (k_compare _).mono ?_
  rintro e w7 ⟨rfl, h7⟩
  have k7 := k6.below hg5 h7
  clear h7
  go_wp2_with fail
  refine (k_index _ (KS.gl k7 G5.out)).mono ?_
  rintro e w8 ⟨rfl, h8⟩
  have k8 := k7.below hg5 h8
  clear h8
  go_wp2_with fail
  refine (k_trim _).mono ?_
  rintro e w9 ⟨rfl, h9⟩
  have k9 := k8.below hg5 h9
  clear h9
  have c9 := k9.2
  go_wp2_with fail
  clear c9
  refine (k_squeeze _).mono ?_
  rintro e w10 ⟨rfl, h10⟩
  have k10 := k9.below hg5 h10
  clear h10
  go_wp2_with fail
  refine (k_digits _ (KS.gl k10 G5.out)).mono ?_
  rintro e w11 ⟨rfl, h11⟩
  have k11 := k10.below hg5 h11
  clear h11
  go_wp2_with fail
  refine (k_hex _ _ _ (by simp) (by simp) (by simp)).mono ?_
  rintro e w12 ⟨rfl, h12⟩
  have k12 := (k11.alloc hg5 _).below hg5 h12
  clear h12
  go_wp2_with fail
  refine (k_print _).mono ?_
  rintro e w13 ⟨rfl, h13⟩
  have k13 := k12.below hg5 h13
  clear h13
  go_wp2_with fail
  go_ret
  exact ⟨rfl, B5.out.trans (k13.1.mono B5.out.size)⟩
end Go.Proofs.YtgmamplnhechjaaDoor
