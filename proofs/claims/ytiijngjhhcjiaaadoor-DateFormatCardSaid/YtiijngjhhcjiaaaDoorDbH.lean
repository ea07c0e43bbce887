/-
  Package date: IsCanonical; the law DateCanonical, walked.
-/
import Derived.Test.YtiijngjhhcjiaaaDoorDbG
import Derived.Test.YtiijngjhhcjiaaaDoorDatX
set_option linter.unusedSimpArgs false
set_option linter.unusedVariables false
set_option linter.unnecessarySimpa false
namespace Go.Proofs.YtiijngjhhcjiaaaDoor
open Go.RowKit Go.Bul
abbrev CV (w : World) : Prop := Go.Lib.CaseVar 2 Go.Lib.caseA w
def fmtB (s : ByteArray) : ByteArray := ⟨(fmtL (parseF s).m.toNat 43 0).toArray⟩
def canF (s : ByteArray) : Bool := ((parseF s).e == 0) && ((fmtB s).toList == s.toList)
theorem canF_err {s : ByteArray} (h : (parseF s).e ≠ 0) : canF s = false := by
  unfold canF; rw [show ((parseF s).e == 0) = false by rw [beq_eq_false_iff_ne]; exact h]; rfl
theorem canF_ok {s : ByteArray} (h : (parseF s).e = 0) : canF s = ((fmtB s).toList == s.toList) := by
  unfold canF; rw [h]; rfl
set_option maxRecDepth 100000 in
set_option maxHeartbeats 4000000 in
theorem isCanonical_g (s : ByteArray) (hs : s.size ≤ 1000000) (w : World) (hg : Gd w) (hcv : CV w) :
    Calls Tryd.prog 21 #[.string s] w fun r w' => r = .returned (.bool (canF s)) ∧ Below w.heap.size w w' := by
  have HG := Lib.hid hg
  have hp := fun W hg hc => parse_g s hs W hg hc
  obtain ⟨b0, b1⟩ := parseF_bd s
  have hf := fun (W : World) hg => format_s (parseF s).m.toNat (by omega) W hg
  rw [Int.toNat_of_nonneg b0] at hf
  have hfb : (Sb (fmtL (parseF s).m.toNat 43 0)) = .string (fmtB s) := rfl
  rw [hfb] at hf
  obtain ⟨T, hT⟩ : ∃ T, fmtB s = T := ⟨_, rfl⟩
  have hc1 := fun h => canF_err (s := s) h
  have hc2 := fun h => canF_ok (s := s) h
  rw [hT] at hf
  simp only [hT] at hc2
  obtain ⟨C, hC⟩ : ∃ C, canF s = C := ⟨_, rfl⟩
  rw [hC]
  simp only [hC] at hc1 hc2
  obtain ⟨p, hpp⟩ : ∃ p, parseF s = p := ⟨_, rfl⟩
  simp only [hpp] at hf hp hc1 hc2
  unfold prV at hp
  have HP := Lib.hid hp
  have HF := Lib.hid hf
  have HCV := Lib.hid hcv
  have H1 := Lib.hid hc1
  have H2 := Lib.hid hc2
  clear hg hp b0 b1 hf hfb hT hc1 hc2 hC hpp hcv
  go_enter Tryd.func21, Tryd.ntmps21
  go_wp2_with fail
  refine (HP.out w HG.out HCV.out).mono ?_
  rintro r w1 ⟨rfl, b1⟩
  have HB1 := Lib.hid b1
  clear b1
  by_cases he : p.e = 0
  · have h1 : (p.e == 0) = true := by rw [he]; rfl
    have h2 : (p.e != 0) = false := by rw [he]; rfl
    have HCC := Lib.hid (H2.out he)
    clear he
    go_wp2_with fail
    refine (HF.out w1 (HG.out.below HB1.out)).mono ?_
    rintro r w2 ⟨rfl, b2⟩
    have HB2 := Lib.hid (HB1.out.trans (b2.mono HB1.out.size))
    clear b2
    go_wp2_with fail
    go_ret
    exact ⟨retB HCC.out.symm, HB2.out⟩
  · have h1 : (p.e == 0) = false := by rw [beq_eq_false_iff_ne]; exact he
    have h2 : (p.e != 0) = true := by rw [bne_iff_ne]; exact he
    have HCC := Lib.hid (H1.out he)
    clear he
    go_wp2_with fail
    go_ret
    exact ⟨retB HCC.out.symm, HB1.out⟩
set_option maxRecDepth 100000 in
set_option maxHeartbeats 4000000 in
theorem lawCanonical_c (s : ByteArray) (_hs : s.size ≤ maxLen) (w : World) (hg : Gd w) (hcv : CV w) :
    Calls Tryd.prog 8 #[.string s] w fun r w' => r = .returned (.bool true) ∧ Below w.heap.size w w' := by
  have HG := Lib.hid hg
  have HCV := Lib.hid hcv
  by_cases h200 : 200 < s.size
  · have h1 : decide (200 < s.size) = true := decide_eq_true h200
    have h2 : decide ((200 : Int) < (s.size : Int)) = true := decide_eq_true (by omega)
    clear hg hcv h200
    go_enter Tryd.func8, Tryd.ntmps8
    go_wp2_with fail
    refine (known04_s _ HG.out).mono ?_
    rintro r w1 ⟨rfl, b1⟩
    have HB1 := Lib.hid b1
    clear b1
    go_wp2_with fail
    refine (known04_s _ (HG.out.below HB1.out)).mono ?_
    rintro r w2 ⟨rfl, b2⟩
    have HB2 := Lib.hid (HB1.out.trans (b2.mono HB1.out.size))
    clear b2
    go_wp2_with fail
    go_ret
    exact ⟨rfl, HB2.out⟩
  have hp := fun W hg hc => parse_g s (by omega) W hg hc
  have hcan := fun W hg hc => isCanonical_g s (by omega) W hg hc
  obtain ⟨b0, b1⟩ := parseF_bd s
  have hf := fun (W : World) hg => format_s (parseF s).m.toNat (by omega) W hg
  rw [Int.toNat_of_nonneg b0] at hf
  have hfb : (Sb (fmtL (parseF s).m.toNat 43 0)) = .string (fmtB s) := rfl
  rw [hfb] at hf
  have hc2 : canF s = (((parseF s).e == 0) && ((fmtB s).toList == s.toList)) := rfl
  obtain ⟨T, hT⟩ : ∃ T, fmtB s = T := ⟨_, rfl⟩
  rw [hT] at hf
  simp only [hT] at hc2
  obtain ⟨C, hC⟩ : ∃ C, canF s = C := ⟨_, rfl⟩
  simp only [hC] at hc2 hcan
  obtain ⟨p, hpp⟩ : ∃ p, parseF s = p := ⟨_, rfl⟩
  simp only [hpp] at hf hp hc2
  unfold prV at hp
  have HP := Lib.hid hp
  have HF := Lib.hid hf
  have HC := Lib.hid hcan
  have H2 := Lib.hid hc2
  have h1 : decide (200 < s.size) = false := decide_eq_false h200
  have h2 : decide ((200 : Int) < (s.size : Int)) = false := decide_eq_false (by omega)
  clear hg hp b0 b1 hf hfb hT hc2 hC hpp hcv hcan h200
  by_cases he : p.e = 0
  case pos =>
    have e1 : (p.e == 0) = true := by rw [he]; rfl
    have HE := Lib.hid (show C = (T.toList == s.toList) by rw [H2.out, he]; rfl)
    clear he
    go_enter Tryd.func8, Tryd.ntmps8
    go_wp2_with fail
    refine (known04_s _ HG.out).mono ?_
    rintro r w1 ⟨rfl, b1⟩
    have HB1 := Lib.hid b1
    clear b1
    go_wp2_with fail
    refine (HP.out w1 (HG.out.below HB1.out) (Go.Lib.CaseVar_below HCV.out HB1.out)).mono ?_
    rintro r w2 ⟨rfl, b2⟩
    have HB2 := Lib.hid (HB1.out.trans (b2.mono HB1.out.size))
    clear b2
    go_wp2_with fail
    refine (HF.out w2 (HG.out.below HB2.out)).mono ?_
    rintro r w3 ⟨rfl, b3⟩
    have HB3 := Lib.hid (HB2.out.trans (b3.mono HB2.out.size))
    clear b3
    go_wp2_with fail
    refine (HC.out w3 (HG.out.below HB3.out) (Go.Lib.CaseVar_below HCV.out HB3.out)).mono ?_
    rintro r w4 ⟨rfl, b4⟩
    have HB4 := Lib.hid (HB3.out.trans (b4.mono HB3.out.size))
    clear b4
    go_wp2_with fail
    go_ret
    exact ⟨retB (by rw [HE.out]; simp), HB4.out⟩
  case neg =>
    have e1 : (p.e == 0) = false := by rw [beq_eq_false_iff_ne]; exact he
    have HE := Lib.hid (show C = false by rw [H2.out, e1]; rfl)
    clear he
    go_enter Tryd.func8, Tryd.ntmps8
    go_wp2_with fail
    refine (known04_s _ HG.out).mono ?_
    rintro r w1 ⟨rfl, b1⟩
    have HB1 := Lib.hid b1
    clear b1
    go_wp2_with fail
    refine (HP.out w1 (HG.out.below HB1.out) (Go.Lib.CaseVar_below HCV.out HB1.out)).mono ?_
    rintro r w2 ⟨rfl, b2⟩
    have HB2 := Lib.hid (HB1.out.trans (b2.mono HB1.out.size))
    clear b2
    go_wp2_with fail
    refine (HF.out w2 (HG.out.below HB2.out)).mono ?_
    rintro r w3 ⟨rfl, b3⟩
    have HB3 := Lib.hid (HB2.out.trans (b3.mono HB2.out.size))
    clear b3
    go_wp2_with fail
    refine (HC.out w3 (HG.out.below HB3.out) (Go.Lib.CaseVar_below HCV.out HB3.out)).mono ?_
    rintro r w4 ⟨rfl, b4⟩
    have HB4 := Lib.hid (HB3.out.trans (b4.mono HB3.out.size))
    clear b4
    go_wp2_with fail
    go_ret
    exact ⟨retB (by rw [HE.out]; rfl), HB4.out⟩
end Go.Proofs.YtiijngjhhcjiaaaDoor
