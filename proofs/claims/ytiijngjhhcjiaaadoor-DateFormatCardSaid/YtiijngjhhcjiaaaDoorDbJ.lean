/-
  Package date: FormatZone at any two numbers; the law DateRoundTrip, walked.
-/
import Derived.Test.YtiijngjhhcjiaaaDoorDbI
set_option linter.unusedSimpArgs false
set_option linter.unusedVariables false
set_option linter.unnecessarySimpa false
namespace Go.Proofs.YtiijngjhhcjiaaaDoor
open Go.RowKit Go.Bul
def fzB (n o : Int) : Bool := decide (0 ≤ n ∧ n ≤ 105190559) && decide (-840 ≤ o) && decide (o ≤ 840) && decide (0 ≤ n + o ∧ n + o ≤ 105190559)
def fzS (n o : Int) : List UInt8 := if fzB n o = true then (if o < 0 then fmtL (n + o).toNat 45 (-o).toNat else fmtL (n + o).toNat 43 o.toNat) else []
def fzE (n o : Int) : Int := if fzB n o = true then 0 else 2
theorem fz_bad {n o : Int} (h : fzB n o = false) : fzS n o = [] ∧ fzE n o = 2 := by
  unfold fzS fzE
  rw [h]
  exact ⟨rfl, rfl⟩
set_option maxRecDepth 100000 in
set_option maxHeartbeats 4000000 in
theorem formatZone_bad (n o : Int) (h : fzB n o = false) (w : World) : Calls Tryd.prog 18 #[.int .i64 n, .int .i64 o] w fun e w' => e = .returned (.tuple #[.string ⟨#[]⟩, .int .i64 2]) ∧ w = w' := by
  have hv := fun w => valid_s n w
  unfold fzB at h
  by_cases h1 : 0 ≤ n ∧ n ≤ 105190559
  case neg =>
    rw [show decide (0 ≤ n ∧ n ≤ 105190559) = false from decide_eq_false h1] at hv
    have HV := Lib.hid hv
    clear hv h h1
    go_enter Tryd.func18, Tryd.ntmps18
    go_wp2_with fail
    refine (HV.out w).mono ?_
    rintro r w' ⟨rfl, rfl⟩
    go_wp2_with fail
    go_ret2
    exact ⟨rfl, rfl⟩
  rw [show decide (0 ≤ n ∧ n ≤ 105190559) = true from decide_eq_true h1] at hv
  have HV := Lib.hid hv
  clear hv
  by_cases h2 : o < -840
  case pos =>
    clear h
    go_enter Tryd.func18, Tryd.ntmps18
    go_wp2_with fail
    refine (HV.out w).mono ?_
    rintro r w' ⟨rfl, rfl⟩
    go_wp2_with fail
    go_ret2
    exact ⟨rfl, rfl⟩
  by_cases h3 : 840 < o
  case pos =>
    clear h
    go_enter Tryd.func18, Tryd.ntmps18
    go_wp2_with fail
    refine (HV.out w).mono ?_
    rintro r w' ⟨rfl, rfl⟩
    go_wp2_with fail
    go_ret2
    exact ⟨rfl, rfl⟩
  have hw : IntKind.i64.wrap (n + o) = n + o := IntWalk.i64_in _ (by omega)
  rw [decide_eq_true h1, decide_eq_true (show -840 ≤ o by omega), decide_eq_true (show o ≤ 840 by omega)] at h
  have hu := fun w => valid_s (n + o) w
  rw [show decide (0 ≤ n + o ∧ n + o ≤ 105190559) = false from h] at hu
  have HU := Lib.hid hu
  clear hu h
  go_enter Tryd.func18, Tryd.ntmps18
  go_wp2_with fail
  refine (HV.out w).mono ?_
  rintro r w' ⟨rfl, rfl⟩
  go_wp2_with fail
  refine (HU.out w).mono ?_
  rintro r w' ⟨rfl, rfl⟩
  go_wp2_with fail
  go_ret2
  exact ⟨rfl, rfl⟩
set_option maxRecDepth 100000 in
set_option maxHeartbeats 4000000 in
theorem refFormatZone_bad (n o : Int) (h : fzB n o = false) (w : World) : Calls Tryd.prog 17 #[.int .i64 n, .int .i64 o] w fun e w' => e = .returned (.tuple #[.string ⟨#[]⟩, .int .i64 2]) ∧ w = w' := by
  have hv := fun w => refValid_s n w
  unfold fzB at h
  by_cases h1 : 0 ≤ n ∧ n ≤ 105190559
  case neg =>
    rw [show decide (0 ≤ n ∧ n ≤ 105190559) = false from decide_eq_false h1] at hv
    have HV := Lib.hid hv
    clear hv h h1
    go_enter Tryd.func17, Tryd.ntmps17
    go_wp2_with fail
    refine (HV.out w).mono ?_
    rintro r w' ⟨rfl, rfl⟩
    go_wp2_with fail
    go_ret2
    exact ⟨rfl, rfl⟩
  rw [show decide (0 ≤ n ∧ n ≤ 105190559) = true from decide_eq_true h1] at hv
  have HV := Lib.hid hv
  clear hv
  by_cases h2 : o < -840
  case pos =>
    clear h
    go_enter Tryd.func17, Tryd.ntmps17
    go_wp2_with fail
    refine (HV.out w).mono ?_
    rintro r w' ⟨rfl, rfl⟩
    go_wp2_with fail
    go_ret2
    exact ⟨rfl, rfl⟩
  by_cases h3 : 840 < o
  case pos =>
    clear h
    go_enter Tryd.func17, Tryd.ntmps17
    go_wp2_with fail
    refine (HV.out w).mono ?_
    rintro r w' ⟨rfl, rfl⟩
    go_wp2_with fail
    go_ret2
    exact ⟨rfl, rfl⟩
  have hw : IntKind.i64.wrap (n + o) = n + o := IntWalk.i64_in _ (by omega)
  rw [decide_eq_true h1, decide_eq_true (show -840 ≤ o by omega), decide_eq_true (show o ≤ 840 by omega)] at h
  have hu := fun w => refValid_s (n + o) w
  rw [show decide (0 ≤ n + o ∧ n + o ≤ 105190559) = false from h] at hu
  have HU := Lib.hid hu
  clear hu h
  go_enter Tryd.func17, Tryd.ntmps17
  go_wp2_with fail
  refine (HV.out w).mono ?_
  rintro r w' ⟨rfl, rfl⟩
  go_wp2_with fail
  refine (HU.out w).mono ?_
  rintro r w' ⟨rfl, rfl⟩
  go_wp2_with fail
  go_ret2
  exact ⟨rfl, rfl⟩
theorem formatZone_any (n o : Int) (w : World) (hg : Gd w) : Calls Tryd.prog 18 #[.int .i64 n, .int .i64 o] w fun e w' => e = .returned (.tuple #[Sb (fzS n o), .int .i64 (fzE n o)]) ∧ Below w.heap.size w w' := by
  cases hb : fzB n o
  · obtain ⟨e1, e2⟩ := fz_bad hb
    rw [e1, e2]
    exact (formatZone_bad n o hb w).mono fun r w' ⟨h1, h2⟩ => ⟨h1, h2 ▸ Below.refl _ _⟩
  · have h := hb
    unfold fzB at h
    simp only [Bool.and_eq_true, decide_eq_true_eq] at h
    obtain ⟨⟨⟨h1, h2⟩, h3⟩, h4⟩ := h
    unfold fzS fzE
    rw [if_pos hb, if_pos hb]
    obtain ⟨N, rfl⟩ : ∃ N : Nat, n = N := ⟨n.toNat, by omega⟩
    by_cases h0 : o < 0
    · rw [if_pos h0]
      obtain ⟨z, rfl⟩ : ∃ z : Nat, o = -(z : Int) := ⟨(-o).toNat, by omega⟩
      have hz : (-(-(z : Int))).toNat = z := by omega
      rw [hz]
      exact formatZone_n N ((N : Int) + -(z : Int)).toNat z (by omega) (by omega) (by omega) (by omega) (by omega) w hg
    · rw [if_neg h0]
      obtain ⟨z, rfl⟩ : ∃ z : Nat, o = z := ⟨o.toNat, by omega⟩
      rw [Int.toNat_natCast]
      exact formatZone_p N ((N : Int) + (z : Int)).toNat z (by omega) (by omega) (by omega) (by omega) w hg
set_option maxRecDepth 100000 in
theorem format_any (n : Int) (w : World) (hg : Gd w) : Calls Tryd.prog 16 #[.int .i64 n] w fun e w' => e = .returned (.tuple #[Sb (fzS n 0), .int .i64 (fzE n 0)]) ∧ Below w.heap.size w w' := by
  have H := Lib.hid (formatZone_any n 0 w hg)
  obtain ⟨S, hS⟩ : ∃ S, fzS n 0 = S := ⟨_, rfl⟩
  obtain ⟨E, hE⟩ : ∃ E, fzE n 0 = E := ⟨_, rfl⟩
  rw [hS, hE] at H ⊢
  clear hS hE
  go_enter Tryd.func16, Tryd.ntmps16
  go_wp2_with fail
  refine H.out.mono ?_
  rintro e w1 ⟨rfl, b1⟩
  go_wp2_with fail
  go_ret2
  exact ⟨rfl, b1⟩
/-- what a good text says: Parse gives the minute, and it is canonical in the zone 0 alone -/
theorem fz_good {n : Nat} {o : Int} (h : fzB n o = true) : parseF ⟨(fzS n o).toArray⟩ = ⟨n, 0, 0⟩ ∧ (⟨(fzS n o).toArray⟩ : ByteArray).size = 28 ∧ canF ⟨(fzS n o).toArray⟩ = (decide (o = 0)) ∧ fzE n o = 0 := by
  have hb := h
  unfold fzB at h
  simp only [Bool.and_eq_true, decide_eq_true_eq] at h
  obtain ⟨⟨⟨h1, h2⟩, h3⟩, h4⟩ := h
  have hE : fzE n o = 0 := by unfold fzE; rw [if_pos hb]
  unfold fzS
  rw [if_pos hb]
  have key : ∀ (sg : UInt8) (t sz : Nat), (sg = 43 ∨ sg = 45) → t ≤ 105190559 → sz ≤ 840 → (t : Int) - (if sg = 45 then -(sz : Int) else sz) = n → (sg = 45 → 1 ≤ sz) → (sz = 0 ↔ o = 0) →
      parseF ⟨(fmtL t sg sz).toArray⟩ = ⟨n, 0, 0⟩ ∧ (⟨(fmtL t sg sz).toArray⟩ : ByteArray).size = 28 ∧ canF ⟨(fmtL t sg sz).toArray⟩ = (decide (o = 0)) ∧ fzE n o = 0 := by
    intro sg t sz hs ht ho hrel h45 hiff
    obtain ⟨p1, p2⟩ := parse_text n t sz sg hs (by omega) ht ho hrel
    refine ⟨p1, p2, ?_, hE⟩
    rw [canF_ok (by rw [p1])]
    unfold fmtB
    rw [p1]
    show ((⟨(fmtL ((n : Int)).toNat 43 0).toArray⟩ : ByteArray).toList == (⟨(fmtL t sg sz).toArray⟩ : ByteArray).toList) = _
    rw [Int.toNat_natCast, Bool.eq_iff_iff, beq_iff_eq, decide_eq_true_eq]
    constructor
    · intro he
      rw [← hiff]
      refine fmt_canon n t sz sg hs ho h45 ?_
      rw [ByteArray.toList_mk, ByteArray.toList_mk] at he
      exact he
    · intro he
      have hz := hiff.2 he
      subst hz
      rcases hs with rfl | rfl
      · have : t = n := by rw [if_neg (by decide)] at hrel; omega
        rw [this]
      · exact absurd (h45 rfl) (by omega)
  by_cases h0 : o < 0
  · rw [if_pos h0]
    exact key 45 _ _ (.inr rfl) (by omega) (by omega) (by rw [if_pos rfl]; omega) (fun _ => by omega) (by omega)
  · rw [if_neg h0]
    exact key 43 _ _ (.inl rfl) (by omega) (by omega) (by rw [if_neg (by decide)]; omega) (fun e => absurd e (by decide)) (by omega)
set_option maxRecDepth 100000 in
set_option maxHeartbeats 8000000 in
theorem lawRound_good (n : Nat) (o : Int) (hn : n ≤ 105190559) (o0 : -9223372036854775808 ≤ o) (o1 : o ≤ 9223372036854775807) (w : World) (hg : Gd w) (hcv : CV w) :
    Calls Tryd.prog 7 #[.int .i64 n, .int .i64 o] w fun e w' => e = .returned (.bool true) ∧ Below w.heap.size w w' := by
  have HG := Lib.hid hg
  have HCV := Lib.hid hcv
  have hb0 : fzB n 0 = true := by
    unfold fzB
    rw [decide_eq_true (by omega), decide_eq_true (by omega), decide_eq_true (by omega), decide_eq_true (by omega)]
    rfl
  obtain ⟨p1, p2, p3, p4⟩ := fz_good hb0
  rw [decide_eq_true rfl] at p3
  have hfm := fun w hg => format_any n w hg
  rw [p4] at hfm
  have hpa := fun w hg hc => parse_g ⟨(fzS n 0).toArray⟩ (by omega) w hg hc
  rw [p1] at hpa
  have hca := fun w hg hc => isCanonical_g ⟨(fzS n 0).toArray⟩ (by omega) w hg hc
  rw [p3] at hca
  unfold prV at hpa
  have hsb : Sb (fzS n 0) = .string ⟨(fzS n 0).toArray⟩ := rfl
  rw [hsb] at hfm
  obtain ⟨S, hS⟩ : ∃ S : ByteArray, ⟨(fzS n 0).toArray⟩ = S := ⟨_, rfl⟩
  simp only [hS] at hfm hpa hca
  have H1 := Lib.hid hfm
  have H2 := Lib.hid hpa
  have H3 := Lib.hid hca
  have HZ := Lib.hid (fun w hg => formatZone_any n o w hg)
  clear hfm hpa hca hS hsb p1 p2 p3 p4 hb0 hg hcv
  cases hb : fzB n o
  · obtain ⟨e1, e2⟩ := fz_bad hb
    rw [e1, e2] at HZ
    clear e1 e2 hb
    go_enter Tryd.func7, Tryd.ntmps7
    go_wp2_with fail
    refine (known04_s _ HG.out).mono ?_
    rintro r w1 ⟨rfl, b1⟩
    have HB1 := Lib.hid b1
    clear b1
    go_wp2_with fail
    refine (H1.out w1 (HG.out.below HB1.out)).mono ?_
    rintro r w2 ⟨rfl, b2⟩
    have HB2 := Lib.hid (HB1.out.trans (b2.mono HB1.out.size))
    clear b2
    go_wp2_with fail
    refine (H2.out w2 (HG.out.below HB2.out) (Go.Lib.CaseVar_below HCV.out HB2.out)).mono ?_
    rintro r w3 ⟨rfl, b3⟩
    have HB3 := Lib.hid (HB2.out.trans (b3.mono HB2.out.size))
    clear b3
    go_wp2_with fail
    refine (H3.out w3 (HG.out.below HB3.out) (Go.Lib.CaseVar_below HCV.out HB3.out)).mono ?_
    rintro r w4 ⟨rfl, b4⟩
    have HB4 := Lib.hid (HB3.out.trans (b4.mono HB3.out.size))
    clear b4
    go_wp2_with fail
    refine (HZ.out w4 (HG.out.below HB4.out)).mono ?_
    rintro r w5 ⟨rfl, b5⟩
    have HB5 := Lib.hid (HB4.out.trans (b5.mono HB4.out.size))
    clear b5
    go_wp2_with fail
    go_ret
    exact ⟨rfl, HB5.out⟩
  · obtain ⟨p1, p2, p3, p4⟩ := fz_good hb
    have hfm := HZ.out
    rw [p4] at hfm
    have hpa := fun w hg hc => parse_g ⟨(fzS n o).toArray⟩ (by omega) w hg hc
    rw [p1] at hpa
    have hca := fun w hg hc => isCanonical_g ⟨(fzS n o).toArray⟩ (by omega) w hg hc
    rw [p3] at hca
    unfold prV at hpa
    have hsb : Sb (fzS n o) = .string ⟨(fzS n o).toArray⟩ := rfl
    rw [hsb] at hfm
    obtain ⟨T, hT⟩ : ∃ T : ByteArray, ⟨(fzS n o).toArray⟩ = T := ⟨_, rfl⟩
    simp only [hT] at hfm hpa hca
    obtain ⟨z, hz⟩ : ∃ z, decide (o = 0) = z := ⟨_, rfl⟩
    simp only [hz] at hca
    have XZ := Lib.hid (show (z == (o == 0)) = true by rw [← hz, Bool.beq_eq_decide_eq]; by_cases h : o = 0 <;> simp [h])
    have K1 := Lib.hid hfm
    have K2 := Lib.hid hpa
    have K3 := Lib.hid hca
    clear hfm hpa hca hT hsb p1 p2 p3 p4 hb hz HZ
    go_enter Tryd.func7, Tryd.ntmps7
    go_wp2_with fail
    refine (known04_s _ HG.out).mono ?_
    rintro r w1 ⟨rfl, b1⟩
    have HB1 := Lib.hid b1
    clear b1
    go_wp2_with fail
    refine (H1.out w1 (HG.out.below HB1.out)).mono ?_
    rintro r w2 ⟨rfl, b2⟩
    have HB2 := Lib.hid (HB1.out.trans (b2.mono HB1.out.size))
    clear b2
    go_wp2_with fail
    refine (H2.out w2 (HG.out.below HB2.out) (Go.Lib.CaseVar_below HCV.out HB2.out)).mono ?_
    rintro r w3 ⟨rfl, b3⟩
    have HB3 := Lib.hid (HB2.out.trans (b3.mono HB2.out.size))
    clear b3
    go_wp2_with fail
    refine (H3.out w3 (HG.out.below HB3.out) (Go.Lib.CaseVar_below HCV.out HB3.out)).mono ?_
    rintro r w4 ⟨rfl, b4⟩
    have HB4 := Lib.hid (HB3.out.trans (b4.mono HB3.out.size))
    clear b4
    go_wp2_with fail
    refine (K1.out w4 (HG.out.below HB4.out)).mono ?_
    rintro r w5 ⟨rfl, b5⟩
    have HB5 := Lib.hid (HB4.out.trans (b5.mono HB4.out.size))
    clear b5
    go_wp2_with fail
    refine (K2.out w5 (HG.out.below HB5.out) (Go.Lib.CaseVar_below HCV.out HB5.out)).mono ?_
    rintro r w6 ⟨rfl, b6⟩
    have HB6 := Lib.hid (HB5.out.trans (b6.mono HB5.out.size))
    clear b6
    go_wp2_with fail
    refine (K3.out w6 (HG.out.below HB6.out) (Go.Lib.CaseVar_below HCV.out HB6.out)).mono ?_
    rintro r w7 ⟨rfl, b7⟩
    have HB7 := Lib.hid (HB6.out.trans (b7.mono HB6.out.size))
    clear b7
    go_wp2_with fail
    go_ret
    exact ⟨retB (by simpa using XZ.out), HB7.out⟩
set_option maxRecDepth 100000 in
set_option maxHeartbeats 8000000 in
theorem lawRound_c (n o : Int) (n0 : -9223372036854775808 ≤ n) (n1 : n ≤ 9223372036854775807) (o0 : -9223372036854775808 ≤ o) (o1 : o ≤ 9223372036854775807) (w : World) (hg : Gd w) (hcv : CV w) :
    Calls Tryd.prog 7 #[.int .i64 n, .int .i64 o] w fun e w' => e = .returned (.bool true) ∧ Below w.heap.size w w' := by
  by_cases hn : 0 ≤ n ∧ n ≤ 105190559
  · obtain ⟨N, rfl⟩ : ∃ N : Nat, n = N := ⟨n.toNat, by omega⟩
    exact lawRound_good N o (by omega) o0 o1 w hg hcv
  · have HG := Lib.hid hg
    have hb : fzB n 0 = false := by unfold fzB; rw [decide_eq_false hn]; rfl
    obtain ⟨e1, e2⟩ := fz_bad hb
    have hfm := fun w hg => format_any n w hg
    rw [e1, e2] at hfm
    have H1 := Lib.hid hfm
    clear hfm e1 e2 hb hg hcv hn
    go_enter Tryd.func7, Tryd.ntmps7
    go_wp2_with fail
    refine (known04_s _ HG.out).mono ?_
    rintro r w1 ⟨rfl, b1⟩
    have HB1 := Lib.hid b1
    clear b1
    go_wp2_with fail
    refine (H1.out w1 (HG.out.below HB1.out)).mono ?_
    rintro r w2 ⟨rfl, b2⟩
    have HB2 := Lib.hid (HB1.out.trans (b2.mono HB1.out.size))
    clear b2
    go_wp2_with fail
    go_ret
    exact ⟨rfl, HB2.out⟩
end Go.Proofs.YtiijngjhhcjiaaaDoor
