/-
  The law DateFormat, walked.
-/
import Derived.Test.YtiijngjhhcjiaaaDoorDbK
set_option linter.unusedSimpArgs false
set_option linter.unusedVariables false
set_option linter.unnecessarySimpa false
namespace Go.Proofs.YtiijngjhhcjiaaaDoor
open Go.RowKit Go.Bul
theorem radd (a b : List UInt8) (h : a.length + b.length ≤ 1000) (w : World) : (Op.stringOp .add (⟨a.toArray⟩ : ByteArray) ⟨b.toArray⟩).run Tryd.prog w = .ok (.string ⟨(a ++ b).toArray⟩) w := by
  have := run_string_add_sum (P := Tryd.prog) w ⟨a.toArray⟩ ⟨b.toArray⟩ (by rw [sbSize, sbSize]; omega)
  rwa [sb_append] at this
/-- the pieces of the reference's text -/
def fzP (n o : Int) (t : Nat) (c : Civ) (sz : Nat) (sg : UInt8) : FzP :=
  let l47 := dayN (wdOf t) ++ [44, 32]
  let l51 := l47 ++ dg2 c.d
  let l52 := l51 ++ [32]
  let l59 := l52 ++ monN (c.m - 1)
  let l60 := l59 ++ [32]
  let l64 := l60 ++ dg4 c.y
  let l65 := l64 ++ [32]
  let l69 := l65 ++ dg2 c.h
  let l70 := l69 ++ [58]
  let l74 := l70 ++ dg2 c.mi
  let l75 := l74 ++ [32]
  let l77 := l75 ++ [sg]
  let l85 := l77 ++ dg4 (sz / 60 * 100 + sz % 60)
  { n := n, o := o, t := t, wd := wdOf t, m1 := c.m - 1, c := c, sz := sz, q := sz / 60 * 100 + sz % 60, D := ⟨(dayN (wdOf t)).toArray⟩, DD := ⟨(dg2 c.d).toArray⟩, MM := ⟨(monN (c.m - 1)).toArray⟩, YY := ⟨(dg4 c.y).toArray⟩, HH := ⟨(dg2 c.h).toArray⟩, II := ⟨(dg2 c.mi).toArray⟩, SG := ⟨#[sg]⟩, QQ := ⟨(dg4 (sz / 60 * 100 + sz % 60)).toArray⟩
    s47 := ⟨l47.toArray⟩, s51 := ⟨l51.toArray⟩, s52 := ⟨l52.toArray⟩, s59 := ⟨l59.toArray⟩, s60 := ⟨l60.toArray⟩, s64 := ⟨l64.toArray⟩, s65 := ⟨l65.toArray⟩, s69 := ⟨l69.toArray⟩, s70 := ⟨l70.toArray⟩, s74 := ⟨l74.toArray⟩, s75 := ⟨l75.toArray⟩, s77 := ⟨l77.toArray⟩, s85 := ⟨l85.toArray⟩ }
theorem fzL_eq (t sz : Nat) (sg : UInt8) (ho : sz ≤ 840) : dayN (wdOf t) ++ [44, 32] ++ dg2 (civOf t).d ++ [32] ++ monN ((civOf t).m - 1) ++ [32] ++ dg4 (civOf t).y ++ [32] ++ dg2 (civOf t).h ++ [58] ++ dg2 (civOf t).mi ++ [32] ++ [sg] ++ dg4 (sz / 60 * 100 + sz % 60) = fmtL t sg sz := by
  have hq : dg4 (sz / 60 * 100 + sz % 60) = dg2 (sz / 60) ++ dg2 (sz % 60) := by
    unfold dg4 dg2
    rw [show (sz / 60 * 100 + sz % 60) / 1000 = sz / 60 / 10 by omega, show (sz / 60 * 100 + sz % 60) / 100 % 10 = sz / 60 % 10 by omega, show (sz / 60 * 100 + sz % 60) / 10 % 10 = sz % 60 / 10 by omega, show (sz / 60 * 100 + sz % 60) % 10 = sz % 60 % 10 by omega]
    rfl
  rw [hq]
  unfold fmtL
  generalize civOf t = c
  generalize wdOf t = wd
  simp [partsL, Lib.join]
theorem fzP_text (n o : Int) (t sz : Nat) (sg : UInt8) (ho : sz ≤ 840) : (fzP n o t (civOf t) sz sg).s85 = ⟨(fmtL t sg sz).toArray⟩ := by
  rw [← fzL_eq t sz sg ho]
  rfl
theorem day_at {k : Nat} (h : k < 7) : dayB[k]? = some ⟨(dayN k).toArray⟩ := by
  obtain rfl | rfl | rfl | rfl | rfl | rfl | rfl : k = 0 ∨ k = 1 ∨ k = 2 ∨ k = 3 ∨ k = 4 ∨ k = 5 ∨ k = 6 := by omega
  all_goals rfl
theorem mon_at {k : Nat} (h : k < 12) : monB[k]? = some ⟨(monN k).toArray⟩ := by
  obtain rfl | rfl | rfl | rfl | rfl | rfl | rfl | rfl | rfl | rfl | rfl | rfl : k = 0 ∨ k = 1 ∨ k = 2 ∨ k = 3 ∨ k = 4 ∨ k = 5 ∨ k = 6 ∨ k = 7 ∨ k = 8 ∨ k = 9 ∨ k = 10 ∨ k = 11 := by omega
  all_goals rfl
theorem fzP_ok (n o : Int) (t sz : Nat) (sg : UInt8) (ht : (t : Int) = n + o) (ht9 : t ≤ 105190559) (ho : sz ≤ 840) : FzOk (fzP n o t (civOf t) sz sg) := by
  have hc := civOf_ok t
  have hy := year_le ht9
  have hd := monthD_le (civOf t).y (civOf t).m
  have hd1 := hc.d1
  have hm0 := hc.m0
  have hm1 := hc.m1
  have hh := hc.h1
  have hi := hc.mi1
  have hw : wdOf t < 7 := Nat.mod_lt _ (by decide)
  have k1 := dayN_len hw
  have k2 := monN_len (k := (civOf t).m - 1) (by omega)
  have g2 : ∀ k, (dg2 k).length = 2 := fun k => rfl
  have g4 : ∀ k, (dg4 k).length = 4 := fun k => rfl
  refine ⟨?_, ?_, ?_, rfl, hw, ht9, ho, ?_, ?_, day_at hw, mon_at (by show (civOf t).m - 1 < 12; omega), rfl, rfl, rfl, rfl, rfl, ?_, ?_, ?_, ?_, ?_, ?_, ?_, ?_, ?_, ?_, ?_, ?_, ?_, ?_, ?_, ?_, ?_⟩
  · show IntKind.i64.wrap (n + o) = t
    rw [ht]; exact IntWalk.i64_in _ (by omega)
  · show IntKind.i64.wrap (((civOf t).m : Int) - 1) = ((civOf t).m - 1 : Nat)
    rw [IntWalk.i64_in _ (by omega)]; omega
  · show (civOf t).m - 1 < 12
    omega
  · show (sz : Int) / 60 * 100 + (sz : Int) % 60 = ((sz / 60 * 100 + sz % 60 : Nat) : Int)
    push_cast; rfl
  · show sz / 60 * 100 + sz % 60 < 10000
    omega
  · show (civOf t).d < 100
    omega
  · show (civOf t).y < 10000
    omega
  · show (civOf t).h < 100
    omega
  · show (civOf t).mi < 100
    omega
  all_goals
    refine radd _ _ ?_
    simp only [List.length_append, k1, k2, g2, g4, List.length_cons, List.length_nil]
    omega
theorem refFz_any (n o : Int) (w : World) (hg : Gd w) : Calls Tryd.prog 17 #[.int .i64 n, .int .i64 o] w fun e w' => e = .returned (.tuple #[Sb (fzS n o), .int .i64 (fzE n o)]) ∧ Below w.heap.size w w' := by
  cases hb : fzB n o
  · obtain ⟨e1, e2⟩ := fz_bad hb
    rw [e1, e2]
    exact (refFormatZone_bad n o hb w).mono fun r w' ⟨h1, h2⟩ => ⟨h1, h2 ▸ Below.refl _ _⟩
  · have h := hb
    unfold fzB at h
    simp only [Bool.and_eq_true, decide_eq_true_eq] at h
    obtain ⟨⟨⟨h1, h2⟩, h3⟩, h4⟩ := h
    unfold fzS fzE
    rw [if_pos hb, if_pos hb]
    by_cases h0 : o < 0
    · rw [if_pos h0]
      have h := refFz_run (fzP n o (n + o).toNat (civOf (n + o).toNat) (-o).toNat 45) w (fzP_ok n o _ _ 45 (by omega) (by omega) (by omega)) rfl h1.1 h1.2 h2 h3 (fun _ => ⟨rfl, by show -o = ((-o).toNat : Int); omega⟩) (fun h => absurd h (by show ¬ 0 ≤ o; omega))
      rw [fzP_text n o (n + o).toNat (-o).toNat 45 (by omega)] at h
      exact h
    · rw [if_neg h0]
      have h := refFz_run (fzP n o (n + o).toNat (civOf (n + o).toNat) o.toNat 43) w (fzP_ok n o _ _ 43 (by omega) (by omega) (by omega)) rfl h1.1 h1.2 h2 h3 (fun h => absurd h h0) (fun _ => ⟨rfl, by show o = (o.toNat : Int); omega⟩)
      rw [fzP_text n o (n + o).toNat o.toNat 43 (by omega)] at h
      exact h
set_option maxRecDepth 100000 in
set_option maxHeartbeats 8000000 in
theorem lawFormat_c (n o : Int) (n0 : -9223372036854775808 ≤ n) (n1 : n ≤ 9223372036854775807) (o0 : -9223372036854775808 ≤ o) (o1 : o ≤ 9223372036854775807) (w : World) (hg : Gd w) :
    Calls Tryd.prog 5 #[.int .i64 n, .int .i64 o] w fun e w' => e = .returned (.bool true) ∧ Below w.heap.size w w' := by
  have HG := Lib.hid hg
  have h1 := fun w hg => format_any n w hg
  have h2 := fun w hg => refFz_any n 0 w hg
  obtain ⟨S, hS⟩ : ∃ S : ByteArray, ⟨(fzS n 0).toArray⟩ = S := ⟨_, rfl⟩
  obtain ⟨E, hE⟩ : ∃ E, fzE n 0 = E := ⟨_, rfl⟩
  simp only [hS, hE] at h1 h2
  have H1 := Lib.hid h1
  have H2 := Lib.hid h2
  clear h1 h2 hS hE hg
  by_cases hs : o < -100000 ∨ 100000 < o
  · have hb : fzB n o = false := by
      unfold fzB
      rcases hs with h | h
      · rw [show decide (-840 ≤ o) = false from decide_eq_false (by omega), Bool.and_false, Bool.false_and, Bool.false_and]
      · rw [show decide (o ≤ 840) = false from decide_eq_false (by omega), Bool.and_false, Bool.false_and]
    have h3 := fun w => formatZone_bad n o hb w
    have H3 := Lib.hid h3
    clear h3 hb
    rcases hs with h | h
    · go_enter Tryd.func5, Tryd.ntmps5
      go_wp2_with fail
      refine (known04_s _ HG.out).mono ?_
      rintro r w1 ⟨rfl, b1⟩
      have HB1 := Lib.hid b1
      clear b1
      go_wp2_with fail
      refine (H1.out w1 (HG.out.below HB1.out)).mono ?_
      rintro r w2 ⟨rfl, b2⟩
      have HB2 := Lib.hid (HB1.out.trans (b2.mono HB1.out.size))
      clear b2
      go_wp2_with fail
      refine (H2.out w2 (HG.out.below HB2.out)).mono ?_
      rintro r w3 ⟨rfl, b3⟩
      have HB3 := Lib.hid (HB2.out.trans (b3.mono HB2.out.size))
      clear b3
      go_wp2_with fail
      refine (H3.out w3).mono ?_
      rintro r w4 ⟨rfl, rfl⟩
      go_wp2_with fail
      go_ret
      exact ⟨rfl, HB3.out⟩
    · have h' : ¬ o < -100000 := by omega
      go_enter Tryd.func5, Tryd.ntmps5
      go_wp2_with fail
      refine (known04_s _ HG.out).mono ?_
      rintro r w1 ⟨rfl, b1⟩
      have HB1 := Lib.hid b1
      clear b1
      go_wp2_with fail
      refine (H1.out w1 (HG.out.below HB1.out)).mono ?_
      rintro r w2 ⟨rfl, b2⟩
      have HB2 := Lib.hid (HB1.out.trans (b2.mono HB1.out.size))
      clear b2
      go_wp2_with fail
      refine (H2.out w2 (HG.out.below HB2.out)).mono ?_
      rintro r w3 ⟨rfl, b3⟩
      have HB3 := Lib.hid (HB2.out.trans (b3.mono HB2.out.size))
      clear b3
      go_wp2_with fail
      refine (H3.out w3).mono ?_
      rintro r w4 ⟨rfl, rfl⟩
      go_wp2_with fail
      go_ret
      exact ⟨rfl, HB3.out⟩
  · have h3 := fun w hg => formatZone_any n o w hg
    have h4 := fun w hg => refFz_any n o w hg
    obtain ⟨T, hT⟩ : ∃ S : ByteArray, ⟨(fzS n o).toArray⟩ = S := ⟨_, rfl⟩
    obtain ⟨F, hF⟩ : ∃ E, fzE n o = E := ⟨_, rfl⟩
    simp only [hT, hF] at h3 h4
    have H3 := Lib.hid h3
    have H4 := Lib.hid h4
    have g1 : ¬ o < -100000 := by omega
    have g2 : ¬ 100000 < o := by omega
    clear h3 h4 hT hF hs
    go_enter Tryd.func5, Tryd.ntmps5
    go_wp2_with fail
    refine (known04_s _ HG.out).mono ?_
    rintro r w1 ⟨rfl, b1⟩
    have HB1 := Lib.hid b1
    clear b1
    go_wp2_with fail
    refine (H1.out w1 (HG.out.below HB1.out)).mono ?_
    rintro r w2 ⟨rfl, b2⟩
    have HB2 := Lib.hid (HB1.out.trans (b2.mono HB1.out.size))
    clear b2
    go_wp2_with fail
    refine (H2.out w2 (HG.out.below HB2.out)).mono ?_
    rintro r w3 ⟨rfl, b3⟩
    have HB3 := Lib.hid (HB2.out.trans (b3.mono HB2.out.size))
    clear b3
    go_wp2_with fail
    refine (H3.out w3 (HG.out.below HB3.out)).mono ?_
    rintro r w4 ⟨rfl, b4⟩
    have HB4 := Lib.hid (HB3.out.trans (b4.mono HB3.out.size))
    clear b4
    go_wp2_with fail
    refine (H4.out w4 (HG.out.below HB4.out)).mono ?_
    rintro r w5 ⟨rfl, b5⟩
    have HB5 := Lib.hid (HB4.out.trans (b5.mono HB4.out.size))
    clear b5
    go_wp2_with fail
    go_ret
    exact ⟨by first | rfl | (refine retB ?_; simp), HB5.out⟩
end Go.Proofs.YtiijngjhhcjiaaaDoor
