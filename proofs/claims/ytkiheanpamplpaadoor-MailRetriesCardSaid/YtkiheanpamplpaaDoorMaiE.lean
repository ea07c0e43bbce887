/-
  The reference of package mail: Check.
-/
import Derived.Test.YtkiheanpamplpaaDoorMaiD
set_option linter.unusedSimpArgs false
set_option linter.unusedVariables false
set_option linter.unnecessarySimpa false
namespace Go.Proofs.YtkiheanpamplpaaDoor
open Go.RowKit Go.Bul
theorem refHas_q (v : Value) (zs : List ByteArray) (x : ByteArray) (w : World) (hn : zs.length ≤ 100000) (h : HopsIn w v zs) :
    Calls Tryd.prog 43 #[v, .string x] w fun e w' => e = .returned (.bool (Lib.containsS zs x)) ∧ w' = w :=
  (refHas_s v zs x w hn h).mono fun _ _ ⟨he, hw⟩ => ⟨he, hw.symm⟩
set_option maxRecDepth 100000 in
set_option maxHeartbeats 2000000 in
theorem refCheck_s (m : Ms) (v : Value) (ok : m.Ok) (w : World) (hh : HopsIn w v m.ho) :
    Calls Tryd.prog 16 #[msgV m v] w fun e w' => e = .returned (.int .i64 (checkE m)) ∧ Below w.heap.size w w' := by
  have HH := Lib.hid hh
  have OK := Lib.hid ok
  clear ok
  obtain ⟨a0, len, cap, hv⟩ : ∃ a n c, v = .slice a n c := by
    rcases hh with ⟨_, a, c, h, _⟩ | ⟨b, off, c, h, _⟩
    · exact ⟨_, _, _, h⟩
    · exact ⟨_, _, _, h⟩
  subst hv
  obtain rfl : len = m.ho.length := by
    rcases hh with ⟨h, a, c, e, _⟩ | ⟨b, off, c, e, _⟩
    · cases e; rw [h]; rfl
    · cases e; rfl
  clear hh
  have hb0 : Below w.heap.size w (w.alloc (.cells (msgCells m (.slice a0 m.ho.length cap)) 26)) := (Below.refl _ _).alloc (Nat.le_refl _) _
  have HB0 := Lib.hid hb0
  have HM0 := Lib.hid (MsgAt.new w m (.slice a0 m.ho.length cap) 26)
  clear hb0
  unfold msgCells at HB0 HM0
  go_enter Tryd.func16, Tryd.ntmps16
  unfold msgV
  go_wp2_with fail
  refine (refUser_s m.fu OK.out.fu _).mono ?_
  rintro e w0 ⟨rfl, rfl⟩
  cases u1 : userB m.fu
  · have HR := Lib.hid (show checkE m = 12 by simp [checkE, u1])
    go_wp2_with fail
    go_ret
    exact ⟨ret_int HR.out.symm, HB0.out⟩
  have U1 := Lib.hid u1
  clear u1
  go_wp2_with fail
  refine (refSite_s m.fs OK.out.fs _).mono ?_
  rintro e w0 ⟨rfl, rfl⟩
  by_cases e1 : siteE m.fs = 0
  case neg =>
    have HR := Lib.hid (show checkE m = siteE m.fs by simp [checkE, U1.out, e1])
    have b1 : (siteE m.fs == 0) = false := by rw [beq_eq_false_iff_ne]; exact e1
    clear e1
    go_wp2_with fail
    refine (refSite_s m.fs OK.out.fs _).mono ?_
    rintro e w0 ⟨rfl, rfl⟩
    go_wp2_with fail
    go_ret
    exact ⟨ret_int HR.out.symm, HB0.out⟩
  have E1 := Lib.hid e1
  rw [e1]
  clear e1
  go_wp2_with fail
  refine (refUser_s m.tu OK.out.tu _).mono ?_
  rintro e w0 ⟨rfl, rfl⟩
  cases u2 : userB m.tu
  · have HR := Lib.hid (show checkE m = 12 by simp [checkE, U1.out, E1.out, u2])
    go_wp2_with fail
    go_ret
    exact ⟨ret_int HR.out.symm, HB0.out⟩
  have U2 := Lib.hid u2
  clear u2
  by_cases z2 : m.tu.size = 0
  · have HR := Lib.hid (show checkE m = 12 by simp [checkE, U1.out, E1.out, z2])
    have ze := empty_yes z2
    have zn := toList_nil z2
    clear z2
    go_wp2_with fail
    go_ret
    exact ⟨ret_int HR.out.symm, HB0.out⟩
  have Z2 := Lib.hid z2
  have ze := empty_no z2
  clear z2
  go_wp2_with fail
  refine (refSite_s m.ts OK.out.ts _).mono ?_
  rintro e w0 ⟨rfl, rfl⟩
  clear ze
  by_cases e2 : siteE m.ts = 0
  case neg =>
    have HR := Lib.hid (show checkE m = siteE m.ts by simp [checkE, U1.out, E1.out, U2.out, Z2.out, e2])
    have b1 : (siteE m.ts == 0) = false := by rw [beq_eq_false_iff_ne]; exact e2
    clear e2
    go_wp2_with fail
    refine (refSite_s m.ts OK.out.ts _).mono ?_
    rintro e w0 ⟨rfl, rfl⟩
    go_wp2_with fail
    go_ret
    exact ⟨ret_int HR.out.symm, HB0.out⟩
  have E2 := Lib.hid e2
  rw [e2]
  clear e2
  by_cases n1 : m.nu < 0
  · have HR := Lib.hid (show checkE m = 2 by simp [checkE, U1.out, E1.out, U2.out, Z2.out, E2.out, n1])
    go_wp2_with fail
    go_ret
    exact ⟨ret_int HR.out.symm, HB0.out⟩
  by_cases n2 : 2147483647 < m.nu
  · have HR := Lib.hid (show checkE m = 2 by simp [checkE, U1.out, E1.out, U2.out, Z2.out, E2.out, n2])
    go_wp2_with fail
    go_ret
    exact ⟨ret_int HR.out.symm, HB0.out⟩
  have N1 := Lib.hid n1
  have N2 := Lib.hid n2
  have hn : (m.nu < 0 ∨ 2147483647 < m.nu) = False := by simp; omega
  have HN := Lib.hid hn
  clear hn
  go_wp2_with fail
  refine (refMinute_s m.da _).mono ?_
  rintro e w0 ⟨rfl, rfl⟩
  clear n1 n2
  by_cases d1 : 0 ≤ m.da ∧ m.da ≤ 105190559
  case neg =>
    have HR := Lib.hid (show checkE m = 13 by simp only [checkE, U1.out, E1.out, U2.out, Z2.out, E2.out, HN.out]; simp [d1])
    have b1 : decide (0 ≤ m.da ∧ m.da ≤ 105190559) = false := by simp [d1]
    rw [b1]
    clear b1
    go_wp2_with fail
    go_ret
    exact ⟨ret_int HR.out.symm, HB0.out⟩
  have D1 := Lib.hid d1
  have b1 : decide (0 ≤ m.da ∧ m.da ≤ 105190559) = true := by simp [d1]
  rw [b1]
  clear b1 d1
  go_wp2_with fail
  refine (refSubject_s m.su OK.out.su _).mono ?_
  rintro e w1 ⟨rfl, b1⟩
  have HM1 := Lib.hid (HM0.out.below b1 (by rw [size_alloc]; omega))
  have HB1 := Lib.hid (HB0.out.trans (b1.mono (by rw [size_alloc]; omega)))
  have HS1 := Lib.hid (show w.heap.size < w1.heap.size by have := b1.size; rw [size_alloc] at this; omega)
  clear b1
  by_cases e3 : subE m.su = 0
  case neg =>
    have HR := Lib.hid (show checkE m = subE m.su by simp only [checkE, U1.out, E1.out, U2.out, Z2.out, E2.out, HN.out, D1.out]; simp [e3])
    have b1 : (subE m.su == 0) = false := by rw [beq_eq_false_iff_ne]; exact e3
    clear e3
    obtain ⟨_, _, _, _, _, _, g6, _, _⟩ := HM1.out
    go_wp2_with fail
    refine (refSubject_s m.su OK.out.su _).mono ?_
    rintro e w2 ⟨rfl, b2⟩
    have HB2 := Lib.hid (HB1.out.trans (b2.mono HB1.out.size))
    clear b2
    go_wp2_with fail
    go_ret
    exact ⟨ret_int HR.out.symm, HB2.out⟩
  have E3 := Lib.hid e3
  rw [e3]
  clear e3
  obtain ⟨_, _, _, _, _, _, _, g7, g8⟩ := HM1.out
  have hn5 := OK.out.hn
  by_cases l1 : 16 < m.ho.length
  · have HR := Lib.hid (show checkE m = 9 by simp only [checkE, U1.out, E1.out, U2.out, Z2.out, E2.out, HN.out, D1.out, E3.out]; simp [l1])
    go_wp2_with fail
    go_ret
    exact ⟨ret_int HR.out.symm, HB1.out⟩
  obtain ⟨E, hE⟩ : ∃ E : Int, E = if 32768 < m.bo.size then 5 else 0 := ⟨_, rfl⟩
  have HR := Lib.hid (show checkE m = hopsE [] m.ho E by rw [hE]; simp only [checkE, U1.out, E1.out, U2.out, Z2.out, E2.out, HN.out, D1.out, E3.out]; simp [l1])
  have HE := Lib.hid hE
  clear hE
  have HH1 := Lib.hid (HH.out.below HB1.out)
  go_wp2_with fail
  go_loopw [3] (fun i wr => ∃ k : Nat, k ≤ m.ho.length ∧ i = .int .i64 k ∧ hopsE (m.ho.take k) (m.ho.drop k) E = hopsE [] m.ho E ∧ Below w1.heap.size w1 wr) (fun i _ => m.ho.length - (intOf i).toNat)
  case atStart => exact ⟨0, Nat.zero_le _, rfl, rfl, Below.refl _ _⟩
  case round =>
    obtain ⟨k, hk, rfl, hrel, hbw⟩ := hrel
    have HRel := Lib.hid hrel
    have HBr := Lib.hid (HB1.out.trans (hbw.mono HB1.out.size))
    have hms := HM1.out.below hbw HS1.out
    obtain ⟨_, _, _, _, _, _, _, g7, g8⟩ := hms
    have HHr := Lib.hid (HH1.out.below hbw)
    clear hrel
    have HBw := Lib.hid hbw
    clear hbw
    by_cases hlt : k < m.ho.length
    · have HT := Lib.hid (HHr.out.take k hk)
      rcases HHr.out with ⟨hn0, _⟩ | ⟨b, off, c9, he, hbw, hlc, hcell⟩
      · rw [hn0] at hlt; exact absurd hlt (Nat.not_lt_zero _)
      · have hcap : m.ho.length ≤ cap := by cases he; exact hlc
        have i0 : (0 : Int) ≤ (k : Int) := by omega
        have i1 : (k : Int) < (m.ho.length : Int) := by omega
        have i3 : (k : Int) ≤ (cap : Int) := by omega
        cases he
        have hc0 := hcell k hlt
        have hzk := OK.out.ho _ (List.getElem_mem hlt)
        clear hcell
        go_wp2_with fail
        refine (refSite_s m.ho[k] hzk _).mono ?_
        rintro e w0 ⟨rfl, rfl⟩
        by_cases e4 : siteE m.ho[k] = 0
        case neg =>
          have HQ := Lib.hid ((HR.out.trans HRel.out.symm).trans (hopsE_site hlt e4))
          have b1 : (siteE m.ho[k] == 0) = false := by rw [beq_eq_false_iff_ne]; exact e4
          clear e4
          go_wp2_with fail
          go_ret
          exact ⟨ret_int HQ.out.symm, HBr.out⟩
        have E4 := Lib.hid e4
        rw [e4]
        clear e4
        go_wp2_with fail
        have HTn := Lib.hid (show ∀ n, HopsIn (wr.drewN n) _ _ from fun n => HT.out.below (below_drewN (Below.refl _ _) n))
        go_quiet ((go_at_call 43; exact Calls.quiet_of_same (refHas_q _ (m.ho.take k) m.ho[k] _ (by rw [List.length_take]; omega) (HTn.out _))))
        have HBq := Lib.hid (below_drewN HBr.out nq)
        have HBx := Lib.hid (below_drewN HBw.out nq)
        cases cs : Lib.containsS (m.ho.take k) m.ho[k]
        · have HQ := Lib.hid (HRel.out.symm.trans (hopsE_go hlt E4.out cs))
          clear cs
          go_wp2_with fail
          go_roundw
          case rel => exact ⟨k + 1, by omega, by go_num, HQ.out.symm, HBx.out⟩
          case measure => simp [intOf]; omega
        · have HQ := Lib.hid ((HR.out.trans HRel.out.symm).trans (hopsE_loop hlt E4.out cs))
          clear cs
          go_wp2_with fail
          go_ret
          exact ⟨ret_int HQ.out.symm, HBq.out⟩
    · have HQ := Lib.hid ((HR.out.trans HRel.out.symm).trans (hopsE_end (by omega)))
      by_cases q1 : 32768 < m.bo.size
      · have HF := Lib.hid (HE.out.trans (if_pos q1))
        go_wp2_with fail
        go_ret
        exact ⟨ret_int (by rw [HQ.out, HF.out]), HBr.out⟩
      · have HF := Lib.hid (HE.out.trans (if_neg q1))
        go_wp2_with fail
        go_ret
        exact ⟨ret_int (by rw [HQ.out, HF.out]), HBr.out⟩
end Go.Proofs.YtkiheanpamplpaaDoor
