/-
  The laws AsciiWords, AsciiDigits, AsciiNumber, walked.
-/
import Derived.Test.YtgmamplnhechjaaDoorLawP
set_option linter.unusedSimpArgs false
set_option linter.unusedVariables false
set_option linter.unnecessarySimpa false
namespace Go.Proofs.YtgmamplnhechjaaDoor
open Go.RowKit Go.Bul
theorem words_x (s : ByteArray) (w : World) (hs : s.size ≤ 4294967280) :
    Calls Tryd.prog 21 #[.string s] w fun e w' => ∃ v, e = .returned v ∧ StrsIn w' v (wordsL s.data.toList) ∧ Below w.heap.size w w' :=
  (words_s s w hs).mono fun _ _ ⟨v, he, ho, hb⟩ => ⟨v, he, StrsIn.of_owns ho, hb⟩
theorem refWords_x (s : ByteArray) (w : World) (hs : s.size ≤ 4294967270) :
    Calls Tryd.prog 24 #[.string s] w fun e w' => ∃ v, e = .returned v ∧ StrsIn w' v (wordsL s.data.toList) ∧ Below w.heap.size w w' :=
  (refWords_s s hs w).mono fun _ _ ⟨v, he, ho, hb⟩ => ⟨v, he, StrsIn.of_owns ho, hb⟩
theorem trim_b (s : ByteArray) (hs : s.size ≤ maxLen) (w : World) : Calls Tryd.prog 26 #[.string s] w fun e w' => e = .returned (St (trimL s.data.toList)) ∧ Below w.heap.size w w' :=
  (trim_s s hs w).mono fun _ _ ⟨he, hw⟩ => ⟨he, by subst hw; exact Below.refl _ _⟩
theorem refTrim_b (s : ByteArray) (hs : s.size ≤ 4294967280) (w : World) : Calls Tryd.prog 27 #[.string s] w fun e w' => e = .returned (St (trimL s.data.toList)) ∧ Below w.heap.size w w' :=
  (refTrim_s s hs w).mono fun _ _ ⟨he, hw⟩ => ⟨he, by subst hw; exact Below.refl _ _⟩
theorem same_x (va vb : Value) (l : List (List UInt8)) (hl : l.length ≤ 4294967280) (w : World) (ha : StrsIn w va l) (hb : StrsIn w vb l) :
    Calls Tryd.prog 23 #[va, vb] w fun e w' => e = .returned (.bool true) ∧ Below w.heap.size w w' := by
  have := refSame_s va vb l l hl hl w ha hb
  rw [show decide (l = l) = true by simp] at this
  exact this
theorem squeezeL_len (l : List UInt8) : (squeezeL l).length ≤ l.length := by
  have := squeeze_len l []
  simpa [squeezeL, wordsL] using this
theorem words_t (l : List UInt8) (m : List (List UInt8)) (h : wordsL l = m) (hl : (⟨l.toArray⟩ : ByteArray).size ≤ 300) (w : World) :
    Calls Tryd.prog 21 #[.string ⟨l.toArray⟩] w fun e w' => ∃ v, e = .returned v ∧ StrsIn w' v m ∧ Below w.heap.size w w' := by
  subst h
  exact words_x ⟨l.toArray⟩ w (by omega)
theorem squeeze_t (l m : List UInt8) (h : squeezeL l = m) (hl : (⟨l.toArray⟩ : ByteArray).size ≤ 300) (w : World) :
    Calls Tryd.prog 22 #[.string ⟨l.toArray⟩] w fun e w' => e = .returned (St m) ∧ Below w.heap.size w w' := by
  subst h
  exact squeeze_s ⟨l.toArray⟩ w (by omega)
theorem trim_t (l m : List UInt8) (h : trimL l = m) (hl : (⟨l.toArray⟩ : ByteArray).size ≤ 300) (w : World) :
    Calls Tryd.prog 26 #[.string ⟨l.toArray⟩] w fun e w' => e = .returned (St m) ∧ Below w.heap.size w w' := by
  subst h
  exact trim_b ⟨l.toArray⟩ (sizeLe _ (by omega)) w
set_option maxRecDepth 100000 in
set_option maxHeartbeats 8000000 in
theorem lawWords_s (a : ByteArray) (ha : a.size ≤ maxLen) (w : World) (hg : Gl w) :
    Calls Tryd.prog 6 #[.string a] w fun e w' => e = .returned (.bool true) ∧ Below w.heap.size w w' := by
  have HG := Lib.hid hg
  clear hg
  go_enter Tryd.func6, Tryd.ntmps6
  go_wp2_with fail
  refine (cut_s a ha _).mono ?_
  rintro e w0 ⟨rfl, rfl⟩
  have hA := cutB_size a
  generalize cutB a = A at *
  clear ha
  have hwl : (wordsL A.data.toList).length ≤ 300 := by
    have := words_len A.data.toList []
    simp at this
    have h2 : A.data.size = A.size := rfl
    unfold wordsL; omega
  have hT : (⟨(squeezeL A.data.toList).toArray⟩ : ByteArray).size ≤ 300 := by
    rw [size_of (squeezeL A.data.toList)]
    have h1 := squeezeL_len A.data.toList
    have h2 : A.data.toList.length = A.size := by simp
    omega
  have HT := Lib.hid hT
  have e1 := words_squeeze A.data.toList
  have e2 := squeeze_idem A.data.toList
  have e3 := trim_squeeze A.data.toList
  have E1 := Lib.hid e1
  have E2 := Lib.hid e2
  have E3 := Lib.hid e3
  clear hT e1 e2 e3
  go_wp2_with fail
  refine (words_x A _ (by omega)).mono ?_
  rintro e w1 ⟨v1, rfl, r1, c1⟩
  have R1 := Lib.hid r1
  clear r1
  go_wp2_with fail
  refine (squeeze_s A _ (by omega)).mono ?_
  rintro e w2 ⟨rfl, b2⟩
  have c2 := c1.trans (b2.mono c1.size)
  have R2 := Lib.hid (R1.out.below b2)
  clear R1 b2 c1
  go_wp2_with fail
  refine (refWords_x A _ (by omega)).mono ?_
  rintro e w3 ⟨v3, rfl, r3, b3⟩
  have R3 := Lib.hid r3
  have c3 := c2.trans (b3.mono c2.size)
  have R1 := Lib.hid (R2.out.below b3)
  clear r3 R2 b3 c2
  go_wp2_with fail
  refine (same_x v1 v3 _ (by omega) _ R1.out R3.out).mono ?_
  rintro e w4 ⟨rfl, b4⟩
  have c4 := c3.trans (b4.mono c3.size)
  have R2 := Lib.hid (R1.out.below b4)
  clear R3 R1 b4 c3
  go_wp2_with fail
  refine (refSqueeze_s A (by omega) _).mono ?_
  rintro e w5 ⟨rfl, b5⟩
  have c5 := c4.trans (b5.mono c4.size)
  have R1 := Lib.hid (R2.out.below b5)
  clear R2 b5 c4
  go_wp2_with fail
  refine (trim_b A (sizeLe _ (by omega)) _).mono ?_
  rintro e w6 ⟨rfl, b6⟩
  have c6 := c5.trans (b6.mono c5.size)
  have R2 := Lib.hid (R1.out.below b6)
  clear R1 b6 c5
  go_wp2_with fail
  refine (refTrim_b A (by omega) _).mono ?_
  rintro e w7 ⟨rfl, b7⟩
  have c7 := c6.trans (b7.mono c6.size)
  have R1 := Lib.hid (R2.out.below b7)
  clear R2 b7 c6
  go_wp2_with fail
  refine (known_s _ (HG.out.below c7)).mono ?_
  rintro e w8 ⟨rfl, b8⟩
  have c8 := c7.trans (b8.mono c7.size)
  have R2 := Lib.hid (R1.out.below b8)
  clear R1 b8 c7
  go_wp2_with fail
  refine (words_t _ _ E1.out HT.out _).mono ?_
  rintro e w9 ⟨v9, rfl, r9, b9⟩
  have c9 := c8.trans (b9.mono c8.size)
  have R1 := Lib.hid (R2.out.below b9)
  have R9 := Lib.hid r9
  clear R2 r9 b9 c8
  go_wp2_with fail
  refine (same_x v9 v1 _ (by omega) _ R9.out R1.out).mono ?_
  rintro e w10 ⟨rfl, b10⟩
  have c10 := c9.trans (b10.mono c9.size)
  clear R9 R1 b10 c9
  go_wp2_with fail
  refine (squeeze_t _ _ E2.out HT.out _).mono ?_
  rintro e w11 ⟨rfl, b11⟩
  have c11 := c10.trans (b11.mono c10.size)
  clear b11 c10
  go_wp2_with fail
  refine (trim_t _ _ E3.out HT.out _).mono ?_
  rintro e w12 ⟨rfl, b12⟩
  have c12 := c11.trans (b12.mono c11.size)
  clear b12 c11
  go_wp2_with fail
  go_ret
  exact ⟨ret_bool (by simp), c12⟩
set_option maxRecDepth 100000 in
set_option maxHeartbeats 8000000 in
theorem lawDigits_s (n : Int) (h0 : -9223372036854775808 ≤ n) (h1 : n ≤ 9223372036854775807) (w : World) (hg : Gl w) :
    Calls Tryd.prog 7 #[.int .i64 n] w fun e w' => e = .returned (.bool true) ∧ Below w.heap.size w w' := by
  have HG := Lib.hid hg
  have hn := num_itoa n h0 h1
  have D1 := Lib.hid (digits_s n h0 h1)
  have D2 := Lib.hid (refDigits_s n h0 h1)
  have hl : (⟨(Lib.itoa n).toArray⟩ : ByteArray).size ≤ 100 := by
    rw [size_of (Lib.itoa n)]
    unfold Lib.itoa
    split
    · have := dec_len 20 n.natAbs (by omega); simp; omega
    · have := dec_len 20 n.toNat (by omega); omega
  have HL := Lib.hid hl
  have HM := Lib.hid (show twoMax = 9223372036854775807 from rfl)
  clear hg h0 h1 hl
  by_cases hneg : n < 0
  · rw [if_pos hneg] at hn
    have HN := Lib.hid hn
    clear hn
    go_enter Tryd.func7, Tryd.ntmps7
    go_wp2_with fail
    refine (D1.out _ HG.out).mono ?_
    rintro e w1 ⟨rfl, c1⟩
    go_wp2_with fail
    refine (k_num ⟨(Lib.itoa n).toArray⟩ _ 0 3 (by have := HL.out; omega) (by rw [← HM.out]; exact HN.out) _ (HG.out.below c1)).mono ?_
    rintro e w2 ⟨rfl, b2⟩
    have c2 := c1.trans (b2.mono c1.size)
    clear b2 c1
    go_wp2_with fail
    refine (D2.out _).mono ?_
    rintro e w3 ⟨rfl, b3⟩
    have c3 := c2.trans (b3.mono c2.size)
    clear b3 c2
    go_wp2_with fail
    refine (known_s _ (HG.out.below c3)).mono ?_
    rintro e w4 ⟨rfl, b4⟩
    have c4 := c3.trans (b4.mono c3.size)
    clear b4 c3
    go_wp2_with fail
    go_ret
    exact ⟨rfl, c4⟩
  · rw [if_neg hneg] at hn
    have HN := Lib.hid hn
    clear hn
    go_enter Tryd.func7, Tryd.ntmps7
    go_wp2_with fail
    refine (D1.out _ HG.out).mono ?_
    rintro e w1 ⟨rfl, c1⟩
    go_wp2_with fail
    refine (k_num ⟨(Lib.itoa n).toArray⟩ _ n 0 (by have := HL.out; omega) (by rw [← HM.out]; exact HN.out) _ (HG.out.below c1)).mono ?_
    rintro e w2 ⟨rfl, b2⟩
    have c2 := c1.trans (b2.mono c1.size)
    clear b2 c1
    go_wp2_with fail
    refine (D2.out _).mono ?_
    rintro e w3 ⟨rfl, b3⟩
    have c3 := c2.trans (b3.mono c2.size)
    clear b3 c2
    go_wp2_with fail
    refine (known_s _ (HG.out.below c3)).mono ?_
    rintro e w4 ⟨rfl, b4⟩
    have c4 := c3.trans (b4.mono c3.size)
    clear b4 c3
    go_wp2_with fail
    go_ret
    exact ⟨ret_bool (by simp), c4⟩
theorem refNumber_b (s : ByteArray) (m a b : Int) (hs : s.size ≤ 4294967280) (hp : numL s.data.toList m = (a, b)) (w : World) :
    Calls Tryd.prog 31 #[.string s, .int .i64 m] w fun e w' => e = .returned (.tuple #[.int .i64 a, .int .i64 b]) ∧ Below w.heap.size w w' :=
  (refNumber_s s m hs w).mono fun _ _ ⟨he, hw⟩ => ⟨by rw [he, hp]; rfl, by subst hw; exact Below.refl _ _⟩
set_option maxRecDepth 100000 in
set_option maxHeartbeats 8000000 in
theorem lawNumber_s (a : ByteArray) (most : Int) (ha : a.size ≤ maxLen) (hm0 : -9223372036854775808 ≤ most) (hm1 : most ≤ 9223372036854775807) (w : World) (hg : Gl w) :
    Calls Tryd.prog 8 #[.string a, .int .i64 most] w fun e w' => e = .returned (.bool true) ∧ Below w.heap.size w w' := by
  have HG := Lib.hid hg
  clear hg hm0 hm1
  go_enter Tryd.func8, Tryd.ntmps8
  go_wp2_with fail
  refine (cut_s a ha _).mono ?_
  rintro e w0 ⟨rfl, rfl⟩
  have hA := cutB_size a
  generalize cutB a = A at *
  clear ha
  obtain ⟨⟨v, er⟩, hv⟩ : ∃ p : Int × Int, p = numL A.data.toList most := ⟨_, rfl⟩
  have HV := Lib.hid hv.symm
  clear hv
  by_cases he : er = 0
  · subst he
    have hb := num_back _ _ _ HV.out
    have DB := Lib.hid hb.1
    have D1 := Lib.hid (digits_s v (by omega) (by omega))
    clear hb
    go_wp2_with fail
    refine (k_num A most v 0 (by omega) HV.out _ HG.out).mono ?_
    rintro e w1 ⟨rfl, c1⟩
    go_wp2_with fail
    refine (refNumber_b A most v 0 (by omega) HV.out _).mono ?_
    rintro e w2 ⟨rfl, b2⟩
    have c2 := c1.trans (b2.mono c1.size)
    clear b2 c1
    go_wp2_with fail
    refine (known_s _ (HG.out.below c2)).mono ?_
    rintro e w3 ⟨rfl, b3⟩
    have c3 := c2.trans (b3.mono c2.size)
    clear b3 c2
    go_wp2_with fail
    refine (D1.out _ (HG.out.below c3)).mono ?_
    rintro e w4 ⟨rfl, b4⟩
    have c4 := c3.trans (b4.mono c3.size)
    rw [DB.out]
    go_wp2_with fail
    go_ret
    exact ⟨ret_bool (by simp), c4⟩
  · have he' : (er != 0) = true := by simpa using he
    go_wp2_with fail
    refine (k_num A most v er (by omega) HV.out _ HG.out).mono ?_
    rintro e w1 ⟨rfl, c1⟩
    go_wp2_with fail
    refine (refNumber_b A most v er (by omega) HV.out _).mono ?_
    rintro e w2 ⟨rfl, b2⟩
    have c2 := c1.trans (b2.mono c1.size)
    clear b2 c1
    go_wp2_with fail
    refine (known_s _ (HG.out.below c2)).mono ?_
    rintro e w3 ⟨rfl, b3⟩
    have c3 := c2.trans (b3.mono c2.size)
    clear b3 c2
    go_wp2_with fail
    go_ret
    exact ⟨ret_bool (by simp), c3⟩
end Go.Proofs.YtgmamplnhechjaaDoor
