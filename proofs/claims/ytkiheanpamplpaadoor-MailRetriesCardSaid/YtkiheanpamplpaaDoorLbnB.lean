/-
  The law MailBounces, walked: the law itself.
-/
import Derived.Test.YtkiheanpamplpaaDoorLbnA
import Derived.Test.YtkiheanpamplpaaDoorOpnM
set_option linter.unusedSimpArgs false
set_option linter.unusedVariables false
set_option linter.unnecessarySimpa false
namespace Go.Proofs.YtkiheanpamplpaaDoor
open Go.RowKit Go.Bul Go.Maps
def toM (m : Ms) : Ms := { m with ho := m.ho.take 20, bo := cut33 m.bo }
theorem toM_ok {m : Ms} (h : m.Big) : (toM m).Ok := by
  have hc : (cut33 m.bo).size ≤ 33000 := by unfold cut33; rw [extract_size _ _ _ (Nat.min_le_left _ _)]; omega
  exact ⟨h.fu, h.fs, h.tu, h.ts, h.su, sizeLe49 _ (by show (cut33 m.bo).size ≤ _; omega), fun z hz => h.ho z (List.mem_of_mem_take hz), by show (m.ho.take 20).length ≤ _; rw [List.length_take]; omega⟩
theorem toM_s (m : Ms) (v : Value) (hm : m.Big) (w : World) (hh : HopsIn w v m.ho) : Calls Tryd.prog 9 #[msgV m v] w fun e w' => ∃ a c, e = .returned (msgV (toM m) (.slice a (toM m).ho.length c)) ∧ HopsIn w' (.slice a (toM m).ho.length c) (toM m).ho ∧ Below w.heap.size w w' :=
  (to_s m v hm.bo hm.hn w hh).mono fun _ _ ⟨v', he, h1, h2⟩ => by
    obtain ⟨a, c, rfl⟩ := h1.shape
    exact ⟨a, c, he, h1, h2⟩
theorem ofM_s (m : Ms) (v : Value) (hn : m.ho.length ≤ 100000) (w : World) (hh : HopsIn w v m.ho) : Calls Tryd.prog 12 #[msgV m v] w fun e w' => ∃ a c, e = .returned (msgV m (.slice a m.ho.length c)) ∧ HopsIn w' (.slice a m.ho.length c) m.ho ∧ Below w.heap.size w w' :=
  (of_s m v hn w hh).mono fun _ _ ⟨v', he, h1, h2⟩ => by
    obtain ⟨a, c, rfl⟩ := h1.shape
    exact ⟨a, c, he, h1, h2⟩
def cut60 (s : ByteArray) : ByteArray := s.extract 0 (min s.size 60)
theorem cut60_size (s : ByteArray) : (cut60 s).size ≤ 60 := by unfold cut60; rw [extract_size _ _ _ (Nat.min_le_left _ _)]; omega
set_option maxRecDepth 100000 in
set_option maxHeartbeats 8000000 in
theorem lawBounces_s (m : Ms) (v : Value) (hm : m.Big) (site : ByteArray) (hs : site.size ≤ maxLen) (code now : Int) (k0 : -9223372036854775808 ≤ code) (k1 : code ≤ 9223372036854775807) (w : World) (hg : Gl w) (hh : HopsIn w v m.ho) :
    Calls Tryd.prog 3 #[msgV m v, .string site, .int .i64 code, .int .i64 now] w fun e w' => e = .returned (.bool true) ∧ Below w.heap.size w w' := by
  unfold maxLen at hs
  have HG := Lib.hid hg
  have HH := Lib.hid hh
  have HK0 := Lib.hid k0
  have HK1 := Lib.hid k1
  have hz := cut60_size site
  have hz1 : (min (site.size : Int) 60).toNat = min site.size 60 := by omega
  have hz2 : (0 : Int) ≤ min (site.size : Int) 60 := by omega
  have hz3 : min (site.size : Int) 60 ≤ site.size := by omega
  have HT := Lib.hid (toM_ok hm)
  have HBK := Lib.hid (bnc_ok (toM m) (toM_ok hm) (cut60 site) (sizeLe49 _ (by omega)) code now k0 k1)
  have HF1 := Lib.hid (fun (v : Value) (w : World) => bncF_s (toM m) v (toM_ok hm) (cut60 site) (sizeLe49 _ (by omega)) code now k0 k1 w)
  have HF2 := Lib.hid (fun (v : Value) (w : World) => refBncF_s (toM m) v (toM_ok hm) (cut60 site) (sizeLe49 _ (by omega)) code now k0 k1 w)
  generalize bnc (toM m) (cut60 site) code now = bp at HBK HF1 HF2
  obtain ⟨bm, is⟩ := bp
  have HMB := Lib.hid hm
  clear hg hh k0 k1 hm
  obtain ⟨hb1, hb2, hb3, hb4⟩ := HBK.out
  have HB1 := Lib.hid hb1
  have HB2 := Lib.hid hb2
  have HOK3 := Lib.hid hb3
  have HB4 := Lib.hid hb4
  clear HBK hb1 hb2 hb3 hb4
  cases is
  all_goals
    go_enter Tryd.func3, Tryd.ntmps3
    unfold msgV
    go_wp2_with fail
    refine (toM_s m v HMB.out _ (HH.out.below ((Below.refl _ _).alloc (Nat.le_refl _) _))).mono ?_
    rintro e w1 ⟨a1, c1, rfl, hh1, b1⟩
    have HH1 := Lib.hid hh1
    have HW1 := Lib.hid (((Below.refl _ _).alloc (Nat.le_refl _) _).trans (b1.mono (by rw [size_alloc]; omega)))
    clear hh1 b1
    simp only [msgV]
    go_wp2_with fail
    refine (HF1.out _ _ (HG.out.below (HW1.out.alloc HW1.out.size _)) (HH1.out.below ((Below.refl _ _).alloc (Nat.le_refl _) _))).mono ?_
    rintro e w2 ⟨rfl, b2⟩
    have hx2 := (MsgAt.new w1 (toM m) (.slice a1 (toM m).ho.length c1) 29).below b2 (by rw [size_alloc]; omega)
    have HW12 := Lib.hid (show Below w1.heap.size w1 w2 from ((Below.refl _ _).alloc (Nat.le_refl _) _).trans (b2.mono (by rw [size_alloc]; omega)))
    have hs2 : w1.heap.size < w2.heap.size := by have := b2.size; rw [size_alloc] at this; omega
    have HX2 := Lib.hid hx2
    obtain ⟨x0, x1, x2, x3, x4, x5, x6, x7, x8⟩ := hx2
    have hn5 := HT.out.hn
    clear b2
    simp only [msgV]
    go_wp2_with fail
    refine (ofM_s (toM m) _ hn5 _ ((HH1.out.below HW12.out).below ((Below.refl _ _).alloc (Nat.le_refl _) _))).mono ?_
    rintro e w3 ⟨a3, c3, rfl, hh3, b3⟩
    have HH3 := Lib.hid hh3
    have HB3 := Lib.hid b3
    have HG3 := Lib.hid (HG.out.below (HW1.out.trans ((HW12.out.trans ((((Below.refl _ _).alloc (Nat.le_refl _) _).trans (b3.mono (by rw [size_alloc]; omega))).mono (Nat.le_of_lt hs2))).mono HW1.out.size)))
    clear hh3 b3 x0 x1 x2 x3 x4 x5 x6 x7 x8
    simp only [msgV]
    go_wp2_with fail
    refine (HF2.out _ _ HG3.out HH3.out).mono ?_
    rintro e w4 ⟨rfl, b4⟩
    have HW23 := Lib.hid (show Below w2.heap.size w2 w3 from ((Below.refl _ _).alloc (Nat.le_refl _) _).trans (HB3.out.mono (by rw [size_alloc]; omega)))
    have hs3 : w2.heap.size < w3.heap.size := by have := HB3.out.size; rw [size_alloc] at this; omega
    have HX4 := Lib.hid ((HX2.out.below HW23.out hs2).below b4 (by omega))
    have HY4 := Lib.hid (((MsgAt.new w2 bm (.slice none 0 0) 29).below HB3.out (by rw [size_alloc]; omega)).below b4 hs3)
    have HW4 := Lib.hid (HW1.out.trans (((HW12.out.trans (HW23.out.mono (Nat.le_of_lt hs2))).trans (b4.mono (by omega))).mono HW1.out.size))
    have HGW4 := Lib.hid (HG3.out.below b4)
    have hs4 := b4.size
    clear b4
    simp only [msgV]
    go_wp2_with fail
    obtain ⟨wq, hwq⟩ : ∃ wq, wq = w4.alloc (.cells (msgCells bm (.slice none 0 0)) 26) := ⟨_, rfl⟩
    have HYq := Lib.hid (show MsgAt wq w2.heap.size bm (.slice none 0 0) by rw [hwq]; exact HY4.out.below ((Below.refl _ _).alloc (Nat.le_refl _) _) (by omega))
    have HZq := Lib.hid (show MsgAt wq w4.heap.size bm (.slice none 0 0) by rw [hwq]; exact MsgAt.new _ _ _ _)
    have HBq := Lib.hid (show Below w4.heap.size w4 wq by rw [hwq]; exact (Below.refl _ _).alloc (Nat.le_refl _) _)
    have hsq : wq.heap.size = w4.heap.size + 1 := by rw [hwq, size_alloc]
    unfold msgCells at hwq
    rw [← hwq]
    clear hwq
    have HP := Lib.hid (show ∀ x, Below wq.heap.size wq x → x.cell? ⟨w2.heap.size, 0, none⟩ = some (.string bm.fu) ∧ x.cell? ⟨w2.heap.size, 1, none⟩ = some (.string bm.fs) ∧ x.cell? ⟨w2.heap.size, 2, none⟩ = some (.string bm.tu) ∧ x.cell? ⟨w2.heap.size, 3, none⟩ = some (.string bm.ts) ∧ x.cell? ⟨w2.heap.size, 4, none⟩ = some (.int .i64 bm.nu) ∧ x.cell? ⟨w2.heap.size, 5, none⟩ = some (.int .i64 bm.da) ∧ x.cell? ⟨w2.heap.size, 6, none⟩ = some (.string bm.su) ∧ x.cell? ⟨w2.heap.size, 7, none⟩ = some (.slice none 0 0) ∧ x.cell? ⟨w2.heap.size, 8, none⟩ = some (.string bm.bo) ∧ x.cell? ⟨w4.heap.size, 0, none⟩ = some (.string bm.fu) ∧ x.cell? ⟨w4.heap.size, 1, none⟩ = some (.string bm.fs) ∧ x.cell? ⟨w4.heap.size, 2, none⟩ = some (.string bm.tu) ∧ x.cell? ⟨w4.heap.size, 3, none⟩ = some (.string bm.ts) ∧ x.cell? ⟨w4.heap.size, 4, none⟩ = some (.int .i64 bm.nu) ∧ x.cell? ⟨w4.heap.size, 5, none⟩ = some (.int .i64 bm.da) ∧ x.cell? ⟨w4.heap.size, 6, none⟩ = some (.string bm.su) ∧ x.cell? ⟨w4.heap.size, 7, none⟩ = some (.slice none 0 0) ∧ x.cell? ⟨w4.heap.size, 8, none⟩ = some (.string bm.bo) ∧ Below wq.heap.size wq x from fun x hx => by
      obtain ⟨p0, p1, p2, p3, p4, p5, p6, p7, p8⟩ := HYq.out.below hx (by omega)
      obtain ⟨r0, r1, r2, r3, r4, r5, r6, r7, r8⟩ := HZq.out.below hx (by omega)
      exact ⟨p0, p1, p2, p3, p4, p5, p6, p7, p8, r0, r1, r2, r3, r4, r5, r6, r7, r8, hx⟩)
    have hn0 : bm.ho.length ≤ 100000 := by rw [HB2.out]; exact Nat.zero_le _
    have HNil := Lib.hid (show ∀ W : World, HopsIn W (.slice none 0 0) bm.ho from fun W => by rw [HB2.out]; exact .inl ⟨rfl, none, 0, rfl, fun _ => rfl⟩)
    go_region_held3 (fun x => x.cell? ⟨w2.heap.size, 0, none⟩ = some (.string bm.fu) ∧ x.cell? ⟨w2.heap.size, 1, none⟩ = some (.string bm.fs) ∧ x.cell? ⟨w2.heap.size, 2, none⟩ = some (.string bm.tu) ∧ x.cell? ⟨w2.heap.size, 3, none⟩ = some (.string bm.ts) ∧ x.cell? ⟨w2.heap.size, 4, none⟩ = some (.int .i64 bm.nu) ∧ x.cell? ⟨w2.heap.size, 5, none⟩ = some (.int .i64 bm.da) ∧ x.cell? ⟨w2.heap.size, 6, none⟩ = some (.string bm.su) ∧ x.cell? ⟨w2.heap.size, 7, none⟩ = some (.slice none 0 0) ∧ x.cell? ⟨w2.heap.size, 8, none⟩ = some (.string bm.bo) ∧ x.cell? ⟨w4.heap.size, 0, none⟩ = some (.string bm.fu) ∧ x.cell? ⟨w4.heap.size, 1, none⟩ = some (.string bm.fs) ∧ x.cell? ⟨w4.heap.size, 2, none⟩ = some (.string bm.tu) ∧ x.cell? ⟨w4.heap.size, 3, none⟩ = some (.string bm.ts) ∧ x.cell? ⟨w4.heap.size, 4, none⟩ = some (.int .i64 bm.nu) ∧ x.cell? ⟨w4.heap.size, 5, none⟩ = some (.int .i64 bm.da) ∧ x.cell? ⟨w4.heap.size, 6, none⟩ = some (.string bm.su) ∧ x.cell? ⟨w4.heap.size, 7, none⟩ = some (.slice none 0 0) ∧ x.cell? ⟨w4.heap.size, 8, none⟩ = some (.string bm.bo) ∧ Below wq.heap.size wq x)
      (first
        | exact HP.out _ ((Below.refl _ _).drew)
        | exact HP.out _ hB10.out
        | exact HP.out _ hB9.out)
      ((first
        | (go_at_call 12; refine (ofM_s bm (.slice none 0 0) hn0 _ (HNil.out _)).mono ?_; rintro e w5 ⟨a5, c5, rfl, hh5, hb9⟩; have hH5 := Lib.hid hh5; have hB9 := Lib.hid (((Below.refl wq.heap.size wq).drew).trans (hb9.mono (Nat.le_refl _))); clear hh5 hb9)
        | (go_at_call 13; refine (refEqual_s bm bm _ _ hn0 hn0 _ hH5.out (HNil.out _)).mono ?_; rintro e w6 ⟨rfl, hb10⟩; have hB10 := Lib.hid (hB9.out.trans (hb10.mono hB9.out.size)); clear hb10; simp only [decide_true])))
    obtain ⟨p0, p1, p2, p3, p4, p5, p6, p7, p8, _, _, _, _, _, _, _, _, _, _⟩ := HP.out _ hB10.out
    have hs6 := hB10.out.size
    have HB6 := Lib.hid (HBq.out.trans (hB10.out.mono (by omega)))
    go_wp2_with fail
    refine (bounce_a bm (.slice none 0 0) _ _ _ _ HB1.out).mono ?_
    rintro e w7 ⟨rfl, b7⟩
    have hs7 := b7.size
    have HM7 := Lib.hid (HYq.out.below (hB10.out.trans (b7.mono hs6)) (by omega))
    have HB7 := Lib.hid (HB6.out.trans (b7.mono (by omega)))
    clear b7 p0 p1 p2 p3 p4 p5 p6 p7 p8
    simp only [msgV, noMs]
    go_wp2_with fail
    refine (known49_s _ (HGW4.out.below (HB7.out.alloc (by omega) _))).mono ?_
    rintro e w8 ⟨rfl, b8⟩
    have HB8 := Lib.hid ((HB7.out.alloc (by omega) _).trans (b8.mono (by rw [size_alloc]; omega)))
    have hx8 := (HM7.out.below ((Below.refl w7.heap.size w7).alloc (Nat.le_refl _) _) (by omega)).below b8 (by rw [size_alloc]; omega)
    obtain ⟨p0, p1, p2, p3, p4, p5, p6, p7, p8⟩ := hx8
    clear b8
    go_wp2_with fail
    have HBf := Lib.hid (HW4.out.trans (HB8.out.mono HW4.out.size))
    first
      | (go_ret
         exact ⟨rfl, HBf.out⟩)
      | (refine (check_s bm (.slice none 0 0) HOK3.out _ (HNil.out _)).mono ?_
         rintro e w9 ⟨rfl, b9⟩
         have HBg := Lib.hid (HBf.out.trans (b9.mono HBf.out.size))
         clear b9
         rw [HB4.out (by trivial)]
         go_wp2_with fail
         go_ret
         exact ⟨rfl, HBg.out⟩)
theorem lawBounces_c (m : Ms) (v : Value) (site : ByteArray) (code now : Int) (hm : m.Big) (hs : site.size ≤ maxLen) (k0 : -9223372036854775808 ≤ code) (k1 : code ≤ 9223372036854775807) (n0 : -9223372036854775808 ≤ now) (n1 : now ≤ 9223372036854775807) (w : World) (hg : Gl w) (hh : HopsIn w v m.ho) :
    Calls Tryd.prog 3 #[msgV m v, .string site, .int .i64 code, .int .i64 now] w fun e w' => e = .returned (.bool true) ∧ Below w.heap.size w w' :=
  lawBounces_s m v hm site hs code now k0 k1 w hg hh
end Go.Proofs.YtkiheanpamplpaaDoor
