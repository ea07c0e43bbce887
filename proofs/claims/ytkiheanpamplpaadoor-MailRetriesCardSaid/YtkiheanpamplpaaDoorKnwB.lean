/-
  The examples of the chapter on mail hold: the function known returns true.
-/
import Derived.Test.YtkiheanpamplpaaDoorKnwA
set_option linter.unusedSimpArgs false
set_option linter.unusedVariables false
set_option linter.unnecessarySimpa false
namespace Go.Proofs.YtkiheanpamplpaaDoor
open Go.RowKit Go.Bul Go.Maps
theorem k_printm (w : World) (hg : Gl w) : Calls Tryd.prog 37 #[msgV km (.slice none 0 0)] w fun e w' => e = .returned (.tuple #[.string kmT, .int .i64 0]) ∧ Below w.heap.size w w' := by
  have h := print_s km (.slice none 0 0) km_ok w hg (.inl ⟨rfl, none, 0, rfl, fun _ => rfl⟩)
  rw [km_printE, km_printT] at h
  exact h
def kD1 (v : Value) : DataW Value := .map [(kInt 1, .held (wtV km v 1 10 0))]
def kD2 (v : Value) : DataW Value := .map [(kInt 1, .held (wtV km v 1 15 1))]
def kD3 (v : Value) : DataW Value := .map [(kInt 1, .held (wtV km v 1 25 2))]
def kD4 (v : Value) : DataW Value := .map [(kInt 1, .held (wtV km v 1 45 3))]
def kBm : Ms := ⟨⟨#[]⟩, sA, sAnn, sA, 7, 50, ⟨#[78, 111, 116, 32, 100, 101, 108, 105, 118, 101, 114, 101, 100]⟩, [], kmB⟩
def kD5 (v : Value) : DataW Value := .map [(kInt 2, .held (wtV kBm v 2 50 0))]
theorem nilIn (w : World) : HopsIn w (.slice none 0 0) km.ho := .inl ⟨rfl, none, 0, rfl, fun _ => rfl⟩
theorem k_add (w w1 : World) (qb mb : Nat) (h : KI w qb mb 0 0 (.map []) w1) :
    Calls Tryd.prog 24 #[.pointer (some ⟨qb, 0, none⟩), msgV km (.slice none 0 0), .int .i64 10] w1 fun e w' => e = .returned (.tuple #[.int .i64 1, .int .i64 0]) ∧ ∃ v, KI w qb mb 1 1 (kD1 v) w' ∧ OwnH w1.heap.size w' v [] :=
  (add_good km (.slice none 0 0) km_ok 10 w1 qb sA 0 mb 0 (.map []) h.q (by decide) (by decide) (by decide) (nilIn _) (by simp [Value.ownBlock]) km_check (by decide) (by decide)).mono
    fun _ _ ⟨he, v, hq, ho, hb⟩ => ⟨he, v, h.but2 (D' := kD1 v) hq hb, ho⟩
theorem k_fail (w w1 : World) (qb mb : Nat) (n : Nat) (hn : n ≤ 1000000) (v : Value) (hsl : ∃ a l c, v = .slice a l c) (now due due' : Int) (f : Nat) (hf : f ≤ 6) (hm : 0 ≤ now ∧ now ≤ 105190559) (hd : now + delayI f = due')
    (h : KI w qb mb 1 n (.map [(kInt 1, .held (wtV km v 1 due f))]) w1) :
    Calls Tryd.prog 26 #[.pointer (some ⟨qb, 0, none⟩), .int .i64 1, .int .i64 now, .int .i64 8, .bool false] w1 fun e w' => e = .returned (.tuple #[.int .i64 0, .bool false, .int .i64 0]) ∧ KI w qb mb 1 (n + 1) (.map [(kInt 1, .held (wtV km v 1 due' (f + 1)))]) w' :=
  (fail_keep km v 1 due f hf 1 (by decide) (by decide) now 8 w1 qb sA 1 mb n _ h.q rfl rfl hsl hm hn).mono
    fun _ _ ⟨he, hq, hb⟩ => ⟨he, h.but2 (by rw [hd] at hq; exact hq) hb⟩
theorem k_get (w w1 : World) (qb mb : Nat) (n : Nat) (last : Int) (m : Ms) (hmo : m.ho = []) (k : Int) (h0 : -9223372036854775808 ≤ k) (h1 : k ≤ 9223372036854775807) (v : Value) (hh : HopsIn w1 v []) (num due fl : Int)
    (h : KI w qb mb last n (.map [(kInt k, .held (wtV m v num due fl))]) w1) :
    Calls Tryd.prog 27 #[.pointer (some ⟨qb, 0, none⟩), .int .i64 k] w1 fun e w' => ∃ a l c, e = .returned (.tuple #[msgV m (.slice a l c), .int .i64 due, .bool true]) ∧ KI w qb mb last n (.map [(kInt k, .held (wtV m v num due fl))]) w' ∧ Below w1.heap.size w1 w' := by
  have hs : (kInt k).sameKey (kInt k) = true := by simp [kInt, Lit.sameKey]
  exact (get_has m v num due fl k h0 h1 w1 qb sA last mb n _ h.q (by simp [Maps.has, hs]) (by simp [DataW.atKey, hs]) (by rw [hmo]; decide) (by rw [hmo]; exact hh)).mono
    fun _ _ ⟨v', he, ho, hb⟩ => by
      obtain ⟨a, l, c, rfl⟩ := owns_slice ho
      exact ⟨a, l, c, he, h.below hb, hb⟩
theorem k_bounce (w w1 : World) (hg : Gl w) (qb mb : Nat) (n : Nat) (hn : n ≤ 1000000) (v : Value) (hh : HopsIn w1 v []) (hv : v.ownBlock ≠ some qb) (h : KI w qb mb 1 n (kD4 v) w1) :
    Calls Tryd.prog 26 #[.pointer (some ⟨qb, 0, none⟩), .int .i64 1, .int .i64 50, .int .i64 8, .bool true] w1 fun e w' => e = .returned (.tuple #[.int .i64 2, .bool true, .int .i64 0]) ∧ ∃ v', KI w qb mb 2 (n + 1) (kD5 v') w' ∧ OwnH w1.heap.size w' v' [] := by
  have h9 := fail_bounce km v km_ok 1 45 3 (by decide) (by decide) 1 (by decide) (by decide) 50 8 (by decide) (by decide) w1 qb sA (by decide) 1 (by decide) (by decide) mb n hn
    (fun w' hb => hg.below (h.b.trans (hb.to_below (Nat.le_of_lt h.s) (Nat.le_of_lt h.hq) (Nat.le_of_lt h.hm)))) (kD4 v) h.q rfl rfl hh hv (by decide) km_check sA_site (by decide)
  rw [km_bounce] at h9
  exact h9.mono fun _ _ ⟨he, v', hq, ho, hb⟩ => ⟨he, v', h.but2 (D' := kD5 v') hq hb, ho⟩
theorem k_str (w : World) : Calls Tryd.prog 22 #[.agg #[.string ⟨#[]⟩, .string ⟨#[97]⟩]] w fun e w' => e = .returned (.string ⟨#[64, 97]⟩) ∧ Below w.heap.size w w' :=
  string_s ⟨#[]⟩ ⟨#[97]⟩ (by decide) (by decide) w
set_option maxRecDepth 100000 in
set_option maxHeartbeats 8000000 in
theorem known49_s (w : World) (hg : Gl w) : Calls Tryd.prog 14 #[] w fun e w' => e = .returned (.bool true) ∧ Below w.heap.size w w' := by
  have HG := Lib.hid hg
  have HM0 := Lib.hid (MsgAt.new w km (.slice none 0 0) 29)
  clear hg
  go_enter Tryd.func14, Tryd.ntmps14
  go_wp2_with fail
  refine (k_printm _ (HG.out.below ((Below.refl _ _).alloc (Nat.le_refl _) _))).mono ?_
  rintro e w1 ⟨rfl, b1⟩
  have HB1 := Lib.hid (((Below.refl _ _).alloc (Nat.le_refl _) _).trans (b1.mono (by rw [size_alloc]; omega)))
  have HM1 := Lib.hid (HM0.out.below b1 (by rw [size_alloc]; omega))
  have HS1 := Lib.hid (show w.heap.size < w1.heap.size by have := b1.size; rw [size_alloc] at this; omega)
  clear b1
  simp only [kmT]
  go_wp2_with fail
  refine (newQueue_s sA (by decide) _ sA_site).mono ?_
  rintro e w2 ⟨rfl, hq2, b2⟩
  have HK2 := Lib.hid (show KI w (w1.heap.size + 1) w1.heap.size 0 0 (.map []) w2 from ⟨hq2, HM1.out.below b2 HS1.out, HB1.out.trans (b2.mono HB1.out.size), by have := HS1.out; omega, HS1.out, Nat.lt_of_lt_of_le HS1.out b2.size⟩)
  clear hq2 b2
  obtain ⟨x0, x1, x2, x3, x4, x5, x6, x7, x8⟩ := HK2.out.m
  go_wp2_with fail
  refine (k_add w _ _ _ HK2.out).mono ?_
  rintro e w3 ⟨rfl, v3, hk3, ho3⟩
  have HK3 := Lib.hid hk3
  obtain ⟨hsl, hin⟩ := ho3.nil
  have HSL := Lib.hid hsl
  have HIN := Lib.hid hin
  have HNB := Lib.hid (show ∀ b, v3.ownBlock = some b → w2.heap.size ≤ b from fun b hb => (ho3.lt b hb).1)
  clear hk3 ho3 hsl hin x0 x1 x2 x3 x4 x5 x6 x7 x8
  go_wp2_with fail
  refine (k_fail w _ _ _ 1 (by decide) v3 HSL.out 10 10 15 0 (by decide) (by decide) rfl HK3.out).mono ?_
  rintro e w4 ⟨rfl, hk4⟩
  have HK4 := Lib.hid hk4
  have HB4 := Lib.hid (show Below w2.heap.size w2 w2 from Below.refl _ _)
  clear hk4
  have HN4 := Lib.hid (show HopsIn w4 v3 [] by
    rcases HIN.out with ⟨_, a, c, e, h⟩ | ⟨b, off, c, e, _⟩
    · exact .inl ⟨rfl, a, c, e, h⟩
    · exact .inl ⟨rfl, some ⟨b, off, none⟩, c, e, fun e => by cases e⟩)
  have hnil : ∀ W : World, HopsIn W v3 [] := by
    intro W
    rcases HIN.out with ⟨_, a, c, e, h⟩ | ⟨b, off, c, e, _⟩
    · exact .inl ⟨rfl, a, c, e, h⟩
    · exact .inl ⟨rfl, some ⟨b, off, none⟩, c, e, fun e => by cases e⟩
  have HNI := Lib.hid hnil
  clear hnil
  go_wp2_with fail
  refine (k_get w _ _ _ 2 1 km rfl 1 (by decide) (by decide) v3 (HNI.out _) 1 15 1 HK4.out).mono ?_
  rintro e w5 ⟨a5, l5, c5, rfl, hk5, _⟩
  have HK5 := Lib.hid hk5
  clear hk5
  simp only [msgV]
  go_wp2_with fail
  refine (k_fail w _ _ _ 2 (by decide) v3 HSL.out 15 15 25 1 (by decide) (by decide) rfl (HK5.out.new _)).mono ?_
  rintro e w6 ⟨rfl, hk6⟩
  have HK6 := Lib.hid hk6
  clear hk6
  go_wp2_with fail
  refine (k_fail w _ _ _ 3 (by decide) v3 HSL.out 25 25 45 2 (by decide) (by decide) rfl HK6.out).mono ?_
  rintro e w7 ⟨rfl, hk7⟩
  have HK7 := Lib.hid hk7
  clear hk7
  go_wp2_with fail
  refine (k_get w _ _ _ 4 1 km rfl 1 (by decide) (by decide) v3 (HNI.out _) 1 45 3 HK7.out).mono ?_
  rintro e w8 ⟨a8, l8, c8, rfl, hk8, _⟩
  have HK8 := Lib.hid hk8
  clear hk8
  simp only [msgV]
  go_wp2_with fail
  refine (k_bounce w _ HG.out _ _ 4 (by decide) v3 (HNI.out _) (fun e => by have h1 := HNB.out _ e; have h2 := HK2.out.q.blk; have := lt_of_block h2; omega) (HK8.out.new _)).mono ?_
  rintro e w9 ⟨rfl, v9, hk9, ho9⟩
  have HK9 := Lib.hid hk9
  have HN9 := Lib.hid ho9.nil.2
  clear hk9 ho9
  go_wp2_with fail
  refine (k_get w _ _ _ 5 2 kBm rfl 2 (by decide) (by decide) v9 HN9.out 2 50 0 HK9.out).mono ?_
  rintro e w10 ⟨a10, l10, c10, rfl, hk10, _⟩
  have HK10 := Lib.hid hk10
  obtain ⟨x0, x1, x2, x3, x4, x5, x6, x7, x8⟩ := hk10.m
  have hs10 := hk10.s
  clear hk10
  simp only [msgV, kBm, kmB, sA, sAnn]
  simp only [km, sAnn, sA] at x0 x1
  go_wp2_with fail
  refine (k_str _).mono ?_
  rintro e w11 ⟨rfl, b11⟩
  have HB11 := Lib.hid (((HK10.out.new (.cells (msgCells kBm (.slice a10 l10 c10)) 29)).below b11).b)
  have y0 := (b11.cell (p := ⟨w.heap.size, 0, none⟩) (by rw [size_alloc]; simp; omega)).trans ((Below.cell ((Below.refl _ _).alloc (Nat.le_refl _) _) (p := ⟨w.heap.size, 0, none⟩) hs10).trans x0)
  have y1 := (b11.cell (p := ⟨w.heap.size, 1, none⟩) (by rw [size_alloc]; simp; omega)).trans ((Below.cell ((Below.refl _ _).alloc (Nat.le_refl _) _) (p := ⟨w.heap.size, 1, none⟩) hs10).trans x1)
  have hz := (b11.block w10.heap.size (by rw [size_alloc]; omega)).trans (heap_alloc_new _ _)
  have z2 : w11.cell? ⟨w10.heap.size, 2, none⟩ = some (.string ⟨#[97, 110, 110]⟩) := by unfold World.cell?; rw [hz]; rfl
  have z3 : w11.cell? ⟨w10.heap.size, 3, none⟩ = some (.string ⟨#[97]⟩) := by unfold World.cell?; rw [hz]; rfl
  clear b11 hz x0 x1 x2 x3 x4 x5 x6 x7 x8
  go_wp2_with fail
  go_ret
  exact ⟨rfl, HB11.out⟩
end Go.Proofs.YtkiheanpamplpaaDoor
