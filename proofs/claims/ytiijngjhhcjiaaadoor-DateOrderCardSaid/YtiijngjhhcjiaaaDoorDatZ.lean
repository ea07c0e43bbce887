/-
  The law DateOrder, walked.
-/
import Derived.Test.YtiijngjhhcjiaaaDoorDatX
import Derived.Test.YtiijngjhhcjiaaaDoorDatQ
set_option linter.unusedSimpArgs false
set_option linter.unusedVariables false
set_option linter.unnecessarySimpa false
namespace Go.Proofs.YtiijngjhhcjiaaaDoor
open Go.RowKit Go.Bul
def civAt (c : Civ) : Nat → Nat
  | 0 => c.y
  | 1 => c.m
  | 2 => c.d
  | 3 => c.h
  | _ => c.mi
/-- the law of the order, by the number of the component -/
theorem order_at (a b : Nat) : (∀ k, k < 5 → (∀ j, j < k → civAt (civOf a) j = civAt (civOf b) j) → civAt (civOf a) k ≠ civAt (civOf b) k → (a < b ↔ civAt (civOf a) k < civAt (civOf b) k)) ∧
    ((∀ j, j < 5 → civAt (civOf a) j = civAt (civOf b) j) → a = b) := by
  obtain ⟨h0, h1, h2, h3, h4, h5⟩ := order_law a b
  refine ⟨fun k hk hj hne => ?_, fun hj => ?_⟩
  · obtain rfl | rfl | rfl | rfl | rfl : k = 0 ∨ k = 1 ∨ k = 2 ∨ k = 3 ∨ k = 4 := by omega
    · exact h0 hne
    · exact h1 (hj 0 (by omega)) hne
    · exact h2 (hj 0 (by omega)) (hj 1 (by omega)) hne
    · exact h3 (hj 0 (by omega)) (hj 1 (by omega)) (hj 2 (by omega)) hne
    · exact h4 (hj 0 (by omega)) (hj 1 (by omega)) (hj 2 (by omega)) (hj 3 (by omega)) hne
  · exact h5 (hj 0 (by omega)) (hj 1 (by omega)) (hj 2 (by omega)) (hj 3 (by omega)) (hj 4 (by omega))
def civRow (c : Civ) : Array Value := #[.int .i64 c.y, .int .i64 c.m, .int .i64 c.d, .int .i64 c.h, .int .i64 c.mi]
theorem civRow_at (c : Civ) {k : Nat} (h : k < 5) : (civRow c)[k]? = some (.int .i64 (civAt c k)) := by
  obtain rfl | rfl | rfl | rfl | rfl : k = 0 ∨ k = 1 ∨ k = 2 ∨ k = 3 ∨ k = 4 := by omega
  all_goals rfl
structure OrdR (x y : Civ) (w w4 : World) (b c : Nat) (wr : World) : Prop where
  bx : wr.heap[b]? = some (.cells (civRow x) 3 (0, 0))
  by0 : wr.heap[c]? = some (.cells (civRow y) 3 (0, 0))
  below : Below w.heap.size w wr
theorem OrdR.cx {x y : Civ} {w w4 : World} {b c : Nat} {wr : World} (h : OrdR x y w w4 b c wr) {k : Nat} (hk : k < 5) (q : Nat) : (wr.drewN q).cell? ⟨b, k, none⟩ = some (.int .i64 (civAt x k)) := (cellAt h.bx k).trans (civRow_at x hk)
theorem OrdR.cy {x y : Civ} {w w4 : World} {b c : Nat} {wr : World} (h : OrdR x y w w4 b c wr) {k : Nat} (hk : k < 5) (q : Nat) : (wr.drewN q).cell? ⟨c, k, none⟩ = some (.int .i64 (civAt y k)) := (cellAt h.by0 k).trans (civRow_at y hk)
theorem OrdR.drewN {x y : Civ} {w w4 : World} {b c : Nat} {wr : World} (h : OrdR x y w w4 b c wr) (n : Nat) : OrdR x y w w4 b c (wr.drewN n) := ⟨h.bx, h.by0, ⟨h.below.os, h.below.tape, h.below.output, h.below.size, h.below.block⟩⟩
set_option maxRecDepth 100000 in
set_option maxHeartbeats 8000000 in
theorem order_good (a b : Nat) (ha : a ≤ 105190559) (hb : b ≤ 105190559) (w : World) (hg : Gd w) : Calls Tryd.prog 6 #[.int .i64 a, .int .i64 b] w fun e w' => e = .returned (.bool true) ∧ Below w.heap.size w w' := by
  have HG := Lib.hid hg
  have h1 := toCivil_s a ha
  have h2 := toCivil_s b hb
  have ho := order_at a b
  obtain ⟨x, hx⟩ : ∃ x, civOf a = x := ⟨_, rfl⟩
  obtain ⟨y, hy⟩ : ∃ y, civOf b = y := ⟨_, rfl⟩
  rw [hx] at h1 ho
  rw [hy] at h2 ho
  simp only [civCells] at h1 h2
  have H1 := Lib.hid h1
  have H2 := Lib.hid h2
  have HO := Lib.hid ho
  clear h1 h2 ho hx hy hg
  go_enter Tryd.func6, Tryd.ntmps6
  go_wp2_with fail
  refine (known04_s _ HG.out).mono ?_
  rintro r w1 ⟨rfl, b1⟩
  have HB1 := Lib.hid b1
  clear b1
  go_wp2_with fail
  refine (H1.out w1).mono ?_
  rintro r w2 ⟨rfl, b2⟩
  have HB2 := Lib.hid (HB1.out.trans (b2.mono HB1.out.size))
  clear b2
  go_wp2_with fail
  refine (H2.out _).mono ?_
  rintro r w3 ⟨rfl, b3⟩
  have hs3 : w2.heap.size < w3.heap.size := by have := b3.size; rw [sizeA] at this; omega
  have HX3 := Lib.hid ((b3.block w2.heap.size (by rw [sizeA]; omega)).trans (heapNew w2 (.cells #[.int .i64 x.y, .int .i64 x.m, .int .i64 x.d, .int .i64 x.h, .int .i64 x.mi] 24)))
  have HB3 := Lib.hid ((HB2.out.alloc HB2.out.size (.cells #[.int .i64 x.y, .int .i64 x.m, .int .i64 x.d, .int .i64 x.h, .int .i64 x.mi] 24)).trans (b3.mono (by rw [sizeA]; have := HB2.out.size; omega)))
  clear b3
  have x0 := cellAt HX3.out 0
  have x1 := cellAt HX3.out 1
  have x2 := cellAt HX3.out 2
  have x3 := cellAt HX3.out 3
  have x4 := cellAt HX3.out 4
  go_wp2_with fail
  have HA4 := Lib.hid (show ((((w3.alloc (.cells #[.int .i64 y.y, .int .i64 y.m, .int .i64 y.d, .int .i64 y.h, .int .i64 y.mi] 24)).alloc (.cells (civRow x) 3)).alloc (.cells (civRow y) 3))).heap[w3.heap.size + 1]? = some (.cells (civRow x) 3 (0, 0)) by
    rw [Below.heap_alloc _ _ _ (by rw [sizeA, sizeA]; omega)]
    have h := heapNew (w3.alloc (.cells #[.int .i64 y.y, .int .i64 y.m, .int .i64 y.d, .int .i64 y.h, .int .i64 y.mi] 24)) (.cells (civRow x) 3)
    rwa [sizeA] at h)
  have HC4 := Lib.hid (show ((((w3.alloc (.cells #[.int .i64 y.y, .int .i64 y.m, .int .i64 y.d, .int .i64 y.h, .int .i64 y.mi] 24)).alloc (.cells (civRow x) 3)).alloc (.cells (civRow y) 3))).heap[w3.heap.size + 2]? = some (.cells (civRow y) 3 (0, 0)) by
    have h := heapNew ((w3.alloc (.cells #[.int .i64 y.y, .int .i64 y.m, .int .i64 y.d, .int .i64 y.h, .int .i64 y.mi] 24)).alloc (.cells (civRow x) 3)) (.cells (civRow y) 3)
    rwa [sizeA, sizeA] at h)
  have HB4 := Lib.hid (show Below w.heap.size w (((w3.alloc (.cells #[.int .i64 y.y, .int .i64 y.m, .int .i64 y.d, .int .i64 y.h, .int .i64 y.mi] 24)).alloc (.cells (civRow x) 3)).alloc (.cells (civRow y) 3)) from
    ((HB3.out.alloc HB3.out.size _).alloc (by rw [sizeA]; have := HB3.out.size; omega) _).alloc (by rw [sizeA, sizeA]; have := HB3.out.size; omega) _)
  unfold civRow at HA4 HC4 HB4
  generalize (((w3.alloc (.cells #[.int .i64 y.y, .int .i64 y.m, .int .i64 y.d, .int .i64 y.h, .int .i64 y.mi] 24)).alloc (.cells #[.int .i64 x.y, .int .i64 x.m, .int .i64 x.d, .int .i64 x.h, .int .i64 x.mi] 3)).alloc (.cells #[.int .i64 y.y, .int .i64 y.m, .int .i64 y.d, .int .i64 y.h, .int .i64 y.mi] 3)) = w4 at HA4 HC4 HB4 ⊢
  have HR4 := Lib.hid (show OrdR x y w w4 (w3.heap.size + 1) (w3.heap.size + 2) w4 from ⟨HA4.out, HC4.out, HB4.out⟩)
  clear x0 x1 x2 x3 x4
  go_loopw [11] (fun i wr => ∃ k : Nat, k ≤ 5 ∧ i = .int .i64 k ∧ (∀ j, j < k → civAt x j = civAt y j) ∧ OrdR x y w w4 (w3.heap.size + 1) (w3.heap.size + 2) wr) (fun i _ => 5 - (intOf i).toNat)
  case atStart => exact ⟨0, Nat.zero_le _, rfl, fun j hj => absurd hj (Nat.not_lt_zero _), HR4.out⟩
  case round =>
    obtain ⟨k, hk, rfl, hsame, hR⟩ := hrel
    have HR := Lib.hid hR
    have HS := Lib.hid hsame
    clear hR hsame
    by_cases hlt : k < 5
    · have i1 : (k : Int) < 5 := by omega
      have i2 : (0 : Int) ≤ (k : Int) := by omega
      obtain ⟨p, hp⟩ : ∃ p, civAt x k = p := ⟨_, rfl⟩
      obtain ⟨r, hr⟩ : ∃ r, civAt y k = r := ⟨_, rfl⟩
      have cx := HR.out.cx hlt
      have cy := HR.out.cy hlt
      rw [hp] at cx
      rw [hr] at cy
      have HP := Lib.hid hp
      have HQ := Lib.hid hr
      clear hp hr
      by_cases hne : p = r
      · subst hne
        go_wp2_with fail
        go_quiet (fail)
        clear cx cy
        go_wp2_with fail
        go_roundw
        case rel => exact ⟨k + 1, by omega, by push_cast; rfl, fun j hj => by
          rcases Nat.lt_or_ge j k with h | h
          · exact HS.out j h
          · obtain rfl : j = k := by omega
            rw [HP.out, HQ.out], HR.out.drewN _⟩
        case measure => simp only [intOf]; omega
      · have hq : ((p : Int) != (r : Int)) = true := by simp; omega
        go_wp2_with fail
        go_quiet (fail)
        obtain ⟨wq, hwq⟩ : ∃ wq, wq = wr.drewN nq := ⟨_, rfl⟩
        have HRq := Lib.hid (show OrdR x y w w4 (w3.heap.size + 1) (w3.heap.size + 2) wq by rw [hwq]; exact HR.out.drewN nq)
        rw [← hwq]
        clear hwq cx cy
        have cx := HRq.out.cx hlt
        have cy := HRq.out.cy hlt
        rw [HP.out] at cx
        rw [HQ.out] at cy
        have hfin := HO.out.1 k hlt HS.out (by rw [HP.out, HQ.out]; exact hne)
        rw [HP.out, HQ.out] at hfin
        have hdec : (decide ((a : Int) < (b : Int)) == decide ((p : Int) < (r : Int))) = true := by
          rw [beq_iff_eq, decide_eq_decide]
          omega
        have HD := Lib.hid hdec
        clear hdec hfin
        go_wp2_with fail
        go_quiet (fail)
        clear cx cy
        go_wp2_with fail
        go_ret
        exact ⟨retB (by simpa using HD.out), (HRq.out.drewN _).below⟩
    · obtain rfl : k = 5 := by omega
      have hab := HO.out.2 HS.out
      go_wp2_with fail
      go_ret
      exact ⟨retB (by simpa using hab), HR.out.below⟩
theorem toCivil_any (n : Int) : ∃ c : Civ, ∀ w : World, Calls Tryd.prog 11 #[.int .i64 n] w fun e w' => e = .returned (.tuple #[.agg #[.int .i64 c.y, .int .i64 c.m, .int .i64 c.d, .int .i64 c.h, .int .i64 c.mi], .int .i64 (if 0 ≤ n ∧ n ≤ 105190559 then 0 else 2)]) ∧ Below w.heap.size w w' := by
  by_cases hn : 0 ≤ n ∧ n ≤ 105190559
  · rw [if_pos hn]
    obtain ⟨N, rfl⟩ : ∃ N : Nat, n = N := ⟨n.toNat, by omega⟩
    exact ⟨civOf N, fun w => toCivil_s N (by omega) w⟩
  · rw [if_neg hn]
    exact ⟨noCiv, fun w => toCivil_bad n hn w⟩
set_option maxRecDepth 100000 in
set_option maxHeartbeats 8000000 in
theorem order_bad (a b ea eb : Int) (ha : (if 0 ≤ a ∧ a ≤ 105190559 then (0 : Int) else 2) = ea) (hb : (if 0 ≤ b ∧ b ≤ 105190559 then (0 : Int) else 2) = eb) (p1 p2 q1 : Bool) (h1 : ((ea : Int) != 0) = p1) (h2 : ((eb : Int) != 0) = p2) (hq1 : decide (0 ≤ a ∧ a ≤ 105190559) = q1) (q2 : Bool) (hq2 : decide (0 ≤ b ∧ b ≤ 105190559) = q2) (hp : p1 = !q1) (hp2 : p2 = !q2) (hor : (p1 || p2) = true) (w : World) (hg : Gd w) :
    Calls Tryd.prog 6 #[.int .i64 a, .int .i64 b] w fun e w' => e = .returned (.bool true) ∧ Below w.heap.size w w' := by
  have HG := Lib.hid hg
  obtain ⟨x, hx⟩ := toCivil_any a
  obtain ⟨y, hy⟩ := toCivil_any b
  rw [ha] at hx
  rw [hb] at hy
  have H1 := Lib.hid hx
  have H2 := Lib.hid hy
  have V1 := Lib.hid (valid_s a)
  have va := fun w => refValid_s a w
  have vb := fun w => refValid_s b w
  rw [hq1] at va
  rw [hq2] at vb
  have VA := Lib.hid va
  have VB := Lib.hid vb
  clear va vb hx hy ha hb hg hq1 hq2
  cases q1 <;> cases q2 <;> simp only [Bool.not_false, Bool.not_true] at hp hp2 <;> subst hp <;> subst hp2
  case true.true => cases hor
  all_goals
    clear hor
    go_enter Tryd.func6, Tryd.ntmps6
    go_wp2_with fail
    refine (known04_s _ HG.out).mono ?_
    rintro r w1 ⟨rfl, b1⟩
    have HB1 := Lib.hid b1
    clear b1
    go_wp2_with fail
    refine (H1.out w1).mono ?_
    rintro r w2 ⟨rfl, b2⟩
    have HB2 := Lib.hid (HB1.out.trans (b2.mono HB1.out.size))
    clear b2
    go_wp2_with fail
    refine (H2.out _).mono ?_
    rintro r w3 ⟨rfl, b3⟩
    have hs3 : w2.heap.size < w3.heap.size := by have := b3.size; rw [sizeA] at this; omega
    have HB3 := Lib.hid ((HB2.out.alloc HB2.out.size (.cells #[.int .i64 x.y, .int .i64 x.m, .int .i64 x.d, .int .i64 x.h, .int .i64 x.mi] 24)).trans (b3.mono (by rw [sizeA]; have := HB2.out.size; omega)))
    clear b3
    go_wp2_with fail
    refine (VA.out _).mono ?_
    rintro r w4 ⟨rfl, rfl⟩
    first
      | (go_wp2_with fail
         go_ret
         exact ⟨rfl, HB3.out.alloc HB3.out.size _⟩)
      | (go_wp2_with fail
         refine (VB.out _).mono ?_
         rintro r w4 ⟨rfl, rfl⟩
         go_wp2_with fail
         go_ret
         exact ⟨rfl, HB3.out.alloc HB3.out.size _⟩)
theorem lawOrder04_c (a b : Int) (a0 : -9223372036854775808 ≤ a) (a1 : a ≤ 9223372036854775807) (b0 : -9223372036854775808 ≤ b) (b1 : b ≤ 9223372036854775807) (w : World) (hg : Gd w) :
    Calls Tryd.prog 6 #[.int .i64 a, .int .i64 b] w fun e w' => e = .returned (.bool true) ∧ Below w.heap.size w w' := by
  by_cases ha : 0 ≤ a ∧ a ≤ 105190559
  · by_cases hb : 0 ≤ b ∧ b ≤ 105190559
    · obtain ⟨A, rfl⟩ : ∃ N : Nat, a = N := ⟨a.toNat, by omega⟩
      obtain ⟨B, rfl⟩ : ∃ N : Nat, b = N := ⟨b.toNat, by omega⟩
      exact order_good A B (by omega) (by omega) w hg
    · exact order_bad a b 0 2 (if_pos ha) (if_neg hb) false true true rfl rfl (decide_eq_true ha) false (decide_eq_false hb) rfl rfl rfl w hg
  · by_cases hb : 0 ≤ b ∧ b ≤ 105190559
    · exact order_bad a b 2 0 (if_neg ha) (if_pos hb) true false false rfl rfl (decide_eq_false ha) true (decide_eq_true hb) rfl rfl rfl w hg
    · exact order_bad a b 2 2 (if_neg ha) (if_neg hb) true true false rfl rfl (decide_eq_false ha) false (decide_eq_false hb) rfl rfl rfl w hg
end Go.Proofs.YtiijngjhhcjiaaaDoor
