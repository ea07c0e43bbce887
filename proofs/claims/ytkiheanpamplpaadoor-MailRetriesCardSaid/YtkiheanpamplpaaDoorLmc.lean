/-
  The law MailChecks, walked: a drawn region by a condition that every operation keeps; To, whose hops lie in memory of their own; the region that makes the two messages; the walk.
-/
import Derived.Test.YtkiheanpamplpaaDoorLbnB
import Derived.Test.YtkiheanpamplpaaDoorRegQ
set_option linter.unusedSimpArgs false
set_option linter.unusedVariables false
set_option linter.unnecessarySimpa false

namespace Go.Bul
open Go.RowKit
section
variable {P : Program} {ops : Array Oper} {md : Region.Mode} {Q : Exit → Act → World → Prop}
def unl (listed : Array Bool) : Nat := listed.toList.count false
theorem unl_set {listed : Array Bool} {i : Nat} (h : listed.getD i true = false) : unl (listed.setIfInBounds i true) + 1 = unl listed := by
  have hi : i < listed.size := by
    rcases Nat.lt_or_ge i listed.size with h' | h'
    · exact h'
    · simp [Array.getElem?_eq_none h'] at h
  have hl : listed.toList[i]'(by simpa using hi) = false := by simpa [hi] using h
  unfold unl
  have h0 : 0 < listed.toList.count false := List.count_pos_iff.2 (by rw [← hl]; exact List.getElem_mem _)
  have h1 := List.count_set (a := true) (b := false) (l := listed.toList) (i := i) (by simpa using hi)
  rw [hl, if_pos (by decide), if_neg (by decide)] at h1
  rw [Array.toList_setIfInBounds]
  omega
theorem unl_zero {listed : Array Bool} (h : unl listed = 0) (i : Nat) : listed.getD i true = true := by
  rcases Nat.lt_or_ge i listed.size with h' | h'
  · have := List.count_eq_zero.1 h
    cases hb : listed[i] with
    | true => simp [h', hb]
    | false => exact absurd (by rw [← hb]; simp) this
  · simp [Array.getElem?_eq_none h']
theorem wpAny_inv {Inv : Array Bool → Act → World → Prop}
    (hstep : ∀ (i : Nat) (o : Oper), ops[i]? = some o → ∀ listed a w, Inv listed a w → listed.getD i true = false → (∀ e ∈ o.after, Region.binds md e = true → listed.getD e.on false = true) → wpOp P ops Q i (fun a' w' => Inv (listed.setIfInBounds i true) a' w') a w)
    (hend : ∀ listed a w, Inv listed a w → Region.ready md ops listed = [] → Q .normal a w) :
    ∀ (fuel : Nat) (listed : Array Bool) (a : Act) (w : World), Inv listed a w → unl listed ≤ fuel → wpAny P md ops Q fuel listed a w
  | 0, listed, a, w, h, hf => by
    have h0 : Region.ready md ops listed = [] := by
      rw [List.eq_nil_iff_forall_not_mem]
      intro i hi
      have := (mem_ready.1 hi).1
      rw [unl_zero (by omega) i] at this
      cases this
    exact ⟨h0, hend _ _ _ h h0⟩
  | fuel + 1, listed, a, w, h, hf => ⟨fun h0 => hend _ _ _ h h0, fun i hi => by
    obtain ⟨h1, o, ho, h2⟩ := mem_ready.1 hi
    refine wpOp_mono (fun a' w' h' => wpAny_inv hstep hend fuel _ a' w' h' ?_) (hstep i o ho listed a w h h1 h2)
    have := unl_set h1
    omega⟩
theorem wp_region_inv {id : Nat} {a : Act} {w : World} (Inv : Array Bool → Act → World → Prop) (hm : P.follows .mixedOrders = true)
    (h0 : Inv (Array.replicate ops.size false) a w.drew)
    (hstep : ∀ (i : Nat) (o : Oper), ops[i]? = some o → ∀ listed a w, Inv listed a w → listed.getD i true = false → (∀ e ∈ o.after, Region.binds .any e = true → listed.getD e.on false = true) → wpOp P ops Q i (fun a' w' => Inv (listed.setIfInBounds i true) a' w') a w)
    (hend : ∀ listed a w, Inv listed a w → Region.ready .any ops listed = [] → Q .normal a w) : (Code.region id ops true).wp P Q a w :=
  wp_region_any hm (wpAny_inv hstep hend _ _ _ _ h0 (by unfold unl; simp))
end
end Go.Bul

namespace Go.Proofs.YtkiheanpamplpaaDoor
open Go.RowKit Go.Bul Go.Maps
set_option maxRecDepth 100000 in
set_option maxHeartbeats 1000000 in
theorem to_o (m : Ms) (v : Value) (hb : m.bo.size ≤ maxLen) (hn : m.ho.length ≤ maxLen) (w : World) (hh : HopsIn w v m.ho) :
    Calls Tryd.prog 9 #[msgV m v] w fun e w' => ∃ v' n, e = .returned (msgV { m with ho := m.ho.take 20, bo := cut33 m.bo } v') ∧ w'.ownsRow (w.heap.size + 3) 9 1 v' n ((m.ho.take 20).map Value.string) ∧ Below w.heap.size w w' := by
  unfold maxLen at hb hn
  obtain ⟨i0, hi, hz0, hz1, hz2⟩ := info_parts infoString
  have HH := Lib.hid hh
  obtain ⟨a0, len, cap, hv⟩ : ∃ a n c, v = .slice a n c := by
    rcases hh with ⟨_, a, c, h, _⟩ | ⟨b, off, c, h, _⟩
    · exact ⟨_, _, _, h⟩
    · exact ⟨_, _, _, h⟩
  subst hv
  obtain rfl : len = m.ho.length := by
    rcases hh with ⟨h, a, c, e, _⟩ | ⟨b, off, c, e, _⟩
    · cases e; rw [h]; rfl
    · cases e; rfl
  clear hh
  go_enter Tryd.func9, Tryd.ntmps9
  unfold msgV
  go_wp2_with fail
  have c1 : (min (m.bo.size : Int) 33000).toNat = min m.bo.size 33000 := by omega
  have c2 : (0 : Int) ≤ min (m.bo.size : Int) 33000 := by omega
  have c3 : min (m.bo.size : Int) 33000 ≤ m.bo.size := by omega
  have c4 : (0 : Int) ≤ (m.bo.size : Int) := by omega
  obtain ⟨wq, hwq⟩ : ∃ wq, wq = (w.alloc (.cells (msgCells m (.slice a0 m.ho.length cap)) 26)).alloc (.cells (msgCells ⟨⟨#[]⟩, ⟨#[]⟩, ⟨#[]⟩, ⟨#[]⟩, 0, 0, ⟨#[]⟩, [], ⟨#[]⟩⟩ (.slice none 0 0)) 29) := ⟨_, rfl⟩
  have hM : MsgAt wq w.heap.size m (.slice a0 m.ho.length cap) := by
    rw [hwq]
    exact (MsgAt.new w m _ _).below ((Below.refl _ _).alloc (Nat.le_refl _) _) (by rw [size_alloc]; omega)
  have hbq : Below w.heap.size w wq := by rw [hwq]; exact ((Below.refl _ _).alloc (Nat.le_refl _) _).alloc (by rw [size_alloc]; omega) _
  have hsq : wq.heap.size = w.heap.size + 2 := by rw [hwq, size_alloc, size_alloc]
  have hwq2 := hwq
  unfold msgCells at hwq2
  rw [← hwq2]
  clear hwq2
  have HMq := Lib.hid hM
  have hz0b : wq.heap[w.heap.size + 1]? = some (.cells (msgCells ⟨⟨#[]⟩, ⟨#[]⟩, ⟨#[]⟩, ⟨#[]⟩, 0, 0, ⟨#[]⟩, [], ⟨#[]⟩⟩ (.slice none 0 0)) 29 (0, 0)) := by
    have h := heap_alloc_new (w.alloc (.cells (msgCells m (.slice a0 m.ho.length cap)) 26)) (.cells (msgCells ⟨⟨#[]⟩, ⟨#[]⟩, ⟨#[]⟩, ⟨#[]⟩, 0, 0, ⟨#[]⟩, [], ⟨#[]⟩⟩ (.slice none 0 0)) 29)
    rw [size_alloc] at h
    rw [hwq]
    exact h
  have HZ := Lib.hid hz0b
  clear hz0b
  obtain ⟨h0, h1, h2, h3, h4, h5, h6, h7, h8⟩ := hM
  clear hwq
  go_region_held3 (fun w' => w'.cell? ⟨w.heap.size, 0, none⟩ = some (.string m.fu) ∧ w'.cell? ⟨w.heap.size, 1, none⟩ = some (.string m.fs) ∧ w'.cell? ⟨w.heap.size, 2, none⟩ = some (.string m.tu) ∧ w'.cell? ⟨w.heap.size, 3, none⟩ = some (.string m.ts) ∧ w'.cell? ⟨w.heap.size, 4, none⟩ = some (.int .i64 m.nu) ∧ w'.cell? ⟨w.heap.size, 5, none⟩ = some (.int .i64 m.da) ∧ w'.cell? ⟨w.heap.size, 6, none⟩ = some (.string m.su) ∧ w'.cell? ⟨w.heap.size, 8, none⟩ = some (.string m.bo)) (go_keep) ((fail))
  all_goals
    obtain ⟨ws, hws⟩ : ∃ ws, ws = (wq.alloc (.cells (msgCells { m with bo := cut33 m.bo } (.slice none 0 0)) 29)).drew := ⟨_, rfl⟩
    have hst : ToRel m w ws ws 0 := by
      refine ⟨.slice none 0 0, ?_, World.ownsRow_nil _ _ _ _, But.refl _ _ _⟩
      rw [hws]
      show (wq.alloc _).heap[w.heap.size + 2]? = _
      rw [← hsq]
      exact heap_alloc_new _ _
    have hbs : Below w.heap.size w ws := by
      rw [hws]
      exact hbq.trans ((((Below.refl _ _).alloc (Nat.le_refl _) _).drew).mono (by omega))
    have hss : ws.heap.size = w.heap.size + 3 := by rw [hws]; show (wq.alloc _).heap.size = _; rw [size_alloc]; omega
    have HMs := Lib.hid (show MsgAt ws w.heap.size m (.slice a0 m.ho.length cap) by rw [hws]; exact HMq.out.below (((Below.refl _ _).alloc (Nat.le_refl _) _).drew) (by omega))
    have HST := Lib.hid hst
    have HZs := Lib.hid (show ws.heap[w.heap.size + 1]? = some (.cells (msgCells ⟨⟨#[]⟩, ⟨#[]⟩, ⟨#[]⟩, ⟨#[]⟩, 0, 0, ⟨#[]⟩, [], ⟨#[]⟩⟩ (.slice none 0 0)) 29 (0, 0)) by
      rw [hws]
      show (wq.alloc _).heap[w.heap.size + 1]? = _
      rw [Below.heap_alloc _ _ _ (by omega)]
      exact HZ.out)
    unfold msgCells cut33 at hws
    rw [← hws]
    clear hws h0 h1 h2 h3 h4 h5 h6 h7 h8 hst HMq hbq hsq
    go_wp2_with fail
    go_loopw [4] (fun i wr => ∃ k : Nat, k ≤ m.ho.length ∧ k ≤ 20 ∧ i = .int .i64 k ∧ ToRel m w ws wr k) (fun i _ => 21 - (intOf i).toNat)
    case atStart => exact ⟨0, Nat.zero_le _, Nat.zero_le _, rfl, HST.out⟩
    case round =>
      obtain ⟨k, hk1, hk2, rfl, hrel⟩ := hrel
      obtain ⟨vk, hblk, hown, hbut⟩ := hrel
      have HMr := HMs.out.but hbut (by omega) (by omega)
      have HMx := MsgAt.of_block hblk
      obtain ⟨_, _, _, _, _, _, _, g7, g8⟩ := HMr
      obtain ⟨_, _, _, _, _, _, _, x7, x8⟩ := HMx
      by_cases hlt : k < m.ho.length
      · by_cases h20 : k < 20
        · have i1 : (k : Int) < m.ho.length := by omega
          have i2 : (k : Int) < 20 := by omega
          have i3 : (0 : Int) ≤ (k : Int) := by omega
          rcases HH.out with ⟨hn0, _⟩ | ⟨b, off, c9, he, hbw, hlc, hcell⟩
          · rw [hn0] at hlt; exact absurd hlt (Nat.not_lt_zero _)
          · cases he
            have hc0 : wr.cell? ⟨b, off + k, none⟩ = some (.string m.ho[k]) := by
              rw [hbut.cell (p := ⟨b, off + k, none⟩) (by simp; omega) (by simp; omega), hbs.cell (p := ⟨b, off + k, none⟩) hbw]
              exact hcell k hlt
            have hsz : w.heap.size + 3 ≤ wr.heap.size := by have := hbut.size; omega
            have hlt9 := hown.lt
            have ag1 : vk.ownBlock ≠ some b := fun e => by have := hlt9 b e; omega
            have ag2 : vk.ownBlock ≠ some w.heap.size := fun e => by have := hlt9 _ e; omega
            have ag3 : vk.ownBlock ≠ some (w.heap.size + 2) := fun e => by have := hlt9 _ e; omega
            have hkl : k ≤ m.ho.length := hk1
            go_wp2_with fail
            have HB := Lib.hid hbut
            clear HH HMs HST hbut
            have p7 : (wr.alloc (.cells #[.string m.ho[k]] 9)).drew.cell? ⟨w.heap.size + 2, 7, none⟩ = some vk := (((Below.refl _ wr).alloc (Nat.le_refl _) _).drew.cell (p := ⟨w.heap.size + 2, 7, none⟩) (by simp; omega)).trans x7
            have p8 : (wr.alloc (.cells #[.string m.ho[k]] 9)).drew.cell? ⟨w.heap.size, 7, none⟩ = _ := (((Below.refl _ wr).alloc (Nat.le_refl _) _).drew.cell (p := ⟨w.heap.size, 7, none⟩) (by simp; omega)).trans g7
            go_region_law ((refine step_append_lies _ (by rfl) _ _ _ (by rfl) (w.heap.size + 3) 9 i0 _ 1 16 Tryd.underlying24 hi hz0 hz1 hz2 rfl (by omega) vk _ _ (by rfl) ((hown.alloc _).drew) ⟨wr.heap.size, 0, none⟩ 1 1 [_] (by rfl) (by rfl) (World.news_of_block (cs := #[_]) (t := 9) (fr := (0, 0)) (heap_alloc_new wr _)) (by simp [Value.oneCell']) (by omega) (by unfold maxLen; omega) (by omega) (by simp; omega) (wr.heap.size + 1) (by simp) ?_; intro gg cap w1 hown1 hgrow hat hlt2; have hb9 := hgrow.block (w.heap.size + 2) (by simp; omega) (fun e => ag3 e.symm); have hb8 : w1.heap[w.heap.size + 2]? = some _ := hb9.trans ((Below.heap_alloc _ _ _ (by omega)).trans hblk); have hx7 := (MsgAt.of_block hb8).2.2.2.2.2.2.2.1; have hf7 := frozen_of hb8 7))
            all_goals
              go_wp2_with fail
              go_roundw
              case rel =>
                refine ⟨k + 1, by omega, by omega, by go_num, _, heap_setCell_msg hb8, ?_, ((((HB.out.alloc hsz _).drew).grown hgrow (by simp; omega) (fun k hk => (hlt9 k hk).1)).setCellAt _ _)⟩
                rw [List.take_succ_eq_append_getElem hlt, List.map_append]
                exact ownsRow_setCell_below hown1 (a := ⟨w.heap.size + 2, 7, none⟩) (by simp) _
              case measure => simp [intOf]; omega
        · have i1 : (k : Int) < m.ho.length := by omega
          have i2 : decide ((k : Int) < 20) = false := by simp; omega
          obtain ⟨av, lv, cv, rfl⟩ := owns_slice hown
          have hzr := (hbut.block (w.heap.size + 1) (by omega) (by omega)).trans HZs.out
          have z0 := MsgAt.of_block hzr
          have f0 := frozen_of hzr 0
          have f1 := frozen_of hzr 1
          have f2 := frozen_of hzr 2
          have f3 := frozen_of hzr 3
          have f4 := frozen_of hzr 4
          have f5 := frozen_of hzr 5
          have f6 := frozen_of hzr 6
          have f7 := frozen_of hzr 7
          have f8 := frozen_of hzr 8
          obtain ⟨y0, y1, y2, y3, y4, y5, y6, y7, y8⟩ := z0
          have hmx := MsgAt.of_block hblk
          obtain ⟨x0, x1, x2, x3, x4, x5, x6, _, _⟩ := hmx
          have HZR := Lib.hid hzr
          have HB := Lib.hid hbut
          clear hzr hblk
          go_wp2_with fail
          refine bodyPost_ret (results_cell_row rfl _ _ (w.heap.size + 1) _ _ _ _ rfl (set9_block HZR.out _ _ _ _ _ _ _ _ _) Tryd.underlying29 rfl (by kernel_rfl)) rfl ?_
          refine ⟨_, rfl, ⟨k, set9_owns (B := w.heap.size + 3) (b := w.heap.size + 1) (n := k) ?_ (by omega) _ _ _ _ _ _ _ _ _⟩, set9_below (B := w.heap.size) (b := w.heap.size + 1) ?_ (by omega) _ _ _ _ _ _ _ _ _⟩
          · rw [show (20 : Nat) = k by omega, ← List.map_take]; exact hown
          · exact hbs.trans (HB.out.to_below' (by omega) (by omega))
      · have i1 : decide ((k : Int) < m.ho.length) = false := by simp; omega
        obtain ⟨av, lv, cv, rfl⟩ := owns_slice hown
        have hzr := (hbut.block (w.heap.size + 1) (by omega) (by omega)).trans HZs.out
        have z0 := MsgAt.of_block hzr
        have f0 := frozen_of hzr 0
        have f1 := frozen_of hzr 1
        have f2 := frozen_of hzr 2
        have f3 := frozen_of hzr 3
        have f4 := frozen_of hzr 4
        have f5 := frozen_of hzr 5
        have f6 := frozen_of hzr 6
        have f7 := frozen_of hzr 7
        have f8 := frozen_of hzr 8
        obtain ⟨y0, y1, y2, y3, y4, y5, y6, y7, y8⟩ := z0
        have hmx := MsgAt.of_block hblk
        obtain ⟨x0, x1, x2, x3, x4, x5, x6, _, _⟩ := hmx
        have HZR := Lib.hid hzr
        have HB := Lib.hid hbut
        clear hzr hblk
        go_wp2_with fail
        refine bodyPost_ret (results_cell_row rfl _ _ (w.heap.size + 1) _ _ _ _ rfl (set9_block HZR.out _ _ _ _ _ _ _ _ _) Tryd.underlying29 rfl (by kernel_rfl)) rfl ?_
        refine ⟨_, rfl, ⟨k, set9_owns (B := w.heap.size + 3) (b := w.heap.size + 1) (n := k) ?_ (by omega) _ _ _ _ _ _ _ _ _⟩, set9_below (B := w.heap.size) (b := w.heap.size + 1) ?_ (by omega) _ _ _ _ _ _ _ _ _⟩
        · rw [← List.map_take, List.take_of_length_le (by omega)]; rw [List.take_of_length_le (by omega)] at hown; exact hown
        · exact hbs.trans (HB.out.to_below' (by omega) (by omega))
theorem toM_o (m : Ms) (v : Value) (hm : m.Big) (w : World) (hh : HopsIn w v m.ho) : Calls Tryd.prog 9 #[msgV m v] w fun e w' => ∃ a c, e = .returned (msgV (toM m) (.slice a (toM m).ho.length c)) ∧ HopsIn w' (.slice a (toM m).ho.length c) (toM m).ho ∧ (∀ g, (Value.slice a (toM m).ho.length c).ownBlock = some g → w.heap.size ≤ g ∧ g < w'.heap.size) ∧ Below w.heap.size w w' :=
  (to_o m v hm.bo hm.hn w hh).mono fun _ _ ⟨v', n, he, h1, h2⟩ => by
    have h3 := HopsIn.of_owns h1
    have h4 := h1.lt
    obtain ⟨a, c, rfl⟩ := h3.shape
    exact ⟨a, c, he, h3, fun g hg => ⟨by have := (h4 g hg).1; omega, (h4 g hg).2⟩, h2⟩
end Go.Proofs.YtkiheanpamplpaaDoor

namespace Go.Proofs.YtkiheanpamplpaaDoor
open Go.RowKit Go.Bul Go.Maps
def ptrV : Option Nat → Value
  | none => undef
  | some b => .pointer (some ⟨b, 0, none⟩)
def slV (n : Nat) (y : Option Addr × Nat) : Value := .slice y.1 n y.2
def resV (m : Ms) : Option (Option Addr × Nat) → Value
  | none => undef
  | some y => .agg #[.string m.fu, .string m.fs, .string m.tu, .string m.ts, .int .i64 m.nu, .int .i64 m.da, .string m.su, slV m.ho.length y, .string m.bo]
/-- a message's block: there, of its own; once stored into it holds the message -/
def BlkI (X : Ms) (w0 W : World) (st : Bool) (r : Option (Option Addr × Nat)) (b : Nat) : Prop :=
  w0.heap.size ≤ b ∧ b < W.heap.size ∧ ∃ mm a n c, W.heap[b]? = some (.cells (msgCells mm (.slice a n c)) 29 (0, 0)) ∧ (st = true → ∃ y, r = some y ∧ mm = X ∧ Value.slice a n c = slV X.ho.length y)
def HopI (X : Ms) (W : World) (p q : Option Nat) (y : Option Addr × Nat) : Prop :=
  HopsIn W (slV X.ho.length y) X.ho ∧ ∀ g, (slV X.ho.length y).ownBlock = some g → g < W.heap.size ∧ p ≠ some g ∧ q ≠ some g
structure CkI (X Y : Ms) (w0 W : World) (b6 b7 : Bool) (p q : Option Nat) (r s : Option (Option Addr × Nat)) : Prop where
  below : Below w0.heap.size w0 W
  hp : ∀ b, p = some b → BlkI X w0 W b6 r b
  hq : ∀ b, q = some b → BlkI Y w0 W b7 s b
  hpq : ∀ b, p = some b → q ≠ some b
  hr : ∀ y, r = some y → HopI X W p q y
  hs : ∀ y, s = some y → HopI Y W p q y
theorem BlkI.below {X : Ms} {w0 W W' : World} {st : Bool} {r : Option (Option Addr × Nat)} {b : Nat} (h : BlkI X w0 W st r b) (hb : Below W.heap.size W W') : BlkI X w0 W' st r b := by
  obtain ⟨h1, h2, mm, a, n, c, h3, h4⟩ := h
  exact ⟨h1, Nat.lt_of_lt_of_le h2 hb.size, mm, a, n, c, (hb.block b h2).trans h3, h4⟩
theorem BlkI.res {X : Ms} {w0 W : World} {b : Nat} (h : BlkI X w0 W false none b) (y : Option Addr × Nat) : BlkI X w0 W false (some y) b := by
  obtain ⟨h1, h2, mm, a, n, c, h3, h4⟩ := h
  exact ⟨h1, h2, mm, a, n, c, h3, fun e => by cases e⟩
theorem HopI.below {X : Ms} {W W' : World} {p q : Option Nat} {y : Option Addr × Nat} (h : HopI X W p q y) (hb : Below W.heap.size W W') : HopI X W' p q y :=
  ⟨h.1.below hb, fun g hg => ⟨Nat.lt_of_lt_of_le (h.2 g hg).1 hb.size, (h.2 g hg).2⟩⟩
theorem CkI.go {X Y : Ms} {w0 W W' : World} {b6 b7 : Bool} {p q : Option Nat} {r s : Option (Option Addr × Nat)} (h : CkI X Y w0 W b6 b7 p q r s) (hb : Below W.heap.size W W') : CkI X Y w0 W' b6 b7 p q r s :=
  ⟨h.below.trans (hb.mono h.below.size), fun b e => (h.hp b e).below hb, fun b e => (h.hq b e).below hb, h.hpq, fun y e => (h.hr y e).below hb, fun y e => (h.hs y e).below hb⟩
/-- the first call has returned -/
theorem CkI.callX {X Y : Ms} {w0 W W' : World} {b7 : Bool} {p q : Option Nat} {s : Option (Option Addr × Nat)} (h : CkI X Y w0 W false b7 p q none s) (hb : Below W.heap.size W W') {a : Option Addr} {c : Nat}
    (hh : HopsIn W' (.slice a X.ho.length c) X.ho) (hg : ∀ g, (Value.slice a X.ho.length c).ownBlock = some g → W.heap.size ≤ g ∧ g < W'.heap.size) : CkI X Y w0 W' false b7 p q (some (a, c)) s :=
  have h' := h.go hb
  ⟨h'.below, fun b e => (h'.hp b e).res _, h'.hq, h'.hpq, fun y e => by
    cases e
    exact ⟨hh, fun g e => ⟨(hg g e).2, fun ep => by have := (h.hp g ep).2.1; have := (hg g e).1; omega, fun ep => by have := (h.hq g ep).2.1; have := (hg g e).1; omega⟩⟩, h'.hs⟩
theorem CkI.callY {X Y : Ms} {w0 W W' : World} {b6 : Bool} {p q : Option Nat} {r : Option (Option Addr × Nat)} (h : CkI X Y w0 W b6 false p q r none) (hb : Below W.heap.size W W') {a : Option Addr} {c : Nat}
    (hh : HopsIn W' (.slice a Y.ho.length c) Y.ho) (hg : ∀ g, (Value.slice a Y.ho.length c).ownBlock = some g → W.heap.size ≤ g ∧ g < W'.heap.size) : CkI X Y w0 W' b6 false p q r (some (a, c)) :=
  have h' := h.go hb
  ⟨h'.below, h'.hp, fun b e => (h'.hq b e).res _, h'.hpq, h'.hr, fun y e => by
    cases e
    exact ⟨hh, fun g e => ⟨(hg g e).2, fun ep => by have := (h.hp g ep).2.1; have := (hg g e).1; omega, fun ep => by have := (h.hq g ep).2.1; have := (hg g e).1; omega⟩⟩⟩
theorem CkI.allocX {X Y : Ms} {w0 W : World} {b7 : Bool} {q : Option Nat} {r s : Option (Option Addr × Nat)} (h : CkI X Y w0 W false b7 none q r s) : CkI X Y w0 (W.alloc (.cells (msgCells noMs (.slice none 0 0)) 29)) false b7 (some W.heap.size) q r s :=
  have h' := h.go ((Below.refl _ _).alloc (Nat.le_refl _) (.cells (msgCells noMs (.slice none 0 0)) 29))
  ⟨h'.below, fun b e => by
    cases e
    exact ⟨h.below.size, by rw [size_alloc]; omega, noMs, none, 0, 0, heap_alloc_new _ _, fun e => by cases e⟩, h'.hq, fun b e e2 => by
    cases e
    exact absurd (h.hq _ e2).2.1 (Nat.lt_irrefl _), fun y e => ⟨(h'.hr y e).1, fun g eg => ⟨((h'.hr y e).2 g eg).1, fun e3 => by cases e3; exact absurd ((h.hr y e).2 _ eg).1 (Nat.lt_irrefl _), ((h'.hr y e).2 g eg).2.2⟩⟩,
    fun y e => ⟨(h'.hs y e).1, fun g eg => ⟨((h'.hs y e).2 g eg).1, fun e3 => by cases e3; exact absurd ((h.hs y e).2 _ eg).1 (Nat.lt_irrefl _), ((h'.hs y e).2 g eg).2.2⟩⟩⟩
theorem CkI.allocY {X Y : Ms} {w0 W : World} {b6 : Bool} {p : Option Nat} {r s : Option (Option Addr × Nat)} (h : CkI X Y w0 W b6 false p none r s) : CkI X Y w0 (W.alloc (.cells (msgCells noMs (.slice none 0 0)) 29)) b6 false p (some W.heap.size) r s :=
  have h' := h.go ((Below.refl _ _).alloc (Nat.le_refl _) (.cells (msgCells noMs (.slice none 0 0)) 29))
  ⟨h'.below, h'.hp, fun b e => by
    cases e
    exact ⟨h.below.size, by rw [size_alloc]; omega, noMs, none, 0, 0, heap_alloc_new _ _, fun e => by cases e⟩, fun b e e2 => by
    cases e2
    exact absurd (h.hp _ e).2.1 (Nat.lt_irrefl _), fun y e => ⟨(h'.hr y e).1, fun g eg => ⟨((h'.hr y e).2 g eg).1, ((h'.hr y e).2 g eg).2.1, fun e3 => by cases e3; exact absurd ((h.hr y e).2 _ eg).1 (Nat.lt_irrefl _)⟩⟩,
    fun y e => ⟨(h'.hs y e).1, fun g eg => ⟨((h'.hs y e).2 g eg).1, ((h'.hs y e).2 g eg).2.1, fun e3 => by cases e3; exact absurd ((h.hs y e).2 _ eg).1 (Nat.lt_irrefl _)⟩⟩⟩
theorem set9_but (w : World) (b : Nat) (a0 a1 a2 a3 a4 a5 a6 a7 a8 : Value) : But2 b b w (set9 w b a0 a1 a2 a3 a4 a5 a6 a7 a8) := set9_but2 (But2.refl _ _ _) rfl _ _ _ _ _ _ _ _ _
theorem HopI.but {X : Ms} {W W' : World} {p q : Option Nat} {y : Option Addr × Nat} {b : Nat} (h : HopI X W p q y) (hb : But2 b b W W') (hne : (slV X.ho.length y).ownBlock ≠ some b) : HopI X W' p q y :=
  ⟨h.1.but2 hb hne hne, fun g hg => ⟨Nat.lt_of_lt_of_le (h.2 g hg).1 hb.size, (h.2 g hg).2⟩⟩
theorem BlkI.but {X : Ms} {w0 W W' : World} {st : Bool} {r : Option (Option Addr × Nat)} {b b' : Nat} (h : BlkI X w0 W st r b) (hb : But2 b' b' W W') (hne : b ≠ b') : BlkI X w0 W' st r b := by
  obtain ⟨h1, h2, mm, a, n, c, h3, h4⟩ := h
  exact ⟨h1, Nat.lt_of_lt_of_le h2 hb.size, mm, a, n, c, (hb.block b h2 hne hne).trans h3, h4⟩
theorem CkI.storeX {X Y : Ms} {w0 W : World} {b6 b7 : Bool} {b : Nat} {q : Option Nat} {y : Option Addr × Nat} {s : Option (Option Addr × Nat)} (h : CkI X Y w0 W b6 b7 (some b) q (some y) s) :
    CkI X Y w0 (set9 W b (.string X.fu) (.string X.fs) (.string X.tu) (.string X.ts) (.int .i64 X.nu) (.int .i64 X.da) (.string X.su) (slV X.ho.length y) (.string X.bo)) true b7 (some b) q (some y) s := by
  obtain ⟨h1, h2, mm, a, n, c, h3, h4⟩ := h.hp b rfl
  have hb := set9_but W b (.string X.fu) (.string X.fs) (.string X.tu) (.string X.ts) (.int .i64 X.nu) (.int .i64 X.da) (.string X.su) (slV X.ho.length y) (.string X.bo)
  exact ⟨h.below.trans (hb.to_below h.below.size h1 h1), fun b' e => by
    cases e
    exact ⟨h1, Nat.lt_of_lt_of_le h2 hb.size, X, y.1, X.ho.length, y.2, set9_block h3 _ _ _ _ _ _ _ _ _, fun _ => ⟨y, rfl, rfl, rfl⟩⟩,
    fun b' e => (h.hq b' e).but hb (fun e2 => h.hpq b rfl (by rw [← e2]; exact e)), h.hpq, fun y' e => (h.hr y' e).but hb (fun e2 => ((h.hr y' e).2 b e2).2.1 rfl), fun y' e => (h.hs y' e).but hb (fun e2 => ((h.hs y' e).2 b e2).2.1 rfl)⟩
theorem CkI.storeY {X Y : Ms} {w0 W : World} {b6 b7 : Bool} {b : Nat} {p : Option Nat} {y : Option Addr × Nat} {r : Option (Option Addr × Nat)} (h : CkI X Y w0 W b6 b7 p (some b) r (some y)) :
    CkI X Y w0 (set9 W b (.string Y.fu) (.string Y.fs) (.string Y.tu) (.string Y.ts) (.int .i64 Y.nu) (.int .i64 Y.da) (.string Y.su) (slV Y.ho.length y) (.string Y.bo)) b6 true p (some b) r (some y) := by
  obtain ⟨h1, h2, mm, a, n, c, h3, h4⟩ := h.hq b rfl
  have hb := set9_but W b (.string Y.fu) (.string Y.fs) (.string Y.tu) (.string Y.ts) (.int .i64 Y.nu) (.int .i64 Y.da) (.string Y.su) (slV Y.ho.length y) (.string Y.bo)
  exact ⟨h.below.trans (hb.to_below h.below.size h1 h1), fun b' e => (h.hp b' e).but hb (fun e2 => h.hpq b (by rw [← e2]; exact e) rfl), fun b' e => by
    cases e
    exact ⟨h1, Nat.lt_of_lt_of_le h2 hb.size, Y, y.1, Y.ho.length, y.2, set9_block h3 _ _ _ _ _ _ _ _ _, fun _ => ⟨y, rfl, rfl, rfl⟩⟩,
    h.hpq, fun y' e => (h.hr y' e).but hb (fun e2 => ((h.hr y' e).2 b e2).2.2 rfl), fun y' e => (h.hs y' e).but hb (fun e2 => ((h.hs y' e).2 b e2).2.2 rfl)⟩
end Go.Proofs.YtkiheanpamplpaaDoor

namespace Go.Proofs.YtkiheanpamplpaaDoor
open Go.RowKit Go.Bul Go.Maps
set_option maxRecDepth 100000 in
set_option maxHeartbeats 8000000 in
theorem lawChecks_c (m : Ms) (v : Value) (m' : Ms) (v' : Value) (hm : m.Big) (hm' : m'.Big) (w : World) (hg : Gl w) (hh : HopsIn w v m.ho) (hh' : HopsIn w v' m'.ho) :
    Calls Tryd.prog 4 #[msgV m v, msgV m' v'] w fun e w' => e = .returned (.bool true) ∧ Below w.heap.size w w' := by
  have HG := Lib.hid hg
  have HH := Lib.hid hh
  have HH' := Lib.hid hh'
  have HT := Lib.hid (toM_ok hm)
  have HT' := Lib.hid (toM_ok hm')
  have HMB := Lib.hid hm
  have HMB' := Lib.hid hm'
  clear hg hh hh' hm hm'
  have hnX := HT.out.hn
  have hnY := HT'.out.hn
  go_enter Tryd.func4, Tryd.ntmps4
  unfold msgV
  go_wp2_with fail
  obtain ⟨w0, hw0⟩ : ∃ w0, w0 = (w.alloc (.cells (msgCells m v) 26)).alloc (.cells (msgCells m' v') 26) := ⟨_, rfl⟩
  have hs0 : w0.heap.size = w.heap.size + 2 := by rw [hw0, size_alloc, size_alloc]
  have HB0 := Lib.hid (show Below w.heap.size w w0 by rw [hw0]; exact two_allocs _ _ _)
  have HA0 := Lib.hid (show MsgAt w0 w.heap.size m v by rw [hw0]; exact (MsgAt.new w m v 26).below ((Below.refl _ _).alloc (Nat.le_refl _) _) (by rw [size_alloc]; omega))
  have HA1 := Lib.hid (show MsgAt w0 (w.heap.size + 1) m' v' by rw [hw0, ← size_alloc w (.cells (msgCells m v) 26)]; exact MsgAt.new _ m' v' 26)
  unfold msgCells at hw0
  rw [← hw0]
  clear hw0
  refine wp_region_inv (fun l a W => ∃ (b0 b1 b2 b3 b4 b5 b6 b7 : Bool) (x7 x9 : Value) (p q : Option Nat) (r s : Option (Option Addr × Nat)), l = #[b0, b1, b2, b3, b4, b5, b6, b7] ∧
    a = ⟨#[.agg #[.string m.fu, .string m.fs, .string m.tu, .string m.ts, .int .i64 m.nu, .int .i64 m.da, .string m.su, v, .string m.bo], .agg #[.string m'.fu, .string m'.fs, .string m'.tu, .string m'.ts, .int .i64 m'.nu, .int .i64 m'.da, .string m'.su, v', .string m'.bo],
      .pointer (some ⟨w.heap.size, 0, none⟩), .pointer (some ⟨w.heap.size + 1, 0, none⟩), .bool false, ptrV p, ptrV q, x7, resV (toM m) r, x9, resV (toM m') s, undef, undef, undef, undef, undef, undef, undef, undef, undef, undef, undef, undef, undef, undef, undef, undef, undef, undef, undef, undef, undef, undef, undef, undef, undef, undef], []⟩ ∧
    (b0 = true → x7 = msgV m v) ∧ (b2 = true → x9 = msgV m' v') ∧ p.isSome = b4 ∧ q.isSome = b5 ∧ r.isSome = b1 ∧ s.isSome = b3 ∧ (b6 = true → b1 = true) ∧ (b7 = true → b3 = true) ∧ (b6 = true → b4 = true) ∧ (b7 = true → b5 = true) ∧ CkI (toM m) (toM m') w0 W b6 b7 p q r s) (by kernel_rfl) ?start ?step ?done
  case start =>
    exact ⟨false, false, false, false, false, false, false, false, undef, undef, none, none, none, none, rfl, rfl, (fun e => by cases e), (fun e => by cases e), rfl, rfl, rfl, rfl, (fun e => by cases e), (fun e => by cases e), (fun e => by cases e), (fun e => by cases e),
      ⟨(Below.refl _ _).drew, (fun b e => by cases e), (fun b e => by cases e), (fun b e => by cases e), (fun y e => by cases e), (fun y e => by cases e)⟩⟩
  case step =>
    rintro i o ho listed a W ⟨b0, b1, b2, b3, b4, b5, b6, b7, x7, x9, p, q, r, s, rfl, rfl, hx7, hx9, hp, hq, hr, hs, h6, h7, h64, h75, I⟩ hun hdeps
    have H64 := Lib.hid h64
    have H75 := Lib.hid h75
    have HI := Lib.hid I
    have HX7 := Lib.hid hx7
    have HX9 := Lib.hid hx9
    obtain ⟨g0, g1, g2, g3, g4, g5, g6, g7, g8⟩ := HA0.out.below I.below (by omega)
    obtain ⟨k0, k1, k2, k3, k4, k5, k6, k7, k8⟩ := HA1.out.below I.below (by omega)
    rcases i with _ | _ | _ | _ | _ | _ | _ | _ | i
    · -- load
      refine wpOp_step rfl (fun K hK => ?_)
      go_simp
      refine hK _ _ ?_
      exact ⟨true, b1, b2, b3, b4, b5, b6, b7, _, x9, p, q, r, s, rfl, rfl, fun _ => rfl, HX9.out, hp, hq, hr, hs, h6, h7, H64.out, H75.out, HI.out⟩
    · -- the first call
      obtain rfl := Option.some.inj ho
      obtain rfl : b0 = true := hdeps ⟨0, .data⟩ (by simp) rfl
      obtain rfl : b1 = false := hun
      obtain rfl : r = none := by cases r with | none => rfl | some y => cases hr
      obtain rfl : b6 = false := by cases b6 with | false => rfl | true => exact absurd (h6 rfl) (by decide)
      obtain rfl := hx7 rfl
      refine wpOp_step rfl (fun K hK => ?_)
      have HK := Lib.hid hK
      clear hK
      unfold msgV
      go_simp
      go_wp2_with (go_at_call 9; refine (toM_o m v HMB.out _ (HH.out.below (HB0.out.trans (HI.out.below.mono HB0.out.size)))).mono ?_; rintro e W' ⟨a, c, rfl, hh, hgg, hb⟩; have HH1 := Lib.hid hh; have HGG := Lib.hid hgg; have HB1 := Lib.hid hb; clear hh hgg hb; simp only [msgV])
      refine HK.out _ _ ?_
      exact ⟨true, true, b2, b3, b4, b5, false, b7, _, x9, p, q, some (a, c), s, rfl, rfl, fun _ => rfl, HX9.out, hp, hq, rfl, hs, (fun e => by cases e), h7, (fun e => by cases e), H75.out, HI.out.callX HB1.out HH1.out HGG.out⟩
    · refine wpOp_step rfl (fun K hK => ?_)
      go_simp
      refine hK _ _ ?_
      exact ⟨b0, b1, true, b3, b4, b5, b6, b7, x7, _, p, q, r, s, rfl, rfl, HX7.out, fun _ => rfl, hp, hq, hr, hs, h6, h7, H64.out, H75.out, HI.out⟩
    · -- the second call
      obtain rfl := Option.some.inj ho
      obtain rfl : b2 = true := hdeps ⟨2, .data⟩ (by simp) rfl
      obtain rfl : b3 = false := hun
      obtain rfl : s = none := by cases s with | none => rfl | some y => cases hs
      obtain rfl : b7 = false := by cases b7 with | false => rfl | true => exact absurd (h7 rfl) (by decide)
      obtain rfl := hx9 rfl
      refine wpOp_step rfl (fun K hK => ?_)
      have HK := Lib.hid hK
      clear hK
      unfold msgV
      go_simp
      go_wp2_with (go_at_call 9; refine (toM_o m' v' HMB'.out _ (HH'.out.below (HB0.out.trans (HI.out.below.mono HB0.out.size)))).mono ?_; rintro e W' ⟨a, c, rfl, hh, hgg, hb⟩; have HH1 := Lib.hid hh; have HGG := Lib.hid hgg; have HB1 := Lib.hid hb; clear hh hgg hb; simp only [msgV])
      refine HK.out _ _ ?_
      exact ⟨b0, b1, true, true, b4, b5, b6, false, x7, _, p, q, r, some (a, c), rfl, rfl, HX7.out, fun _ => rfl, hp, hq, hr, rfl, h6, (fun e => by cases e), H64.out, (fun e => by cases e), HI.out.callY HB1.out HH1.out HGG.out⟩
    · -- the first variable
      obtain rfl : b4 = false := hun
      obtain rfl : p = none := by cases p with | none => rfl | some y => cases hp
      obtain rfl : b6 = false := by cases b6 with | false => rfl | true => exact absurd (H64.out rfl) (by decide)
      refine wpOp_step rfl (fun K hK => ?_)
      go_simp
      refine hK _ _ ?_
      exact ⟨b0, b1, b2, b3, true, b5, false, b7, x7, x9, some W.heap.size, q, r, s, rfl, rfl, HX7.out, HX9.out, rfl, hq, hr, hs, h6, h7, (fun e => by cases e), H75.out, HI.out.allocX⟩
    · obtain rfl : b5 = false := hun
      obtain rfl : q = none := by cases q with | none => rfl | some y => cases hq
      obtain rfl : b7 = false := by cases b7 with | false => rfl | true => exact absurd (H75.out rfl) (by decide)
      refine wpOp_step rfl (fun K hK => ?_)
      go_simp
      refine hK _ _ ?_
      exact ⟨b0, b1, b2, b3, b4, true, b6, false, x7, x9, p, some W.heap.size, r, s, rfl, rfl, HX7.out, HX9.out, hp, rfl, hr, hs, h6, h7, H64.out, (fun e => by cases e), HI.out.allocY⟩
    · -- the first store
      obtain rfl := Option.some.inj ho
      obtain rfl : b4 = true := hdeps ⟨4, .data⟩ (by simp) rfl
      obtain rfl : b1 = true := hdeps ⟨1, .data⟩ (by simp) rfl
      obtain ⟨b, rfl⟩ : ∃ b, p = some b := by cases p with | none => cases hp | some y => exact ⟨_, rfl⟩
      obtain ⟨⟨ya, yc⟩, rfl⟩ : ∃ y, r = some y := by cases r with | none => cases hr | some y => exact ⟨_, rfl⟩
      obtain ⟨_, _, mm, za, zn, zc, hz, _⟩ := I.hp b rfl
      refine wpOp_step rfl (fun K hK => ?_)
      have HK := Lib.hid hK
      clear hK
      rw [if_pos (by rfl)]
      refine wp_store9 (.tmp 5) (.tmp 8) (toM m) ya (toM m).ho.length yc rfl rfl rfl hz ?_
      refine HK.out _ _ ?_
      exact ⟨b0, true, b2, b3, true, b5, true, b7, x7, x9, some b, q, some (ya, yc), s, rfl, rfl, HX7.out, HX9.out, rfl, hq, rfl, hs, (fun _ => rfl), h7, (fun _ => rfl), H75.out, HI.out.storeX⟩
    · obtain rfl := Option.some.inj ho
      obtain rfl : b5 = true := hdeps ⟨5, .data⟩ (by simp) rfl
      obtain rfl : b3 = true := hdeps ⟨3, .data⟩ (by simp) rfl
      obtain ⟨b, rfl⟩ : ∃ b, q = some b := by cases q with | none => cases hq | some y => exact ⟨_, rfl⟩
      obtain ⟨⟨ya, yc⟩, rfl⟩ : ∃ y, s = some y := by cases s with | none => cases hs | some y => exact ⟨_, rfl⟩
      obtain ⟨_, _, mm, za, zn, zc, hz, _⟩ := I.hq b rfl
      refine wpOp_step rfl (fun K hK => ?_)
      have HK := Lib.hid hK
      clear hK
      rw [if_pos (by rfl)]
      refine wp_store9 (.tmp 6) (.tmp 10) (toM m') ya (toM m').ho.length yc rfl rfl rfl hz ?_
      refine HK.out _ _ ?_
      exact ⟨b0, b1, b2, true, b4, true, b6, true, x7, x9, p, some b, r, some (ya, yc), rfl, rfl, HX7.out, HX9.out, hp, rfl, hr, rfl, h6, (fun _ => rfl), H64.out, (fun _ => rfl), HI.out.storeY⟩
    · exact absurd ho (by simp)
  case done =>
    rintro l a wq ⟨b0, b1, b2, b3, b4, b5, b6, b7, x7, x9, p, q, r, s, rfl, rfl, hx7, hx9, hp, hq, hr, hs, h6, h7, h64, h75, I⟩ hre
    have h67 : b6 = true ∧ b7 = true := by
      revert hre
      clear I h75 h64 h7 h6 hs hr hq hp hx9 hx7
      revert b0 b1 b2 b3 b4 b5 b6 b7
      decide +kernel
    obtain ⟨rfl, rfl⟩ := h67
    obtain rfl := h6 rfl
    obtain rfl := h7 rfl
    obtain rfl := h64 rfl
    obtain rfl := h75 rfl
    obtain ⟨bx, rfl⟩ : ∃ b, p = some b := by cases p with | none => cases hp | some y => exact ⟨_, rfl⟩
    obtain ⟨by_, rfl⟩ : ∃ b, q = some b := by cases q with | none => cases hq | some y => exact ⟨_, rfl⟩
    obtain ⟨⟨ax, cx⟩, rfl⟩ : ∃ y, r = some y := by cases r with | none => cases hr | some y => exact ⟨_, rfl⟩
    obtain ⟨⟨ay, cy⟩, rfl⟩ : ∃ y, s = some y := by cases s with | none => cases hs | some y => exact ⟨_, rfl⟩
    obtain ⟨u1, hq1, mm, za, zn, zc, hz, hz2⟩ := I.hp bx rfl
    obtain ⟨y, hy, e1, e2⟩ := hz2 rfl
    obtain rfl := Option.some.inj hy
    rw [e1, e2] at hz
    obtain ⟨u2, hq2, mm2, za2, zn2, zc2, hzy, hzy2⟩ := I.hq by_ rfl
    obtain ⟨y2, hy2, e3, e4⟩ := hzy2 rfl
    obtain rfl := Option.some.inj hy2
    rw [e3, e4] at hzy
    have HWq := Lib.hid (HB0.out.trans (I.below.mono HB0.out.size))
    have hq0 : w.heap.size < wq.heap.size := by have := I.below.size; omega
    have HXq := Lib.hid (show MsgAt wq bx (toM m) (.slice ax (toM m).ho.length cx) from MsgAt.of_block hz)
    have HYq := Lib.hid (show MsgAt wq by_ (toM m') (.slice ay (toM m').ho.length cy) from MsgAt.of_block hzy)
    have HAq := Lib.hid (show MsgAt wq w.heap.size m v from HA0.out.below I.below (by omega))
    have HHx := Lib.hid (show HopsIn wq (.slice ax (toM m).ho.length cx) (toM m).ho from (I.hr _ rfl).1)
    have HHy := Lib.hid (show HopsIn wq (.slice ay (toM m').ho.length cy) (toM m').ho from (I.hs _ rfl).1)
    have HHa := Lib.hid (HH.out.below HWq.out)
    have HGq := Lib.hid (HG.out.below HWq.out)
    clear I hz hz2 hzy hzy2 e1 e2 e3 e4 hy hy2 hre hx7 hx9 hp hq hr hs h6 h7 h64 h75 u1 u2
    have HP := Lib.hid (show ∀ x, Below wq.heap.size wq x → x.cell? ⟨bx, 0, none⟩ = some (.string (toM m).fu) ∧ x.cell? ⟨bx, 1, none⟩ = some (.string (toM m).fs) ∧ x.cell? ⟨bx, 2, none⟩ = some (.string (toM m).tu) ∧ x.cell? ⟨bx, 3, none⟩ = some (.string (toM m).ts) ∧ x.cell? ⟨bx, 4, none⟩ = some (.int .i64 (toM m).nu) ∧ x.cell? ⟨bx, 5, none⟩ = some (.int .i64 (toM m).da) ∧ x.cell? ⟨bx, 6, none⟩ = some (.string (toM m).su) ∧ x.cell? ⟨bx, 7, none⟩ = some (.slice ax (toM m).ho.length cx) ∧ x.cell? ⟨bx, 8, none⟩ = some (.string (toM m).bo) ∧ x.cell? ⟨by_, 0, none⟩ = some (.string (toM m').fu) ∧ x.cell? ⟨by_, 1, none⟩ = some (.string (toM m').fs) ∧ x.cell? ⟨by_, 2, none⟩ = some (.string (toM m').tu) ∧ x.cell? ⟨by_, 3, none⟩ = some (.string (toM m').ts) ∧ x.cell? ⟨by_, 4, none⟩ = some (.int .i64 (toM m').nu) ∧ x.cell? ⟨by_, 5, none⟩ = some (.int .i64 (toM m').da) ∧ x.cell? ⟨by_, 6, none⟩ = some (.string (toM m').su) ∧ x.cell? ⟨by_, 7, none⟩ = some (.slice ay (toM m').ho.length cy) ∧ x.cell? ⟨by_, 8, none⟩ = some (.string (toM m').bo) ∧ x.cell? ⟨w.heap.size, 0, none⟩ = some (.string m.fu) ∧ x.cell? ⟨w.heap.size, 1, none⟩ = some (.string m.fs) ∧ x.cell? ⟨w.heap.size, 2, none⟩ = some (.string m.tu) ∧ x.cell? ⟨w.heap.size, 3, none⟩ = some (.string m.ts) ∧ x.cell? ⟨w.heap.size, 4, none⟩ = some (.int .i64 m.nu) ∧ x.cell? ⟨w.heap.size, 5, none⟩ = some (.int .i64 m.da) ∧ x.cell? ⟨w.heap.size, 6, none⟩ = some (.string m.su) ∧ x.cell? ⟨w.heap.size, 7, none⟩ = some (v) ∧ x.cell? ⟨w.heap.size, 8, none⟩ = some (.string m.bo) ∧ Below wq.heap.size wq x from fun x hx => by
      obtain ⟨p0, p1, p2, p3, p4, p5, p6, p7, p8⟩ := HXq.out.below hx hq1
      obtain ⟨r0, r1, r2, r3, r4, r5, r6, r7, r8⟩ := HYq.out.below hx hq2
      obtain ⟨t0, t1, t2, t3, t4, t5, t6, t7, t8⟩ := HAq.out.below hx hq0
      exact ⟨p0, p1, p2, p3, p4, p5, p6, p7, p8, r0, r1, r2, r3, r4, r5, r6, r7, r8, t0, t1, t2, t3, t4, t5, t6, t7, t8, hx⟩)
    have hlast : ∀ x, (x.cell? ⟨bx, 0, none⟩ = some (.string (toM m).fu) ∧ x.cell? ⟨bx, 1, none⟩ = some (.string (toM m).fs) ∧ x.cell? ⟨bx, 2, none⟩ = some (.string (toM m).tu) ∧ x.cell? ⟨bx, 3, none⟩ = some (.string (toM m).ts) ∧ x.cell? ⟨bx, 4, none⟩ = some (.int .i64 (toM m).nu) ∧ x.cell? ⟨bx, 5, none⟩ = some (.int .i64 (toM m).da) ∧ x.cell? ⟨bx, 6, none⟩ = some (.string (toM m).su) ∧ x.cell? ⟨bx, 7, none⟩ = some (.slice ax (toM m).ho.length cx) ∧ x.cell? ⟨bx, 8, none⟩ = some (.string (toM m).bo) ∧ x.cell? ⟨by_, 0, none⟩ = some (.string (toM m').fu) ∧ x.cell? ⟨by_, 1, none⟩ = some (.string (toM m').fs) ∧ x.cell? ⟨by_, 2, none⟩ = some (.string (toM m').tu) ∧ x.cell? ⟨by_, 3, none⟩ = some (.string (toM m').ts) ∧ x.cell? ⟨by_, 4, none⟩ = some (.int .i64 (toM m').nu) ∧ x.cell? ⟨by_, 5, none⟩ = some (.int .i64 (toM m').da) ∧ x.cell? ⟨by_, 6, none⟩ = some (.string (toM m').su) ∧ x.cell? ⟨by_, 7, none⟩ = some (.slice ay (toM m').ho.length cy) ∧ x.cell? ⟨by_, 8, none⟩ = some (.string (toM m').bo) ∧ x.cell? ⟨w.heap.size, 0, none⟩ = some (.string m.fu) ∧ x.cell? ⟨w.heap.size, 1, none⟩ = some (.string m.fs) ∧ x.cell? ⟨w.heap.size, 2, none⟩ = some (.string m.tu) ∧ x.cell? ⟨w.heap.size, 3, none⟩ = some (.string m.ts) ∧ x.cell? ⟨w.heap.size, 4, none⟩ = some (.int .i64 m.nu) ∧ x.cell? ⟨w.heap.size, 5, none⟩ = some (.int .i64 m.da) ∧ x.cell? ⟨w.heap.size, 6, none⟩ = some (.string m.su) ∧ x.cell? ⟨w.heap.size, 7, none⟩ = some (v) ∧ x.cell? ⟨w.heap.size, 8, none⟩ = some (.string m.bo) ∧ Below wq.heap.size wq x) → Below wq.heap.size wq x := fun x h => h.2.2.2.2.2.2.2.2.2.2.2.2.2.2.2.2.2.2.2.2.2.2.2.2.2.2.2
    have HL := Lib.hid hlast
    clear hlast
    have hcx := fun (W : World) (h : Below wq.heap.size wq W) => check_s (toM m) (.slice ax (toM m).ho.length cx) HT.out W (HHx.out.below h)
    have hox := fun (W : World) (h : Below wq.heap.size wq W) => ofM_s (toM m) (.slice ax (toM m).ho.length cx) hnX W (HHx.out.below h)
    have hoy := fun (W : World) (h : Below wq.heap.size wq W) => ofM_s (toM m') (.slice ay (toM m').ho.length cy) hnY W (HHy.out.below h)
    have htm := fun (W : World) (h : Below wq.heap.size wq W) => toM_s m v HMB.out W (HHa.out.below h)
    have hrc := fun (a : Option Addr) (c : Nat) (W : World) (h : HopsIn W (.slice a (toM m).ho.length c) (toM m).ho) => refCheck_s (toM m) (.slice a (toM m).ho.length c) HT.out W h
    have heq := fun (W : World) (h : Below wq.heap.size wq W) => equal_s (toM m) (toM m') (.slice ax (toM m).ho.length cx) (.slice ay (toM m').ho.length cy) hnX hnY W (HHx.out.below h) (HHy.out.below h)
    have hsm := fun (a : Option Addr) (c : Nat) (a' : Option Addr) (c' : Nat) (W : World) (h : HopsIn W (.slice a (toM m).ho.length c) (toM m).ho) (h' : HopsIn W (.slice a' (toM m').ho.length c') (toM m').ho) => refEqual_s (toM m) (toM m') (.slice a (toM m).ho.length c) (.slice a' (toM m').ho.length c') hnX hnY W h h'
    have he2 := fun (a : Option Addr) (c : Nat) (W : World) (hb : Below wq.heap.size wq W) (h : HopsIn W (.slice a (toM m).ho.length c) (toM m).ho) => equal_s (toM m) (toM m) (.slice ax (toM m).ho.length cx) (.slice a (toM m).ho.length c) hnX hnX W (HHx.out.below hb) h
    generalize checkE (toM m) = E at hcx hrc
    generalize decide (toM m = toM m') = B at heq hsm
    simp only [msgV] at hcx hox hoy htm hrc heq hsm
    simp only [msgV, decide_true] at he2
    have HCX := Lib.hid hcx
    have HOX := Lib.hid hox
    have HOY := Lib.hid hoy
    have HTM := Lib.hid htm
    have HRC := Lib.hid hrc
    have HEQ := Lib.hid heq
    have HSM := Lib.hid hsm
    have HE2 := Lib.hid he2
    clear hcx hox hoy htm hrc heq hsm he2
    simp only [ptrV, resV, slV]
    go_wp2_with fail
    go_region_held3 (fun x => x.cell? ⟨bx, 0, none⟩ = some (.string (toM m).fu) ∧ x.cell? ⟨bx, 1, none⟩ = some (.string (toM m).fs) ∧ x.cell? ⟨bx, 2, none⟩ = some (.string (toM m).tu) ∧ x.cell? ⟨bx, 3, none⟩ = some (.string (toM m).ts) ∧ x.cell? ⟨bx, 4, none⟩ = some (.int .i64 (toM m).nu) ∧ x.cell? ⟨bx, 5, none⟩ = some (.int .i64 (toM m).da) ∧ x.cell? ⟨bx, 6, none⟩ = some (.string (toM m).su) ∧ x.cell? ⟨bx, 7, none⟩ = some (.slice ax (toM m).ho.length cx) ∧ x.cell? ⟨bx, 8, none⟩ = some (.string (toM m).bo) ∧ x.cell? ⟨by_, 0, none⟩ = some (.string (toM m').fu) ∧ x.cell? ⟨by_, 1, none⟩ = some (.string (toM m').fs) ∧ x.cell? ⟨by_, 2, none⟩ = some (.string (toM m').tu) ∧ x.cell? ⟨by_, 3, none⟩ = some (.string (toM m').ts) ∧ x.cell? ⟨by_, 4, none⟩ = some (.int .i64 (toM m').nu) ∧ x.cell? ⟨by_, 5, none⟩ = some (.int .i64 (toM m').da) ∧ x.cell? ⟨by_, 6, none⟩ = some (.string (toM m').su) ∧ x.cell? ⟨by_, 7, none⟩ = some (.slice ay (toM m').ho.length cy) ∧ x.cell? ⟨by_, 8, none⟩ = some (.string (toM m').bo) ∧ x.cell? ⟨w.heap.size, 0, none⟩ = some (.string m.fu) ∧ x.cell? ⟨w.heap.size, 1, none⟩ = some (.string m.fs) ∧ x.cell? ⟨w.heap.size, 2, none⟩ = some (.string m.tu) ∧ x.cell? ⟨w.heap.size, 3, none⟩ = some (.string m.ts) ∧ x.cell? ⟨w.heap.size, 4, none⟩ = some (.int .i64 m.nu) ∧ x.cell? ⟨w.heap.size, 5, none⟩ = some (.int .i64 m.da) ∧ x.cell? ⟨w.heap.size, 6, none⟩ = some (.string m.su) ∧ x.cell? ⟨w.heap.size, 7, none⟩ = some (v) ∧ x.cell? ⟨w.heap.size, 8, none⟩ = some (.string m.bo) ∧ Below wq.heap.size wq x)
      (first
        | exact HP.out _ ((Below.refl _ _).drew)
        | exact HP.out _ ((HL.out _ (by assumption)).trans (hb9.mono (HL.out _ (by assumption)).size)))
      ((first
        | (go_at_call 14; with_reducible refine (known49_s _ (HGq.out.below (HL.out _ (by assumption)))).mono ?_; rintro e wk ⟨rfl, hb9⟩)
        | (go_at_call 15; with_reducible refine (HCX.out _ (HL.out _ (by assumption))).mono ?_; rintro e wk ⟨rfl, hb9⟩)
        | (go_at_call 12; with_reducible refine (HOX.out _ (HL.out _ (by assumption))).mono ?_; rintro e wk ⟨a5, c5, rfl, hh5, hb9⟩; have hH1 := Lib.hid hh5; clear hh5)
        | (go_at_call 12; with_reducible refine (HOY.out _ (HL.out _ (by assumption))).mono ?_; rintro e wk ⟨a6, c6, rfl, hh6, hb9⟩; have hH2 := Lib.hid hh6; have hH3 := Lib.hid (hH1.out.below hb9); clear hh6)
        | (go_at_call 16; with_reducible refine (HRC.out _ _ _ hH1.out).mono ?_; rintro e wk ⟨rfl, hb9⟩)
        | (go_at_call 17; with_reducible refine (HEQ.out _ (HL.out _ (by assumption))).mono ?_; rintro e wk ⟨rfl, hb9⟩)
        | (go_at_call 13; with_reducible refine (HSM.out _ _ _ _ _ hH3.out hH2.out).mono ?_; rintro e wk ⟨rfl, hb9⟩)
        | (go_at_call 9; with_reducible refine (HTM.out _ (HL.out _ (by assumption))).mono ?_; rintro e wk ⟨a7, c7, rfl, hh7, hb9⟩; have hH4 := Lib.hid hh7; clear hh7)
        | (go_at_call 17; with_reducible refine (HE2.out _ _ _ (HL.out _ (by assumption)) hH4.out).mono ?_; rintro e wk ⟨rfl, hb9⟩)))
    all_goals
      have HBl := Lib.hid (HWq.out.trans ((HL.out _ (by assumption)).mono HWq.out.size))
      go_wp2_with fail
      go_ret
      exact ⟨rfl, HBl.out⟩
end Go.Proofs.YtkiheanpamplpaaDoor
