/-
  Package mail and its reference: messages as values; texts of addresses; subjects.
-/
import Derived.Test.YtkiheanpamplpaaDoorMaiA
import Derived.Deep.RegionHeld3
import Derived.Deep.AppendLies
import Derived.Deep.MidRow
set_option linter.unusedSimpArgs false
set_option linter.unusedVariables false
set_option linter.unnecessarySimpa false
namespace Go.Proofs.YtkiheanpamplpaaDoor
open Go.RowKit Go.Bul
/-- a slice of strings that reads as zs -/
def HopsIn (w : World) (v : Value) (zs : List ByteArray) : Prop :=
  (zs = [] ∧ ∃ a c, v = .slice a 0 c ∧ (a = none → c = 0)) ∨ ∃ b off c, v = .slice (some ⟨b, off, none⟩) zs.length c ∧ b < w.heap.size ∧ zs.length ≤ c ∧ ∀ j (h : j < zs.length), w.cell? ⟨b, off + j, none⟩ = some (.string zs[j])
theorem HopsIn.below {w w' : World} {v : Value} {l : List ByteArray} (h : HopsIn w v l) (hb : Below w.heap.size w w') : HopsIn w' v l := by
  rcases h with h | ⟨b, off, c, h1, h2, hc, h3⟩
  · exact .inl h
  · exact .inr ⟨b, off, c, h1, Nat.lt_of_lt_of_le h2 hb.size, hc, fun j hj => by rw [hb.cell (p := ⟨b, off + j, none⟩) h2]; exact h3 j hj⟩
structure Ms where
  fu : ByteArray
  fs : ByteArray
  tu : ByteArray
  ts : ByteArray
  nu : Int
  da : Int
  su : ByteArray
  ho : List ByteArray
  bo : ByteArray
deriving DecidableEq
def msgV (m : Ms) (v : Value) : Value := .agg #[.string m.fu, .string m.fs, .string m.tu, .string m.ts, .int .i64 m.nu, .int .i64 m.da, .string m.su, v, .string m.bo]
set_option maxRecDepth 100000 in
theorem refText_s (u s : ByteArray) (hu : u.size ≤ 100000) (hs : s.size ≤ 100000) (w : World) :
    Calls Tryd.prog 34 #[.agg #[.string u, .string s]] w fun e w' => e = .returned (.string (u ++ ⟨#[64]⟩ ++ s)) ∧ Below w.heap.size w w' := by
  go_enter Tryd.func34, Tryd.ntmps34
  go_wp2_with fail
  go_ret
  exact ⟨rfl, (Below.refl _ _).alloc (Nat.le_refl _) _⟩
set_option maxRecDepth 100000 in
theorem string_s (u s : ByteArray) (hu : u.size ≤ 100000) (hs : s.size ≤ 100000) (w : World) :
    Calls Tryd.prog 22 #[.agg #[.string u, .string s]] w fun e w' => e = .returned (.string (u ++ ⟨#[64]⟩ ++ s)) ∧ Below w.heap.size w w' := by
  go_enter Tryd.func22, Tryd.ntmps22
  go_wp2_with fail
  go_ret
  exact ⟨rfl, (Below.refl _ _).alloc (Nat.le_refl _) _⟩
def cut33 (s : ByteArray) : ByteArray := s.extract 0 (min s.size 33000)
/-- nine cells of a block read as a message -/
def MsgAt (w : World) (b : Nat) (m : Ms) (v : Value) : Prop :=
  w.cell? ⟨b, 0, none⟩ = some (.string m.fu) ∧ w.cell? ⟨b, 1, none⟩ = some (.string m.fs) ∧ w.cell? ⟨b, 2, none⟩ = some (.string m.tu) ∧ w.cell? ⟨b, 3, none⟩ = some (.string m.ts) ∧ w.cell? ⟨b, 4, none⟩ = some (.int .i64 m.nu) ∧
  w.cell? ⟨b, 5, none⟩ = some (.int .i64 m.da) ∧ w.cell? ⟨b, 6, none⟩ = some (.string m.su) ∧ w.cell? ⟨b, 7, none⟩ = some v ∧ w.cell? ⟨b, 8, none⟩ = some (.string m.bo)
def msgCells (m : Ms) (v : Value) : Array Value := #[.string m.fu, .string m.fs, .string m.tu, .string m.ts, .int .i64 m.nu, .int .i64 m.da, .string m.su, v, .string m.bo]
theorem MsgAt.below {w w' : World} {b : Nat} {m : Ms} {v : Value} (h : MsgAt w b m v) {B : Nat} (hb : Below B w w') (hB : b < B) : MsgAt w' b m v := by
  obtain ⟨h0, h1, h2, h3, h4, h5, h6, h7, h8⟩ := h
  unfold MsgAt
  rw [hb.cell (p := ⟨b, 0, none⟩) hB, hb.cell (p := ⟨b, 1, none⟩) hB, hb.cell (p := ⟨b, 2, none⟩) hB, hb.cell (p := ⟨b, 3, none⟩) hB, hb.cell (p := ⟨b, 4, none⟩) hB, hb.cell (p := ⟨b, 5, none⟩) hB, hb.cell (p := ⟨b, 6, none⟩) hB, hb.cell (p := ⟨b, 7, none⟩) hB, hb.cell (p := ⟨b, 8, none⟩) hB]
  exact ⟨h0, h1, h2, h3, h4, h5, h6, h7, h8⟩
theorem MsgAt.new (w : World) (m : Ms) (v : Value) (t : TypeId) : MsgAt (w.alloc (.cells (msgCells m v) t)) w.heap.size m v := by
  have h := heap_alloc_new w (.cells (msgCells m v) t)
  have k : ∀ k, (w.alloc (.cells (msgCells m v) t)).cell? ⟨w.heap.size, k, none⟩ = (msgCells m v)[k]? := fun k => by unfold World.cell?; rw [h]; rfl
  exact ⟨k 0, k 1, k 2, k 3, k 4, k 5, k 6, k 7, k 8⟩
theorem MsgAt.of_block {w : World} {b : Nat} {m : Ms} {v : Value} {t : TypeId} (h : w.heap[b]? = some (.cells (msgCells m v) t (0, 0))) : MsgAt w b m v := by
  have k : ∀ k, w.cell? ⟨b, k, none⟩ = (msgCells m v)[k]? := fun k => by unfold World.cell?; rw [h]; rfl
  exact ⟨k 0, k 1, k 2, k 3, k 4, k 5, k 6, k 7, k 8⟩
theorem But.cell {B b : Nat} {w w' : World} (h : But B b w w') {p : Addr} (h1 : p.block < B) (h2 : p.block ≠ b) : w'.cell? p = w.cell? p := by
  unfold World.cell?
  rw [h.block _ h1 h2]
theorem MsgAt.but {w w' : World} {b b2 : Nat} {m : Ms} {v : Value} (h : MsgAt w b m v) {B : Nat} (hb : But B b2 w w') (hB : b < B) (hne : b ≠ b2) : MsgAt w' b m v := by
  obtain ⟨h0, h1, h2, h3, h4, h5, h6, h7, h8⟩ := h
  unfold MsgAt
  rw [hb.cell (p := ⟨b, 0, none⟩) hB hne, hb.cell (p := ⟨b, 1, none⟩) hB hne, hb.cell (p := ⟨b, 2, none⟩) hB hne, hb.cell (p := ⟨b, 3, none⟩) hB hne, hb.cell (p := ⟨b, 4, none⟩) hB hne, hb.cell (p := ⟨b, 5, none⟩) hB hne, hb.cell (p := ⟨b, 6, none⟩) hB hne, hb.cell (p := ⟨b, 7, none⟩) hB hne, hb.cell (p := ⟨b, 8, none⟩) hB hne]
  exact ⟨h0, h1, h2, h3, h4, h5, h6, h7, h8⟩
theorem frozen_of {w : World} {b : Nat} {cs : Array Value} {t : TypeId} (h : w.heap[b]? = some (.cells cs t (0, 0))) (k : Nat) : w.frozen? ⟨b, k, none⟩ = false := by simp [World.frozen?, h]
theorem But.setCellAt {B b : Nat} {a w : World} (h : But B b a w) (k : Nat) (u : Value) : But B b a (w.setCell ⟨b, k, none⟩ u) :=
  h.trans ⟨rfl, rfl, rfl, by simp [World.setCell], fun i hi hb => Below.heap_setCell _ _ _ _ (by simpa using hb)⟩
theorem But.drew {B b : Nat} {a w : World} (h : But B b a w) : But B b a w.drew := ⟨h.os, h.tape, h.output, h.size, h.block⟩
theorem heap_setCell_msg {w : World} {b : Nat} {m : Ms} {v u : Value} {t : TypeId} (h : w.heap[b]? = some (.cells (msgCells m v) t (0, 0))) : (w.setCell ⟨b, 7, none⟩ u).heap[b]? = some (.cells (msgCells m u) t (0, 0)) := by
  simp [World.setCell, Array.getElem?_modify, h, msgCells]
/-- nine stores, one cell each -/
def set9 (w : World) (b : Nat) (a0 a1 a2 a3 a4 a5 a6 a7 a8 : Value) : World := (((((((((w.setCell ⟨b, 0, none⟩ a0).setCell ⟨b, 1, none⟩ a1).setCell ⟨b, 2, none⟩ a2).setCell ⟨b, 3, none⟩ a3).setCell ⟨b, 4, none⟩ a4).setCell ⟨b, 5, none⟩ a5).setCell ⟨b, 6, none⟩ a6).setCell ⟨b, 7, none⟩ a7).setCell ⟨b, 8, none⟩ a8)
theorem set9_block {w : World} {b : Nat} {m0 : Ms} {v0 : Value} {t : TypeId} (h : w.heap[b]? = some (.cells (msgCells m0 v0) t (0, 0))) (a0 a1 a2 a3 a4 a5 a6 a7 a8 : Value) :
    (set9 w b a0 a1 a2 a3 a4 a5 a6 a7 a8).heap[b]? = some (.cells #[a0, a1, a2, a3, a4, a5, a6, a7, a8] t (0, 0)) := by
  simp [set9, World.setCell, Array.getElem?_modify, h, msgCells]
theorem set9_owns {w : World} {B b : Nat} {e : TypeId} {sz : Nat} {v : Value} {n : Nat} {xs : List Value} (h : w.ownsRow B e sz v n xs) (hb : b < B) (a0 a1 a2 a3 a4 a5 a6 a7 a8 : Value) : (set9 w b a0 a1 a2 a3 a4 a5 a6 a7 a8).ownsRow B e sz v n xs := by
  unfold set9
  iterate 9 refine ownsRow_setCell_below ?_ (by exact hb) _
  exact h
theorem set9_below {B b : Nat} {a w : World} (h : Below B a w) (hb : B ≤ b) (a0 a1 a2 a3 a4 a5 a6 a7 a8 : Value) : Below B a (set9 w b a0 a1 a2 a3 a4 a5 a6 a7 a8) := by
  unfold set9
  iterate 9 refine Below.setCell ?_ (by exact hb) _
  exact h
theorem HopsIn.of_owns {w : World} {B : Nat} {v : Value} {zs : List ByteArray} {n : Nat} (h : w.ownsRow B 9 1 v n (zs.map Value.string)) : HopsIn w v zs := by
  have hlt := h.lt
  have hn : zs.length = n := by have := h.1; simpa using this
  rcases h.2 with ⟨h1, h2⟩ | ⟨g, c, cur, h1, h2, h3, h4, h5⟩
  · exact .inl ⟨List.eq_nil_of_length_eq_zero (by omega), _, _, h1, fun _ => rfl⟩
  · refine .inr ⟨g, 0, c, by rw [h1, hn], (hlt g (by rw [h1]; rfl)).2, by omega, fun j hj => ?_⟩
    have := h.cells (g := g) (by rw [h1]; rfl) j (.string zs[j]) (by simp [hj])
    rw [show (⟨g, 0, none⟩ : Addr).add j = ⟨g, 0 + j, none⟩ by unfold Addr.add; split <;> simp_all] at this
    exact this
def ToRel (m : Ms) (w ws wr : World) (k : Nat) : Prop :=
  ∃ v, wr.heap[w.heap.size + 2]? = some (.cells (msgCells { m with bo := cut33 m.bo } v) 29 (0, 0)) ∧ wr.ownsRow (w.heap.size + 3) 9 1 v k ((m.ho.take k).map Value.string) ∧ But (w.heap.size + 3) (w.heap.size + 2) ws wr
set_option maxRecDepth 100000 in
set_option maxHeartbeats 1000000 in
theorem to_s (m : Ms) (v : Value) (hb : m.bo.size ≤ maxLen) (hn : m.ho.length ≤ maxLen) (w : World) (hh : HopsIn w v m.ho) :
    Calls Tryd.prog 9 #[msgV m v] w fun e w' => ∃ v', e = .returned (msgV { m with ho := m.ho.take 20, bo := cut33 m.bo } v') ∧ HopsIn w' v' (m.ho.take 20) ∧ Below w.heap.size w w' := by
  unfold maxLen at hb hn
  obtain ⟨i0, hi, hz0, hz1, hz2⟩ := info_parts infoString
  have HH := Lib.hid hh
  obtain ⟨a0, len, cap, hv⟩ : ∃ a n c, v = .slice a n c := by
    rcases hh with ⟨_, a, c, h, _⟩ | ⟨b, off, c, h, _⟩
    · exact ⟨_, _, _, h⟩
    · exact ⟨_, _, _, h⟩
  subst hv
  obtain rfl : len = m.ho.length := by
    rcases hh with ⟨h, a, c, e, _⟩ | ⟨b, off, c, e, _⟩
    · cases e; rw [h]; rfl
    · cases e; rfl
  clear hh
  go_enter Tryd.func9, Tryd.ntmps9
  unfold msgV
  go_wp2_with fail
  have c1 : (min (m.bo.size : Int) 33000).toNat = min m.bo.size 33000 := by omega
  have c2 : (0 : Int) ≤ min (m.bo.size : Int) 33000 := by omega
  have c3 : min (m.bo.size : Int) 33000 ≤ m.bo.size := by omega
  have c4 : (0 : Int) ≤ (m.bo.size : Int) := by omega
  obtain ⟨wq, hwq⟩ : ∃ wq, wq = (w.alloc (.cells (msgCells m (.slice a0 m.ho.length cap)) 26)).alloc (.cells (msgCells ⟨⟨#[]⟩, ⟨#[]⟩, ⟨#[]⟩, ⟨#[]⟩, 0, 0, ⟨#[]⟩, [], ⟨#[]⟩⟩ (.slice none 0 0)) 29) := ⟨_, rfl⟩
  have hM : MsgAt wq w.heap.size m (.slice a0 m.ho.length cap) := by
    rw [hwq]
    exact (MsgAt.new w m _ _).below ((Below.refl _ _).alloc (Nat.le_refl _) _) (by rw [size_alloc]; omega)
  have hbq : Below w.heap.size w wq := by rw [hwq]; exact ((Below.refl _ _).alloc (Nat.le_refl _) _).alloc (by rw [size_alloc]; omega) _
  have hsq : wq.heap.size = w.heap.size + 2 := by rw [hwq, size_alloc, size_alloc]
  have hwq2 := hwq
  unfold msgCells at hwq2
  rw [← hwq2]
  clear hwq2
  have HMq := Lib.hid hM
  have hz0b : wq.heap[w.heap.size + 1]? = some (.cells (msgCells ⟨⟨#[]⟩, ⟨#[]⟩, ⟨#[]⟩, ⟨#[]⟩, 0, 0, ⟨#[]⟩, [], ⟨#[]⟩⟩ (.slice none 0 0)) 29 (0, 0)) := by
    have h := heap_alloc_new (w.alloc (.cells (msgCells m (.slice a0 m.ho.length cap)) 26)) (.cells (msgCells ⟨⟨#[]⟩, ⟨#[]⟩, ⟨#[]⟩, ⟨#[]⟩, 0, 0, ⟨#[]⟩, [], ⟨#[]⟩⟩ (.slice none 0 0)) 29)
    rw [size_alloc] at h
    rw [hwq]
    exact h
  have HZ := Lib.hid hz0b
  clear hz0b
  obtain ⟨h0, h1, h2, h3, h4, h5, h6, h7, h8⟩ := hM
  clear hwq
  go_region_held3 (fun w' => w'.cell? ⟨w.heap.size, 0, none⟩ = some (.string m.fu) ∧ w'.cell? ⟨w.heap.size, 1, none⟩ = some (.string m.fs) ∧ w'.cell? ⟨w.heap.size, 2, none⟩ = some (.string m.tu) ∧ w'.cell? ⟨w.heap.size, 3, none⟩ = some (.string m.ts) ∧ w'.cell? ⟨w.heap.size, 4, none⟩ = some (.int .i64 m.nu) ∧ w'.cell? ⟨w.heap.size, 5, none⟩ = some (.int .i64 m.da) ∧ w'.cell? ⟨w.heap.size, 6, none⟩ = some (.string m.su) ∧ w'.cell? ⟨w.heap.size, 8, none⟩ = some (.string m.bo)) (go_keep) ((fail))
  all_goals
    obtain ⟨ws, hws⟩ : ∃ ws, ws = (wq.alloc (.cells (msgCells { m with bo := cut33 m.bo } (.slice none 0 0)) 29)).drew := ⟨_, rfl⟩
    have hst : ToRel m w ws ws 0 := by
      refine ⟨.slice none 0 0, ?_, World.ownsRow_nil _ _ _ _, But.refl _ _ _⟩
      rw [hws]
      show (wq.alloc _).heap[w.heap.size + 2]? = _
      rw [← hsq]
      exact heap_alloc_new _ _
    have hbs : Below w.heap.size w ws := by
      rw [hws]
      exact hbq.trans ((((Below.refl _ _).alloc (Nat.le_refl _) _).drew).mono (by omega))
    have hss : ws.heap.size = w.heap.size + 3 := by rw [hws]; show (wq.alloc _).heap.size = _; rw [size_alloc]; omega
    have HMs := Lib.hid (show MsgAt ws w.heap.size m (.slice a0 m.ho.length cap) by rw [hws]; exact HMq.out.below (((Below.refl _ _).alloc (Nat.le_refl _) _).drew) (by omega))
    have HST := Lib.hid hst
    have HZs := Lib.hid (show ws.heap[w.heap.size + 1]? = some (.cells (msgCells ⟨⟨#[]⟩, ⟨#[]⟩, ⟨#[]⟩, ⟨#[]⟩, 0, 0, ⟨#[]⟩, [], ⟨#[]⟩⟩ (.slice none 0 0)) 29 (0, 0)) by
      rw [hws]
      show (wq.alloc _).heap[w.heap.size + 1]? = _
      rw [Below.heap_alloc _ _ _ (by omega)]
      exact HZ.out)
    unfold msgCells cut33 at hws
    rw [← hws]
    clear hws h0 h1 h2 h3 h4 h5 h6 h7 h8 hst HMq hbq hsq
    go_wp2_with fail
    go_loopw [4] (fun i wr => ∃ k : Nat, k ≤ m.ho.length ∧ k ≤ 20 ∧ i = .int .i64 k ∧ ToRel m w ws wr k) (fun i _ => 21 - (intOf i).toNat)
    case atStart => exact ⟨0, Nat.zero_le _, Nat.zero_le _, rfl, HST.out⟩
    case round =>
      obtain ⟨k, hk1, hk2, rfl, hrel⟩ := hrel
      obtain ⟨vk, hblk, hown, hbut⟩ := hrel
      have HMr := HMs.out.but hbut (by omega) (by omega)
      have HMx := MsgAt.of_block hblk
      obtain ⟨_, _, _, _, _, _, _, g7, g8⟩ := HMr
      obtain ⟨_, _, _, _, _, _, _, x7, x8⟩ := HMx
      by_cases hlt : k < m.ho.length
      · by_cases h20 : k < 20
        · have i1 : (k : Int) < m.ho.length := by omega
          have i2 : (k : Int) < 20 := by omega
          have i3 : (0 : Int) ≤ (k : Int) := by omega
          rcases HH.out with ⟨hn0, _⟩ | ⟨b, off, c9, he, hbw, hlc, hcell⟩
          · rw [hn0] at hlt; exact absurd hlt (Nat.not_lt_zero _)
          · cases he
            have hc0 : wr.cell? ⟨b, off + k, none⟩ = some (.string m.ho[k]) := by
              rw [hbut.cell (p := ⟨b, off + k, none⟩) (by simp; omega) (by simp; omega), hbs.cell (p := ⟨b, off + k, none⟩) hbw]
              exact hcell k hlt
            have hsz : w.heap.size + 3 ≤ wr.heap.size := by have := hbut.size; omega
            have hlt9 := hown.lt
            have ag1 : vk.ownBlock ≠ some b := fun e => by have := hlt9 b e; omega
            have ag2 : vk.ownBlock ≠ some w.heap.size := fun e => by have := hlt9 _ e; omega
            have ag3 : vk.ownBlock ≠ some (w.heap.size + 2) := fun e => by have := hlt9 _ e; omega
            have hkl : k ≤ m.ho.length := hk1
            go_wp2_with fail
            have HB := Lib.hid hbut
            clear HH HMs HST hbut
            have p7 : (wr.alloc (.cells #[.string m.ho[k]] 9)).drew.cell? ⟨w.heap.size + 2, 7, none⟩ = some vk := (((Below.refl _ wr).alloc (Nat.le_refl _) _).drew.cell (p := ⟨w.heap.size + 2, 7, none⟩) (by simp; omega)).trans x7
            have p8 : (wr.alloc (.cells #[.string m.ho[k]] 9)).drew.cell? ⟨w.heap.size, 7, none⟩ = _ := (((Below.refl _ wr).alloc (Nat.le_refl _) _).drew.cell (p := ⟨w.heap.size, 7, none⟩) (by simp; omega)).trans g7
            go_region_law ((refine step_append_lies _ (by rfl) _ _ _ (by rfl) (w.heap.size + 3) 9 i0 _ 1 16 Tryd.underlying24 hi hz0 hz1 hz2 rfl (by omega) vk _ _ (by rfl) ((hown.alloc _).drew) ⟨wr.heap.size, 0, none⟩ 1 1 [_] (by rfl) (by rfl) (World.news_of_block (cs := #[_]) (t := 9) (fr := (0, 0)) (heap_alloc_new wr _)) (by simp [Value.oneCell']) (by omega) (by unfold maxLen; omega) (by omega) (by simp; omega) (wr.heap.size + 1) (by simp) ?_; intro gg cap w1 hown1 hgrow hat hlt2; have hb9 := hgrow.block (w.heap.size + 2) (by simp; omega) (fun e => ag3 e.symm); have hb8 : w1.heap[w.heap.size + 2]? = some _ := hb9.trans ((Below.heap_alloc _ _ _ (by omega)).trans hblk); have hx7 := (MsgAt.of_block hb8).2.2.2.2.2.2.2.1; have hf7 := frozen_of hb8 7))
            all_goals
              go_wp2_with fail
              go_roundw
              case rel =>
                refine ⟨k + 1, by omega, by omega, by go_num, _, heap_setCell_msg hb8, ?_, ((((HB.out.alloc hsz _).drew).grown hgrow (by simp; omega) (fun k hk => (hlt9 k hk).1)).setCellAt _ _)⟩
                rw [List.take_succ_eq_append_getElem hlt, List.map_append]
                exact ownsRow_setCell_below hown1 (a := ⟨w.heap.size + 2, 7, none⟩) (by simp) _
              case measure => simp [intOf]; omega
        · have i1 : (k : Int) < m.ho.length := by omega
          have i2 : decide ((k : Int) < 20) = false := by simp; omega
          obtain ⟨av, lv, cv, rfl⟩ := owns_slice hown
          have hzr := (hbut.block (w.heap.size + 1) (by omega) (by omega)).trans HZs.out
          have z0 := MsgAt.of_block hzr
          have f0 := frozen_of hzr 0
          have f1 := frozen_of hzr 1
          have f2 := frozen_of hzr 2
          have f3 := frozen_of hzr 3
          have f4 := frozen_of hzr 4
          have f5 := frozen_of hzr 5
          have f6 := frozen_of hzr 6
          have f7 := frozen_of hzr 7
          have f8 := frozen_of hzr 8
          obtain ⟨y0, y1, y2, y3, y4, y5, y6, y7, y8⟩ := z0
          have hmx := MsgAt.of_block hblk
          obtain ⟨x0, x1, x2, x3, x4, x5, x6, _, _⟩ := hmx
          have HZR := Lib.hid hzr
          have HB := Lib.hid hbut
          clear hzr hblk
          go_wp2_with fail
          refine bodyPost_ret (results_cell_row rfl _ _ (w.heap.size + 1) _ _ _ _ rfl (set9_block HZR.out _ _ _ _ _ _ _ _ _) Tryd.underlying29 rfl (by kernel_rfl)) rfl ?_
          refine ⟨_, rfl, HopsIn.of_owns (set9_owns (B := w.heap.size + 3) (b := w.heap.size + 1) (n := k) ?_ (by omega) _ _ _ _ _ _ _ _ _), set9_below (B := w.heap.size) (b := w.heap.size + 1) ?_ (by omega) _ _ _ _ _ _ _ _ _⟩
          · rw [show (20 : Nat) = k by omega]; exact hown
          · exact hbs.trans (HB.out.to_below' (by omega) (by omega))
      · have i1 : decide ((k : Int) < m.ho.length) = false := by simp; omega
        obtain ⟨av, lv, cv, rfl⟩ := owns_slice hown
        have hzr := (hbut.block (w.heap.size + 1) (by omega) (by omega)).trans HZs.out
        have z0 := MsgAt.of_block hzr
        have f0 := frozen_of hzr 0
        have f1 := frozen_of hzr 1
        have f2 := frozen_of hzr 2
        have f3 := frozen_of hzr 3
        have f4 := frozen_of hzr 4
        have f5 := frozen_of hzr 5
        have f6 := frozen_of hzr 6
        have f7 := frozen_of hzr 7
        have f8 := frozen_of hzr 8
        obtain ⟨y0, y1, y2, y3, y4, y5, y6, y7, y8⟩ := z0
        have hmx := MsgAt.of_block hblk
        obtain ⟨x0, x1, x2, x3, x4, x5, x6, _, _⟩ := hmx
        have HZR := Lib.hid hzr
        have HB := Lib.hid hbut
        clear hzr hblk
        go_wp2_with fail
        refine bodyPost_ret (results_cell_row rfl _ _ (w.heap.size + 1) _ _ _ _ rfl (set9_block HZR.out _ _ _ _ _ _ _ _ _) Tryd.underlying29 rfl (by kernel_rfl)) rfl ?_
        refine ⟨_, rfl, HopsIn.of_owns (set9_owns (B := w.heap.size + 3) (b := w.heap.size + 1) (n := k) ?_ (by omega) _ _ _ _ _ _ _ _ _), set9_below (B := w.heap.size) (b := w.heap.size + 1) ?_ (by omega) _ _ _ _ _ _ _ _ _⟩
        · rw [List.take_of_length_le (by omega)]; rw [List.take_of_length_le (by omega)] at hown; exact hown
        · exact hbs.trans (HB.out.to_below' (by omega) (by omega))
end Go.Proofs.YtkiheanpamplpaaDoor
