/-
  Package mail: a message is put into a queue.
-/
import Derived.Test.YtkiheanpamplpaaDoorQueA
set_option linter.unusedSimpArgs false
set_option linter.unusedVariables false
set_option linter.unnecessarySimpa false
namespace Go.Proofs.YtkiheanpamplpaaDoor
open Go.RowKit Go.Bul Go.Maps
theorem QAt.bump {w : World} {qb : Nat} {site : ByteArray} {last : Int} {mb n : Nat} {D : DataW Value} (h : QAt w qb site last mb n D) (l : Int) : QAt (w.setCell ⟨qb, 1, none⟩ (.int .i64 l)) qb site l mb n D :=
  ⟨by simp [World.setCell, Array.getElem?_modify, h.blk], h.map.setCell (fun e => h.ne e.symm) _⟩
theorem QAt.new {w : World} {qb : Nat} {site : ByteArray} {last : Int} {mb n : Nat} {D : DataW Value} (h : QAt w qb site last mb n D) (o : Obj) : QAt (w.alloc o) qb site last mb n D := h.below ((Below.refl _ _).alloc (Nat.le_refl _) o)
theorem size_setCell (w : World) (a : Addr) (u : Value) : (w.setCell a u).heap.size = w.heap.size := by simp [World.setCell]
/-- what the region that puts a message in reads -/
def PutS (qb b0 mb : Nat) (last : Int) (m : Ms) (v : Value) (wq : World) (w' : World) : Prop :=
  w'.cell? ⟨qb, 1, none⟩ = some (.int .i64 last) ∧ w'.cell? ⟨qb, 2, none⟩ = some (.map (some mb)) ∧ w'.cell? ⟨b0, 0, none⟩ = some (.string m.fu) ∧ w'.cell? ⟨b0, 1, none⟩ = some (.string m.fs) ∧ w'.cell? ⟨b0, 2, none⟩ = some (.string m.tu) ∧
  w'.cell? ⟨b0, 3, none⟩ = some (.string m.ts) ∧ w'.cell? ⟨b0, 4, none⟩ = some (.int .i64 m.nu) ∧ w'.cell? ⟨b0, 5, none⟩ = some (.int .i64 m.da) ∧ w'.cell? ⟨b0, 6, none⟩ = some (.string m.su) ∧ w'.cell? ⟨b0, 7, none⟩ = some v ∧ w'.cell? ⟨b0, 8, none⟩ = some (.string m.bo) ∧ But2 mb mb wq w'
theorem But2.cell {a b : Nat} {w w' : World} (h : But2 a b w w') {p : Addr} (h1 : p.block < w.heap.size) (ha : p.block ≠ a) (hb : p.block ≠ b) : w'.cell? p = w.cell? p := by
  unfold World.cell?
  rw [h.block _ h1 ha hb]
theorem MsgAt.but2 {a c b : Nat} {w w' : World} {m : Ms} {v : Value} (h : MsgAt w b m v) (hb : But2 a c w w') (h1 : b < w.heap.size) (ha : b ≠ a) (hc : b ≠ c) : MsgAt w' b m v := by
  obtain ⟨h0, h1', h2, h3, h4, h5, h6, h7, h8⟩ := h
  have k : ∀ i, w'.cell? ⟨b, i, none⟩ = w.cell? ⟨b, i, none⟩ := fun i => hb.cell (p := ⟨b, i, none⟩) h1 ha hc
  unfold MsgAt
  rw [k 0, k 1, k 2, k 3, k 4, k 5, k 6, k 7, k 8]
  exact ⟨h0, h1', h2, h3, h4, h5, h6, h7, h8⟩
theorem PutS.of {qb b0 mb n : Nat} {site : ByteArray} {last : Int} {m : Ms} {v : Value} {wq w' : World} {D : DataW Value} (h : QAt wq qb site last mb n D) (hm : MsgAt wq b0 m v) (h0 : b0 < wq.heap.size) (hne : b0 ≠ mb) (hb : But2 mb mb wq w') : PutS qb b0 mb last m v wq w' := by
  obtain ⟨_, a1, a2⟩ := h.cells
  have hq := lt_of_block h.blk
  obtain ⟨c0, c1, c2, c3, c4, c5, c6, c7, c8⟩ := hm.but2 hb h0 hne hne
  exact ⟨(hb.cell (p := ⟨qb, 1, none⟩) hq h.ne h.ne).trans a1, (hb.cell (p := ⟨qb, 2, none⟩) hq h.ne h.ne).trans a2, c0, c1, c2, c3, c4, c5, c6, c7, c8, hb⟩
theorem HopsIn.but2q {qb mb n : Nat} {site : ByteArray} {last : Int} {D : DataW Value} {w w' : World} {v : Value} {zs : List ByteArray} (h : HopsIn w v zs) (hq : QAt w qb site last mb n D) (hb : But2 qb mb w w') (h1 : v.ownBlock ≠ some qb) : HopsIn w' v zs := by
  rcases h with h | ⟨g, off, c, rfl, hg, hc, hcell⟩
  · exact .inl h
  · by_cases h0 : zs.length = 0
    · exact .inl ⟨List.eq_nil_of_length_eq_zero h0, some ⟨g, off, none⟩, c, by rw [h0], fun e => by cases e⟩
    · have hblk := hb.block g hg (fun e => h1 (by rw [← e]; rfl)) (fun e => by
        subst e
        obtain ⟨es, cl, h2, _⟩ := hq.map
        have := hcell 0 (by omega)
        unfold World.cell? at this
        rw [h2] at this
        cases this)
      exact .inr ⟨g, off, c, rfl, Nat.lt_of_lt_of_le hg hb.size, hc, fun j hj => by
        rw [World.cell?_of_block (w := w) (a := ⟨g, off + j, none⟩) hblk]; exact hcell j hj⟩
theorem n_small {n : Nat} (hn : n < 1000000000) : n < maxLen := by unfold maxLen; omega
set_option maxRecDepth 100000 in
theorem upon_mapUpdate {o : Oper} {a : Act} {K : Act → World → Prop} {Q : Exit → Act → World → Prop} {w : World} {mb n : Nat} {D : DataW Value} {k : Int} {val : Value} (hown : w.ownsMap Tryd.prog 3 RV mb n D) (hn : n < 1000000000) (h0 : -9223372036854775808 ≤ k) (h1 : k ≤ 9223372036854775807)
    (h : ∀ w', w'.ownsMap Tryd.prog 3 RV mb (n + 1) (D.put (kInt k) (.held val)) → w.mapTurned w' mb → K (a.put o.dst undef) w') :
    Oper.upon Tryd.prog o a K Q (((Instr.mapUpdate 82 (.map (some mb)) (.int .i64 k) val).run Tryd.prog w).andThen fun _ w' => Result.ok Next.skip w') := by
  obtain ⟨w', hrun, h2, h3⟩ := hown.store keyed Tryd.underlying82 (n_small hn) (keyOf_k k h0 h1) (val := val) rfl
  rw [hrun]
  simp only [Result.andThen_ok, Oper.upon]
  exact h w' h2 h3
set_option maxRecDepth 100000 in
set_option maxHeartbeats 4000000 in
theorem put_s (m : Ms) (v : Value) (now : Int) (w : World) (qb : Nat) (site : ByteArray) (last : Int) (mb n : Nat) (D : DataW Value) (hq : QAt w qb site last mb n D) (hl0 : 0 ≤ last) (hl1 : last ≤ 1000000) (hn9 : n ≤ 1000000) (hn : m.ho.length ≤ 100000) (hh : HopsIn w v m.ho) (hd : v.ownBlock ≠ some qb) :
    Calls Tryd.prog 48 #[.pointer (some ⟨qb, 0, none⟩), msgV m v, .int .i64 now] w fun e w' => e = .returned (.int .i64 (last + 1)) ∧ ∃ v', QAt w' qb site (last + 1) mb (n + 1) (D.put (kInt (last + 1)) (.held (wtV m v' (last + 1) now 0))) ∧ OwnH w.heap.size w' v' m.ho ∧ But2 qb mb w w' := by
  obtain ⟨q0, q1, q2⟩ := hq.cells
  have qf := frozen_of hq.blk 1
  have hqb := lt_of_block hq.blk
  have HQ := Lib.hid hq
  have HH := Lib.hid hh
  clear hq hh
  go_enter Tryd.func48, Tryd.ntmps48
  unfold msgV
  go_wp2_with fail
  obtain ⟨wq, hwq⟩ : ∃ wq, wq = (w.setCell ⟨qb, 1, none⟩ (.int .i64 (last + 1))).alloc (.cells (msgCells m v) 29) := ⟨_, rfl⟩
  have HQ1 := Lib.hid (show QAt wq qb site (last + 1) mb n D by rw [hwq]; exact (HQ.out.bump _).new _)
  have HM1 := Lib.hid (show MsgAt wq w.heap.size m v by rw [hwq, ← size_setCell w ⟨qb, 1, none⟩ (.int .i64 (last + 1))]; exact MsgAt.new _ m v _)
  have HB1 := Lib.hid (show But2 qb mb w wq by rw [hwq]; exact (But2.setCell w _).trans (But2.of_below ((Below.refl _ _).alloc (Nat.le_refl _) _)))
  have hs1 : wq.heap.size = w.heap.size + 1 := by rw [hwq, size_alloc, size_setCell]
  have HH1 := Lib.hid (show HopsIn wq v m.ho from HH.out.but2q HQ.out HB1.out hd)
  unfold msgCells at hwq
  rw [← hwq]
  clear hwq q0 q1 q2 qf
  have hbm : w.heap.size ≠ mb := by
    obtain ⟨es, c, h2, _⟩ := HQ.out.map
    have := lt_of_block h2
    omega
  have HP := Lib.hid (show ∀ x, But2 mb mb wq x → PutS qb w.heap.size mb (last + 1) m v wq x from fun x hx => PutS.of HQ1.out HM1.out (by omega) hbm hx)
  unfold PutS at HP
  go_region_held3 (fun w' => w'.cell? ⟨qb, 1, none⟩ = some (.int .i64 (last + 1)) ∧ w'.cell? ⟨qb, 2, none⟩ = some (.map (some mb)) ∧ w'.cell? ⟨w.heap.size, 0, none⟩ = some (.string m.fu) ∧ w'.cell? ⟨w.heap.size, 1, none⟩ = some (.string m.fs) ∧ w'.cell? ⟨w.heap.size, 2, none⟩ = some (.string m.tu) ∧ w'.cell? ⟨w.heap.size, 3, none⟩ = some (.string m.ts) ∧ w'.cell? ⟨w.heap.size, 4, none⟩ = some (.int .i64 m.nu) ∧ w'.cell? ⟨w.heap.size, 5, none⟩ = some (.int .i64 m.da) ∧ w'.cell? ⟨w.heap.size, 6, none⟩ = some (.string m.su) ∧ w'.cell? ⟨w.heap.size, 7, none⟩ = some v ∧ w'.cell? ⟨w.heap.size, 8, none⟩ = some (.string m.bo) ∧ But2 mb mb wq w')
    (first
      | exact HP.out _ (But2.of_below ((Below.refl _ _).drew))
      | exact HP.out _ hC9.out
      | exact HP.out _ (But2.of_below hB9.out))
    ((first
      | (go_at_call 49; refine (copied_s m v hn _ (HH1.out.below ((Below.refl _ _).drew))).mono ?_; rintro e w2 ⟨v2, rfl, ho2, hb9⟩; obtain ⟨a8, l8, c8, rfl⟩ := owns_slice ho2; have hO9 := Lib.hid (show OwnH (w.heap.size + 1) w2 (.slice a8 l8 c8) m.ho from owns_mono ho2 (Nat.le_of_eq hs1.symm)); clear ho2; have hB9 := Lib.hid (((Below.refl wq.heap.size wq).drew).trans (hb9.mono (Nat.le_refl _))); clear hb9; simp only [msgV])
      | (refine upon_mapUpdate (HQ1.out.below hB9.out).map (by omega) (by omega) (by omega) ?_; intro w3 hm3 ht3; have hM3 := Lib.hid hm3; have hT3 := Lib.hid ht3; have hC9 := Lib.hid ((But2.of_below (a := mb) (b := mb) hB9.out).trans (But2.of_grown ht3.grown)); clear hm3 ht3)))
  have hq3 : QAt w3 qb site (last + 1) mb (n + 1) (D.put (kInt (last + 1)) (.held (wtV m (.slice a8 l8 c8) (last + 1) now 0))) := by
    have hb3 := (But2.of_below (a := mb) (b := mb) hB9.out).trans (But2.of_grown hT3.out.grown)
    exact ⟨(hb3.block qb (lt_of_block HQ1.out.blk) HQ1.out.ne HQ1.out.ne).trans HQ1.out.blk, hM3.out⟩
  have ho3 : OwnH (w.heap.size + 1) w3 (.slice a8 l8 c8) m.ho := hO9.out.kept hT3.out.grown (.inr (fun e => by
    have := (hO9.out.lt mb e).1
    obtain ⟨es, c, h2, _⟩ := HQ.out.map
    have := lt_of_block h2
    omega))
  have hb3 : But2 qb mb w w3 := HB1.out.trans ((But2.of_below hB9.out).trans (But2.of_grown hT3.out.grown))
  obtain ⟨_, q1, _⟩ := hq3.cells
  have HQ3 := Lib.hid hq3
  have HO3 := Lib.hid ho3
  have HB3 := Lib.hid hb3
  clear hq3 ho3 hb3
  go_wp2_with fail
  go_ret
  exact ⟨rfl, _, HQ3.out, owns_mono HO3.out (by omega), HB3.out⟩
end Go.Proofs.YtkiheanpamplpaaDoor
