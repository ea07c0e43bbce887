/-
  Package mail: a message is added to a queue, and taken out of it.
-/
import Derived.Test.YtkiheanpamplpaaDoorQueB
set_option linter.unusedSimpArgs false
set_option linter.unusedVariables false
set_option linter.unnecessarySimpa false
namespace Go.Proofs.YtkiheanpamplpaaDoor
open Go.RowKit Go.Bul Go.Maps
set_option maxRecDepth 100000 in
set_option maxHeartbeats 2000000 in
theorem add_good (m : Ms) (v : Value) (ok : m.Ok) (now : Int) (w : World) (qb : Nat) (site : ByteArray) (last : Int) (mb n : Nat) (D : DataW Value) (hq : QAt w qb site last mb n D) (hl0 : 0 ≤ last) (hl1 : last ≤ 1000000) (hn9 : n ≤ 1000000) (hh : HopsIn w v m.ho) (hd : v.ownBlock ≠ some qb)
    (hc : checkE m = 0) (hm : 0 ≤ now ∧ now ≤ 105190559) (hsz : Maps.size D < 1024) :
    Calls Tryd.prog 24 #[.pointer (some ⟨qb, 0, none⟩), msgV m v, .int .i64 now] w fun e w' => e = .returned (.tuple #[.int .i64 (last + 1), .int .i64 0]) ∧ ∃ v', QAt w' qb site (last + 1) mb (n + 1) (D.put (kInt (last + 1)) (.held (wtV m v' (last + 1) now 0))) ∧ OwnH w.heap.size w' v' m.ho ∧ But2 qb mb w w' := by
  have hn := ok.hn
  have HQ := Lib.hid (hq.new (.cells (msgCells m v) 29))
  have HH := Lib.hid hh
  have OK := Lib.hid ok
  clear hh ok hq
  go_enter Tryd.func24, Tryd.ntmps24
  unfold msgV
  go_wp2_with fail
  refine (check_s m v OK.out _ (HH.out.below ((Below.refl _ _).alloc (Nat.le_refl _) _))).mono ?_
  rintro e w1 ⟨rfl, b1⟩
  rw [hc]
  have HB1 := Lib.hid (((Below.refl _ _).alloc (Nat.le_refl _) _).trans (b1.mono (by rw [size_alloc]; omega)))
  have HQ1 := Lib.hid (HQ.out.below b1)
  have HM1 := Lib.hid ((MsgAt.new w m v 29).below b1 (by rw [size_alloc]; omega))
  have HH1 := Lib.hid (HH.out.below HB1.out)
  have hs1 := HB1.out.size
  clear b1 hc
  go_wp2_with fail
  refine (minute_s now _).mono ?_
  rintro e w0 ⟨rfl, rfl⟩
  rw [show decide (0 ≤ now ∧ now ≤ 105190559) = true by simp; exact hm]
  clear hm
  obtain ⟨q0, q1, q2⟩ := HQ1.out.cells
  have i1 : (Maps.size D : Int) < 1024 := by omega
  go_wp2_with (at_len; refine wpList_len_own _ rfl _ 82 rfl 3 87 Tryd.underlying82 _ mb n D rfl HQ1.out.map ?_; obtain ⟨x0, x1, x2, x3, x4, x5, x6, x7, x8⟩ := HM1.out)
  refine (put_s m v now _ qb site last mb n D HQ1.out hl0 hl1 hn9 hn HH1.out hd).mono ?_
  rintro e w2 ⟨rfl, v2, hq2, ho2, hb2⟩
  have HQ2 := Lib.hid hq2
  have HO2 := Lib.hid (owns_mono ho2 hs1)
  have HB2 := Lib.hid ((But2.of_below HB1.out).trans hb2)
  clear hq2 ho2 hb2 x0 x1 x2 x3 x4 x5 x6 x7 x8 q0 q1 q2
  go_wp2_with fail
  go_ret2
  exact ⟨rfl, v2, HQ2.out, HO2.out, HB2.out⟩
def wtCells (m : Ms) (v : Value) (num due fl : Int) : Array Value := #[.string m.fu, .string m.fs, .string m.tu, .string m.ts, .int .i64 m.nu, .int .i64 m.da, .string m.su, v, .string m.bo, .int .i64 num, .int .i64 due, .int .i64 fl]
theorem wt_cell {w : World} {b : Nat} {m : Ms} {v : Value} {num due fl : Int} {t : TypeId} (h : w.heap[b]? = some (.cells (wtCells m v num due fl) t (0, 0))) (k : Nat) : w.cell? ⟨b, k, none⟩ = (wtCells m v num due fl)[k]? := by
  unfold World.cell?; rw [h]; rfl
theorem results_cell3 {P : Program} {fn : Func} {p u x : Tmp} {ty : TypeId} (h : fn.results = #[.cell p ty, .tmp u, .tmp x]) (tmps : Array Value) (w : World) (g : Nat) (t : TypeId) (cs : Array Value) (fr : Nat × Nat) (d : TypeDesc)
    (hp : tmps.getD p undef = .pointer (some ⟨g, 0, none⟩)) (hg : w.heap[g]? = some (.cells cs t fr))
    (hu : P.underlying ty = some d) (hd : (match d with | .struct _ | .array _ _ => true | _ => false) = true) (hi : (P.info? ty).map (·.size) = some cs.size) :
    (results fn tmps).run P w = .ok (.tuple #[.agg cs, tmps.getD u undef, tmps.getD x undef]) w := by
  have h1 : (results fn tmps).run P w = ((asAddr (tmps.getD p undef)).run P w).andThen fun a w₁ => ((loadVar ty a).run P w₁).andThen fun v w₂ => .ok (.tuple #[v, tmps.getD u undef, tmps.getD x undef]) w₂ := by
    simp only [results, h]
    simp [Sem.run_bind, Result.andThen]
  rw [h1, hp]
  simp [asAddr, run_loadVar_row w g t ty cs fr d hg hu hd hi]
theorem set9_but2 {a b : Nat} {w0 w : World} (h : But2 a a w0 w) (hb : b = a) (a0 a1 a2 a3 a4 a5 a6 a7 a8 : Value) : But2 a a w0 (set9 w b a0 a1 a2 a3 a4 a5 a6 a7 a8) := by
  subst hb
  unfold set9
  iterate 9 refine But2.trans ?_ (But2.setCell _ _)
  exact h
set_option maxRecDepth 100000 in
theorem wp_store9 {o : Oper} {a : Act} {K : Act → World → Prop} {Q : Exit → Act → World → Prop} {w : World} {b : Nat} {m0 : Ms} {v0 : Value} {t : TypeId} (p x : Operand) (m : Ms) (s : Option Addr) (l c : Nat) (ho : o.op = .store 29 p x) (hp : a.eval p = .pointer (some ⟨b, 0, none⟩)) (hv : a.eval x = msgV m (.slice s l c))
    (hz : w.heap[b]? = some (.cells (msgCells m0 v0) t (0, 0)))
    (h : K (a.put o.dst undef) (set9 w b (.string m.fu) (.string m.fs) (.string m.tu) (.string m.ts) (.int .i64 m.nu) (.int .i64 m.da) (.string m.su) (.slice s l c) (.string m.bo))) : o.wp Tryd.prog a w K Q := by
  have f0 := frozen_of hz 0
  have f1 := frozen_of hz 1
  have f2 := frozen_of hz 2
  have f3 := frozen_of hz 3
  have f4 := frozen_of hz 4
  have f5 := frozen_of hz 5
  have f6 := frozen_of hz 6
  have f7 := frozen_of hz 7
  have f8 := frozen_of hz 8
  obtain ⟨y0, y1, y2, y3, y4, y5, y6, y7, y8⟩ := MsgAt.of_block hz
  unfold Oper.wp execOp
  simp only [ho, hp, hv, msgV]
  go_simp
  exact h
set_option maxRecDepth 100000 in
set_option maxHeartbeats 2000000 in
theorem get_has (m : Ms) (hv : Value) (num due fl : Int) (k : Int) (h0 : -9223372036854775808 ≤ k) (h1 : k ≤ 9223372036854775807) (w : World) (qb : Nat) (site : ByteArray) (last : Int) (mb n : Nat) (D : DataW Value) (hq : QAt w qb site last mb n D)
    (hhas : Maps.has D (kInt k) = true) (hat : D.atKey (kInt k) (.held zeroW) = .held (wtV m hv num due fl)) (hn : m.ho.length ≤ 100000) (hh : HopsIn w hv m.ho) :
    Calls Tryd.prog 27 #[.pointer (some ⟨qb, 0, none⟩), .int .i64 k] w fun e w' => ∃ v', e = .returned (.tuple #[msgV m v', .int .i64 due, .bool true]) ∧ OwnH w.heap.size w' v' m.ho ∧ Below w.heap.size w w' := by
  have HQ := Lib.hid (hq.new (.cells (msgCells noMs (.slice none 0 0)) 29))
  have HH := Lib.hid hh
  obtain ⟨a9, c9, rfl⟩ := hh.shape
  have HK := Lib.hid (keyOf_k k h0 h1)
  have HA := Lib.hid hat
  have HS := Lib.hid hhas
  obtain ⟨q0, q1, q2⟩ := hq.cells
  have hqb := lt_of_block hq.blk
  clear hh hq hat hhas h0 h1
  go_enter Tryd.func27, Tryd.ntmps27
  go_wp2_with (at_lookup; refine wpList_lookup_own_ok _ rfl _ _ 82 rfl 3 87 keyed Tryd.underlying82 RV (zeroWaiting _) (.held zeroW) [] rfl mb n D rfl HQ.out.map _ _ rfl HK.out ?_; intro vv ps hvv; have hv2 := (Prod.mk.inj (Option.some.inj hvv)).1; rw [HA.out] at hv2; obtain rfl := (DataW.held.inj hv2); rw [HS.out]; clear hvv hv2; simp only [wtV])
  obtain ⟨wq, hwq⟩ : ∃ wq, wq = (w.alloc (.cells (msgCells noMs (.slice none 0 0)) 29)).alloc (.cells (wtCells m (.slice a9 m.ho.length c9) num due fl) 87) := ⟨_, rfl⟩
  have HW := Lib.hid (show wq.heap[w.heap.size + 1]? = some (.cells (wtCells m (.slice a9 m.ho.length c9) num due fl) 87 (0, 0)) by rw [hwq]; exact two_last w _ _)
  have HZ := Lib.hid (show wq.heap[w.heap.size]? = some (.cells (msgCells noMs (.slice none 0 0)) 29 (0, 0)) by rw [hwq]; exact (Below.heap_alloc _ _ _ (by rw [size_alloc]; omega)).trans (heap_alloc_new _ _))
  have HB := Lib.hid (show Below w.heap.size w wq by rw [hwq]; exact two_allocs w _ _)
  have hs1 : wq.heap.size = w.heap.size + 2 := by rw [hwq, size_alloc, size_alloc]
  have HH1 := Lib.hid (HH.out.below HB.out)
  have hwq2 := hwq
  clear hwq
  simp only [msgCells, wtCells, noMs] at hwq2
  rw [← hwq2]
  clear hwq2 q0 q1 q2
  have HP := Lib.hid (show ∀ x, But2 w.heap.size w.heap.size wq x → x.cell? ⟨w.heap.size + 1, 0, none⟩ = some (.string m.fu) ∧ x.cell? ⟨w.heap.size + 1, 1, none⟩ = some (.string m.fs) ∧ x.cell? ⟨w.heap.size + 1, 2, none⟩ = some (.string m.tu) ∧ x.cell? ⟨w.heap.size + 1, 3, none⟩ = some (.string m.ts) ∧ x.cell? ⟨w.heap.size + 1, 4, none⟩ = some (.int .i64 m.nu) ∧ x.cell? ⟨w.heap.size + 1, 5, none⟩ = some (.int .i64 m.da) ∧ x.cell? ⟨w.heap.size + 1, 6, none⟩ = some (.string m.su) ∧ x.cell? ⟨w.heap.size + 1, 7, none⟩ = some (.slice a9 m.ho.length c9) ∧ x.cell? ⟨w.heap.size + 1, 8, none⟩ = some (.string m.bo) ∧ x.cell? ⟨w.heap.size + 1, 10, none⟩ = some (.int .i64 due) ∧ But2 w.heap.size w.heap.size wq x from fun x hx => by
    have h := (hx.block (w.heap.size + 1) (by omega) (by omega) (by omega)).trans HW.out
    exact ⟨wt_cell h 0, wt_cell h 1, wt_cell h 2, wt_cell h 3, wt_cell h 4, wt_cell h 5, wt_cell h 6, wt_cell h 7, wt_cell h 8, wt_cell h 10, hx⟩)
  refine wp_region_noPanic ?_
  refine wp_region_held_drew (S := (fun x => x.cell? ⟨w.heap.size + 1, 0, none⟩ = some (.string m.fu) ∧ x.cell? ⟨w.heap.size + 1, 1, none⟩ = some (.string m.fs) ∧ x.cell? ⟨w.heap.size + 1, 2, none⟩ = some (.string m.tu) ∧ x.cell? ⟨w.heap.size + 1, 3, none⟩ = some (.string m.ts) ∧ x.cell? ⟨w.heap.size + 1, 4, none⟩ = some (.int .i64 m.nu) ∧ x.cell? ⟨w.heap.size + 1, 5, none⟩ = some (.int .i64 m.da) ∧ x.cell? ⟨w.heap.size + 1, 6, none⟩ = some (.string m.su) ∧ x.cell? ⟨w.heap.size + 1, 7, none⟩ = some (.slice a9 m.ho.length c9) ∧ x.cell? ⟨w.heap.size + 1, 8, none⟩ = some (.string m.bo) ∧ x.cell? ⟨w.heap.size + 1, 10, none⟩ = some (.int .i64 due) ∧ But2 w.heap.size w.heap.size wq x)) (by kernel_rfl) (HP.out _ (But2.of_below ((Below.refl _ _).drew))) (fun hS => ?_)
  refine wpAnyH_take (i := 0) (v := ?vv0) rfl (by kernel_rfl) (by kernel_rfl) (by kernel_rfl) (fun _ _ _ h => h) (Or.inl ⟨by rfl, ?hy0⟩) hS ?rest0
  case hy0 => (intro x hSw; (try dsimp only at hSw); go_simp; (try with_reducible rfl))
  try simp only [List.getElem_toArray, List.getElem_cons_succ, List.getElem_cons_zero, Act.put, List.setIfInBounds_toArray, List.set_cons_zero, List.set_cons_succ]
  refine wpAnyH_take (i := 1) (v := ?vv1) rfl (by kernel_rfl) (by kernel_rfl) (by kernel_rfl) (fun _ _ _ h => h) (Or.inl ⟨by rfl, ?hy1⟩) hS ?rest1
  case hy1 => (intro x hSw; (try dsimp only at hSw); go_simp; (try with_reducible rfl))
  try simp only [List.getElem_toArray, List.getElem_cons_succ, List.getElem_cons_zero, Act.put, List.setIfInBounds_toArray, List.set_cons_zero, List.set_cons_succ]
  refine wpAnyH_take (i := 3) (v := ?vv3) rfl (by kernel_rfl) (by kernel_rfl) (by kernel_rfl) (fun _ _ _ h => h) (Or.inl ⟨by rfl, ?hy3⟩) hS ?rest3
  case hy3 => (intro x hSw; (try dsimp only at hSw); go_simp; (try with_reducible rfl))
  try simp only [List.getElem_toArray, List.getElem_cons_succ, List.getElem_cons_zero, Act.put, List.setIfInBounds_toArray, List.set_cons_zero, List.set_cons_succ]
  refine wpAnyH_take (i := 4) (v := ?vv4) rfl (by kernel_rfl) (by kernel_rfl) (by kernel_rfl) (fun _ _ _ h => h) (Or.inl ⟨by rfl, ?hy4⟩) hS ?rest4
  case hy4 => (intro x hSw; (try dsimp only at hSw); go_simp; (try with_reducible rfl))
  try simp only [List.getElem_toArray, List.getElem_cons_succ, List.getElem_cons_zero, Act.put, List.setIfInBounds_toArray, List.set_cons_zero, List.set_cons_succ]
  refine wpAnyH_take (i := 5) (v := ?vv5) rfl (by kernel_rfl) (by kernel_rfl) (by kernel_rfl) (fun _ _ _ h => h) (Or.inl ⟨by rfl, ?hy5⟩) hS ?rest5
  case hy5 => (intro x hSw; (try dsimp only at hSw); go_simp; (try with_reducible rfl))
  try simp only [List.getElem_toArray, List.getElem_cons_succ, List.getElem_cons_zero, Act.put, List.setIfInBounds_toArray, List.set_cons_zero, List.set_cons_succ]
  refine wpAnyH_ready (rs := [2]) (by kernel_rfl) (by simp) ?_
  refine AllReadyH.cons rfl (fun K hK => ?_) AllReadyH.nil
  go_simp
  go_at_call 49
  refine (copied_s m _ hn _ (HH1.out.below ((Below.refl _ _).drew))).mono ?_
  rintro e w2 ⟨v2, rfl, ho2, hb9⟩
  obtain ⟨a8, l8, c8, rfl⟩ := owns_slice ho2
  have hO9 := Lib.hid (show OwnH (w.heap.size + 2) w2 (.slice a8 l8 c8) m.ho from owns_mono ho2 (Nat.le_of_eq hs1.symm))
  have hB9 := Lib.hid (((Below.refl wq.heap.size wq).drew).trans (hb9.mono (Nat.le_refl _)))
  have HZ2 := Lib.hid ((hB9.out.block w.heap.size (by omega)).trans HZ.out)
  clear hS ho2 hb9
  refine hK.out _ _ (HP.out _ (But2.of_below hB9.out)) (fun hS => ?_)
  clear hK K
  try simp only [List.getElem_toArray, List.getElem_cons_succ, List.getElem_cons_zero, Act.put, List.setIfInBounds_toArray, List.set_cons_zero, List.set_cons_succ]
  refine wpAnyH_ready (rs := [6]) (by kernel_rfl) (by simp) ?_
  refine AllReadyH.cons rfl (fun K hK => ?_) AllReadyH.nil
  rw [if_pos (by rfl)]
  refine wp_store9 (.tmp 4) (.tmp 23) m a8 l8 c8 rfl rfl rfl HZ2.out ?_
  clear hS
  have HC9 := Lib.hid (set9_but2 (b := w.heap.size) (But2.of_below hB9.out) rfl (.string m.fu) (.string m.fs) (.string m.tu) (.string m.ts) (.int .i64 m.nu) (.int .i64 m.da) (.string m.su) (.slice a8 l8 c8) (.string m.bo))
  refine hK.out _ _ (HP.out _ HC9.out) (fun hS => ?_)
  clear hK K
  try simp only [List.getElem_toArray, List.getElem_cons_succ, List.getElem_cons_zero, Act.put, List.setIfInBounds_toArray, List.set_cons_zero, List.set_cons_succ]
  refine wpAnyH_take (i := 7) (v := ?vv7) rfl (by kernel_rfl) (by kernel_rfl) (by kernel_rfl) (fun _ _ _ h => h) (Or.inl ⟨by rfl, ?hy7⟩) hS ?rest7
  case hy7 => (intro x hSw; (try dsimp only at hSw); go_simp; (try with_reducible rfl))
  try simp only [List.getElem_toArray, List.getElem_cons_succ, List.getElem_cons_zero, Act.put, List.setIfInBounds_toArray, List.set_cons_zero, List.set_cons_succ]
  refine wpAnyH_take (i := 8) (v := ?vv8) rfl (by kernel_rfl) (by kernel_rfl) (by kernel_rfl) (fun _ _ _ h => h) (Or.inl ⟨by rfl, ?hy8⟩) hS ?rest8
  case hy8 => (intro x hSw; (try dsimp only at hSw); go_simp; (try with_reducible rfl))
  try simp only [List.getElem_toArray, List.getElem_cons_succ, List.getElem_cons_zero, Act.put, List.setIfInBounds_toArray, List.set_cons_zero, List.set_cons_succ]
  refine wpAnyH_done (by kernel_rfl) ?_ _
  refine NoPanic.normal ?_
  clear hS
  go_wp2_with fail
  refine bodyPost_ret (results_cell3 rfl _ _ w.heap.size _ _ _ _ rfl (set9_block HZ2.out _ _ _ _ _ _ _ _ _) Tryd.underlying29 rfl (by kernel_rfl)) rfl ?_
  exact ⟨_, rfl, OwnH.set9 (b := w.heap.size) hO9.out (by omega) (by omega) _ _ _ _ _ _ _ _ _, set9_below (B := w.heap.size) (b := w.heap.size) (HB.out.trans (hB9.out.mono (by omega))) (Nat.le_refl _) _ _ _ _ _ _ _ _ _⟩
end Go.Proofs.YtkiheanpamplpaaDoor
