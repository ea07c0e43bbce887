/-
  Package mail: a delivery fails for the last time, and a bounce is added.
-/
import Derived.Test.YtkiheanpamplpaaDoorQueD
set_option linter.unusedSimpArgs false
set_option linter.unusedVariables false
set_option linter.unnecessarySimpa false
namespace Go.Proofs.YtkiheanpamplpaaDoor
open Go.RowKit Go.Bul Go.Maps
theorem QAt.deleted {w w' : World} {qb : Nat} {site : ByteArray} {last : Int} {mb n : Nat} {D D' : DataW Value} (h : QAt w qb site last mb n D) (hm : w'.ownsMap Tryd.prog 3 RV mb n D') (ht : w.mapTurned w' mb) : QAt w' qb site last mb n D' :=
  ⟨(ht.grown.block qb (lt_of_block h.blk) (fun e => h.ne (Option.some.inj e))).trans h.blk, hm⟩
theorem turned_block {w w' : World} {mb b : Nat} {o : Obj} (ht : w.mapTurned w' mb) (h : w.heap[b]? = some o) (hne : b ≠ mb) : w'.heap[b]? = some o :=
  (ht.grown.block b (lt_of_block h) (fun e => hne (Option.some.inj e))).trans h
set_option maxRecDepth 100000 in
set_option maxHeartbeats 1000000 in
theorem fail_bounce (m : Ms) (hv : Value) (ok : m.Ok) (num due fl : Int) (hf0 : 0 ≤ fl) (hf1 : fl ≤ 1000) (k : Int) (h0 : -9223372036854775808 ≤ k) (h1 : k ≤ 9223372036854775807) (now code : Int) (k0 : -9223372036854775808 ≤ code) (k1 : code ≤ 9223372036854775807) (w : World) (qb : Nat) (site : ByteArray) (hsite : site.size ≤ maxLen) (last : Int) (hl0 : 0 ≤ last) (hl1 : last ≤ 1000000) (mb n : Nat) (hn9 : n ≤ 1000000) (hg : ∀ w', But2 qb mb w w' → Gl w') (D : DataW Value) (hq : QAt w qb site last mb n D)
    (hhas : Maps.has D (kInt k) = true) (hat : D.atKey (kInt k) (.held zeroW) = .held (wtV m hv num due fl)) (hh : HopsIn w hv m.ho) (hne : hv.ownBlock ≠ some qb) (hm : 0 ≤ now ∧ now ≤ 105190559) (hc : checkE m = 0) (hs : siteE site = 0) (hfu : m.fu.size ≠ 0) :
    Calls Tryd.prog 26 #[.pointer (some ⟨qb, 0, none⟩), .int .i64 k, .int .i64 now, .int .i64 code, .bool true] w fun e w' => e = .returned (.tuple #[.int .i64 (last + 1), .bool true, .int .i64 0]) ∧ ∃ v', QAt w' qb site (last + 1) mb (n + 1) ((D.del (kInt k)).put (kInt (last + 1)) (.held (wtV (bounceM m site code now) v' (last + 1) now 0))) ∧ OwnH w.heap.size w' v' [] ∧ But2 qb mb w w' := by
  have HQ := Lib.hid hq
  obtain ⟨sa, sc, rfl⟩ := hh.shape
  have HK := Lib.hid (keyOf_k k h0 h1)
  have HA := Lib.hid hat
  have HS := Lib.hid hhas
  have HH := Lib.hid hh
  have HNE := Lib.hid hne
  have OK := Lib.hid ok
  have HC := Lib.hid hc
  have HST := Lib.hid hs
  have HFU := Lib.hid hfu
  have HK0 := Lib.hid k0
  have HK1 := Lib.hid k1
  have HG := Lib.hid hg
  obtain ⟨q0, q1, q2⟩ := hq.cells
  have hqb := lt_of_block hq.blk
  have hmb := hq.mlt
  have hw1 : IntKind.i64.wrap (fl + 1) = fl + 1 := IntWalk.i64_in _ (by omega)
  clear hq hat hhas h0 h1 hh hne ok hc hs hfu k0 k1 hg
  go_enter Tryd.func26, Tryd.ntmps26
  go_wp2_with (at_lookup; refine wpList_lookup_own_ok _ rfl _ _ 82 rfl 3 87 keyed Tryd.underlying82 RV (zeroWaiting _) (.held zeroW) [] rfl mb n D rfl HQ.out.map _ _ rfl HK.out ?_; intro vv ps hvv; have hv2 := (Prod.mk.inj (Option.some.inj hvv)).1; rw [HA.out] at hv2; obtain rfl := (DataW.held.inj hv2); rw [HS.out]; clear hvv hv2; simp only [wtV])
  refine (minute_s now _).mono ?_
  rintro e w' ⟨rfl, rfl⟩
  rw [show decide (0 ≤ now ∧ now ≤ 105190559) = true by simp; exact hm]
  go_wp2_with (at_delete; refine wpList_delete_own _ rfl _ _ 82 3 rfl 87 keyed Tryd.underlying82 RV mb n D rfl (HQ.out.new _).map _ _ rfl HK.out ?_; intro w1 hm1 ht1; have HQ1 := Lib.hid ((HQ.out.new _).deleted hm1 ht1); have HT1 := Lib.hid ht1; clear hm1)
  go_frame
  obtain ⟨_, q1', _⟩ := HQ1.out.cells
  have q0' := HQ1.out.cells.1
  have HWb := Lib.hid (show w1.heap[w.heap.size]? = some (.cells (wtCells m (.slice sa m.ho.length sc) num due (fl + 1)) 87 (0, 0)) from turned_block HT1.out (heap_alloc_new w _) (by omega))
  have HB1 := Lib.hid (show But2 qb mb w w1 from (But2.of_below ((Below.refl _ _).alloc (Nat.le_refl _) _)).trans (But2.of_grown HT1.out.grown))
  have hs1 : w.heap.size < w1.heap.size := lt_of_block HWb.out
  have HH1 := Lib.hid (HH.out.but2q HQ.out HB1.out HNE.out)
  have hbc := fun (W : World) (hb : Below w1.heap.size w1 W) => bounce_c m _ OK.out site hsite code now HK0.out HK1.out W (HG.out _ (HB1.out.trans (But2.of_below hb))) HFU.out (HH1.out.below hb) HC.out HST.out hm
  have HBC := Lib.hid hbc
  clear hbc
  have HP := Lib.hid (show ∀ x, Below w1.heap.size w1 x → x.cell? ⟨w.heap.size, 0, none⟩ = some (.string m.fu) ∧ x.cell? ⟨w.heap.size, 1, none⟩ = some (.string m.fs) ∧ x.cell? ⟨w.heap.size, 2, none⟩ = some (.string m.tu) ∧ x.cell? ⟨w.heap.size, 3, none⟩ = some (.string m.ts) ∧ x.cell? ⟨w.heap.size, 4, none⟩ = some (.int .i64 m.nu) ∧ x.cell? ⟨w.heap.size, 5, none⟩ = some (.int .i64 m.da) ∧ x.cell? ⟨w.heap.size, 6, none⟩ = some (.string m.su) ∧ x.cell? ⟨w.heap.size, 7, none⟩ = some (.slice sa m.ho.length sc) ∧ x.cell? ⟨w.heap.size, 8, none⟩ = some (.string m.bo) ∧ x.cell? ⟨qb, 0, none⟩ = some (.string site) ∧ Below w1.heap.size w1 x from fun x hx => by
    have h := (hx.block _ hs1).trans HWb.out
    exact ⟨wt_cell h 0, wt_cell h 1, wt_cell h 2, wt_cell h 3, wt_cell h 4, wt_cell h 5, wt_cell h 6, wt_cell h 7, wt_cell h 8, (HQ1.out.below hx).cells.1, hx⟩)
  refine wp_region_noPanic ?_
  refine wp_region_held_drew (S := fun x => x.cell? ⟨w.heap.size, 0, none⟩ = some (.string m.fu) ∧ x.cell? ⟨w.heap.size, 1, none⟩ = some (.string m.fs) ∧ x.cell? ⟨w.heap.size, 2, none⟩ = some (.string m.tu) ∧ x.cell? ⟨w.heap.size, 3, none⟩ = some (.string m.ts) ∧ x.cell? ⟨w.heap.size, 4, none⟩ = some (.int .i64 m.nu) ∧ x.cell? ⟨w.heap.size, 5, none⟩ = some (.int .i64 m.da) ∧ x.cell? ⟨w.heap.size, 6, none⟩ = some (.string m.su) ∧ x.cell? ⟨w.heap.size, 7, none⟩ = some (.slice sa m.ho.length sc) ∧ x.cell? ⟨w.heap.size, 8, none⟩ = some (.string m.bo) ∧ x.cell? ⟨qb, 0, none⟩ = some (.string site) ∧ Below w1.heap.size w1 x) (by kernel_rfl) (HP.out _ ((Below.refl _ _).drew)) (fun hS => ?_)
  refine wpAnyH_take (i := 0) (v := ?vv0) rfl (by kernel_rfl) (by kernel_rfl) (by kernel_rfl) (fun _ _ _ h => h) (Or.inl ⟨by rfl, ?hy0⟩) hS ?rest0
  case hy0 => (intro x hSw; (try dsimp only at hSw); go_simp; (try with_reducible rfl))
  try simp only [List.getElem_toArray, List.getElem_cons_succ, List.getElem_cons_zero, Act.put, List.setIfInBounds_toArray, List.set_cons_zero, List.set_cons_succ]
  refine wpAnyH_take (i := 1) (v := ?vv1) rfl (by kernel_rfl) (by kernel_rfl) (by kernel_rfl) (fun _ _ _ h => h) (Or.inl ⟨by rfl, ?hy1⟩) hS ?rest1
  case hy1 => (intro x hSw; (try dsimp only at hSw); go_simp; (try with_reducible rfl))
  try simp only [List.getElem_toArray, List.getElem_cons_succ, List.getElem_cons_zero, Act.put, List.setIfInBounds_toArray, List.set_cons_zero, List.set_cons_succ]
  refine wpAnyH_take (i := 2) (v := ?vv2) rfl (by kernel_rfl) (by kernel_rfl) (by kernel_rfl) (fun _ _ _ h => h) (Or.inl ⟨by rfl, ?hy2⟩) hS ?rest2
  case hy2 => (intro x hSw; (try dsimp only at hSw); go_simp; (try with_reducible rfl))
  try simp only [List.getElem_toArray, List.getElem_cons_succ, List.getElem_cons_zero, Act.put, List.setIfInBounds_toArray, List.set_cons_zero, List.set_cons_succ]
  refine wpAnyH_take (i := 3) (v := ?vv3) rfl (by kernel_rfl) (by kernel_rfl) (by kernel_rfl) (fun _ _ _ h => h) (Or.inl ⟨by rfl, ?hy3⟩) hS ?rest3
  case hy3 => (intro x hSw; (try dsimp only at hSw); go_simp; (try with_reducible rfl))
  try simp only [List.getElem_toArray, List.getElem_cons_succ, List.getElem_cons_zero, Act.put, List.setIfInBounds_toArray, List.set_cons_zero, List.set_cons_succ]
  refine wpAnyH_take (i := 4) (v := ?vv4) rfl (by kernel_rfl) (by kernel_rfl) (by kernel_rfl) (fun _ _ _ h => h) (Or.inl ⟨by rfl, ?hy4⟩) hS ?rest4
  case hy4 => (intro x hSw; (try dsimp only at hSw); go_simp; (try with_reducible rfl))
  try simp only [List.getElem_toArray, List.getElem_cons_succ, List.getElem_cons_zero, Act.put, List.setIfInBounds_toArray, List.set_cons_zero, List.set_cons_succ]
  refine wpAnyH_take (i := 5) (v := ?vv5) rfl (by kernel_rfl) (by kernel_rfl) (by kernel_rfl) (fun _ _ _ h => h) (Or.inl ⟨by rfl, ?hy5⟩) hS ?rest5
  case hy5 => (intro x hSw; (try dsimp only at hSw); go_simp; (try with_reducible rfl))
  try simp only [List.getElem_toArray, List.getElem_cons_succ, List.getElem_cons_zero, Act.put, List.setIfInBounds_toArray, List.set_cons_zero, List.set_cons_succ]
  refine wpAnyH_take (i := 6) (v := ?vv6) rfl (by kernel_rfl) (by kernel_rfl) (by kernel_rfl) (fun _ _ _ h => h) (Or.inl ⟨by rfl, ?hy6⟩) hS ?rest6
  case hy6 => (intro x hSw; (try dsimp only at hSw); go_simp; (try with_reducible rfl))
  try simp only [List.getElem_toArray, List.getElem_cons_succ, List.getElem_cons_zero, Act.put, List.setIfInBounds_toArray, List.set_cons_zero, List.set_cons_succ]
  refine wpAnyH_take (i := 7) (v := ?vv7) rfl (by kernel_rfl) (by kernel_rfl) (by kernel_rfl) (fun _ _ _ h => h) (Or.inl ⟨by rfl, ?hy7⟩) hS ?rest7
  case hy7 => (intro x hSw; (try dsimp only at hSw); go_simp; (try with_reducible rfl))
  try simp only [List.getElem_toArray, List.getElem_cons_succ, List.getElem_cons_zero, Act.put, List.setIfInBounds_toArray, List.set_cons_zero, List.set_cons_succ]
  refine wpAnyH_ready (rs := [8, 12]) (by kernel_rfl) (by simp) ?_
  refine AllReadyH.cons rfl (fun K hK => ?_) (AllReadyH.cons rfl (fun K hK => ?_) AllReadyH.nil)
  · go_simp
    go_at_call 10
    refine (HBC.out _ ((Below.refl _ _).drew)).mono ?_
    rintro e w2 ⟨rfl, hb9⟩
    have HB9 := Lib.hid (((Below.refl w1.heap.size w1).drew).trans (hb9.mono (Nat.le_refl _)))
    clear hS hb9
    refine hK.out _ _ (HP.out _ HB9.out) (fun hS => ?_)
    clear hK K
    try simp only [List.getElem_toArray, List.getElem_cons_succ, List.getElem_cons_zero, Act.put, List.setIfInBounds_toArray, List.set_cons_zero, List.set_cons_succ]
    refine wpAnyH_take (i := 9) (v := ?vv9) rfl (by kernel_rfl) (by kernel_rfl) (by kernel_rfl) (fun _ _ _ h => h) (Or.inl ⟨by rfl, ?hy9⟩) hS ?rest9
    case hy9 => (intro x hSw; (try dsimp only at hSw); go_simp; (try with_reducible rfl))
    try simp only [List.getElem_toArray, List.getElem_cons_succ, List.getElem_cons_zero, Act.put, List.setIfInBounds_toArray, List.set_cons_zero, List.set_cons_succ]
    refine wpAnyH_take (i := 10) (v := ?vv10) rfl (by kernel_rfl) (by kernel_rfl) (by kernel_rfl) (fun _ _ _ h => h) (Or.inl ⟨by rfl, ?hy10⟩) hS ?rest10
    case hy10 => (intro x hSw; (try dsimp only at hSw); go_simp; (try with_reducible rfl))
    try simp only [List.getElem_toArray, List.getElem_cons_succ, List.getElem_cons_zero, Act.put, List.setIfInBounds_toArray, List.set_cons_zero, List.set_cons_succ]
    refine wpAnyH_take (i := 11) (v := ?vv11) rfl (by kernel_rfl) (by kernel_rfl) (by kernel_rfl) (fun _ _ _ h => h) (Or.inl ⟨by rfl, ?hy11⟩) hS ?rest11
    case hy11 => (intro x hSw; (try dsimp only at hSw); go_simp; (try with_reducible rfl))
    try simp only [List.getElem_toArray, List.getElem_cons_succ, List.getElem_cons_zero, Act.put, List.setIfInBounds_toArray, List.set_cons_zero, List.set_cons_succ]
    refine wpAnyH_ready (rs := [12]) (by kernel_rfl) (by simp) ?_
    refine AllReadyH.cons rfl (fun K hK => ?_) AllReadyH.nil
    go_simp
    have HB4 := Lib.hid (show Below w1.heap.size w1 (w2.alloc (.cells (msgCells noMs (.slice none 0 0)) 29)) from HB9.out.alloc HB9.out.size _)
    have HZ2 := Lib.hid (heap_alloc_new w2 (.cells (msgCells noMs (.slice none 0 0)) 29))
    have hs2 := HB9.out.size
    clear hS
    refine hK.out _ _ (HP.out _ HB4.out) (fun hS => ?_)
    clear hK K
    try simp only [List.getElem_toArray, List.getElem_cons_succ, List.getElem_cons_zero, Act.put, List.setIfInBounds_toArray, List.set_cons_zero, List.set_cons_succ]
    refine wpAnyH_ready (rs := [13]) (by kernel_rfl) (by simp) ?_
    refine AllReadyH.cons rfl (fun K hK => ?_) AllReadyH.nil
    rw [if_pos (by rfl)]
    refine wp_store9 (.tmp 15) (.tmp 74) (bounceM m site code now) none 0 0 rfl rfl rfl HZ2.out ?_
    clear hS
    have HB5 := Lib.hid (set9_below (b := w2.heap.size) HB4.out (by omega) (.string (bounceM m site code now).fu) (.string (bounceM m site code now).fs) (.string (bounceM m site code now).tu) (.string (bounceM m site code now).ts) (.int .i64 (bounceM m site code now).nu) (.int .i64 (bounceM m site code now).da) (.string (bounceM m site code now).su) (.slice none 0 0) (.string (bounceM m site code now).bo))
    have HZ5 := Lib.hid (set9_block HZ2.out (.string (bounceM m site code now).fu) (.string (bounceM m site code now).fs) (.string (bounceM m site code now).tu) (.string (bounceM m site code now).ts) (.int .i64 (bounceM m site code now).nu) (.int .i64 (bounceM m site code now).da) (.string (bounceM m site code now).su) (.slice none 0 0) (.string (bounceM m site code now).bo))
    refine hK.out _ _ (HP.out _ HB5.out) (fun hS => ?_)
    clear hK K
    try simp only [List.getElem_toArray, List.getElem_cons_succ, List.getElem_cons_zero, Act.put, List.setIfInBounds_toArray, List.set_cons_zero, List.set_cons_succ]
    refine wpAnyH_take (i := 14) (v := ?vv14) rfl (by kernel_rfl) (by kernel_rfl) (by kernel_rfl) (fun _ _ _ h => h) (Or.inl ⟨by rfl, ?hy14⟩) hS ?rest14
    case hy14 => (intro x hSw; (try dsimp only at hSw); go_simp; (try with_reducible rfl))
    try simp only [List.getElem_toArray, List.getElem_cons_succ, List.getElem_cons_zero, Act.put, List.setIfInBounds_toArray, List.set_cons_zero, List.set_cons_succ]
    refine wpAnyH_done (by kernel_rfl) ?_ _
    refine NoPanic.normal ?_
    clear hS
    change Exit.then _ _ Exit.normal _ (set9 (w2.alloc (.cells (msgCells noMs (.slice none 0 0)) 29)) _ _ _ _ _ _ _ _ _ _)
    generalize set9 _ _ _ _ _ _ _ _ _ _ _ = w5 at HB5 HZ5 ⊢
    obtain ⟨x0, x1, x2, x3, x4, x5, x6, x7, x8⟩ := MsgAt.of_block (m := bounceM m site code now) (v := .slice none 0 0) HZ5.out
    have HQ5 := Lib.hid (HQ1.out.below HB5.out)
    have HB6 := Lib.hid (HB1.out.trans (But2.of_below (a := qb) (b := mb) HB5.out))
    go_wp2_with fail
    refine (put_s (bounceM m site code now) (.slice none 0 0) now _ qb site last mb n _ HQ5.out hl0 hl1 hn9 (by show (0 : Nat) ≤ _; omega) (.inl ⟨rfl, none, 0, rfl, fun _ => rfl⟩) (by simp [Value.ownBlock])).mono ?_
    rintro e w6 ⟨rfl, v6, hq6, ho6, hb6⟩
    have HQ6 := Lib.hid hq6
    have HO6 := Lib.hid (show OwnH w.heap.size w6 v6 [] from owns_mono ho6 HB6.out.size)
    have HB7 := Lib.hid (HB6.out.trans hb6)
    clear hq6 ho6 hb6 x0 x1 x2 x3 x4 x5 x6 x7 x8
    go_wp2_with fail
    go_ret3
    exact ⟨rfl, v6, HQ6.out, HO6.out, HB7.out⟩
  · go_simp
    have HB8 := Lib.hid (show Below w1.heap.size w1 (w1.drew.alloc (.cells (msgCells noMs (.slice none 0 0)) 29)) from ((Below.refl w1.heap.size w1).drew).alloc (Nat.le_refl _) _)
    have HZ1 := Lib.hid (heap_alloc_new w1.drew (.cells (msgCells noMs (.slice none 0 0)) 29))
    clear hS
    refine hK.out _ _ (HP.out _ HB8.out) (fun hS => ?_)
    clear hK K
    try simp only [List.getElem_toArray, List.getElem_cons_succ, List.getElem_cons_zero, Act.put, List.setIfInBounds_toArray, List.set_cons_zero, List.set_cons_succ]
    refine wpAnyH_ready (rs := [8]) (by kernel_rfl) (by simp) ?_
    refine AllReadyH.cons rfl (fun K hK => ?_) AllReadyH.nil
    go_simp
    go_at_call 10
    refine (HBC.out _ HB8.out).mono ?_
    rintro e w2 ⟨rfl, hb9⟩
    have HB4 := Lib.hid (HB8.out.trans (hb9.mono HB8.out.size))
    have HZ2 := Lib.hid ((hb9.block w1.heap.size (lt_of_block HZ1.out)).trans HZ1.out)
    have hs2 := HB4.out.size
    clear hS hb9
    refine hK.out _ _ (HP.out _ HB4.out) (fun hS => ?_)
    clear hK K
    try simp only [List.getElem_toArray, List.getElem_cons_succ, List.getElem_cons_zero, Act.put, List.setIfInBounds_toArray, List.set_cons_zero, List.set_cons_succ]
    refine wpAnyH_take (i := 9) (v := ?vv9b) rfl (by kernel_rfl) (by kernel_rfl) (by kernel_rfl) (fun _ _ _ h => h) (Or.inl ⟨by rfl, ?hy9b⟩) hS ?rest9b
    case hy9b => (intro x hSw; (try dsimp only at hSw); go_simp; (try with_reducible rfl))
    try simp only [List.getElem_toArray, List.getElem_cons_succ, List.getElem_cons_zero, Act.put, List.setIfInBounds_toArray, List.set_cons_zero, List.set_cons_succ]
    refine wpAnyH_take (i := 10) (v := ?vv10b) rfl (by kernel_rfl) (by kernel_rfl) (by kernel_rfl) (fun _ _ _ h => h) (Or.inl ⟨by rfl, ?hy10b⟩) hS ?rest10b
    case hy10b => (intro x hSw; (try dsimp only at hSw); go_simp; (try with_reducible rfl))
    try simp only [List.getElem_toArray, List.getElem_cons_succ, List.getElem_cons_zero, Act.put, List.setIfInBounds_toArray, List.set_cons_zero, List.set_cons_succ]
    refine wpAnyH_take (i := 11) (v := ?vv11b) rfl (by kernel_rfl) (by kernel_rfl) (by kernel_rfl) (fun _ _ _ h => h) (Or.inl ⟨by rfl, ?hy11b⟩) hS ?rest11b
    case hy11b => (intro x hSw; (try dsimp only at hSw); go_simp; (try with_reducible rfl))
    try simp only [List.getElem_toArray, List.getElem_cons_succ, List.getElem_cons_zero, Act.put, List.setIfInBounds_toArray, List.set_cons_zero, List.set_cons_succ]
    refine wpAnyH_ready (rs := [13]) (by kernel_rfl) (by simp) ?_
    refine AllReadyH.cons rfl (fun K hK => ?_) AllReadyH.nil
    rw [if_pos (by rfl)]
    refine wp_store9 (.tmp 15) (.tmp 74) (bounceM m site code now) none 0 0 rfl rfl rfl HZ2.out ?_
    clear hS
    have HB5 := Lib.hid (set9_below (b := w1.heap.size) HB4.out (by omega) (.string (bounceM m site code now).fu) (.string (bounceM m site code now).fs) (.string (bounceM m site code now).tu) (.string (bounceM m site code now).ts) (.int .i64 (bounceM m site code now).nu) (.int .i64 (bounceM m site code now).da) (.string (bounceM m site code now).su) (.slice none 0 0) (.string (bounceM m site code now).bo))
    have HZ5 := Lib.hid (set9_block HZ2.out (.string (bounceM m site code now).fu) (.string (bounceM m site code now).fs) (.string (bounceM m site code now).tu) (.string (bounceM m site code now).ts) (.int .i64 (bounceM m site code now).nu) (.int .i64 (bounceM m site code now).da) (.string (bounceM m site code now).su) (.slice none 0 0) (.string (bounceM m site code now).bo))
    refine hK.out _ _ (HP.out _ HB5.out) (fun hS => ?_)
    clear hK K
    try simp only [List.getElem_toArray, List.getElem_cons_succ, List.getElem_cons_zero, Act.put, List.setIfInBounds_toArray, List.set_cons_zero, List.set_cons_succ]
    refine wpAnyH_take (i := 14) (v := ?vv14b) rfl (by kernel_rfl) (by kernel_rfl) (by kernel_rfl) (fun _ _ _ h => h) (Or.inl ⟨by rfl, ?hy14b⟩) hS ?rest14b
    case hy14b => (intro x hSw; (try dsimp only at hSw); go_simp; (try with_reducible rfl))
    try simp only [List.getElem_toArray, List.getElem_cons_succ, List.getElem_cons_zero, Act.put, List.setIfInBounds_toArray, List.set_cons_zero, List.set_cons_succ]
    refine wpAnyH_done (by kernel_rfl) ?_ _
    refine NoPanic.normal ?_
    clear hS
    generalize set9 _ _ _ _ _ _ _ _ _ _ _ = w5 at HB5 HZ5 ⊢
    obtain ⟨x0, x1, x2, x3, x4, x5, x6, x7, x8⟩ := MsgAt.of_block (m := bounceM m site code now) (v := .slice none 0 0) HZ5.out
    have HQ5 := Lib.hid (HQ1.out.below HB5.out)
    have HB6 := Lib.hid (HB1.out.trans (But2.of_below (a := qb) (b := mb) HB5.out))
    go_wp2_with fail
    refine (put_s (bounceM m site code now) (.slice none 0 0) now _ qb site last mb n _ HQ5.out hl0 hl1 hn9 (by show (0 : Nat) ≤ _; omega) (.inl ⟨rfl, none, 0, rfl, fun _ => rfl⟩) (by simp [Value.ownBlock])).mono ?_
    rintro e w6 ⟨rfl, v6, hq6, ho6, hb6⟩
    have HQ6 := Lib.hid hq6
    have HO6 := Lib.hid (show OwnH w.heap.size w6 v6 [] from owns_mono ho6 HB6.out.size)
    have HB7 := Lib.hid (HB6.out.trans hb6)
    clear hq6 ho6 hb6 x0 x1 x2 x3 x4 x5 x6 x7 x8
    go_wp2_with fail
    go_ret3
    exact ⟨rfl, v6, HQ6.out, HO6.out, HB7.out⟩
end Go.Proofs.YtkiheanpamplpaaDoor
