/-
  The law MailRetries: the eighth failure, Due, Len, Get; the walk.
-/
import Derived.Test.YtkiheanpamplpaaDoorLmc
import Derived.Maps.RangeWalk
set_option linter.unusedSimpArgs false
set_option linter.unusedVariables false
set_option linter.unnecessarySimpa false

namespace Go.Proofs.YtkiheanpamplpaaDoor
open Go.RowKit Go.Bul Go.Maps
set_option maxRecDepth 100000 in
set_option maxHeartbeats 1000000 in
theorem fail_bounce8 (m : Ms) (hv : Value) (ok : m.Ok) (num due fl : Int) (hf0 : 0 ≤ fl) (hf1 : fl ≤ 1000) (hf8 : 8 ≤ fl + 1) (k : Int) (h0 : -9223372036854775808 ≤ k) (h1 : k ≤ 9223372036854775807) (now code : Int) (k0 : -9223372036854775808 ≤ code) (k1 : code ≤ 9223372036854775807) (w : World) (qb : Nat) (site : ByteArray) (hsite : site.size ≤ maxLen) (last : Int) (hl0 : 0 ≤ last) (hl1 : last ≤ 1000000) (mb n : Nat) (hn9 : n ≤ 1000000) (hg : ∀ w', But2 qb mb w w' → Gl w') (D : DataW Value) (hq : QAt w qb site last mb n D)
    (hhas : Maps.has D (kInt k) = true) (hat : D.atKey (kInt k) (.held zeroW) = .held (wtV m hv num due fl)) (hh : HopsIn w hv m.ho) (hne : hv.ownBlock ≠ some qb) (hm : 0 ≤ now ∧ now ≤ 105190559) (hc : checkE m = 0) (hs : siteE site = 0) (hfu : m.fu.size ≠ 0) :
    Calls Tryd.prog 26 #[.pointer (some ⟨qb, 0, none⟩), .int .i64 k, .int .i64 now, .int .i64 code, .bool false] w fun e w' => e = .returned (.tuple #[.int .i64 (last + 1), .bool true, .int .i64 0]) ∧ ∃ v', QAt w' qb site (last + 1) mb (n + 1) ((D.del (kInt k)).put (kInt (last + 1)) (.held (wtV (bounceM m site code now) v' (last + 1) now 0))) ∧ OwnH w.heap.size w' v' [] ∧ But2 qb mb w w' := by
  have HQ := Lib.hid hq
  obtain ⟨sa, sc, rfl⟩ := hh.shape
  have HK := Lib.hid (keyOf_k k h0 h1)
  have HA := Lib.hid hat
  have HS := Lib.hid hhas
  have HH := Lib.hid hh
  have HNE := Lib.hid hne
  have OK := Lib.hid ok
  have HC := Lib.hid hc
  have HST := Lib.hid hs
  have HFU := Lib.hid hfu
  have HK0 := Lib.hid k0
  have HK1 := Lib.hid k1
  have HG := Lib.hid hg
  obtain ⟨q0, q1, q2⟩ := hq.cells
  have hqb := lt_of_block hq.blk
  have hmb := hq.mlt
  have hw1 : IntKind.i64.wrap (fl + 1) = fl + 1 := IntWalk.i64_in _ (by omega)
  clear hq hat hhas h0 h1 hh hne ok hc hs hfu k0 k1 hg
  have hf9 : decide (fl + 1 < 8) = false := by simp; omega
  have hf10 : ¬ (fl + 1 < 8) := by omega
  go_enter Tryd.func26, Tryd.ntmps26
  go_wp2_with (at_lookup; refine wpList_lookup_own_ok _ rfl _ _ 82 rfl 3 87 keyed Tryd.underlying82 RV (zeroWaiting _) (.held zeroW) [] rfl mb n D rfl HQ.out.map _ _ rfl HK.out ?_; intro vv ps hvv; have hv2 := (Prod.mk.inj (Option.some.inj hvv)).1; rw [HA.out] at hv2; obtain rfl := (DataW.held.inj hv2); rw [HS.out]; clear hvv hv2; simp only [wtV])
  refine (minute_s now _).mono ?_
  rintro e w' ⟨rfl, rfl⟩
  rw [show decide (0 ≤ now ∧ now ≤ 105190559) = true by simp; exact hm]
  go_wp2_with (at_delete; refine wpList_delete_own _ rfl _ _ 82 3 rfl 87 keyed Tryd.underlying82 RV mb n D rfl (HQ.out.new _).map _ _ rfl HK.out ?_; intro w1 hm1 ht1; have HQ1 := Lib.hid ((HQ.out.new _).deleted hm1 ht1); have HT1 := Lib.hid ht1; clear hm1)
  go_frame
  obtain ⟨_, q1', _⟩ := HQ1.out.cells
  have q0' := HQ1.out.cells.1
  have HWb := Lib.hid (show w1.heap[w.heap.size]? = some (.cells (wtCells m (.slice sa m.ho.length sc) num due (fl + 1)) 87 (0, 0)) from turned_block HT1.out (heap_alloc_new w _) (by omega))
  have HB1 := Lib.hid (show But2 qb mb w w1 from (But2.of_below ((Below.refl _ _).alloc (Nat.le_refl _) _)).trans (But2.of_grown HT1.out.grown))
  have hs1 : w.heap.size < w1.heap.size := lt_of_block HWb.out
  have HH1 := Lib.hid (HH.out.but2q HQ.out HB1.out HNE.out)
  have hbc := fun (W : World) (hb : Below w1.heap.size w1 W) => bounce_c m _ OK.out site hsite code now HK0.out HK1.out W (HG.out _ (HB1.out.trans (But2.of_below hb))) HFU.out (HH1.out.below hb) HC.out HST.out hm
  have HBC := Lib.hid hbc
  clear hbc
  have HP := Lib.hid (show ∀ x, Below w1.heap.size w1 x → x.cell? ⟨w.heap.size, 0, none⟩ = some (.string m.fu) ∧ x.cell? ⟨w.heap.size, 1, none⟩ = some (.string m.fs) ∧ x.cell? ⟨w.heap.size, 2, none⟩ = some (.string m.tu) ∧ x.cell? ⟨w.heap.size, 3, none⟩ = some (.string m.ts) ∧ x.cell? ⟨w.heap.size, 4, none⟩ = some (.int .i64 m.nu) ∧ x.cell? ⟨w.heap.size, 5, none⟩ = some (.int .i64 m.da) ∧ x.cell? ⟨w.heap.size, 6, none⟩ = some (.string m.su) ∧ x.cell? ⟨w.heap.size, 7, none⟩ = some (.slice sa m.ho.length sc) ∧ x.cell? ⟨w.heap.size, 8, none⟩ = some (.string m.bo) ∧ x.cell? ⟨qb, 0, none⟩ = some (.string site) ∧ Below w1.heap.size w1 x from fun x hx => by
    have h := (hx.block _ hs1).trans HWb.out
    exact ⟨wt_cell h 0, wt_cell h 1, wt_cell h 2, wt_cell h 3, wt_cell h 4, wt_cell h 5, wt_cell h 6, wt_cell h 7, wt_cell h 8, (HQ1.out.below hx).cells.1, hx⟩)
  refine wp_region_noPanic ?_
  refine wp_region_held_drew (S := fun x => x.cell? ⟨w.heap.size, 0, none⟩ = some (.string m.fu) ∧ x.cell? ⟨w.heap.size, 1, none⟩ = some (.string m.fs) ∧ x.cell? ⟨w.heap.size, 2, none⟩ = some (.string m.tu) ∧ x.cell? ⟨w.heap.size, 3, none⟩ = some (.string m.ts) ∧ x.cell? ⟨w.heap.size, 4, none⟩ = some (.int .i64 m.nu) ∧ x.cell? ⟨w.heap.size, 5, none⟩ = some (.int .i64 m.da) ∧ x.cell? ⟨w.heap.size, 6, none⟩ = some (.string m.su) ∧ x.cell? ⟨w.heap.size, 7, none⟩ = some (.slice sa m.ho.length sc) ∧ x.cell? ⟨w.heap.size, 8, none⟩ = some (.string m.bo) ∧ x.cell? ⟨qb, 0, none⟩ = some (.string site) ∧ Below w1.heap.size w1 x) (by kernel_rfl) (HP.out _ ((Below.refl _ _).drew)) (fun hS => ?_)
  refine wpAnyH_take (i := 0) (v := ?vv0) rfl (by kernel_rfl) (by kernel_rfl) (by kernel_rfl) (fun _ _ _ h => h) (Or.inl ⟨by rfl, ?hy0⟩) hS ?rest0
  case hy0 => (intro x hSw; (try dsimp only at hSw); go_simp; (try with_reducible rfl))
  try simp only [List.getElem_toArray, List.getElem_cons_succ, List.getElem_cons_zero, Act.put, List.setIfInBounds_toArray, List.set_cons_zero, List.set_cons_succ]
  refine wpAnyH_take (i := 1) (v := ?vv1) rfl (by kernel_rfl) (by kernel_rfl) (by kernel_rfl) (fun _ _ _ h => h) (Or.inl ⟨by rfl, ?hy1⟩) hS ?rest1
  case hy1 => (intro x hSw; (try dsimp only at hSw); go_simp; (try with_reducible rfl))
  try simp only [List.getElem_toArray, List.getElem_cons_succ, List.getElem_cons_zero, Act.put, List.setIfInBounds_toArray, List.set_cons_zero, List.set_cons_succ]
  refine wpAnyH_take (i := 2) (v := ?vv2) rfl (by kernel_rfl) (by kernel_rfl) (by kernel_rfl) (fun _ _ _ h => h) (Or.inl ⟨by rfl, ?hy2⟩) hS ?rest2
  case hy2 => (intro x hSw; (try dsimp only at hSw); go_simp; (try with_reducible rfl))
  try simp only [List.getElem_toArray, List.getElem_cons_succ, List.getElem_cons_zero, Act.put, List.setIfInBounds_toArray, List.set_cons_zero, List.set_cons_succ]
  refine wpAnyH_take (i := 3) (v := ?vv3) rfl (by kernel_rfl) (by kernel_rfl) (by kernel_rfl) (fun _ _ _ h => h) (Or.inl ⟨by rfl, ?hy3⟩) hS ?rest3
  case hy3 => (intro x hSw; (try dsimp only at hSw); go_simp; (try with_reducible rfl))
  try simp only [List.getElem_toArray, List.getElem_cons_succ, List.getElem_cons_zero, Act.put, List.setIfInBounds_toArray, List.set_cons_zero, List.set_cons_succ]
  refine wpAnyH_take (i := 4) (v := ?vv4) rfl (by kernel_rfl) (by kernel_rfl) (by kernel_rfl) (fun _ _ _ h => h) (Or.inl ⟨by rfl, ?hy4⟩) hS ?rest4
  case hy4 => (intro x hSw; (try dsimp only at hSw); go_simp; (try with_reducible rfl))
  try simp only [List.getElem_toArray, List.getElem_cons_succ, List.getElem_cons_zero, Act.put, List.setIfInBounds_toArray, List.set_cons_zero, List.set_cons_succ]
  refine wpAnyH_take (i := 5) (v := ?vv5) rfl (by kernel_rfl) (by kernel_rfl) (by kernel_rfl) (fun _ _ _ h => h) (Or.inl ⟨by rfl, ?hy5⟩) hS ?rest5
  case hy5 => (intro x hSw; (try dsimp only at hSw); go_simp; (try with_reducible rfl))
  try simp only [List.getElem_toArray, List.getElem_cons_succ, List.getElem_cons_zero, Act.put, List.setIfInBounds_toArray, List.set_cons_zero, List.set_cons_succ]
  refine wpAnyH_take (i := 6) (v := ?vv6) rfl (by kernel_rfl) (by kernel_rfl) (by kernel_rfl) (fun _ _ _ h => h) (Or.inl ⟨by rfl, ?hy6⟩) hS ?rest6
  case hy6 => (intro x hSw; (try dsimp only at hSw); go_simp; (try with_reducible rfl))
  try simp only [List.getElem_toArray, List.getElem_cons_succ, List.getElem_cons_zero, Act.put, List.setIfInBounds_toArray, List.set_cons_zero, List.set_cons_succ]
  refine wpAnyH_take (i := 7) (v := ?vv7) rfl (by kernel_rfl) (by kernel_rfl) (by kernel_rfl) (fun _ _ _ h => h) (Or.inl ⟨by rfl, ?hy7⟩) hS ?rest7
  case hy7 => (intro x hSw; (try dsimp only at hSw); go_simp; (try with_reducible rfl))
  try simp only [List.getElem_toArray, List.getElem_cons_succ, List.getElem_cons_zero, Act.put, List.setIfInBounds_toArray, List.set_cons_zero, List.set_cons_succ]
  refine wpAnyH_ready (rs := [8, 12]) (by kernel_rfl) (by simp) ?_
  refine AllReadyH.cons rfl (fun K hK => ?_) (AllReadyH.cons rfl (fun K hK => ?_) AllReadyH.nil)
  · go_simp
    go_at_call 10
    refine (HBC.out _ ((Below.refl _ _).drew)).mono ?_
    rintro e w2 ⟨rfl, hb9⟩
    have HB9 := Lib.hid (((Below.refl w1.heap.size w1).drew).trans (hb9.mono (Nat.le_refl _)))
    clear hS hb9
    refine hK.out _ _ (HP.out _ HB9.out) (fun hS => ?_)
    clear hK K
    try simp only [List.getElem_toArray, List.getElem_cons_succ, List.getElem_cons_zero, Act.put, List.setIfInBounds_toArray, List.set_cons_zero, List.set_cons_succ]
    refine wpAnyH_take (i := 9) (v := ?vv9) rfl (by kernel_rfl) (by kernel_rfl) (by kernel_rfl) (fun _ _ _ h => h) (Or.inl ⟨by rfl, ?hy9⟩) hS ?rest9
    case hy9 => (intro x hSw; (try dsimp only at hSw); go_simp; (try with_reducible rfl))
    try simp only [List.getElem_toArray, List.getElem_cons_succ, List.getElem_cons_zero, Act.put, List.setIfInBounds_toArray, List.set_cons_zero, List.set_cons_succ]
    refine wpAnyH_take (i := 10) (v := ?vv10) rfl (by kernel_rfl) (by kernel_rfl) (by kernel_rfl) (fun _ _ _ h => h) (Or.inl ⟨by rfl, ?hy10⟩) hS ?rest10
    case hy10 => (intro x hSw; (try dsimp only at hSw); go_simp; (try with_reducible rfl))
    try simp only [List.getElem_toArray, List.getElem_cons_succ, List.getElem_cons_zero, Act.put, List.setIfInBounds_toArray, List.set_cons_zero, List.set_cons_succ]
    refine wpAnyH_take (i := 11) (v := ?vv11) rfl (by kernel_rfl) (by kernel_rfl) (by kernel_rfl) (fun _ _ _ h => h) (Or.inl ⟨by rfl, ?hy11⟩) hS ?rest11
    case hy11 => (intro x hSw; (try dsimp only at hSw); go_simp; (try with_reducible rfl))
    try simp only [List.getElem_toArray, List.getElem_cons_succ, List.getElem_cons_zero, Act.put, List.setIfInBounds_toArray, List.set_cons_zero, List.set_cons_succ]
    refine wpAnyH_ready (rs := [12]) (by kernel_rfl) (by simp) ?_
    refine AllReadyH.cons rfl (fun K hK => ?_) AllReadyH.nil
    go_simp
    have HB4 := Lib.hid (show Below w1.heap.size w1 (w2.alloc (.cells (msgCells noMs (.slice none 0 0)) 29)) from HB9.out.alloc HB9.out.size _)
    have HZ2 := Lib.hid (heap_alloc_new w2 (.cells (msgCells noMs (.slice none 0 0)) 29))
    have hs2 := HB9.out.size
    clear hS
    refine hK.out _ _ (HP.out _ HB4.out) (fun hS => ?_)
    clear hK K
    try simp only [List.getElem_toArray, List.getElem_cons_succ, List.getElem_cons_zero, Act.put, List.setIfInBounds_toArray, List.set_cons_zero, List.set_cons_succ]
    refine wpAnyH_ready (rs := [13]) (by kernel_rfl) (by simp) ?_
    refine AllReadyH.cons rfl (fun K hK => ?_) AllReadyH.nil
    rw [if_pos (by rfl)]
    refine wp_store9 (.tmp 15) (.tmp 74) (bounceM m site code now) none 0 0 rfl rfl rfl HZ2.out ?_
    clear hS
    have HB5 := Lib.hid (set9_below (b := w2.heap.size) HB4.out (by omega) (.string (bounceM m site code now).fu) (.string (bounceM m site code now).fs) (.string (bounceM m site code now).tu) (.string (bounceM m site code now).ts) (.int .i64 (bounceM m site code now).nu) (.int .i64 (bounceM m site code now).da) (.string (bounceM m site code now).su) (.slice none 0 0) (.string (bounceM m site code now).bo))
    have HZ5 := Lib.hid (set9_block HZ2.out (.string (bounceM m site code now).fu) (.string (bounceM m site code now).fs) (.string (bounceM m site code now).tu) (.string (bounceM m site code now).ts) (.int .i64 (bounceM m site code now).nu) (.int .i64 (bounceM m site code now).da) (.string (bounceM m site code now).su) (.slice none 0 0) (.string (bounceM m site code now).bo))
    refine hK.out _ _ (HP.out _ HB5.out) (fun hS => ?_)
    clear hK K
    try simp only [List.getElem_toArray, List.getElem_cons_succ, List.getElem_cons_zero, Act.put, List.setIfInBounds_toArray, List.set_cons_zero, List.set_cons_succ]
    refine wpAnyH_take (i := 14) (v := ?vv14) rfl (by kernel_rfl) (by kernel_rfl) (by kernel_rfl) (fun _ _ _ h => h) (Or.inl ⟨by rfl, ?hy14⟩) hS ?rest14
    case hy14 => (intro x hSw; (try dsimp only at hSw); go_simp; (try with_reducible rfl))
    try simp only [List.getElem_toArray, List.getElem_cons_succ, List.getElem_cons_zero, Act.put, List.setIfInBounds_toArray, List.set_cons_zero, List.set_cons_succ]
    refine wpAnyH_done (by kernel_rfl) ?_ _
    refine NoPanic.normal ?_
    clear hS
    change Exit.then _ _ Exit.normal _ (set9 (w2.alloc (.cells (msgCells noMs (.slice none 0 0)) 29)) _ _ _ _ _ _ _ _ _ _)
    generalize set9 _ _ _ _ _ _ _ _ _ _ _ = w5 at HB5 HZ5 ⊢
    obtain ⟨x0, x1, x2, x3, x4, x5, x6, x7, x8⟩ := MsgAt.of_block (m := bounceM m site code now) (v := .slice none 0 0) HZ5.out
    have HQ5 := Lib.hid (HQ1.out.below HB5.out)
    have HB6 := Lib.hid (HB1.out.trans (But2.of_below (a := qb) (b := mb) HB5.out))
    go_wp2_with fail
    refine (put_s (bounceM m site code now) (.slice none 0 0) now _ qb site last mb n _ HQ5.out hl0 hl1 hn9 (by show (0 : Nat) ≤ _; omega) (.inl ⟨rfl, none, 0, rfl, fun _ => rfl⟩) (by simp [Value.ownBlock])).mono ?_
    rintro e w6 ⟨rfl, v6, hq6, ho6, hb6⟩
    have HQ6 := Lib.hid hq6
    have HO6 := Lib.hid (show OwnH w.heap.size w6 v6 [] from owns_mono ho6 HB6.out.size)
    have HB7 := Lib.hid (HB6.out.trans hb6)
    clear hq6 ho6 hb6 x0 x1 x2 x3 x4 x5 x6 x7 x8
    go_wp2_with fail
    go_ret3
    exact ⟨rfl, v6, HQ6.out, HO6.out, HB7.out⟩
  · go_simp
    have HB8 := Lib.hid (show Below w1.heap.size w1 (w1.drew.alloc (.cells (msgCells noMs (.slice none 0 0)) 29)) from ((Below.refl w1.heap.size w1).drew).alloc (Nat.le_refl _) _)
    have HZ1 := Lib.hid (heap_alloc_new w1.drew (.cells (msgCells noMs (.slice none 0 0)) 29))
    clear hS
    refine hK.out _ _ (HP.out _ HB8.out) (fun hS => ?_)
    clear hK K
    try simp only [List.getElem_toArray, List.getElem_cons_succ, List.getElem_cons_zero, Act.put, List.setIfInBounds_toArray, List.set_cons_zero, List.set_cons_succ]
    refine wpAnyH_ready (rs := [8]) (by kernel_rfl) (by simp) ?_
    refine AllReadyH.cons rfl (fun K hK => ?_) AllReadyH.nil
    go_simp
    go_at_call 10
    refine (HBC.out _ HB8.out).mono ?_
    rintro e w2 ⟨rfl, hb9⟩
    have HB4 := Lib.hid (HB8.out.trans (hb9.mono HB8.out.size))
    have HZ2 := Lib.hid ((hb9.block w1.heap.size (lt_of_block HZ1.out)).trans HZ1.out)
    have hs2 := HB4.out.size
    clear hS hb9
    refine hK.out _ _ (HP.out _ HB4.out) (fun hS => ?_)
    clear hK K
    try simp only [List.getElem_toArray, List.getElem_cons_succ, List.getElem_cons_zero, Act.put, List.setIfInBounds_toArray, List.set_cons_zero, List.set_cons_succ]
    refine wpAnyH_take (i := 9) (v := ?vv9b) rfl (by kernel_rfl) (by kernel_rfl) (by kernel_rfl) (fun _ _ _ h => h) (Or.inl ⟨by rfl, ?hy9b⟩) hS ?rest9b
    case hy9b => (intro x hSw; (try dsimp only at hSw); go_simp; (try with_reducible rfl))
    try simp only [List.getElem_toArray, List.getElem_cons_succ, List.getElem_cons_zero, Act.put, List.setIfInBounds_toArray, List.set_cons_zero, List.set_cons_succ]
    refine wpAnyH_take (i := 10) (v := ?vv10b) rfl (by kernel_rfl) (by kernel_rfl) (by kernel_rfl) (fun _ _ _ h => h) (Or.inl ⟨by rfl, ?hy10b⟩) hS ?rest10b
    case hy10b => (intro x hSw; (try dsimp only at hSw); go_simp; (try with_reducible rfl))
    try simp only [List.getElem_toArray, List.getElem_cons_succ, List.getElem_cons_zero, Act.put, List.setIfInBounds_toArray, List.set_cons_zero, List.set_cons_succ]
    refine wpAnyH_take (i := 11) (v := ?vv11b) rfl (by kernel_rfl) (by kernel_rfl) (by kernel_rfl) (fun _ _ _ h => h) (Or.inl ⟨by rfl, ?hy11b⟩) hS ?rest11b
    case hy11b => (intro x hSw; (try dsimp only at hSw); go_simp; (try with_reducible rfl))
    try simp only [List.getElem_toArray, List.getElem_cons_succ, List.getElem_cons_zero, Act.put, List.setIfInBounds_toArray, List.set_cons_zero, List.set_cons_succ]
    refine wpAnyH_ready (rs := [13]) (by kernel_rfl) (by simp) ?_
    refine AllReadyH.cons rfl (fun K hK => ?_) AllReadyH.nil
    rw [if_pos (by rfl)]
    refine wp_store9 (.tmp 15) (.tmp 74) (bounceM m site code now) none 0 0 rfl rfl rfl HZ2.out ?_
    clear hS
    have HB5 := Lib.hid (set9_below (b := w1.heap.size) HB4.out (by omega) (.string (bounceM m site code now).fu) (.string (bounceM m site code now).fs) (.string (bounceM m site code now).tu) (.string (bounceM m site code now).ts) (.int .i64 (bounceM m site code now).nu) (.int .i64 (bounceM m site code now).da) (.string (bounceM m site code now).su) (.slice none 0 0) (.string (bounceM m site code now).bo))
    have HZ5 := Lib.hid (set9_block HZ2.out (.string (bounceM m site code now).fu) (.string (bounceM m site code now).fs) (.string (bounceM m site code now).tu) (.string (bounceM m site code now).ts) (.int .i64 (bounceM m site code now).nu) (.int .i64 (bounceM m site code now).da) (.string (bounceM m site code now).su) (.slice none 0 0) (.string (bounceM m site code now).bo))
    refine hK.out _ _ (HP.out _ HB5.out) (fun hS => ?_)
    clear hK K
    try simp only [List.getElem_toArray, List.getElem_cons_succ, List.getElem_cons_zero, Act.put, List.setIfInBounds_toArray, List.set_cons_zero, List.set_cons_succ]
    refine wpAnyH_take (i := 14) (v := ?vv14b) rfl (by kernel_rfl) (by kernel_rfl) (by kernel_rfl) (fun _ _ _ h => h) (Or.inl ⟨by rfl, ?hy14b⟩) hS ?rest14b
    case hy14b => (intro x hSw; (try dsimp only at hSw); go_simp; (try with_reducible rfl))
    try simp only [List.getElem_toArray, List.getElem_cons_succ, List.getElem_cons_zero, Act.put, List.setIfInBounds_toArray, List.set_cons_zero, List.set_cons_succ]
    refine wpAnyH_done (by kernel_rfl) ?_ _
    refine NoPanic.normal ?_
    clear hS
    generalize set9 _ _ _ _ _ _ _ _ _ _ _ = w5 at HB5 HZ5 ⊢
    obtain ⟨x0, x1, x2, x3, x4, x5, x6, x7, x8⟩ := MsgAt.of_block (m := bounceM m site code now) (v := .slice none 0 0) HZ5.out
    have HQ5 := Lib.hid (HQ1.out.below HB5.out)
    have HB6 := Lib.hid (HB1.out.trans (But2.of_below (a := qb) (b := mb) HB5.out))
    go_wp2_with fail
    refine (put_s (bounceM m site code now) (.slice none 0 0) now _ qb site last mb n _ HQ5.out hl0 hl1 hn9 (by show (0 : Nat) ≤ _; omega) (.inl ⟨rfl, none, 0, rfl, fun _ => rfl⟩) (by simp [Value.ownBlock])).mono ?_
    rintro e w6 ⟨rfl, v6, hq6, ho6, hb6⟩
    have HQ6 := Lib.hid hq6
    have HO6 := Lib.hid (show OwnH w.heap.size w6 v6 [] from owns_mono ho6 HB6.out.size)
    have HB7 := Lib.hid (HB6.out.trans hb6)
    clear hq6 ho6 hb6 x0 x1 x2 x3 x4 x5 x6 x7 x8
    go_wp2_with fail
    go_ret3
    exact ⟨rfl, v6, HQ6.out, HO6.out, HB7.out⟩
set_option maxRecDepth 100000 in
set_option maxHeartbeats 1000000 in
theorem fail_none8 (m : Ms) (hv : Value) (num due fl : Int) (hf0 : 0 ≤ fl) (hf1 : fl ≤ 1000) (hf8 : 8 ≤ fl + 1) (k : Int) (h0 : -9223372036854775808 ≤ k) (h1 : k ≤ 9223372036854775807) (now code : Int) (w : World) (qb : Nat) (site : ByteArray) (last : Int) (mb n : Nat) (hn9 : n ≤ 1000000) (D : DataW Value) (hq : QAt w qb site last mb n D)
    (hhas : Maps.has D (kInt k) = true) (hat : D.atKey (kInt k) (.held zeroW) = .held (wtV m hv num due fl)) (hh : HopsIn w hv m.ho) (hne : hv.ownBlock ≠ some qb) (hm : 0 ≤ now ∧ now ≤ 105190559) (hfu : m.fu.size = 0) :
    Calls Tryd.prog 26 #[.pointer (some ⟨qb, 0, none⟩), .int .i64 k, .int .i64 now, .int .i64 code, .bool false] w fun e w' => e = .returned (.tuple #[.int .i64 0, .bool false, .int .i64 0]) ∧ QAt w' qb site last mb n (D.del (kInt k)) ∧ But2 qb mb w w' := by
  have HQ := Lib.hid hq
  obtain ⟨sa, sc, rfl⟩ := hh.shape
  have HK := Lib.hid (keyOf_k k h0 h1)
  have HA := Lib.hid hat
  have HS := Lib.hid hhas
  have HH := Lib.hid hh
  have HNE := Lib.hid hne
  have HFU := Lib.hid hfu
  obtain ⟨q0, q1, q2⟩ := hq.cells
  have hqb := lt_of_block hq.blk
  have hmb := hq.mlt
  have hw1 : IntKind.i64.wrap (fl + 1) = fl + 1 := IntWalk.i64_in _ (by omega)
  clear hq hat hhas h0 h1 hh hne hfu
  have hf9 : decide (fl + 1 < 8) = false := by simp; omega
  have hf10 : ¬ (fl + 1 < 8) := by omega
  go_enter Tryd.func26, Tryd.ntmps26
  go_wp2_with (at_lookup; refine wpList_lookup_own_ok _ rfl _ _ 82 rfl 3 87 keyed Tryd.underlying82 RV (zeroWaiting _) (.held zeroW) [] rfl mb n D rfl HQ.out.map _ _ rfl HK.out ?_; intro vv ps hvv; have hv2 := (Prod.mk.inj (Option.some.inj hvv)).1; rw [HA.out] at hv2; obtain rfl := (DataW.held.inj hv2); rw [HS.out]; clear hvv hv2; simp only [wtV])
  refine (minute_s now _).mono ?_
  rintro e w' ⟨rfl, rfl⟩
  rw [show decide (0 ≤ now ∧ now ≤ 105190559) = true by simp; exact hm]
  go_wp2_with (at_delete; refine wpList_delete_own _ rfl _ _ 82 3 rfl 87 keyed Tryd.underlying82 RV mb n D rfl (HQ.out.new _).map _ _ rfl HK.out ?_; intro w1 hm1 ht1; have HQ1 := Lib.hid ((HQ.out.new _).deleted hm1 ht1); have HT1 := Lib.hid ht1; clear hm1)
  go_frame
  obtain ⟨_, q1', _⟩ := HQ1.out.cells
  have q0' := HQ1.out.cells.1
  have HWb := Lib.hid (show w1.heap[w.heap.size]? = some (.cells (wtCells m (.slice sa m.ho.length sc) num due (fl + 1)) 87 (0, 0)) from turned_block HT1.out (heap_alloc_new w _) (by omega))
  have HB1 := Lib.hid (show But2 qb mb w w1 from (But2.of_below ((Below.refl _ _).alloc (Nat.le_refl _) _)).trans (But2.of_grown HT1.out.grown))
  have hs1 : w.heap.size < w1.heap.size := lt_of_block HWb.out
  have HH1 := Lib.hid (HH.out.but2q HQ.out HB1.out HNE.out)
  have hbc := fun (W : World) => bounce_a m (.slice sa m.ho.length sc) site code now W HFU.out
  have HBC := Lib.hid hbc
  clear hbc
  have HP := Lib.hid (show ∀ x, Below w1.heap.size w1 x → x.cell? ⟨w.heap.size, 0, none⟩ = some (.string m.fu) ∧ x.cell? ⟨w.heap.size, 1, none⟩ = some (.string m.fs) ∧ x.cell? ⟨w.heap.size, 2, none⟩ = some (.string m.tu) ∧ x.cell? ⟨w.heap.size, 3, none⟩ = some (.string m.ts) ∧ x.cell? ⟨w.heap.size, 4, none⟩ = some (.int .i64 m.nu) ∧ x.cell? ⟨w.heap.size, 5, none⟩ = some (.int .i64 m.da) ∧ x.cell? ⟨w.heap.size, 6, none⟩ = some (.string m.su) ∧ x.cell? ⟨w.heap.size, 7, none⟩ = some (.slice sa m.ho.length sc) ∧ x.cell? ⟨w.heap.size, 8, none⟩ = some (.string m.bo) ∧ x.cell? ⟨qb, 0, none⟩ = some (.string site) ∧ Below w1.heap.size w1 x from fun x hx => by
    have h := (hx.block _ hs1).trans HWb.out
    exact ⟨wt_cell h 0, wt_cell h 1, wt_cell h 2, wt_cell h 3, wt_cell h 4, wt_cell h 5, wt_cell h 6, wt_cell h 7, wt_cell h 8, (HQ1.out.below hx).cells.1, hx⟩)
  refine wp_region_noPanic ?_
  refine wp_region_held_drew (S := fun x => x.cell? ⟨w.heap.size, 0, none⟩ = some (.string m.fu) ∧ x.cell? ⟨w.heap.size, 1, none⟩ = some (.string m.fs) ∧ x.cell? ⟨w.heap.size, 2, none⟩ = some (.string m.tu) ∧ x.cell? ⟨w.heap.size, 3, none⟩ = some (.string m.ts) ∧ x.cell? ⟨w.heap.size, 4, none⟩ = some (.int .i64 m.nu) ∧ x.cell? ⟨w.heap.size, 5, none⟩ = some (.int .i64 m.da) ∧ x.cell? ⟨w.heap.size, 6, none⟩ = some (.string m.su) ∧ x.cell? ⟨w.heap.size, 7, none⟩ = some (.slice sa m.ho.length sc) ∧ x.cell? ⟨w.heap.size, 8, none⟩ = some (.string m.bo) ∧ x.cell? ⟨qb, 0, none⟩ = some (.string site) ∧ Below w1.heap.size w1 x) (by kernel_rfl) (HP.out _ ((Below.refl _ _).drew)) (fun hS => ?_)
  refine wpAnyH_take (i := 0) (v := ?vv0) rfl (by kernel_rfl) (by kernel_rfl) (by kernel_rfl) (fun _ _ _ h => h) (Or.inl ⟨by rfl, ?hy0⟩) hS ?rest0
  case hy0 => (intro x hSw; (try dsimp only at hSw); go_simp; (try with_reducible rfl))
  try simp only [List.getElem_toArray, List.getElem_cons_succ, List.getElem_cons_zero, Act.put, List.setIfInBounds_toArray, List.set_cons_zero, List.set_cons_succ]
  refine wpAnyH_take (i := 1) (v := ?vv1) rfl (by kernel_rfl) (by kernel_rfl) (by kernel_rfl) (fun _ _ _ h => h) (Or.inl ⟨by rfl, ?hy1⟩) hS ?rest1
  case hy1 => (intro x hSw; (try dsimp only at hSw); go_simp; (try with_reducible rfl))
  try simp only [List.getElem_toArray, List.getElem_cons_succ, List.getElem_cons_zero, Act.put, List.setIfInBounds_toArray, List.set_cons_zero, List.set_cons_succ]
  refine wpAnyH_take (i := 2) (v := ?vv2) rfl (by kernel_rfl) (by kernel_rfl) (by kernel_rfl) (fun _ _ _ h => h) (Or.inl ⟨by rfl, ?hy2⟩) hS ?rest2
  case hy2 => (intro x hSw; (try dsimp only at hSw); go_simp; (try with_reducible rfl))
  try simp only [List.getElem_toArray, List.getElem_cons_succ, List.getElem_cons_zero, Act.put, List.setIfInBounds_toArray, List.set_cons_zero, List.set_cons_succ]
  refine wpAnyH_take (i := 3) (v := ?vv3) rfl (by kernel_rfl) (by kernel_rfl) (by kernel_rfl) (fun _ _ _ h => h) (Or.inl ⟨by rfl, ?hy3⟩) hS ?rest3
  case hy3 => (intro x hSw; (try dsimp only at hSw); go_simp; (try with_reducible rfl))
  try simp only [List.getElem_toArray, List.getElem_cons_succ, List.getElem_cons_zero, Act.put, List.setIfInBounds_toArray, List.set_cons_zero, List.set_cons_succ]
  refine wpAnyH_take (i := 4) (v := ?vv4) rfl (by kernel_rfl) (by kernel_rfl) (by kernel_rfl) (fun _ _ _ h => h) (Or.inl ⟨by rfl, ?hy4⟩) hS ?rest4
  case hy4 => (intro x hSw; (try dsimp only at hSw); go_simp; (try with_reducible rfl))
  try simp only [List.getElem_toArray, List.getElem_cons_succ, List.getElem_cons_zero, Act.put, List.setIfInBounds_toArray, List.set_cons_zero, List.set_cons_succ]
  refine wpAnyH_take (i := 5) (v := ?vv5) rfl (by kernel_rfl) (by kernel_rfl) (by kernel_rfl) (fun _ _ _ h => h) (Or.inl ⟨by rfl, ?hy5⟩) hS ?rest5
  case hy5 => (intro x hSw; (try dsimp only at hSw); go_simp; (try with_reducible rfl))
  try simp only [List.getElem_toArray, List.getElem_cons_succ, List.getElem_cons_zero, Act.put, List.setIfInBounds_toArray, List.set_cons_zero, List.set_cons_succ]
  refine wpAnyH_take (i := 6) (v := ?vv6) rfl (by kernel_rfl) (by kernel_rfl) (by kernel_rfl) (fun _ _ _ h => h) (Or.inl ⟨by rfl, ?hy6⟩) hS ?rest6
  case hy6 => (intro x hSw; (try dsimp only at hSw); go_simp; (try with_reducible rfl))
  try simp only [List.getElem_toArray, List.getElem_cons_succ, List.getElem_cons_zero, Act.put, List.setIfInBounds_toArray, List.set_cons_zero, List.set_cons_succ]
  refine wpAnyH_take (i := 7) (v := ?vv7) rfl (by kernel_rfl) (by kernel_rfl) (by kernel_rfl) (fun _ _ _ h => h) (Or.inl ⟨by rfl, ?hy7⟩) hS ?rest7
  case hy7 => (intro x hSw; (try dsimp only at hSw); go_simp; (try with_reducible rfl))
  try simp only [List.getElem_toArray, List.getElem_cons_succ, List.getElem_cons_zero, Act.put, List.setIfInBounds_toArray, List.set_cons_zero, List.set_cons_succ]
  refine wpAnyH_ready (rs := [8, 12]) (by kernel_rfl) (by simp) ?_
  refine AllReadyH.cons rfl (fun K hK => ?_) (AllReadyH.cons rfl (fun K hK => ?_) AllReadyH.nil)
  · go_simp
    go_at_call 10
    refine (HBC.out _).mono ?_
    rintro e w2 ⟨rfl, hb9⟩
    have HB9 := Lib.hid (((Below.refl w1.heap.size w1).drew).trans (hb9.mono (Nat.le_refl _)))
    clear hS hb9
    refine hK.out _ _ (HP.out _ HB9.out) (fun hS => ?_)
    clear hK K
    try simp only [List.getElem_toArray, List.getElem_cons_succ, List.getElem_cons_zero, Act.put, List.setIfInBounds_toArray, List.set_cons_zero, List.set_cons_succ]
    refine wpAnyH_take (i := 9) (v := ?vv9) rfl (by kernel_rfl) (by kernel_rfl) (by kernel_rfl) (fun _ _ _ h => h) (Or.inl ⟨by rfl, ?hy9⟩) hS ?rest9
    case hy9 => (intro x hSw; (try dsimp only at hSw); go_simp; (try with_reducible rfl))
    try simp only [List.getElem_toArray, List.getElem_cons_succ, List.getElem_cons_zero, Act.put, List.setIfInBounds_toArray, List.set_cons_zero, List.set_cons_succ]
    refine wpAnyH_take (i := 10) (v := ?vv10) rfl (by kernel_rfl) (by kernel_rfl) (by kernel_rfl) (fun _ _ _ h => h) (Or.inl ⟨by rfl, ?hy10⟩) hS ?rest10
    case hy10 => (intro x hSw; (try dsimp only at hSw); go_simp; (try with_reducible rfl))
    try simp only [List.getElem_toArray, List.getElem_cons_succ, List.getElem_cons_zero, Act.put, List.setIfInBounds_toArray, List.set_cons_zero, List.set_cons_succ]
    refine wpAnyH_take (i := 11) (v := ?vv11) rfl (by kernel_rfl) (by kernel_rfl) (by kernel_rfl) (fun _ _ _ h => h) (Or.inl ⟨by rfl, ?hy11⟩) hS ?rest11
    case hy11 => (intro x hSw; (try dsimp only at hSw); go_simp; (try with_reducible rfl))
    try simp only [List.getElem_toArray, List.getElem_cons_succ, List.getElem_cons_zero, Act.put, List.setIfInBounds_toArray, List.set_cons_zero, List.set_cons_succ]
    refine wpAnyH_ready (rs := [12]) (by kernel_rfl) (by simp) ?_
    refine AllReadyH.cons rfl (fun K hK => ?_) AllReadyH.nil
    go_simp
    have HB4 := Lib.hid (show Below w1.heap.size w1 (w2.alloc (.cells (msgCells noMs (.slice none 0 0)) 29)) from HB9.out.alloc HB9.out.size _)
    have HZ2 := Lib.hid (heap_alloc_new w2 (.cells (msgCells noMs (.slice none 0 0)) 29))
    have hs2 := HB9.out.size
    clear hS
    refine hK.out _ _ (HP.out _ HB4.out) (fun hS => ?_)
    clear hK K
    try simp only [List.getElem_toArray, List.getElem_cons_succ, List.getElem_cons_zero, Act.put, List.setIfInBounds_toArray, List.set_cons_zero, List.set_cons_succ]
    refine wpAnyH_ready (rs := [13]) (by kernel_rfl) (by simp) ?_
    refine AllReadyH.cons rfl (fun K hK => ?_) AllReadyH.nil
    rw [if_pos (by rfl)]
    refine wp_store9 (.tmp 15) (.tmp 74) noMs none 0 0 rfl rfl rfl HZ2.out ?_
    clear hS
    have HB5 := Lib.hid (set9_below (b := w2.heap.size) HB4.out (by omega) (.string noMs.fu) (.string noMs.fs) (.string noMs.tu) (.string noMs.ts) (.int .i64 noMs.nu) (.int .i64 noMs.da) (.string noMs.su) (.slice none 0 0) (.string noMs.bo))
    have HZ5 := Lib.hid (set9_block HZ2.out (.string noMs.fu) (.string noMs.fs) (.string noMs.tu) (.string noMs.ts) (.int .i64 noMs.nu) (.int .i64 noMs.da) (.string noMs.su) (.slice none 0 0) (.string noMs.bo))
    refine hK.out _ _ (HP.out _ HB5.out) (fun hS => ?_)
    clear hK K
    try simp only [List.getElem_toArray, List.getElem_cons_succ, List.getElem_cons_zero, Act.put, List.setIfInBounds_toArray, List.set_cons_zero, List.set_cons_succ]
    refine wpAnyH_take (i := 14) (v := ?vv14) rfl (by kernel_rfl) (by kernel_rfl) (by kernel_rfl) (fun _ _ _ h => h) (Or.inl ⟨by rfl, ?hy14⟩) hS ?rest14
    case hy14 => (intro x hSw; (try dsimp only at hSw); go_simp; (try with_reducible rfl))
    try simp only [List.getElem_toArray, List.getElem_cons_succ, List.getElem_cons_zero, Act.put, List.setIfInBounds_toArray, List.set_cons_zero, List.set_cons_succ]
    refine wpAnyH_done (by kernel_rfl) ?_ _
    refine NoPanic.normal ?_
    clear hS
    change Exit.then _ _ Exit.normal _ (set9 (w2.alloc (.cells (msgCells noMs (.slice none 0 0)) 29)) _ _ _ _ _ _ _ _ _ _)
    generalize set9 _ _ _ _ _ _ _ _ _ _ _ = w5 at HB5 HZ5 ⊢
    obtain ⟨x0, x1, x2, x3, x4, x5, x6, x7, x8⟩ := MsgAt.of_block (m := noMs) (v := .slice none 0 0) HZ5.out
    have HQ5 := Lib.hid (HQ1.out.below HB5.out)
    have HB6 := Lib.hid (HB1.out.trans (But2.of_below (a := qb) (b := mb) HB5.out))
    go_wp2_with fail
    go_ret3
    exact ⟨rfl, HQ5.out, HB6.out⟩
  · go_simp
    have HB8 := Lib.hid (show Below w1.heap.size w1 (w1.drew.alloc (.cells (msgCells noMs (.slice none 0 0)) 29)) from ((Below.refl w1.heap.size w1).drew).alloc (Nat.le_refl _) _)
    have HZ1 := Lib.hid (heap_alloc_new w1.drew (.cells (msgCells noMs (.slice none 0 0)) 29))
    clear hS
    refine hK.out _ _ (HP.out _ HB8.out) (fun hS => ?_)
    clear hK K
    try simp only [List.getElem_toArray, List.getElem_cons_succ, List.getElem_cons_zero, Act.put, List.setIfInBounds_toArray, List.set_cons_zero, List.set_cons_succ]
    refine wpAnyH_ready (rs := [8]) (by kernel_rfl) (by simp) ?_
    refine AllReadyH.cons rfl (fun K hK => ?_) AllReadyH.nil
    go_simp
    go_at_call 10
    refine (HBC.out _).mono ?_
    rintro e w2 ⟨rfl, hb9⟩
    have HB4 := Lib.hid (HB8.out.trans (hb9.mono HB8.out.size))
    have HZ2 := Lib.hid ((hb9.block w1.heap.size (lt_of_block HZ1.out)).trans HZ1.out)
    have hs2 := HB4.out.size
    clear hS hb9
    refine hK.out _ _ (HP.out _ HB4.out) (fun hS => ?_)
    clear hK K
    try simp only [List.getElem_toArray, List.getElem_cons_succ, List.getElem_cons_zero, Act.put, List.setIfInBounds_toArray, List.set_cons_zero, List.set_cons_succ]
    refine wpAnyH_take (i := 9) (v := ?vv9b) rfl (by kernel_rfl) (by kernel_rfl) (by kernel_rfl) (fun _ _ _ h => h) (Or.inl ⟨by rfl, ?hy9b⟩) hS ?rest9b
    case hy9b => (intro x hSw; (try dsimp only at hSw); go_simp; (try with_reducible rfl))
    try simp only [List.getElem_toArray, List.getElem_cons_succ, List.getElem_cons_zero, Act.put, List.setIfInBounds_toArray, List.set_cons_zero, List.set_cons_succ]
    refine wpAnyH_take (i := 10) (v := ?vv10b) rfl (by kernel_rfl) (by kernel_rfl) (by kernel_rfl) (fun _ _ _ h => h) (Or.inl ⟨by rfl, ?hy10b⟩) hS ?rest10b
    case hy10b => (intro x hSw; (try dsimp only at hSw); go_simp; (try with_reducible rfl))
    try simp only [List.getElem_toArray, List.getElem_cons_succ, List.getElem_cons_zero, Act.put, List.setIfInBounds_toArray, List.set_cons_zero, List.set_cons_succ]
    refine wpAnyH_take (i := 11) (v := ?vv11b) rfl (by kernel_rfl) (by kernel_rfl) (by kernel_rfl) (fun _ _ _ h => h) (Or.inl ⟨by rfl, ?hy11b⟩) hS ?rest11b
    case hy11b => (intro x hSw; (try dsimp only at hSw); go_simp; (try with_reducible rfl))
    try simp only [List.getElem_toArray, List.getElem_cons_succ, List.getElem_cons_zero, Act.put, List.setIfInBounds_toArray, List.set_cons_zero, List.set_cons_succ]
    refine wpAnyH_ready (rs := [13]) (by kernel_rfl) (by simp) ?_
    refine AllReadyH.cons rfl (fun K hK => ?_) AllReadyH.nil
    rw [if_pos (by rfl)]
    refine wp_store9 (.tmp 15) (.tmp 74) noMs none 0 0 rfl rfl rfl HZ2.out ?_
    clear hS
    have HB5 := Lib.hid (set9_below (b := w1.heap.size) HB4.out (by omega) (.string noMs.fu) (.string noMs.fs) (.string noMs.tu) (.string noMs.ts) (.int .i64 noMs.nu) (.int .i64 noMs.da) (.string noMs.su) (.slice none 0 0) (.string noMs.bo))
    have HZ5 := Lib.hid (set9_block HZ2.out (.string noMs.fu) (.string noMs.fs) (.string noMs.tu) (.string noMs.ts) (.int .i64 noMs.nu) (.int .i64 noMs.da) (.string noMs.su) (.slice none 0 0) (.string noMs.bo))
    refine hK.out _ _ (HP.out _ HB5.out) (fun hS => ?_)
    clear hK K
    try simp only [List.getElem_toArray, List.getElem_cons_succ, List.getElem_cons_zero, Act.put, List.setIfInBounds_toArray, List.set_cons_zero, List.set_cons_succ]
    refine wpAnyH_take (i := 14) (v := ?vv14b) rfl (by kernel_rfl) (by kernel_rfl) (by kernel_rfl) (fun _ _ _ h => h) (Or.inl ⟨by rfl, ?hy14b⟩) hS ?rest14b
    case hy14b => (intro x hSw; (try dsimp only at hSw); go_simp; (try with_reducible rfl))
    try simp only [List.getElem_toArray, List.getElem_cons_succ, List.getElem_cons_zero, Act.put, List.setIfInBounds_toArray, List.set_cons_zero, List.set_cons_succ]
    refine wpAnyH_done (by kernel_rfl) ?_ _
    refine NoPanic.normal ?_
    clear hS
    generalize set9 _ _ _ _ _ _ _ _ _ _ _ = w5 at HB5 HZ5 ⊢
    obtain ⟨x0, x1, x2, x3, x4, x5, x6, x7, x8⟩ := MsgAt.of_block (m := noMs) (v := .slice none 0 0) HZ5.out
    have HQ5 := Lib.hid (HQ1.out.below HB5.out)
    have HB6 := Lib.hid (HB1.out.trans (But2.of_below (a := qb) (b := mb) HB5.out))
    go_wp2_with fail
    go_ret3
    exact ⟨rfl, HQ5.out, HB6.out⟩
end Go.Proofs.YtkiheanpamplpaaDoor

namespace Go.Proofs.YtkiheanpamplpaaDoor
open Go.RowKit Go.Bul Go.Maps
set_option maxRecDepth 100000 in
theorem len_s (w : World) (qb : Nat) (site : ByteArray) (last : Int) (mb n : Nat) (D : DataW Value) (hq : QAt w qb site last mb n D) :
    Calls Tryd.prog 25 #[.pointer (some ⟨qb, 0, none⟩)] w fun e w' => e = .returned (.int .i64 (Maps.size D)) ∧ w = w' := by
  have HQ := Lib.hid hq
  obtain ⟨q0, q1, q2⟩ := hq.cells
  clear hq
  go_enter Tryd.func25, Tryd.ntmps25
  go_wp2_with (at_len; refine wpList_len_own _ rfl _ 82 rfl 3 87 Tryd.underlying82 _ mb n D rfl HQ.out.map ?_)
  go_ret
  exact ⟨rfl, rfl⟩
set_option maxRecDepth 100000 in
set_option maxHeartbeats 2000000 in
theorem add_bad (m : Ms) (v : Value) (ok : m.Ok) (now : Int) (w : World) (qb : Nat) (hh : HopsIn w v m.ho) (hc : checkE m ≠ 0) :
    Calls Tryd.prog 24 #[.pointer (some ⟨qb, 0, none⟩), msgV m v, .int .i64 now] w fun e w' => e = .returned (.tuple #[.int .i64 0, .int .i64 (checkE m)]) ∧ Below w.heap.size w w' := by
  have HH := Lib.hid hh
  have OK := Lib.hid ok
  clear hh ok
  go_enter Tryd.func24, Tryd.ntmps24
  unfold msgV
  go_wp2_with fail
  refine (check_s m v OK.out _ (HH.out.below ((Below.refl _ _).alloc (Nat.le_refl _) _))).mono ?_
  rintro e w1 ⟨rfl, b1⟩
  have HB1 := Lib.hid (((Below.refl _ _).alloc (Nat.le_refl _) _).trans (b1.mono (by rw [size_alloc]; omega)))
  clear b1
  have hq0 : (checkE m == 0) = false := by rw [beq_eq_false_iff_ne]; exact hc
  go_wp2_with fail
  go_ret2
  exact ⟨rfl, HB1.out⟩
set_option maxRecDepth 100000 in
theorem insertion_few (v c : Value) (l : Nat) (hl : l ≤ 1) (w : World) :
    Calls Tryd.prog 92 #[v, .int .i64 0, .int .i64 l, c] w fun e w' => e = .returned (.tuple #[]) ∧ w = w' := by
  go_enter Tryd.func92, Tryd.ntmps92
  have h1 : decide ((1 : Int) < l) = false := by simp; omega
  go_wp2_with fail
  refine wp_loop_rounds 1 ?_
  rw [rounds_succ]
  go_wp2_with fail
  go_end0
  exact ⟨rfl, rfl⟩
set_option maxRecDepth 100000 in
theorem pdq_few (v c : Value) (l : Nat) (hl : l ≤ 1) (k : Int) (w : World) :
    Calls Tryd.prog 73 #[v, .int .i64 0, .int .i64 l, .int .i64 k, c] w fun e w' => e = .returned (.tuple #[]) ∧ w = w' := by
  go_enter Tryd.func73, Tryd.ntmps73
  have h1 : (l : Int) ≤ 12 := by omega
  have hw : IntKind.i64.wrap (l : Int) = l := IntWalk.i64_in _ (by omega)
  go_wp2_with fail
  refine wp_loop_rounds 1 ?_
  rw [rounds_succ]
  go_wp2_with fail
  refine (insertion_few v c l hl w).mono ?_
  rintro e w' ⟨rfl, rfl⟩
  go_wp2_with fail
  (try simp only [Exit.inBlock, Exit.then])
  refine bodyPost_ret (results_none rfl _ _ _) rfl ?_
  exact ⟨rfl, rfl⟩
set_option maxRecDepth 100000 in
set_option maxHeartbeats 2000000 in
theorem get_any (m : Ms) (hv : Value) (num due fl : Int) (k : Int) (h0 : -9223372036854775808 ≤ k) (h1 : k ≤ 9223372036854775807) (w : World) (qb : Nat) (site : ByteArray) (last : Int) (mb n : Nat) (D : DataW Value) (hq : QAt w qb site last mb n D)
    (hs : Bool) (hhas : Maps.has D (kInt k) = hs) (hat : D.atKey (kInt k) (.held zeroW) = .held (wtV m hv num due fl)) (hn : m.ho.length ≤ 100000) (hh : HopsIn w hv m.ho) :
    Calls Tryd.prog 27 #[.pointer (some ⟨qb, 0, none⟩), .int .i64 k] w fun e w' => ∃ v', e = .returned (.tuple #[msgV m v', .int .i64 due, .bool hs]) ∧ OwnH w.heap.size w' v' m.ho ∧ Below w.heap.size w w' := by
  have HQ := Lib.hid (hq.new (.cells (msgCells noMs (.slice none 0 0)) 29))
  have HH := Lib.hid hh
  obtain ⟨a9, c9, rfl⟩ := hh.shape
  have HK := Lib.hid (keyOf_k k h0 h1)
  have HA := Lib.hid hat
  have HS := Lib.hid hhas
  obtain ⟨q0, q1, q2⟩ := hq.cells
  have hqb := lt_of_block hq.blk
  clear hh hq hat hhas h0 h1
  go_enter Tryd.func27, Tryd.ntmps27
  go_wp2_with (at_lookup; refine wpList_lookup_own_ok _ rfl _ _ 82 rfl 3 87 keyed Tryd.underlying82 RV (zeroWaiting _) (.held zeroW) [] rfl mb n D rfl HQ.out.map _ _ rfl HK.out ?_; intro vv ps hvv; have hv2 := (Prod.mk.inj (Option.some.inj hvv)).1; rw [HA.out] at hv2; obtain rfl := (DataW.held.inj hv2); rw [HS.out]; clear hvv hv2; simp only [wtV])
  obtain ⟨wq, hwq⟩ : ∃ wq, wq = (w.alloc (.cells (msgCells noMs (.slice none 0 0)) 29)).alloc (.cells (wtCells m (.slice a9 m.ho.length c9) num due fl) 87) := ⟨_, rfl⟩
  have HW := Lib.hid (show wq.heap[w.heap.size + 1]? = some (.cells (wtCells m (.slice a9 m.ho.length c9) num due fl) 87 (0, 0)) by rw [hwq]; exact two_last w _ _)
  have HZ := Lib.hid (show wq.heap[w.heap.size]? = some (.cells (msgCells noMs (.slice none 0 0)) 29 (0, 0)) by rw [hwq]; exact (Below.heap_alloc _ _ _ (by rw [size_alloc]; omega)).trans (heap_alloc_new _ _))
  have HB := Lib.hid (show Below w.heap.size w wq by rw [hwq]; exact two_allocs w _ _)
  have hs1 : wq.heap.size = w.heap.size + 2 := by rw [hwq, size_alloc, size_alloc]
  have HH1 := Lib.hid (HH.out.below HB.out)
  have hwq2 := hwq
  clear hwq
  simp only [msgCells, wtCells, noMs] at hwq2
  rw [← hwq2]
  clear hwq2 q0 q1 q2
  have HP := Lib.hid (show ∀ x, But2 w.heap.size w.heap.size wq x → x.cell? ⟨w.heap.size + 1, 0, none⟩ = some (.string m.fu) ∧ x.cell? ⟨w.heap.size + 1, 1, none⟩ = some (.string m.fs) ∧ x.cell? ⟨w.heap.size + 1, 2, none⟩ = some (.string m.tu) ∧ x.cell? ⟨w.heap.size + 1, 3, none⟩ = some (.string m.ts) ∧ x.cell? ⟨w.heap.size + 1, 4, none⟩ = some (.int .i64 m.nu) ∧ x.cell? ⟨w.heap.size + 1, 5, none⟩ = some (.int .i64 m.da) ∧ x.cell? ⟨w.heap.size + 1, 6, none⟩ = some (.string m.su) ∧ x.cell? ⟨w.heap.size + 1, 7, none⟩ = some (.slice a9 m.ho.length c9) ∧ x.cell? ⟨w.heap.size + 1, 8, none⟩ = some (.string m.bo) ∧ x.cell? ⟨w.heap.size + 1, 10, none⟩ = some (.int .i64 due) ∧ But2 w.heap.size w.heap.size wq x from fun x hx => by
    have h := (hx.block (w.heap.size + 1) (by omega) (by omega) (by omega)).trans HW.out
    exact ⟨wt_cell h 0, wt_cell h 1, wt_cell h 2, wt_cell h 3, wt_cell h 4, wt_cell h 5, wt_cell h 6, wt_cell h 7, wt_cell h 8, wt_cell h 10, hx⟩)
  refine wp_region_noPanic ?_
  refine wp_region_held_drew (S := (fun x => x.cell? ⟨w.heap.size + 1, 0, none⟩ = some (.string m.fu) ∧ x.cell? ⟨w.heap.size + 1, 1, none⟩ = some (.string m.fs) ∧ x.cell? ⟨w.heap.size + 1, 2, none⟩ = some (.string m.tu) ∧ x.cell? ⟨w.heap.size + 1, 3, none⟩ = some (.string m.ts) ∧ x.cell? ⟨w.heap.size + 1, 4, none⟩ = some (.int .i64 m.nu) ∧ x.cell? ⟨w.heap.size + 1, 5, none⟩ = some (.int .i64 m.da) ∧ x.cell? ⟨w.heap.size + 1, 6, none⟩ = some (.string m.su) ∧ x.cell? ⟨w.heap.size + 1, 7, none⟩ = some (.slice a9 m.ho.length c9) ∧ x.cell? ⟨w.heap.size + 1, 8, none⟩ = some (.string m.bo) ∧ x.cell? ⟨w.heap.size + 1, 10, none⟩ = some (.int .i64 due) ∧ But2 w.heap.size w.heap.size wq x)) (by kernel_rfl) (HP.out _ (But2.of_below ((Below.refl _ _).drew))) (fun hS => ?_)
  refine wpAnyH_take (i := 0) (v := ?vv0) rfl (by kernel_rfl) (by kernel_rfl) (by kernel_rfl) (fun _ _ _ h => h) (Or.inl ⟨by rfl, ?hy0⟩) hS ?rest0
  case hy0 => (intro x hSw; (try dsimp only at hSw); go_simp; (try with_reducible rfl))
  try simp only [List.getElem_toArray, List.getElem_cons_succ, List.getElem_cons_zero, Act.put, List.setIfInBounds_toArray, List.set_cons_zero, List.set_cons_succ]
  refine wpAnyH_take (i := 1) (v := ?vv1) rfl (by kernel_rfl) (by kernel_rfl) (by kernel_rfl) (fun _ _ _ h => h) (Or.inl ⟨by rfl, ?hy1⟩) hS ?rest1
  case hy1 => (intro x hSw; (try dsimp only at hSw); go_simp; (try with_reducible rfl))
  try simp only [List.getElem_toArray, List.getElem_cons_succ, List.getElem_cons_zero, Act.put, List.setIfInBounds_toArray, List.set_cons_zero, List.set_cons_succ]
  refine wpAnyH_take (i := 3) (v := ?vv3) rfl (by kernel_rfl) (by kernel_rfl) (by kernel_rfl) (fun _ _ _ h => h) (Or.inl ⟨by rfl, ?hy3⟩) hS ?rest3
  case hy3 => (intro x hSw; (try dsimp only at hSw); go_simp; (try with_reducible rfl))
  try simp only [List.getElem_toArray, List.getElem_cons_succ, List.getElem_cons_zero, Act.put, List.setIfInBounds_toArray, List.set_cons_zero, List.set_cons_succ]
  refine wpAnyH_take (i := 4) (v := ?vv4) rfl (by kernel_rfl) (by kernel_rfl) (by kernel_rfl) (fun _ _ _ h => h) (Or.inl ⟨by rfl, ?hy4⟩) hS ?rest4
  case hy4 => (intro x hSw; (try dsimp only at hSw); go_simp; (try with_reducible rfl))
  try simp only [List.getElem_toArray, List.getElem_cons_succ, List.getElem_cons_zero, Act.put, List.setIfInBounds_toArray, List.set_cons_zero, List.set_cons_succ]
  refine wpAnyH_take (i := 5) (v := ?vv5) rfl (by kernel_rfl) (by kernel_rfl) (by kernel_rfl) (fun _ _ _ h => h) (Or.inl ⟨by rfl, ?hy5⟩) hS ?rest5
  case hy5 => (intro x hSw; (try dsimp only at hSw); go_simp; (try with_reducible rfl))
  try simp only [List.getElem_toArray, List.getElem_cons_succ, List.getElem_cons_zero, Act.put, List.setIfInBounds_toArray, List.set_cons_zero, List.set_cons_succ]
  refine wpAnyH_ready (rs := [2]) (by kernel_rfl) (by simp) ?_
  refine AllReadyH.cons rfl (fun K hK => ?_) AllReadyH.nil
  go_simp
  go_at_call 49
  refine (copied_s m _ hn _ (HH1.out.below ((Below.refl _ _).drew))).mono ?_
  rintro e w2 ⟨v2, rfl, ho2, hb9⟩
  obtain ⟨a8, l8, c8, rfl⟩ := owns_slice ho2
  have hO9 := Lib.hid (show OwnH (w.heap.size + 2) w2 (.slice a8 l8 c8) m.ho from owns_mono ho2 (Nat.le_of_eq hs1.symm))
  have hB9 := Lib.hid (((Below.refl wq.heap.size wq).drew).trans (hb9.mono (Nat.le_refl _)))
  have HZ2 := Lib.hid ((hB9.out.block w.heap.size (by omega)).trans HZ.out)
  clear hS ho2 hb9
  refine hK.out _ _ (HP.out _ (But2.of_below hB9.out)) (fun hS => ?_)
  clear hK K
  try simp only [List.getElem_toArray, List.getElem_cons_succ, List.getElem_cons_zero, Act.put, List.setIfInBounds_toArray, List.set_cons_zero, List.set_cons_succ]
  refine wpAnyH_ready (rs := [6]) (by kernel_rfl) (by simp) ?_
  refine AllReadyH.cons rfl (fun K hK => ?_) AllReadyH.nil
  rw [if_pos (by rfl)]
  refine wp_store9 (.tmp 4) (.tmp 23) m a8 l8 c8 rfl rfl rfl HZ2.out ?_
  clear hS
  have HC9 := Lib.hid (set9_but2 (b := w.heap.size) (But2.of_below hB9.out) rfl (.string m.fu) (.string m.fs) (.string m.tu) (.string m.ts) (.int .i64 m.nu) (.int .i64 m.da) (.string m.su) (.slice a8 l8 c8) (.string m.bo))
  refine hK.out _ _ (HP.out _ HC9.out) (fun hS => ?_)
  clear hK K
  try simp only [List.getElem_toArray, List.getElem_cons_succ, List.getElem_cons_zero, Act.put, List.setIfInBounds_toArray, List.set_cons_zero, List.set_cons_succ]
  refine wpAnyH_take (i := 7) (v := ?vv7) rfl (by kernel_rfl) (by kernel_rfl) (by kernel_rfl) (fun _ _ _ h => h) (Or.inl ⟨by rfl, ?hy7⟩) hS ?rest7
  case hy7 => (intro x hSw; (try dsimp only at hSw); go_simp; (try with_reducible rfl))
  try simp only [List.getElem_toArray, List.getElem_cons_succ, List.getElem_cons_zero, Act.put, List.setIfInBounds_toArray, List.set_cons_zero, List.set_cons_succ]
  refine wpAnyH_take (i := 8) (v := ?vv8) rfl (by kernel_rfl) (by kernel_rfl) (by kernel_rfl) (fun _ _ _ h => h) (Or.inl ⟨by rfl, ?hy8⟩) hS ?rest8
  case hy8 => (intro x hSw; (try dsimp only at hSw); go_simp; (try with_reducible rfl))
  try simp only [List.getElem_toArray, List.getElem_cons_succ, List.getElem_cons_zero, Act.put, List.setIfInBounds_toArray, List.set_cons_zero, List.set_cons_succ]
  refine wpAnyH_done (by kernel_rfl) ?_ _
  refine NoPanic.normal ?_
  clear hS
  go_wp2_with fail
  refine bodyPost_ret (results_cell3 rfl _ _ w.heap.size _ _ _ _ rfl (set9_block HZ2.out _ _ _ _ _ _ _ _ _) Tryd.underlying29 rfl (by kernel_rfl)) rfl ?_
  exact ⟨_, rfl, OwnH.set9 (b := w.heap.size) hO9.out (by omega) (by omega) _ _ _ _ _ _ _ _ _, set9_below (B := w.heap.size) (b := w.heap.size) (HB.out.trans (hB9.out.mono (by omega))) (Nat.le_refl _) _ _ _ _ _ _ _ _ _⟩
end Go.Proofs.YtkiheanpamplpaaDoor

namespace Go.Proofs.YtkiheanpamplpaaDoor
open Go.RowKit Go.Bul Go.Maps
set_option maxRecDepth 100000 in
theorem bits64_few (l : Nat) (hl : l ≤ 1) (w : World) : Calls Tryd.prog 101 #[.int .u64 l] w fun e w' => (∃ k : Int, e = .returned (.int .i64 k)) ∧ w = w' := by
  obtain rfl | rfl : l = 0 ∨ l = 1 := by omega
  · go_enter Tryd.func101, Tryd.ntmps101
    go_wp2_with fail
    go_ret
    exact ⟨⟨_, rfl⟩, rfl⟩
  · go_enter Tryd.func101, Tryd.ntmps101
    go_wp2_with fail
    go_ret
    exact ⟨⟨_, rfl⟩, rfl⟩
set_option maxRecDepth 100000 in
theorem bits_few (l : Nat) (hl : l ≤ 1) (w : World) : Calls Tryd.prog 74 #[.int .u64 l] w fun e w' => (∃ k : Int, e = .returned (.int .i64 k)) ∧ w = w' := by
  go_enter Tryd.func74, Tryd.ntmps74
  go_wp2_with fail
  refine (bits64_few l hl w).mono ?_
  rintro e w' ⟨⟨k, rfl⟩, rfl⟩
  go_wp2_with fail
  go_ret
  exact ⟨⟨_, rfl⟩, rfl⟩
set_option maxRecDepth 100000 in
theorem sort_few (a : Option Addr) (c : Value) (l cap : Nat) (hl : l ≤ 1) (w : World) :
    Calls Tryd.prog 50 #[.slice a l cap, c] w fun e w' => e = .returned (.tuple #[]) ∧ w = w' := by
  have hw : IntKind.u64.wrap (l : Int) = l := by unfold IntKind.wrap; simp [IntKind.signed, IntKind.bits]; omega
  go_enter Tryd.func50, Tryd.ntmps50
  go_wp2_with fail
  refine (bits_few l hl w).mono ?_
  rintro e w' ⟨⟨k, rfl⟩, rfl⟩
  go_wp2_with fail
  refine (pdq_few _ _ l hl k w).mono ?_
  rintro e w' ⟨rfl, rfl⟩
  go_wp2_with fail
  go_end0
  exact ⟨rfl, rfl⟩
theorem infoW : (Tryd.prog.info? 87).map (fun i => (i.zero, i.size, i.bytes)) = some (some zeroW, 12, 160) := by kernel_rfl
theorem infoI : (Tryd.prog.info? 3).map (fun i => (i.zero, i.size, i.bytes)) = some (some (.int .i64 0), 1, 8) := by kernel_rfl
def rD (m : Ms) (hv : Value) (due fl : Int) : DataW Value := .map [(kInt 1, .held (wtV m hv 1 due fl))]
theorem rD_key {m : Ms} {hv : Value} {due fl : Int} {kl : Lit} (h : Maps.has (rD m hv due fl) kl = true) : kInt 1 = kl := by
  have h2 : ((kInt 1).sameKey kl || false) = true := h
  rw [Bool.or_false] at h2
  exact WideAt.sameKey_eq h2
theorem rD_has {m : Ms} {hv : Value} {due fl : Int} {kl : Lit} (h : Maps.has (rD m hv due fl) kl = true) : ∀ zd, (rD m hv due fl).atKey kl zd = .held (wtV m hv 1 due fl) := by
  obtain rfl := rD_key h
  intro zd
  rfl
theorem rD_left {m : Ms} {hv : Value} {due fl : Int} {kl kl' : Lit} (h : Maps.has (rD m hv due fl) kl = true) : (Maps.has (rD m hv due fl) kl' && !kl'.sameKey kl) = false := by
  obtain rfl := rD_key h
  cases h2 : Maps.has (rD m hv due fl) kl' with
  | false => rfl
  | true =>
    obtain rfl := rD_key h2
    rfl
theorem rD_size (m : Ms) (hv : Value) (due fl : Int) : Maps.size (rD m hv due fl) = 1 := rfl
theorem RV_inv (v : Value) (y : DataW Value × List MemPlace) (h : RV v = some y) : ∃ c : Value, v = c := ⟨v, rfl⟩
theorem rD_elem {m : Ms} {hv : Value} {due fl : Int} {D : DataW Value} (hD : D = rD m hv due fl) {kl : Lit} {c : Value} {y : DataW Value × List MemPlace} (hlk : Maps.has D kl = true) (hR : RV c = some y) (hat : ∀ zd, D.atKey kl zd = y.1) : wtV m hv 1 due fl = c := by
  subst hD
  have h1 := rD_has hlk (.held zeroW)
  rw [hat] at h1
  have h2 : (DataW.held c, ([] : List MemPlace)) = y := Option.some.inj hR
  rw [← h2] at h1
  exact (DataW.held.inj h1).symm
theorem rD_done {m : Ms} {hv : Value} {due fl : Int} {D : DataW Value} (hD : D = rD m hv due fl) {kl : Lit} (hlk : Maps.has D kl = true) {w : World} {b r n cnt : Nat} (h : w.ranges Tryd.prog 3 RV b r n D (fun z => Maps.has D z && !z.sameKey kl) cnt) (hlt : cnt < Maps.size D) : w.ranges Tryd.prog 3 RV b r n D (fun _ => false) 0 := by
  have h0 : cnt = 0 := by rw [hD, rD_size] at hlt; omega
  have h1 : (fun z => Maps.has D z && !z.sameKey kl) = fun _ => false := funext fun z => by rw [hD] at hlk ⊢; exact rD_left hlk
  rw [h0, h1] at h
  exact h
theorem below_of_grown {w w' : World} (h : w.grownBy w' none) : Below w.heap.size w w' := ⟨h.os, h.tape, h.output, h.size, fun k hk => h.block k hk (by simp)⟩
theorem below_turn {w w1 w2 : World} (h : Below w.heap.size w w1) (hg : w1.grownBy w2 (some w.heap.size)) (hs : w1.heap.size = w.heap.size + 1) : Below w.heap.size w w2 :=
  h.trans ⟨hg.os, hg.tape, hg.output, by have := hg.size; omega, fun k hk => hg.block k (by omega) (by intro e; injection e with e; omega)⟩
set_option maxRecDepth 100000 in
set_option maxHeartbeats 4000000 in
theorem due_s (m : Ms) (hv : Value) (due fl now : Int) (w : World) (qb : Nat) (site : ByteArray) (last : Int) (mb n : Nat) (hq : QAt w qb site last mb n (rD m hv due fl)) (hsl : ∃ a l c, hv = .slice a l c) :
    Calls Tryd.prog 28 #[.pointer (some ⟨qb, 0, none⟩), .int .i64 now] w fun e w' => (∃ a c, e = .returned (.slice a (if due ≤ now then 1 else 0) c)) ∧ Below w.heap.size w w' := by
  have HQ := Lib.hid hq
  obtain ⟨sa, sl, sc, rfl⟩ := hsl
  obtain ⟨q0, q1, q2⟩ := hq.cells
  obtain ⟨i0, hi, hz0, hz1, hz2⟩ := info_parts infoW
  clear hq
  obtain ⟨D, hD⟩ : ∃ D, D = rD m (.slice sa sl sc) due fl := ⟨_, rfl⟩
  rw [← hD] at HQ
  go_enter Tryd.func28, Tryd.ntmps28
  go_wp2_with (at_range; refine wpList_range_own _ rfl _ 82 rfl 3 87 keyed Tryd.underlying82 RV mb n D rfl HQ.out.map ?_; intro w1 hr1 hg1 hs1)
  refine wp_loop_rounds 2 ?_
  rw [rounds_succ]
  have hw0 : Below w.heap.size w w1 := below_of_grown hg1
  by_cases hdue : due ≤ now
  · go_wp2_with (first
      | (at_next; refine wpList_next_ranges _ rfl _ rfl 3 keyed RV (fun v : Value => v) (fun v : Value => v) (fun key kl _ => ⟨key, rfl⟩) (fun v y _ => ⟨v, rfl⟩) mb _ n D _ _ rfl hr1 (fun h0 _ => absurd h0 (by rw [hD, rD_size]; decide)) ?_
         intro x c kl y w2 cnt hkey hlk hR hat hr2 hlt hg2 hs2 hen
         obtain rfl := rD_elem hD hlk hR hat
         have HR2 := Lib.hid (rD_done hD hlk hr2 hlt)
         have HB2 := Lib.hid (below_turn hw0 hg2 hs1)
         have HS2 := Lib.hid (show w2.heap.size = w.heap.size + 1 by rw [hs2, hs1])
         clear hr2 hg2 hR hat hlk hkey hs2 hs1
         simp only [wtV] at hen ⊢)
      | (at_builtin; refine wpList_append_own _ rfl _ _ 90 rfl w2.heap.size 87 i0 _ 12 160 Tryd.underlying90 hi hz0 hz1 hz2 rfl (by decide) _ _ _ rfl (World.ownsRow_nil _ _ _ _) ⟨w2.heap.size + 1, 0, none⟩ 1 1 [_, _, _, _, _, _, _, _, _, _, _, _] rfl rfl (World.news_of_block (cs := #[_, _, _, _, _, _, _, _, _, _, _, _]) (t := 87) (fr := (0, 0)) (two_last w2 _ _)) (by simp [Value.oneCell']) (by unfold maxLen; omega) (by omega) (by simp; omega) ?_; intro v4 w4 hown4 hgr4 _; replace hgr4 : World.grownBy _ w4 none := hgr4))
    rw [rounds_succ]
    obtain ⟨g, c4, rfl, hg4, hg4l⟩ := World.ownsRow.form hown4 (by omega)
    have hr4 := ((HR2.out.alloc (.cells #[.string m.fu, .string m.fs, .string m.tu, .string m.ts, .int .i64 m.nu, .int .i64 m.da, .string m.su, .slice sa sl sc, .string m.bo, .int .i64 1, .int .i64 due, .int .i64 fl] 87)).alloc (.cells #[.string m.fu, .string m.fs, .string m.tu, .string m.ts, .int .i64 m.nu, .int .i64 m.da, .string m.su, .slice sa sl sc, .string m.bo, .int .i64 1, .int .i64 due, .int .i64 fl] 87)).kept hgr4 (by simp) (by simp)
    have HB4 := Lib.hid (show Below w.heap.size w w4 from HB2.out.trans (((((Below.refl w2.heap.size w2).alloc (Nat.le_refl _) _).alloc (by rw [size_alloc]; omega) _).trans ((below_of_grown hgr4).mono (by rw [size_alloc, size_alloc]; omega))).mono HB2.out.size))
    have hc := fun k x hx => hown4.cells (g := g) rfl k x hx
    clear hr1 hg1 hgr4
    go_wp2_with (first
      | (at_next; refine wpList_next_ranges _ rfl _ rfl 3 keyed RV (fun v : Value => v) (fun v : Value => v) (fun key kl _ => ⟨key, rfl⟩) (fun v y _ => ⟨v, rfl⟩) mb _ n D _ _ rfl hr4 (fun _ _ => ?_) (fun _ _ _ _ _ _ _ _ _ _ _ h0 => absurd h0 (Nat.not_lt_zero _))))
    refine (sort_few _ _ 1 c4 (Nat.le_refl _) w4).mono ?_
    rintro e w' ⟨rfl, rfl⟩
    have c0 := hc 0 _ rfl
    have c1 := hc 1 _ rfl
    have c2 := hc 2 _ rfl
    have c3 := hc 3 _ rfl
    have c4' := hc 4 _ rfl
    have c5 := hc 5 _ rfl
    have c6 := hc 6 _ rfl
    have c7 := hc 7 _ rfl
    have c8 := hc 8 _ rfl
    have c9 := hc 9 _ rfl
    have c10 := hc 10 _ rfl
    have c11 := hc 11 _ rfl
    have ea : ∀ k, (⟨g, 0, none⟩ : Addr).add k = ⟨g, k, none⟩ := fun k => by unfold Addr.add; split <;> simp_all
    rw [ea] at c0 c1 c2 c3 c4' c5 c6 c7 c8 c9 c10 c11
    clear ea
    clear hc hr4
    go_wp2_with fail
    refine wp_loop_rounds 2 ?_
    rw [rounds_succ]
    go_wp2_with fail
    rw [rounds_succ]
    go_wp2_with fail
    go_ret
    have hs4 := HB4.out.size
    exact ⟨⟨_, _, rfl⟩, (((HB4.out.alloc (by omega) _).alloc (by rw [size_alloc]; omega) _).alloc (by rw [size_alloc, size_alloc]; omega) _).drew⟩
  · go_wp2_with (first
      | (at_next; refine wpList_next_ranges _ rfl _ rfl 3 keyed RV (fun v : Value => v) (fun v : Value => v) (fun key kl _ => ⟨key, rfl⟩) (fun v y _ => ⟨v, rfl⟩) mb _ n D _ _ rfl hr1 (fun h0 _ => absurd h0 (by rw [hD, rD_size]; decide)) ?_
         intro x c kl y w2 cnt hkey hlk hR hat hr2 hlt hg2 hs2 hen
         obtain rfl := rD_elem hD hlk hR hat
         have HR2 := Lib.hid (rD_done hD hlk hr2 hlt)
         have HB2 := Lib.hid (below_turn hw0 hg2 hs1)
         have HS2 := Lib.hid (show w2.heap.size = w.heap.size + 1 by rw [hs2, hs1])
         clear hr2 hg2 hR hat hlk hkey hs2 hs1
         simp only [wtV] at hen ⊢))
    rw [rounds_succ]
    have hr4 := HR2.out.alloc (.cells #[.string m.fu, .string m.fs, .string m.tu, .string m.ts, .int .i64 m.nu, .int .i64 m.da, .string m.su, .slice sa sl sc, .string m.bo, .int .i64 1, .int .i64 due, .int .i64 fl] 87)
    have HB4 := Lib.hid (show Below w.heap.size w (w2.alloc (.cells #[.string m.fu, .string m.fs, .string m.tu, .string m.ts, .int .i64 m.nu, .int .i64 m.da, .string m.su, .slice sa sl sc, .string m.bo, .int .i64 1, .int .i64 due, .int .i64 fl] 87)) from HB2.out.alloc HB2.out.size _)
    clear hr1 hg1
    go_wp2_with (first
      | (at_next; refine wpList_next_ranges _ rfl _ rfl 3 keyed RV (fun v : Value => v) (fun v : Value => v) (fun key kl _ => ⟨key, rfl⟩) (fun v y _ => ⟨v, rfl⟩) mb _ n D _ _ rfl hr4 (fun _ _ => ?_) (fun _ _ _ _ _ _ _ _ _ _ _ h0 => absurd h0 (Nat.not_lt_zero _))))
    refine (sort_few _ _ 0 0 (Nat.zero_le _) _).mono ?_
    rintro e w' ⟨rfl, rfl⟩
    clear hr4
    go_wp2_with fail
    refine wp_loop_rounds 1 ?_
    rw [rounds_succ]
    go_wp2_with fail
    go_ret
    exact ⟨⟨_, _, rfl⟩, HB4.out⟩
end Go.Proofs.YtkiheanpamplpaaDoor

namespace Go.Proofs.YtkiheanpamplpaaDoor
open Go.RowKit Go.Bul Go.Maps
structure RI (X : Ms) (xv : Value) (site : ByteArray) (w : World) (bx qb mb : Nat) (last : Int) (n : Nat) (D : DataW Value) (wr : World) : Prop where
  q : QAt wr qb site last mb n D
  x : MsgAt wr bx X xv
  xs : bx < wr.heap.size
  b : Below w.heap.size w wr
  nq : bx ≠ qb
  nm : bx ≠ mb
  hq : w.heap.size ≤ qb
  hm : w.heap.size ≤ mb
theorem RI.below {X : Ms} {xv : Value} {site : ByteArray} {w : World} {bx qb mb : Nat} {last : Int} {n : Nat} {D : DataW Value} {w1 w2 : World} (h : RI X xv site w bx qb mb last n D w1) (hb : Below w1.heap.size w1 w2) : RI X xv site w bx qb mb last n D w2 :=
  ⟨h.q.below hb, h.x.below hb h.xs, Nat.lt_of_lt_of_le h.xs hb.size, h.b.trans (hb.mono h.b.size), h.nq, h.nm, h.hq, h.hm⟩
theorem RI.but2 {X : Ms} {xv : Value} {site : ByteArray} {w : World} {bx qb mb : Nat} {last last' : Int} {n n' : Nat} {D D' : DataW Value} {w1 w2 : World} (h : RI X xv site w bx qb mb last n D w1) (hq : QAt w2 qb site last' mb n' D') (hb : But2 qb mb w1 w2) : RI X xv site w bx qb mb last' n' D' w2 :=
  ⟨hq, h.x.but2 hb h.xs h.nq h.nm, Nat.lt_of_lt_of_le h.xs hb.size, h.b.trans (hb.to_below h.b.size h.hq h.hm), h.nq, h.nm, h.hq, h.hm⟩
theorem RI.gl {X : Ms} {xv : Value} {site : ByteArray} {w : World} {bx qb mb : Nat} {last : Int} {n : Nat} {D : DataW Value} {w1 : World} (h : RI X xv site w bx qb mb last n D w1) (hg : Gl w) : ∀ w', But2 qb mb w1 w' → Gl w' := fun w' hb => hg.below (h.b.trans (hb.to_below h.b.size h.hq h.hm))
theorem rD_put (m : Ms) (hv : Value) (due fl due' fl' : Int) : (rD m hv due fl).put (kInt 1) (.held (wtV m hv 1 due' fl')) = rD m hv due' fl' := rfl
theorem rD_del (m : Ms) (hv : Value) (due fl : Int) : (rD m hv due fl).del (kInt 1) = .map [] := rfl
theorem delay_step (f : Nat) : delayI (f + 1) = 2 * delayI f := by unfold delayI; rw [Int.pow_succ]; omega
theorem delay_bd7 (f : Nat) (hf : f ≤ 7) : 5 ≤ delayI f ∧ delayI f ≤ 640 := by
  obtain rfl | rfl | rfl | rfl | rfl | rfl | rfl | rfl : f = 0 ∨ f = 1 ∨ f = 2 ∨ f = 3 ∨ f = 4 ∨ f = 5 ∨ f = 6 ∨ f = 7 := by omega
  all_goals decide
set_option maxRecDepth 100000 in
set_option maxHeartbeats 8000000 in
theorem lawRetries_c (m : Ms) (v : Value) (site : ByteArray) (now : Int) (hm : m.Big) (hs : site.size ≤ maxLen) (n0 : -9223372036854775808 ≤ now) (n1 : now ≤ 9223372036854775807) (w : World) (hg : Gl w) (hh : HopsIn w v m.ho) :
    Calls Tryd.prog 8 #[msgV m v, .string site, .int .i64 now] w fun e w' => e = .returned (.bool true) ∧ Below w.heap.size w w' := by
  unfold maxLen at hs
  have HG := Lib.hid hg
  have HH := Lib.hid hh
  have hz := cut60_size site
  have hz1 : (min (site.size : Int) 60).toNat = min site.size 60 := by omega
  have hz2 : (0 : Int) ≤ min (site.size : Int) 60 := by omega
  have hz3 : min (site.size : Int) 60 ≤ site.size := by omega
  have HT := Lib.hid (toM_ok hm)
  have HMB := Lib.hid hm
  have hzm : (cut60 site).size ≤ maxLen := by unfold maxLen; omega
  have HZM := Lib.hid hzm
  clear hg hh hm hzm
  go_enter Tryd.func8, Tryd.ntmps8
  unfold msgV
  go_wp2_with fail
  refine (toM_o m v HMB.out _ (HH.out.below ((Below.refl _ _).alloc (Nat.le_refl _) _))).mono ?_
  rintro e w1 ⟨a1, c1, rfl, hh1, ho1, b1⟩
  have HH1 := Lib.hid hh1
  have HO1 := Lib.hid ho1
  have HW1 := Lib.hid (((Below.refl _ _).alloc (Nat.le_refl _) _).trans (b1.mono (by rw [size_alloc]; omega)))
  have hs1 : w.heap.size < w1.heap.size := by have := b1.size; rw [size_alloc] at this; omega
  clear hh1 b1 ho1
  obtain ⟨X, hX⟩ : ∃ X, toM m = X := ⟨_, rfl⟩
  rw [hX] at HT HH1 HO1 ⊢
  clear hX
  have hnX := HT.out.hn
  simp only [msgV]
  go_wp2_with fail
  obtain ⟨w2, hw2⟩ : ∃ w2, w2 = w1.alloc (.cells (msgCells X (.slice a1 X.ho.length c1)) 29) := ⟨_, rfl⟩
  have hs2 : w2.heap.size = w1.heap.size + 1 := by rw [hw2, size_alloc]
  have HB2 := Lib.hid (show Below w.heap.size w w2 by rw [hw2]; exact HW1.out.alloc (by omega) _)
  have HX2 := Lib.hid (show MsgAt w2 w1.heap.size X (.slice a1 X.ho.length c1) by rw [hw2]; exact MsgAt.new _ _ _ _)
  have HH2 := Lib.hid (show HopsIn w2 (.slice a1 X.ho.length c1) X.ho by rw [hw2]; exact HH1.out.below ((Below.refl _ _).alloc (Nat.le_refl _) _))
  unfold msgCells at hw2
  rw [← hw2]
  clear hw2
  by_cases hst : siteE (cut60 site) = 0
  case neg =>
    refine (newQueue_bad (cut60 site) HZM.out _ hst).mono ?_
    rintro e w3 ⟨rfl, rfl⟩
    have hq0 : (siteE (cut60 site) == 0) = false := by rw [beq_eq_false_iff_ne]; exact hst
    generalize siteE (cut60 site) = E at hq0 hst ⊢
    go_wp2_with fail
    refine (known49_s _ (HG.out.below HB2.out)).mono ?_
    rintro e w3 ⟨rfl, b3⟩
    have HB3 := Lib.hid (HB2.out.trans (b3.mono HB2.out.size))
    clear b3
    go_wp2_with fail
    refine (known49_s _ (HG.out.below HB3.out)).mono ?_
    rintro e w4 ⟨rfl, b4⟩
    have HB4 := Lib.hid (HB3.out.trans (b4.mono HB3.out.size))
    clear b4
    go_wp2_with fail
    go_ret
    exact ⟨rfl, HB4.out⟩
  refine (newQueue_s (cut60 site) HZM.out _ hst).mono ?_
  rintro e w3 ⟨rfl, hq3, b3⟩
  have HI3 := Lib.hid (show RI X (.slice a1 X.ho.length c1) (cut60 site) w w1.heap.size (w2.heap.size + 1) w2.heap.size 0 0 (.map []) w3 from ⟨hq3, HX2.out.below b3 (by omega), by have := b3.size; omega, HB2.out.trans (b3.mono HB2.out.size), by omega, by omega, by omega, by omega⟩)
  have HH3 := Lib.hid (HH2.out.below b3)
  have hs3 : w2.heap.size + 1 < w3.heap.size := lt_of_block hq3.blk
  have HST := Lib.hid hst
  clear hq3 b3 hst
  obtain ⟨qb, hqb⟩ : ∃ qb, w2.heap.size + 1 = qb := ⟨_, rfl⟩
  obtain ⟨mb, hmb⟩ : ∃ mb, w2.heap.size = mb := ⟨_, rfl⟩
  rw [hqb, hmb] at HI3
  rw [hqb] at hs3
  rw [hqb]
  have HNQ := Lib.hid (show (Value.slice a1 X.ho.length c1).ownBlock ≠ some qb from fun e => by have := (HO1.out _ e).2; omega)
  go_wp2_with fail
  refine (known49_s _ (HG.out.below HI3.out.b)).mono ?_
  rintro e w4 ⟨rfl, b4⟩
  have HI4 := Lib.hid (HI3.out.below b4)
  have HH4 := Lib.hid (HH3.out.below b4)
  have hs4 : qb < w4.heap.size := by have := b4.size; omega
  clear b4
  by_cases hn0 : now < 0
  · go_wp2_with fail
    refine (known49_s _ (HG.out.below HI4.out.b)).mono ?_
    rintro e w5 ⟨rfl, b5⟩
    have HI5 := Lib.hid (HI4.out.below b5)
    clear b5
    go_wp2_with fail
    go_ret
    exact ⟨rfl, HI5.out.b⟩
  by_cases hn1 : 100000000 < now
  · go_wp2_with fail
    refine (known49_s _ (HG.out.below HI4.out.b)).mono ?_
    rintro e w5 ⟨rfl, b5⟩
    have HI5 := Lib.hid (HI4.out.below b5)
    clear b5
    go_wp2_with fail
    go_ret
    exact ⟨rfl, HI5.out.b⟩
  have k0 : 0 ≤ now := by omega
  have k1 : now ≤ 100000000 := by omega
  have hn0' : decide (now < 0) = false := by simp; omega
  have hn1' : decide (now > 100000000) = false := by simp; omega
  obtain ⟨x0, x1, x2, x3, x4, x5, x6, x7, x8⟩ := HI4.out.x
  go_wp2_with fail
  by_cases hc : checkE X = 0
  case neg =>
    have hb := add_bad X (.slice a1 X.ho.length c1) HT.out now w4 qb HH4.out hc
    simp only [msgV] at hb
    refine hb.mono ?_
    clear hb
    rintro e w5 ⟨rfl, b5⟩
    have HI5 := Lib.hid (HI4.out.below b5)
    have hq0 : (checkE X == 0) = false := by rw [beq_eq_false_iff_ne]; exact hc
    generalize checkE X = E at hq0 hc ⊢
    clear b5 x0 x1 x2 x3 x4 x5 x6 x7 x8
    go_wp2_with fail
    refine (len_s _ _ _ _ _ _ _ HI5.out.q).mono ?_
    rintro e w6 ⟨rfl, rfl⟩
    rw [show ((Maps.size (DataW.map ([] : List (Lit × DataW Value))) : Nat) : Int) = 0 from rfl]
    go_wp2_with fail
    go_ret
    exact ⟨rfl, HI5.out.b⟩
  have ha := add_good X (.slice a1 X.ho.length c1) HT.out now w4 qb (cut60 site) 0 mb 0 (.map []) HI4.out.q (by decide) (by decide) (by decide) HH4.out HNQ.out hc (by omega) (by decide)
  simp only [msgV] at ha
  refine ha.mono ?_
  clear ha
  rintro e w5 ⟨rfl, v5, hq5, ho5, hb5⟩
  have HI5 := Lib.hid (show RI X (.slice a1 X.ho.length c1) (cut60 site) w w1.heap.size qb mb 1 1 (rD X v5 now 0) w5 from HI4.out.but2 hq5 hb5)
  have HH5 := Lib.hid ho5.hops
  have HSL := Lib.hid (show ∃ a l c, v5 = .slice a l c from owns_slice ho5)
  have HVQ := Lib.hid (show v5.ownBlock ≠ some qb from fun e => by have := (ho5.lt _ e).1; omega)
  have HC := Lib.hid hc
  clear hq5 ho5 hb5 hc x0 x1 x2 x3 x4 x5 x6 x7 x8 hn0' hn1'
  go_wp2_with fail
  go_loopw [2, 12, 13] (fun nw d i wr => ∃ (f n : Nat), f ≤ 7 ∧ n ≤ f + 1 ∧ nw = .int .i64 (now + delayI f - 5) ∧ d = .int .i64 (delayI f) ∧ i = .int .i64 (f + 1) ∧ RI X (.slice a1 X.ho.length c1) (cut60 site) w w1.heap.size qb mb 1 n (rD X v5 (now + delayI f - 5) f) wr ∧ HopsIn wr v5 X.ho) (fun _ _ i _ => 9 - (intOf i).toNat)
  case atStart =>
    refine ⟨0, 1, by decide, by decide, ?_, rfl, rfl, ?_, HH5.out⟩
    · rw [show now + delayI 0 - 5 = now by rw [show delayI 0 = 5 from rfl]; omega]
    · rw [show now + delayI 0 - 5 = now by rw [show delayI 0 = 5 from rfl]; omega]; exact HI5.out
  case round =>
    obtain ⟨f, n, hf, hn, rfl, rfl, rfl, hI, hHv⟩ := hrel
    have HI := Lib.hid hI
    have HHv := Lib.hid hHv
    obtain ⟨d0, d1⟩ := delay_bd7 f hf
    have hds := delay_step f
    obtain ⟨N, hN⟩ : ∃ N, now + delayI f - 5 = N := ⟨_, rfl⟩
    obtain ⟨d, hd⟩ : ∃ d, delayI f = d := ⟨_, rfl⟩
    rw [hN] at HI ⊢
    rw [hd] at ⊢ d0 d1 hN hds
    have i8 : (f : Int) + 1 ≤ 8 := by omega
    clear hI hHv
    by_cases hf6 : f ≤ 6
    · go_wp2_with fail
      refine (fail_keep X v5 1 N f hf6 1 (by decide) (by decide) N 26 _ qb (cut60 site) 1 mb n _ HI.out.q rfl rfl HSL.out (by omega) (by omega)).mono ?_
      rintro e w6 ⟨rfl, hq6, hb6⟩
      rw [hd] at hq6
      have HI6 := Lib.hid (show RI X (.slice a1 X.ho.length c1) (cut60 site) w w1.heap.size qb mb 1 (n + 1) (rD X v5 (N + d) (f + 1)) w6 from HI.out.but2 hq6 hb6)
      have HH6 := Lib.hid (HHv.out.but2q HI.out.q hb6 HVQ.out)
      clear hq6 hb6
      go_wp2_with fail
      refine (get_any X v5 1 (N + d) (f + 1) 1 (by decide) (by decide) _ qb (cut60 site) 1 mb (n + 1) _ HI6.out.q true rfl rfl hnX HH6.out).mono ?_
      rintro e w7 ⟨v7, rfl, ho7, b7⟩
      obtain ⟨a7, l7, c7, rfl⟩ := owns_slice ho7
      have HI7 := Lib.hid (HI6.out.below b7)
      have HH7 := Lib.hid (HH6.out.below b7)
      have i9 : ((f : Int) + 1 == 8) = false := by rw [beq_eq_false_iff_ne]; omega
      have hw1 : IntKind.i64.wrap (N + d) = N + d := IntWalk.i64_in _ (by omega)
      have hw2 : IntKind.i64.wrap (N + d - 1) = N + d - 1 := IntWalk.i64_in _ (by omega)
      have hw3 : IntKind.i64.wrap (2 * d) = 2 * d := IntWalk.i64_in _ (by omega)
      have hw4 : IntKind.i64.wrap ((f : Int) + 1 + 1) = (f : Int) + 1 + 1 := IntWalk.i64_in _ (by omega)
      clear ho7 b7
      simp only [msgV]
      go_wp2_with fail
      refine (due_s X v5 (N + d) (f + 1) (N + d - 1) _ qb (cut60 site) 1 mb (n + 1) (HI7.out.q.new _) HSL.out).mono ?_
      rintro e w8 ⟨⟨a8, c8, rfl⟩, b8⟩
      rw [if_neg (by omega)]
      have HI8 := Lib.hid (HI7.out.below (((Below.refl _ _).alloc (Nat.le_refl _) _).trans (b8.mono (by rw [size_alloc]; omega))))
      have HH8 := Lib.hid (HH7.out.below (((Below.refl _ _).alloc (Nat.le_refl _) _).trans (b8.mono (by rw [size_alloc]; omega))))
      clear b8
      go_wp2_with fail
      refine (due_s X v5 (N + d) (f + 1) (N + d) _ qb (cut60 site) 1 mb (n + 1) HI8.out.q HSL.out).mono ?_
      rintro e w9 ⟨⟨a9, c9, rfl⟩, b9⟩
      rw [if_pos (Int.le_refl _)]
      have HI9 := Lib.hid (HI8.out.below b9)
      have HH9 := Lib.hid (HH8.out.below b9)
      clear b9
      go_wp2_with fail
      refine ⟨⟨f + 1, n + 1, by omega, by omega, ?_, ?_, by push_cast; rfl, ?_, HH9.out⟩, by simp only [intOf]; omega⟩
      · congr 1; omega
      · congr 1; omega
      · rw [hds, show now + 2 * d - 5 = N + d by omega]
        exact HI9.out
    · obtain rfl : f = 7 := by omega
      have e9 : d = 640 := by rw [← hd]; rfl
      by_cases hfu : X.fu.size = 0
      · have ze := empty_yes hfu
        have zn := toList_nil hfu
        go_wp2_with fail
        refine (fail_none8 X v5 1 N 7 (by decide) (by decide) (by decide) 1 (by decide) (by decide) N 26 _ qb (cut60 site) 1 mb n (by omega) _ HI.out.q rfl rfl HHv.out HVQ.out (by omega) hfu).mono ?_
        rintro e w6 ⟨rfl, hq6, hb6⟩
        have HI6 := Lib.hid (show RI X (.slice a1 X.ho.length c1) (cut60 site) w w1.heap.size qb mb 1 n (.map []) w6 from HI.out.but2 hq6 hb6)
        clear hq6 hb6
        go_wp2_with fail
        refine (get_any noMs (.slice none 0 0) 0 0 0 1 (by decide) (by decide) _ qb (cut60 site) 1 mb n _ HI6.out.q false rfl rfl (by decide) (.inl ⟨rfl, none, 0, rfl, fun _ => rfl⟩)).mono ?_
        rintro e w7 ⟨v7, rfl, ho7, b7⟩
        obtain ⟨a7, l7, c7, rfl⟩ := owns_slice ho7
        have HI7 := Lib.hid (HI6.out.below b7)
        obtain ⟨y0, y1, y2, y3, y4, y5, y6, y7, y8⟩ := (HI7.out.below ((Below.refl _ _).alloc (Nat.le_refl _) (.cells (msgCells noMs (.slice a7 l7 c7)) 29))).x
        clear ho7 b7
        simp only [msgV]
        simp only [msgCells] at y0 y1 y2 y3 y4 y5 y6 y7 y8
        go_wp2_with fail
        refine (len_s _ _ _ _ _ _ _ (HI7.out.q.new _)).mono ?_
        rintro e w8 ⟨rfl, rfl⟩
        rw [show ((Maps.size (DataW.map ([] : List (Lit × DataW Value))) : Nat) : Int) = 0 from rfl]
        go_wp2_with fail
        go_ret
        exact ⟨rfl, HI7.out.b.alloc HI7.out.b.size _⟩
      · have ze := empty_no hfu
        go_wp2_with fail
        refine (fail_bounce8 X v5 HT.out 1 N 7 (by decide) (by decide) (by decide) 1 (by decide) (by decide) N 26 (by decide) (by decide) _ qb (cut60 site) HZM.out 1 (by decide) (by decide) mb n (by omega) (HI.out.gl HG.out) _ HI.out.q rfl rfl HHv.out HVQ.out (by omega) HC.out HST.out hfu).mono ?_
        rintro e w6 ⟨rfl, v6, hq6, ho6, hb6⟩
        have HI6 := Lib.hid (show RI X (.slice a1 X.ho.length c1) (cut60 site) w w1.heap.size qb mb 2 (n + 1) (.map [(kInt 2, .held (wtV (bounceM X (cut60 site) 26 N) v6 2 N 0))]) w6 from HI.out.but2 hq6 hb6)
        clear hq6 hb6 ho6
        generalize DataW.held (wtV (bounceM X (cut60 site) 26 N) v6 2 N 0) = BD at HI6
        go_wp2_with fail
        refine (get_any noMs (.slice none 0 0) 0 0 0 1 (by decide) (by decide) _ qb (cut60 site) 2 mb (n + 1) _ HI6.out.q false rfl rfl (by decide) (.inl ⟨rfl, none, 0, rfl, fun _ => rfl⟩)).mono ?_
        rintro e w7 ⟨v7, rfl, ho7, b7⟩
        obtain ⟨a7, l7, c7, rfl⟩ := owns_slice ho7
        have HI7 := Lib.hid (HI6.out.below b7)
        obtain ⟨y0, y1, y2, y3, y4, y5, y6, y7, y8⟩ := (HI7.out.below ((Below.refl _ _).alloc (Nat.le_refl _) (.cells (msgCells noMs (.slice a7 l7 c7)) 29))).x
        clear ho7 b7
        simp only [msgV]
        simp only [msgCells] at y0 y1 y2 y3 y4 y5 y6 y7 y8
        go_wp2_with fail
        refine (len_s _ _ _ _ _ _ _ (HI7.out.q.new _)).mono ?_
        rintro e w8 ⟨rfl, rfl⟩
        rw [show ((Maps.size (DataW.map [(kInt 2, BD)]) : Nat) : Int) = 1 from rfl]
        go_wp2_with fail
        go_ret
        exact ⟨rfl, HI7.out.b.alloc HI7.out.b.size _⟩
end Go.Proofs.YtkiheanpamplpaaDoor
