/-
  The law MailLoops, walked: what a round keeps; the walk; a slice of strings among the arguments.
-/
import Derived.Test.YtkiheanpamplpaaDoorLbnB
import Derived.Test.YtkiheanpamplpaaDoorOpnM
import Derived.Deep.CutRange
set_option linter.unusedSimpArgs false
set_option linter.unusedVariables false
set_option linter.unnecessarySimpa false

namespace Go.Proofs.YtkiheanpamplpaaDoor
open Go.RowKit Go.Bul Go.Maps
theorem own_form2 {B : Nat} {w : World} {v : Value} {zs : List ByteArray} (h : OwnH B w v zs) (hz : 0 < zs.length) : ∃ g c, v = .slice (some ⟨g, 0, none⟩) zs.length c ∧ B ≤ g ∧ g < w.heap.size := by
  obtain ⟨g, c, h1, h2, h3⟩ := World.ownsRow.form h hz
  exact ⟨g, c, h1, h2, h3⟩
end Go.Proofs.YtkiheanpamplpaaDoor

namespace Go.Proofs.YtkiheanpamplpaaDoor
open Go.RowKit Go.Bul Go.Maps
theorem hopsE_snoc (z : ByteArray) (hz : siteE z = 0) (e : Int) : ∀ (l pre : List ByteArray), hopsE pre l e = 0 → Lib.containsS (pre ++ l) z = false → hopsE pre (l ++ [z]) e = 0
  | [], pre, h, hc => by
    rw [List.append_nil] at hc
    simp only [List.nil_append, hopsE]
    rw [if_neg (by rw [hz]; simp), if_neg (by rw [hc]; simp)]
    simpa [hopsE] using h
  | y :: r, pre, h, hc => by
    simp only [List.cons_append, hopsE] at h ⊢
    by_cases c1 : siteE y ≠ 0
    · rw [if_pos c1] at h; exact absurd h c1
    rw [if_neg c1] at h ⊢
    by_cases c2 : Lib.containsS pre y = true
    · rw [if_pos c2] at h; exact absurd h (by decide)
    rw [if_neg c2] at h ⊢
    exact hopsE_snoc z hz e r (pre ++ [y]) h (by simpa [List.append_assoc] using hc)
theorem passE_next {m : Ms} {z : ByteArray} (hp : passE m z = 0) : checkE { m with ho := m.ho ++ [z] } = 0 := by
  obtain ⟨h, hz, hc, hl⟩ := passE_zero hp
  unfold checkE at h ⊢
  dsimp only
  by_cases c1 : userB m.fu = false
  · rw [if_pos c1] at h; exact absurd h (by decide)
  rw [if_neg c1] at h ⊢
  by_cases c2 : siteE m.fs ≠ 0
  · rw [if_pos c2] at h; exact absurd h c2
  rw [if_neg c2] at h ⊢
  by_cases c3 : userB m.tu = false ∨ m.tu.size = 0
  · rw [if_pos c3] at h; exact absurd h (by decide)
  rw [if_neg c3] at h ⊢
  by_cases c4 : siteE m.ts ≠ 0
  · rw [if_pos c4] at h; exact absurd h c4
  rw [if_neg c4] at h ⊢
  by_cases c5 : m.nu < 0 ∨ 2147483647 < m.nu
  · rw [if_pos c5] at h; exact absurd h (by decide)
  rw [if_neg c5] at h ⊢
  by_cases c6 : ¬ (0 ≤ m.da ∧ m.da ≤ 105190559)
  · rw [if_pos c6] at h; exact absurd h (by decide)
  rw [if_neg c6] at h ⊢
  by_cases c7 : subE m.su ≠ 0
  · rw [if_pos c7] at h; exact absurd h c7
  rw [if_neg c7] at h ⊢
  by_cases c8 : 16 < m.ho.length
  · rw [if_pos c8] at h; exact absurd h (by decide)
  rw [if_neg c8] at h
  rw [if_neg (by rw [List.length_append]; simp only [List.length_singleton]; omega)]
  exact hopsE_snoc z hz _ m.ho [] h (by simpa using hc)
def kStr (s : ByteArray) : Lit := .string s.data.toList
theorem keyedS : Keyed Tryd.prog 9 := string_keyed Tryd.underlying9
theorem keyOf_s {s : ByteArray} (hs : s.size ≤ maxLen) : keyOf Tryd.prog 9 (.string s) = some (kStr s) := WideMaps.keyOf_string_mk Tryd.underlying9 hs
theorem zeroBool (w : World) : (zeroValue 4).run Tryd.prog w = .ok (.bool false) w := by kernel_rfl
/-- the map holds true at no site but these -/
def Seen (D : DataW Value) (zs : List ByteArray) : Prop := ∀ s : ByteArray, s ∉ zs → D.atKey (kStr s) (.held (.bool false)) = .held (.bool false)
theorem kStr_inj {s z : ByteArray} (h : kStr s = kStr z) : s = z := by
  unfold kStr at h
  injection h with h
  exact ByteArray.ext (Array.toList_inj.1 h)
theorem Seen.put {D : DataW Value} {zs : List ByteArray} (h : Seen D zs) (z : ByteArray) (d : DataW Value) : Seen (D.put (kStr z) d) (zs ++ [z]) := fun s hs => by
  rw [Maps.atKey_put_other (fun e => hs (by rw [kStr_inj e]; simp))]
  exact h s (fun hm => hs (by simp [hm]))
theorem Seen.look {w : World} {b n : Nat} {D : DataW Value} {zs : List ByteArray} (h : Seen D zs) (hown : w.ownsMap Tryd.prog 9 RV b n D) {s : ByteArray} (hs : s.size ≤ maxLen) (hn : s ∉ zs) :
    (Instr.lookup 48 (.map (some b)) (.string s) false).run Tryd.prog w = .ok (.bool false) w := by
  obtain ⟨v, ps, hrun, hv⟩ := hown.lookup keyedS Tryd.underlying48 (zeroBool w) (zd := .held (.bool false)) (zp := []) rfl (keyOf_s hs)
  have h2 := (Prod.mk.inj (Option.some.inj hv)).1
  rw [h s hn] at h2
  obtain rfl := DataW.held.inj h2
  exact hrun
end Go.Proofs.YtkiheanpamplpaaDoor

namespace Go.Proofs.YtkiheanpamplpaaDoor
open Go.RowKit Go.Bul Go.Maps
structure LoopRel (X : Ms) (w : World) (bx mb k : Nat) (wr : World) : Prop where
  ex : ∃ (zs : List ByteArray) (a : Option Addr) (c n : Nat) (D : DataW Value),
    wr.heap[bx]? = some (.cells (msgCells { X with ho := zs } (.slice a zs.length c)) 29 (0, 0)) ∧ HopsIn wr (.slice a zs.length c) zs ∧ zs.length ≤ 16 ∧ (∀ z ∈ zs, z.size ≤ maxLen) ∧
    (Value.slice a zs.length c).ownBlock ≠ some bx ∧ (Value.slice a zs.length c).ownBlock ≠ some mb ∧ wr.ownsMap Tryd.prog 9 RV mb n D ∧ n ≤ k ∧ Seen D zs
  below : Below w.heap.size w wr
theorem LoopRel.go {X : Ms} {w wr w' : World} {bx mb k k' : Nat} (h : LoopRel X w bx mb k wr) (hw : w.heap.size ≤ wr.heap.size) (hb : Below wr.heap.size wr w') (hk : k ≤ k') : LoopRel X w bx mb k' w' := by
  obtain ⟨⟨zs, za, zc, n, D, hblk, hhz, hzl, hzm, hza, hzb, hown, hn, hseen⟩, hw0⟩ := h
  exact ⟨⟨zs, za, zc, n, D, (hb.block bx (lt_of_block hblk)).trans hblk, hhz.below hb, hzl, hzm, hza, hzb, hown.kept (grownBy_of hb) (by simp), by omega, hseen⟩, hw0.trans (hb.mono hw)⟩
theorem grown_of_but {b : Nat} {w w' : World} (h : But2 b b w w') : w.grownBy w' (some b) := ⟨h.os, h.tape, h.output, h.size, fun k hk hb => h.block k hk (fun e => hb (by rw [e])) (fun e => hb (by rw [e]))⟩
theorem after_new {wr w5 : World} {o : Obj} (b5 : Below (wr.drew.alloc o).heap.size (wr.drew.alloc o) w5) : w5.heap[wr.heap.size]? = some o :=
  (b5.block wr.heap.size (by rw [size_alloc]; show wr.heap.size < wr.heap.size + 1; omega)).trans (heap_alloc_new wr.drew o)
theorem after_below {wr w5 : World} {o : Obj} (b5 : Below (wr.drew.alloc o).heap.size (wr.drew.alloc o) w5) : Below wr.heap.size wr w5 :=
  (((Below.refl wr.heap.size wr).drew).alloc (Nat.le_refl _) o).trans (b5.mono (by rw [size_alloc]; show wr.heap.size ≤ wr.heap.size + 1; omega))
set_option maxRecDepth 100000 in
set_option maxHeartbeats 8000000 in
theorem lawLoops_c (m : Ms) (v : Value) (us : List ByteArray) (u : Value) (hm : m.Big) (hus : ∀ z ∈ us, z.size ≤ maxLen) (hul : us.length ≤ maxLen) (w : World) (hg : Gl w) (hh : HopsIn w v m.ho) (hu : HopsIn w u us) :
    Calls Tryd.prog 6 #[msgV m v, u] w fun e w' => e = .returned (.bool true) ∧ Below w.heap.size w w' := by
  have hmm := @run_makeMap Tryd.prog
  have HG := Lib.hid hg
  have HH := Lib.hid hh
  have HU := Lib.hid hu
  have HUS := Lib.hid hus
  unfold maxLen at hul
  have HT := Lib.hid (toM_ok hm)
  obtain ⟨ua, uc, rfl⟩ := hu.shape
  have HMB := Lib.hid hm
  clear hg hh hm hu hus
  have hnX := HT.out.hn
  go_enter Tryd.func6, Tryd.ntmps6
  unfold msgV
  go_wp2_with fail
  refine (toM_s m v HMB.out _ (HH.out.below ((Below.refl _ _).alloc (Nat.le_refl _) _))).mono ?_
  rintro e w1 ⟨a1, c1, rfl, hh1, b1⟩
  have HW1 := Lib.hid (((Below.refl _ _).alloc (Nat.le_refl _) _).trans (b1.mono (by rw [size_alloc]; omega)))
  have hs1 : w.heap.size < w1.heap.size := by have := b1.size; rw [size_alloc] at this; omega
  clear hh1 b1
  simp only [msgV]
  go_wp2_with fail
  obtain ⟨X, hX⟩ : ∃ X : Ms, X = { toM m with ho := [] } := ⟨_, rfl⟩
  obtain ⟨w2, hw2⟩ : ∃ w2, w2 = w1.alloc (.cells (msgCells (toM m) (.slice none 0 0)) 29) := ⟨_, rfl⟩
  have hs2 : w2.heap.size = w1.heap.size + 1 := by rw [hw2, size_alloc]
  have HB2 := Lib.hid (show Below w.heap.size w w2 by rw [hw2]; exact HW1.out.alloc (by omega) _)
  have HX2 := Lib.hid (show w2.heap[w1.heap.size]? = some (.cells (msgCells X (.slice none 0 0)) 29 (0, 0)) by
    rw [hw2, hX]; exact heap_alloc_new _ _)
  have HXO := Lib.hid (show X.Ok by rw [hX]; exact ⟨HT.out.fu, HT.out.fs, HT.out.tu, HT.out.ts, HT.out.su, HT.out.bo, (fun z hz => by cases hz), Nat.zero_le _⟩)
  have HXN := Lib.hid (show X.ho = [] by rw [hX])
  unfold msgCells at hw2
  rw [← hw2]
  clear hw2 hX
  refine (known49_s _ (HG.out.below HB2.out)).mono ?_
  rintro e w3 ⟨rfl, b3⟩
  have HX3 := Lib.hid ((b3.block w1.heap.size (by omega)).trans HX2.out)
  have HB3 := Lib.hid (HB2.out.trans (b3.mono HB2.out.size))
  have hs3 : w1.heap.size < w3.heap.size := by have := b3.size; omega
  obtain ⟨x0, x1, x2, x3, x4, x5, x6, x7, x8⟩ := MsgAt.of_block HX3.out
  have hck := check_s X (.slice none 0 0) HXO.out w3 (by rw [HXN.out]; exact .inl ⟨rfl, none, 0, rfl, fun _ => rfl⟩)
  simp only [msgV] at hck
  have HCK := Lib.hid hck
  clear b3 hck
  go_wp2_with fail
  refine HCK.out.mono ?_
  rintro e w4 ⟨rfl, b4⟩
  have HX4 := Lib.hid ((b4.block w1.heap.size (by omega)).trans HX3.out)
  have HB4 := Lib.hid (HB3.out.trans (b4.mono HB3.out.size))
  have hs4 : w1.heap.size < w4.heap.size := by have := b4.size; omega
  clear b4 HCK x0 x1 x2 x3 x4 x5 x6 x7 x8
  by_cases hE : checkE X = 0
  case neg =>
    have hq0 : (checkE X == 0) = false := by rw [beq_eq_false_iff_ne]; exact hE
    go_wp2_with fail
    refine (known49_s _ (HG.out.below HB4.out)).mono ?_
    rintro e w5 ⟨rfl, b5⟩
    have HB5 := Lib.hid (HB4.out.trans (b5.mono HB4.out.size))
    clear b5
    go_wp2_with fail
    go_ret
    exact ⟨rfl, HB5.out⟩
  rw [hE]
  clear hE
  go_wp2_with fail
  obtain ⟨ws, hws⟩ : ∃ ws, ws = w4.alloc (.map #[] 0) := ⟨_, rfl⟩
  have hss : ws.heap.size = w4.heap.size + 1 := by rw [hws, size_alloc]
  have HR0 := Lib.hid (show LoopRel X w w1.heap.size w4.heap.size 0 ws by
    rw [hws]
    exact ⟨⟨[], none, 0, 0, .map [], (Below.heap_alloc _ _ _ hs4).trans HX4.out, .inl ⟨rfl, none, 0, rfl, fun _ => rfl⟩, by simp, (fun z hz => by cases hz), by simp [Value.ownBlock], by simp [Value.ownBlock], World.ownsMap_made _ _ _ _, Nat.le_refl _, fun s _ => by simp [DataW.atKey]⟩, HB4.out.alloc (by omega) _⟩)
  rw [← hws]
  clear hws
  go_loopw [7] (fun i wr => ∃ k : Nat, k ≤ us.length ∧ k ≤ 60 ∧ i = .int .i64 k ∧ LoopRel X w w1.heap.size w4.heap.size k wr) (fun i _ => 61 - (intOf i).toNat)
  case atStart => exact ⟨0, Nat.zero_le _, by omega, rfl, HR0.out⟩
  case round =>
    obtain ⟨k, hk, hk6, rfl, hR⟩ := hrel
    have HBr := Lib.hid hR.below
    have HR := Lib.hid hR
    by_cases hlt : k < us.length
    · by_cases hl6 : k < 60
      · have i1 : (0 : Int) ≤ (k : Int) := by omega
        have i2 : (k : Int) < us.length := by omega
        have i3 : (k : Int) < 60 := by omega
        obtain ⟨⟨zs, za, zc, n, D, hblk, hhz, hzl, hzm, hza, hzb, hown, hn, hseen⟩, _⟩ := hR
        rcases HU.out with ⟨h0, _⟩ | ⟨ub, uo, uc', he, hub, hucs, hcell⟩
        · rw [h0] at hlt; cases hlt
        injection he with e1 e2 e3
        subst e1 e3
        have hblt : w1.heap.size < wr.heap.size := lt_of_block hblk
        have hmlt : w4.heap.size < wr.heap.size := hown.lt
        have cu := (HBr.out.cell (p := ⟨ub, uo + k, none⟩) hub).trans (hcell k hlt)
        have hublt : ub < wr.heap.size := Nat.lt_of_lt_of_le hub HBr.out.size
        obtain ⟨z, hz⟩ : ∃ z, z = us[k] := ⟨_, rfl⟩
        have hzsz : z.size ≤ maxLen := by rw [hz]; exact HUS.out _ (List.getElem_mem hlt)
        rw [← hz] at cu
        clear hz hcell
        obtain ⟨x0, x1, x2, x3, x4, x5, x6, x7, x8⟩ := MsgAt.of_block hblk
        have HBk := Lib.hid hblk
        have HHZ := Lib.hid hhz
        have HOW := Lib.hid hown
        have HSE := Lib.hid hseen
        have HZM := Lib.hid hzm
        have HZA := Lib.hid hza
        have HZB := Lib.hid hzb
        have HSZ := Lib.hid hzsz
        have ok : ({ X with ho := zs } : Ms).Ok := ⟨HXO.out.fu, HXO.out.fs, HXO.out.tu, HXO.out.ts, HXO.out.su, HXO.out.bo, hzm, by show zs.length ≤ 100000; omega⟩
        clear hblk hhz hown hseen hzm hza hzb
        by_cases hP : passE { X with ho := zs } z = 0
        case neg =>
          have hp : ∀ W : World, HopsIn W (.slice za zs.length zc) zs → _ := fun W h => pass_a { X with ho := zs } (.slice za zs.length zc) ok z hzsz W h hP
          simp only [msgV] at hp
          have HP := Lib.hid hp
          clear hp ok hzsz
          go_wp2_with fail
          go_region_with (go_at_call 18; refine (HP.out _ (by first | exact HHZ.out.below ((Below.refl _ _).drew) | exact HHZ.out.below (((Below.refl _ _).drew).alloc (Nat.le_refl _) _) | exact HHZ.out.below (((Below.refl _ _).alloc (Nat.le_refl _) _).drew))).mono ?_; rintro e w5 ⟨rfl, b5⟩; have hB5 := Lib.hid b5; first | (have hy : w5.heap[wr.heap.size]? = some (.cells (msgCells noMs (.slice none 0 0)) 29 (0, 0)) := after_new b5; obtain ⟨y0, y1, y2, y3, y4, y5, y6, y7, y8⟩ := MsgAt.of_block hy; have f0 := frozen_of hy 0; have f1 := frozen_of hy 1; have f2 := frozen_of hy 2; have f3 := frozen_of hy 3; have f4 := frozen_of hy 4; have f5 := frozen_of hy 5; have f6 := frozen_of hy 6; have f7 := frozen_of hy 7; have f8 := frozen_of hy 8; have HY := Lib.hid hy; clear hy b5) | clear b5)
          all_goals
            go_wp2_with fail
            refine ⟨⟨k + 1, hlt, by omega, by push_cast; rfl, ?_⟩, by simp only [intOf]; omega⟩
            first
              | exact HR.out.go HBr.out.size ((show Below wr.heap.size wr w5 from ((Below.refl wr.heap.size wr).drew).trans hB5.out).alloc hB5.out.size _) (by omega)
              | exact HR.out.go HBr.out.size (set9_below (after_below hB5.out) (Nat.le_refl _) _ _ _ _ _ _ _ _ _) (by omega)
        have hp : ∀ W : World, HopsIn W (.slice za zs.length zc) zs → _ := fun W h => pass_c { X with ho := zs } (.slice za zs.length zc) ok z hzsz W h hP
        obtain ⟨hpc, hpz, hpn, hpl⟩ := passE_zero hP
        have hnotin : z ∉ zs := fun e => by have := (Lib.containsS_iff zs z).2 e; rw [show Lib.containsS zs z = false from hpn] at this; cases this
        have hpl : zs.length < 16 := hpl
        have ok2 : ({ X with ho := zs ++ [z] } : Ms).Ok := ⟨HXO.out.fu, HXO.out.fs, HXO.out.tu, HXO.out.ts, HXO.out.su, HXO.out.bo, (fun y hy => (List.mem_append.1 hy).elim (fun h => HZM.out y h) (fun h => by rw [List.mem_singleton.1 h]; exact hzsz)), by show (zs ++ [z]).length ≤ 100000; rw [List.length_append]; simp only [List.length_singleton]; omega⟩
        have hck2 := fun (a : Option Addr) (c : Nat) (W : World) (h : HopsIn W (.slice a (zs ++ [z]).length c) (zs ++ [z])) => check_s { X with ho := zs ++ [z] } (.slice a (zs ++ [z]).length c) ok2 W h
        rw [show checkE { X with ho := zs ++ [z] } = 0 from passE_next hP] at hck2
        simp only [msgV] at hp hck2
        have hLe : (zs ++ [z]).length = zs.length + 1 := by simp
        obtain ⟨L, hL⟩ : ∃ L, L = (zs ++ [z]).length := ⟨_, rfl⟩
        rw [← hL] at hck2 hLe
        subst hLe
        have HP := Lib.hid hp
        have HCK2 := Lib.hid hck2
        have HNI := Lib.hid hnotin
        have HLL := Lib.hid hL
        clear hp ok hck2 hzsz hnotin hL hpc hpz hpn ok2
        have HCU := Lib.hid cu
        go_upto_region 9 with fail
        go_cut [8, 9] from 22 to 75 (fun p e wz => ∃ (yb g5 c5 : Nat), p = .pointer (some ⟨yb, 0, none⟩) ∧ e = .int .i64 0 ∧ wz.heap[yb]? = some (.cells (msgCells X (.slice (some ⟨g5, 0, none⟩) (zs.length + 1) c5)) 29 (0, 0)) ∧ Below wr.heap.size wr wz ∧ OwnH wr.heap.size wz (.slice (some ⟨g5, 0, none⟩) (zs.length + 1) c5) (zs ++ [z]) ∧ wr.heap.size ≤ g5 ∧ wr.heap.size ≤ yb)
        case first =>
          go_region_with (go_at_call 18; refine (HP.out _ (by first | exact HHZ.out.below ((Below.refl _ _).drew) | exact HHZ.out.below (((Below.refl _ _).drew).alloc (Nat.le_refl _) _) | exact HHZ.out.below (((Below.refl _ _).alloc (Nat.le_refl _) _).drew))).mono ?_; rintro e w5 ⟨v5, rfl, ho5, b5⟩; obtain ⟨g5, c5, rfl, hg5, hg5s⟩ := own_form2 ho5 (by simp); rw [← HLL.out] at ho5 ⊢; have hO5 := Lib.hid ho5; clear ho5; have hB5 := Lib.hid b5; first | (have hy : w5.heap[wr.heap.size]? = some (.cells (msgCells noMs (.slice none 0 0)) 29 (0, 0)) := after_new b5; obtain ⟨y0, y1, y2, y3, y4, y5, y6, y7, y8⟩ := MsgAt.of_block hy; have f0 := frozen_of hy 0; have f1 := frozen_of hy 1; have f2 := frozen_of hy 2; have f3 := frozen_of hy 3; have f4 := frozen_of hy 4; have f5 := frozen_of hy 5; have f6 := frozen_of hy 6; have f7 := frozen_of hy 7; have f8 := frozen_of hy 8; have HY := Lib.hid hy; clear hy b5) | clear b5)
          all_goals clear x0 x1 x2 x3 x4 x5 x6 x7 x8
          all_goals
            first
              | (obtain ⟨wz, hwz⟩ : ∃ wz, wz = w5.alloc (.cells (msgCells X (.slice (some ⟨g5, 0, none⟩) (zs.length + 1) c5)) 29) := ⟨_, rfl⟩
                 have HZ0 := Lib.hid (show wz.heap[w5.heap.size]? = some (.cells (msgCells X (.slice (some ⟨g5, 0, none⟩) (zs.length + 1) c5)) 29 (0, 0)) by rw [hwz]; exact heap_alloc_new _ _)
                 have HBz := Lib.hid (show Below wr.heap.size wr wz by rw [hwz]; exact (show Below wr.heap.size wr w5 from ((Below.refl wr.heap.size wr).drew).trans hB5.out).alloc hB5.out.size _)
                 have HOz := Lib.hid (show OwnH wr.heap.size wz (.slice (some ⟨g5, 0, none⟩) (zs.length + 1) c5) (zs ++ [z]) by rw [hwz]; exact (show OwnH wr.heap.size w5 _ _ from hO5.out).kept (World.grownBy_alloc _ _ none) (by simp; exact Classical.em _))
                 have hg9 : wr.heap.size ≤ g5 := hg5
                 obtain ⟨yb, hyb⟩ : ∃ yb, yb = w5.heap.size := ⟨_, rfl⟩
                 have HZ := Lib.hid (show wz.heap[yb]? = some (.cells (msgCells X (.slice (some ⟨g5, 0, none⟩) (zs.length + 1) c5)) 29 (0, 0)) by rw [hyb]; exact HZ0.out)
                 have hyr : wr.heap.size ≤ yb := by rw [hyb]; exact hB5.out.size
                 unfold msgCells at hwz
                 rw [← hwz]
                 (try go_wp2_with fail)
                 go_meet
                 exact ⟨yb, g5, c5, by rw [hyb], rfl, HZ.out, HBz.out, HOz.out, hg9, hyr⟩)
              | (try clear y0 y1 y2 y3 y4 y5 y6 y7 y8 f0 f1 f2 f3 f4 f5 f6 f7 f8
                 obtain ⟨wz, hwz⟩ : ∃ wz, wz = set9 w5 wr.heap.size (.string X.fu) (.string X.fs) (.string X.tu) (.string X.ts) (.int .i64 X.nu) (.int .i64 X.da) (.string X.su) (.slice (some ⟨g5, 0, none⟩) (zs.length + 1) c5) (.string X.bo) := ⟨_, rfl⟩
                 have HZ0 := Lib.hid (show wz.heap[wr.heap.size]? = some (.cells (msgCells X (.slice (some ⟨g5, 0, none⟩) (zs.length + 1) c5)) 29 (0, 0)) by rw [hwz]; exact set9_block HY.out _ _ _ _ _ _ _ _ _)
                 have HBz := Lib.hid (show Below wr.heap.size wr wz by rw [hwz]; exact set9_below (after_below hB5.out) (Nat.le_refl _) _ _ _ _ _ _ _ _ _)
                 have HOz := Lib.hid (show OwnH wr.heap.size wz (.slice (some ⟨g5, 0, none⟩) (zs.length + 1) c5) (zs ++ [z]) by rw [hwz]; exact OwnH.set9 (b := wr.heap.size) (B' := wr.heap.size + 1) (owns_mono hO5.out (by change wr.heap.size + 1 ≤ (wr.alloc _).heap.size; rw [size_alloc]; exact Nat.le_refl _)) (by omega) (by omega) _ _ _ _ _ _ _ _ _)
                 have hg9 : wr.heap.size ≤ g5 := by have h9 := hg5; change (wr.alloc _).heap.size ≤ g5 at h9; rw [size_alloc] at h9; exact Nat.le_of_succ_le h9
                 obtain ⟨yb, hyb⟩ : ∃ yb, yb = wr.heap.size := ⟨_, rfl⟩
                 have HZ := Lib.hid (show wz.heap[yb]? = some (.cells (msgCells X (.slice (some ⟨g5, 0, none⟩) (zs.length + 1) c5)) 29 (0, 0)) by rw [hyb]; exact HZ0.out)
                 have hyr : wr.heap.size ≤ yb := by rw [hyb]; exact Nat.le_refl _
                 unfold set9 at hwz
                 rw [← hwz]
                 (try go_wp2_with fail)
                 go_meet
                 exact ⟨yb, g5, c5, by rw [hyb], rfl, HZ.out, HBz.out, HOz.out, hg9, hyr⟩)
        case rest =>
          obtain ⟨yb, g5, c5, rfl, rfl, hz9, hb9, ho9, hg9, hyr⟩ := hcut
          clear cu x0 x1 x2 x3 x4 x5 x6 x7 x8
          have HZ := Lib.hid hz9
          have HBz := Lib.hid hb9
          have HOz := Lib.hid ho9
          clear hz9 hb9 ho9
          have HXz := Lib.hid ((HBz.out.block w1.heap.size hblt).trans HBk.out)
          have HOWz := Lib.hid (HOW.out.kept (grownBy_of HBz.out) (by simp))
          have hlook := HSE.out.look HOWz.out HSZ.out HNI.out
          have cuz := (HBz.out.cell (p := ⟨ub, uo + k, none⟩) hublt).trans HCU.out
          have x7 := (MsgAt.of_block HXz.out).2.2.2.2.2.2.2.1
          obtain ⟨y0, y1, y2, y3, y4, y5, y6, y7, y8⟩ := MsgAt.of_block HZ.out
          have hw16 : IntKind.i64.wrap ((zs.length : Int) + 1) = zs.length + 1 := IntWalk.i64_in _ (by omega)
          have j0 : (0 : Int) ≤ zs.length := by omega
          have j1 : (zs.length : Int) < 16 := by omega
          go_wp2_with fail
          refine (HCK2.out _ _ _ HOz.out.hops).mono ?_
          rintro e w6 ⟨rfl, b6⟩
          have hgl : w4.heap.size < g5 := by omega
          have hyl : w4.heap.size < yb := by omega
          have hyc : yb < wc.heap.size := lt_of_block HZ.out
          have hxc : w1.heap.size < wc.heap.size := lt_of_block HXz.out
          have HX6 := Lib.hid ((b6.block w1.heap.size hxc).trans HXz.out)
          have HY6 := Lib.hid ((b6.block yb hyc).trans HZ.out)
          have HOW6 := Lib.hid (HOWz.out.kept (grownBy_of b6) (by simp))
          have HH6 := Lib.hid (HOz.out.hops.below b6)
          have cu6 := (b6.cell (p := ⟨ub, uo + k, none⟩) (show ub < wc.heap.size by have := HBz.out.size; omega)).trans cuz
          have HB6 := Lib.hid (HBz.out.trans (b6.mono HBz.out.size))
          have hsz6 : wr.heap.size ≤ w6.heap.size := HB6.out.size
          clear b6 cuz hlook x7 y0 y1 y2 y3 y4 y5 y6 y7 y8
          go_wp2_with (at_mapUpdate; refine wpList_mapUpdate_own _ rfl _ _ _ 48 rfl 9 4 keyedS Tryd.underlying48 RV w4.heap.size n D rfl HOW6.out (by unfold maxLen; omega) _ _ (kStr z) rfl rfl (keyOf_s HSZ.out) (.held (.bool true)) [] rfl ?_; intro w7 hown7 hgrow7; have HM7 := Lib.hid hown7; have HG7 := Lib.hid (But2.of_grown (a := w4.heap.size) hgrow7); clear hown7 hgrow7; have HX7 := Lib.hid ((HG7.out.block w1.heap.size (lt_of_block HX6.out) (by omega) (by omega)).trans HX6.out); have HY7 := Lib.hid ((HG7.out.block yb (lt_of_block HY6.out) (by omega) (by omega)).trans HY6.out); obtain ⟨y0, y1, y2, y3, y4, y5, y6, y7, y8⟩ := MsgAt.of_block HY7.out; obtain ⟨x0, x1, x2, x3, x4, x5, x6, x7, x8⟩ := MsgAt.of_block HX7.out; have f0 := frozen_of HX7.out 0; have f1 := frozen_of HX7.out 1; have f2 := frozen_of HX7.out 2; have f3 := frozen_of HX7.out 3; have f4 := frozen_of HX7.out 4; have f5 := frozen_of HX7.out 5; have f6 := frozen_of HX7.out 6; have f7 := frozen_of HX7.out 7; have f8 := frozen_of HX7.out 8)
          refine ⟨⟨k + 1, hlt, by omega, by push_cast; rfl, ?_⟩, by simp only [intOf]; omega⟩
          clear x0 x1 x2 x3 x4 x5 x6 x7 x8 y0 y1 y2 y3 y4 y5 y6 y7 y8 f0 f1 f2 f3 f4 f5 f6 f7 f8
          change LoopRel X w w1.heap.size w4.heap.size (k + 1) (set9 w7 w1.heap.size (.string X.fu) (.string X.fs) (.string X.tu) (.string X.ts) (.int .i64 X.nu) (.int .i64 X.da) (.string X.su) (.slice (some ⟨g5, 0, none⟩) (zs.length + 1) c5) (.string X.bo))
          have h8 := set9_block HX7.out (.string X.fu) (.string X.fs) (.string X.tu) (.string X.ts) (.int .i64 X.nu) (.int .i64 X.da) (.string X.su) (.slice (some ⟨g5, 0, none⟩) (zs.length + 1) c5) (.string X.bo)
          have hb8 : But2 w1.heap.size w1.heap.size w7 (set9 w7 w1.heap.size (.string X.fu) (.string X.fs) (.string X.tu) (.string X.ts) (.int .i64 X.nu) (.int .i64 X.da) (.string X.su) (.slice (some ⟨g5, 0, none⟩) (zs.length + 1) c5) (.string X.bo)) := set9_but2 (But2.refl w1.heap.size w1.heap.size w7) rfl _ _ _ _ _ _ _ _ _
          generalize set9 w7 w1.heap.size (.string X.fu) (.string X.fs) (.string X.tu) (.string X.ts) (.int .i64 X.nu) (.int .i64 X.da) (.string X.su) (.slice (some ⟨g5, 0, none⟩) (zs.length + 1) c5) (.string X.bo) = w8 at h8 hb8 ⊢
          have o4 : (Value.slice (some ⟨g5, 0, none⟩) (zs.length + 1) c5).ownBlock ≠ some w4.heap.size := by simp [Value.ownBlock]; omega
          have o1 : (Value.slice (some ⟨g5, 0, none⟩) (zs.length + 1) c5).ownBlock ≠ some w1.heap.size := by simp [Value.ownBlock]; omega
          have hh8 := (HH6.out.but2 HG7.out o4 o4).but2 hb8 o1 o1
          have hm8 := HM7.out.kept (grown_of_but hb8) (by simp; omega)
          rw [HLL.out] at h8 hh8 o1 o4
          have hs7 := HG7.out.size
          refine ⟨⟨zs ++ [z], some ⟨g5, 0, none⟩, c5, n + 1, D.put (kStr z) (.held (.bool true)), h8, hh8, by rw [← HLL.out]; omega, (fun y hy => (List.mem_append.1 hy).elim (fun h => HZM.out y h) (fun h => by rw [List.mem_singleton.1 h]; exact HSZ.out)), o1, o4, hm8, by omega, HSE.out.put z _⟩, ?_⟩
          exact ((HBr.out.trans (HB6.out.mono HBr.out.size)).trans (HG7.out.to_below (by have := HBr.out.size; omega) (by omega) (by omega))).trans (hb8.to_below (by have := HBr.out.size; omega) (by omega) (by omega))
      · have i1 : (0 : Int) ≤ (k : Int) := by omega
        have i2 : (k : Int) < us.length := by omega
        have i3 : decide ((k : Int) < 60) = false := by simp; omega
        go_wp2_with fail
        go_ret
        exact ⟨rfl, HR.out.below⟩
    · have i2 : decide ((k : Int) < us.length) = false := by simp; omega
      go_wp2_with fail
      go_ret
      exact ⟨rfl, HR.out.below⟩
end Go.Proofs.YtkiheanpamplpaaDoor

namespace Go.Proofs.YtkiheanpamplpaaDoor
open Go.ChangeShapes Go.WideShapes Go.ChangeAt Go.RowKit Go.Bul
set_option maxRecDepth 100000 in
theorem open_S {H : Type} {enc : TypeId × Value → H} {W : World} {base b0 : Nat} {sp : Nat → Bool} {held : Bool} {r : Reach} {v : Value} {d : DataW H} {p : List MemPlace} (hv : Value.okWide Tryd.prog W r b0 24 v)
    (h : DataW.Trod enc Tryd.prog W base sp held 24 v d p) : ∃ zs, HopsIn W v zs ∧ zs.length ≤ maxLen ∧ ∀ z ∈ zs, z.size ≤ maxLen := by
  obtain ⟨a0, len, cap, rfl⟩ := okWide_slice Tryd.underlying24 hv
  obtain ⟨fuel, hf⟩ := h
  exact hops_of Tryd.underlying24 (show DataW.trod enc Tryd.prog W base sp held fuel 24 [.slice a0 len cap] = some (d, p) from hf)
end Go.Proofs.YtkiheanpamplpaaDoor
