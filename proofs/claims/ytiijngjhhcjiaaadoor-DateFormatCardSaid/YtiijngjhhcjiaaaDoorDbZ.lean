/-
  Package date: Zone, at every text.
-/
import Derived.Test.YtiijngjhhcjiaaaDoorDbA
import Derived.Lib.RuneCount
import Derived.Deep.CutRange
set_option linter.unusedSimpArgs false
set_option linter.unusedVariables false
set_option linter.unnecessarySimpa false
namespace Go.Proofs.YtiijngjhhcjiaaaDoor
open Go.RowKit Go.Bul Go.Maps
def ascB (s : ByteArray) : Bool := s.data.toList.all (fun c => decide (c.toNat < 128))
/-- the value of a named zone -/
def zFind (u : List UInt8) : Option Int := (zEnt.find? (fun x => x.1 == u)).map (·.2)
def zNam (s : ByteArray) : Option Int := if ascB s = true then zFind (Lib.toUpperA s.data.toList) else none
def zDig (s : ByteArray) : Bool := decide (s.size = 5) && (byteAt s 0 == 43 || byteAt s 0 == 45) && digB (byteAt s 1) && digB (byteAt s 2) && digB (byteAt s 3) && digB (byteAt s 4)
def zF (s : ByteArray) : Int := match zNam s with
  | some n => n
  | none => if zDig s = true then zoneV (byteAt s 0) (zAcc s 4) else 0
def zE (s : ByteArray) : Int := match zNam s with
  | some _ => 0
  | none => if zDig s = true then zoneE (zAcc s 4) else 3
theorem z_named {s : ByteArray} {n : Int} (h : zNam s = some n) : zF s = n ∧ zE s = 0 := by
  unfold zF zE
  rw [h]
  exact ⟨rfl, rfl⟩
theorem z_bad {s : ByteArray} (h : zNam s = none) (hd : zDig s = false) : zF s = 0 ∧ zE s = 3 := by
  unfold zF zE
  rw [h, hd]
  exact ⟨rfl, rfl⟩
theorem z_dig {s : ByteArray} (h : zNam s = none) (hd : zDig s = true) : zF s = zoneV (byteAt s 0) (zAcc s 4) ∧ zE s = zoneE (zAcc s 4) := by
  unfold zF zE
  rw [h, hd]
  exact ⟨rfl, rfl⟩
def rdDz (s : ByteArray) (k : Nat) (e : Int) : Int := if e ≠ 0 then 0 else if k = s.size then 0 else zF (s.extract k s.size)
def rdDe (s : ByteArray) (k : Nat) (e : Int) : Int := if e ≠ 0 then e else if k = s.size then 4 else zE (s.extract k s.size)
def zKeys : List (List UInt8) := zEnt.map (·.1)
theorem z_in {u : List UInt8} (h : u ∈ zKeys) : ∃ n, zFind u = some n ∧ Maps.has zD (kZ u) = true ∧ DataW.atKey zD (kZ u) (.held (.int .i64 0)) = .held (.int .i64 n) := by
  simp only [zKeys, zEnt, List.map_cons, List.map_nil, List.mem_cons, List.not_mem_nil, or_false] at h
  rcases h with rfl | rfl | rfl | rfl | rfl | rfl | rfl | rfl | rfl | rfl | rfl | rfl
  all_goals exact ⟨_, rfl, by kernel_rfl, by kernel_rfl⟩
theorem zD_keys : (match zD with | .map es => es.all (fun p => match p.1 with | .string l => zKeys.contains l | _ => false) | _ => false) = true := by kernel_rfl
theorem z_out {u : List UInt8} (h : u ∉ zKeys) : zFind u = none ∧ Maps.has zD (kZ u) = false := by
  constructor
  · unfold zFind
    rw [Option.map_eq_none_iff, List.find?_eq_none]
    intro x hx hb
    exact h (by rw [← (by simpa using hb : x.1 = u)]; exact List.mem_map_of_mem hx)
  · have hs := zD_keys
    cases hz : zD with
    | map es =>
      rw [hz] at hs
      cases hb : Maps.has (.map es) (kZ u) with
      | false => rfl
      | true =>
        exfalso
        rw [Maps.has_eq, List.any_eq_true] at hb
        obtain ⟨p, hp, hk⟩ := hb
        have h1 := List.all_eq_true.1 hs p hp
        rw [WideAt.sameKey_eq hk] at h1
        exact h (by simpa [kZ] using h1)
    | _ => rw [hz] at hs; cases hs
/-! ### a byte beyond ASCII gives a rune beyond ASCII -/
theorem decodeN_big (n b0 b1 b2 b3 : Nat) (h : ¬ b0 < 128) : 127 < (Lib.decodeN n b0 b1 b2 b3).1 := by
  unfold Lib.decodeN
  rw [if_neg h]
  repeat' split
  all_goals first | omega | (show 127 < _; omega)
def gtB (r : Nat) : Bool := decide (127 < r)
theorem idx_asc (s : ByteArray) (ha : ∀ (j : Nat) (h : j < s.size), (s[j]'h).toNat < 128) : ∀ (f pos : Nat), Lib.idxFuncFrom gtB true s f pos = -1
  | 0, _ => rfl
  | f + 1, pos => by
    unfold Lib.idxFuncFrom
    split
    · rename_i hp
      rw [decode_ascii s pos hp (ha pos hp)]
      have := ha pos hp
      rw [if_neg (by simp [gtB]; omega)]
      exact idx_asc s ha f _
    · rfl
theorem idx_non (s : ByteArray) (j : Nat) (hj : j < s.size) (hb : ¬ (s[j]'hj).toNat < 128) : ∀ (f pos : Nat), pos ≤ j → s.size ≤ pos + f → 0 ≤ Lib.idxFuncFrom gtB true s f pos
  | 0, pos, h1, h2 => by omega
  | f + 1, pos, h1, h2 => by
    have hp : pos < s.size := by omega
    unfold Lib.idxFuncFrom
    rw [if_pos hp]
    by_cases hc : (s[pos]'hp).toNat < 128
    · rw [decode_ascii s pos hp hc]
      rw [if_neg (by simp [gtB]; omega)]
      have hne : pos ≠ j := fun e => by subst e; exact hb hc
      exact idx_non s j hj hb f (pos + 1) (by omega) (by omega)
    · rw [if_pos]
      · omega
      · unfold gtB
        rw [decide_eq_true_eq, Lib.decode_at]
        have hg : (s.get! pos).toNat = (s[pos]'hp).toNat := by
          have : s.get! pos = s[pos]'hp := by
            rw [ByteArray.getElem_eq_getElem_data]
            show s.data[pos]! = _
            rw [getElem!_pos s.data pos hp]
          rw [this]
        exact decodeN_big _ _ _ _ _ (by rw [hg]; exact hc)
theorem asc_iff (s : ByteArray) : decide (0 ≤ Lib.idxFunc gtB true s) = !ascB s := by
  cases h : ascB s
  · obtain ⟨j, hj, hb⟩ : ∃ (j : Nat) (hj : j < s.size), ¬ (s[j]'hj).toNat < 128 := by
      apply Classical.byContradiction
      intro hno
      have : ascB s = true := by
        unfold ascB
        rw [List.all_eq_true]
        intro c hc
        obtain ⟨i, hi, rfl⟩ := List.mem_iff_getElem.1 hc
        have hi' : i < s.size := by simpa using hi
        apply Classical.byContradiction
        intro hb
        exact hno ⟨i, hi', by simpa [ByteArray.getElem_eq_getElem_data] using hb⟩
      rw [h] at this
      cases this
    exact decide_eq_true (idx_non s j hj hb s.size 0 (Nat.zero_le _) (by omega))
  · refine decide_eq_false ?_
    unfold Lib.idxFunc
    rw [idx_asc s (fun j hj => ?_)]
    · omega
    · unfold ascB at h
      rw [List.all_eq_true] at h
      have := h (s.data.toList[j]'(by simpa using hj)) (List.getElem_mem _)
      simpa [ByteArray.getElem_eq_getElem_data] using this
theorem enc4 (z : Int) : (Lib.encodeRune z).length ≤ 4 := by
  unfold Lib.encodeRune Lib.encodeRuneZ
  rw [List.length_map]
  repeat' split
  all_goals simp
theorem mapD_l4 (f : Int → Int) : ∀ (n : Nat) (l : List UInt8), l.length ≤ n → (Lib.mapD f l).length ≤ 4 * l.length
  | 0, l, hn => by
    have : l = [] := List.eq_nil_of_length_eq_zero (by omega)
    subst this
    simp [Lib.mapD_nil]
  | n + 1, l, hn => by
    by_cases hne : l = []
    · subst hne
      simp [Lib.mapD_nil]
    · have hw := Lib.decodeL_width l
      have hle := Lib.decodeL_le l hne
      have ih := mapD_l4 f n (l.drop (Lib.decodeL l).2) (by rw [List.length_drop]; omega)
      rw [List.length_drop] at ih
      rw [Lib.mapD_step f l hne, List.length_append]
      have hh : (if 0 ≤ f (Lib.decodeL l).1 then Lib.encodeRune (f (Lib.decodeL l).1) else []).length ≤ 4 := by
        split
        · exact enc4 _
        · simp
      omega
set_option maxRecDepth 100000 in
theorem gtB_at (w : World) : PredAt Tryd.prog 70 #[] encR gtB w := fun W x _ => by
  unfold FnGives encR
  go_enter Tryd.func70, Tryd.ntmps70
  go_wp2
  go_ret
  refine ⟨?_, 0, rfl⟩
  simp [gtB]
  omega
theorem contains_c (s : ByteArray) (w : World) : Calls Tryd.prog 69 #[.string s, .func (.func 70) #[] #[]] w fun e w' => e = .returned (.bool (!ascB s)) ∧ Below w.heap.size w w' := by
  have h := Tryd.strings_ContainsFunc 70 #[] (enters_of Tryd.func70 (by kernel_rfl) rfl) gtB s w (gtB_at w)
  rwa [asc_iff] at h
/-- ToUpper, of whatever text -/
theorem upper_any (s : ByteArray) (hs : s.size ≤ 1000000) : ∃ u : List UInt8, u.length ≤ 4000000 ∧ (ascB s = true → u = Lib.toUpperA s.data.toList) ∧ ∀ w, Gd w → Go.Lib.CaseVar 2 Go.Lib.caseA w →
    Calls Tryd.prog 68 #[.string s] w fun e w' => e = .returned (.string ⟨u.toArray⟩) ∧ Below w.heap.size w w' := by
  have hl : s.data.toList.length = s.size := by simp
  cases h : ascB s
  · refine ⟨Lib.toUpperD s.data.toList, ?_, (fun e => by cases e), fun w hg hc => Tryd.strings_ToUpper_any s w (by omega) hc hg.utf⟩
    have := mapD_l4 Lib.toUpperU _ s.data.toList (Nat.le_refl _)
    unfold Lib.toUpperD
    omega
  · refine ⟨Lib.toUpperA s.data.toList, ?_, fun _ => rfl, fun w hg hc => Tryd.strings_ToUpper_ascii s w (by omega) (fun j b hj => ?_)⟩
    · unfold Lib.toUpperA
      rw [List.length_map]
      omega
    · unfold ascB at h
      rw [List.all_eq_true] at h
      simpa using h b (List.mem_of_getElem? hj)
theorem keyOf_zz (l : List UInt8) (hs : l.length ≤ 4000000) : keyOf Tryd.prog 9 (Sb l) = some (kZ l) := WideMaps.keyOf_string_mk Tryd.underlying9 (by rw [sbSize]; unfold maxLen; omega)
def nineN : Nat → Int
  | 0 => 0
  | k + 1 => 10 * nineN k + 9
theorem zAcc_bk {s : ByteArray} : ∀ k, (∀ j, 1 ≤ j → j ≤ k → digB (byteAt s j) = true) → 0 ≤ zAcc s k ∧ zAcc s k ≤ nineN k
  | 0, _ => ⟨Int.le_refl _, Int.le_refl _⟩
  | k + 1, h => by
    have h1 := zAcc_bk k (fun j a b => h j a (by omega))
    have h2 := dgV_bd (h (k + 1) (by omega) (Nat.le_refl _))
    simp only [zAcc, nineN]
    omega
theorem nineN_le {k : Nat} (h : k ≤ 4) : nineN k ≤ 9999 := by
  obtain rfl | rfl | rfl | rfl | rfl : k = 0 ∨ k = 1 ∨ k = 2 ∨ k = 3 ∨ k = 4 := by omega
  all_goals decide
theorem zDig_size {s : ByteArray} (h : s.size ≠ 5) : zDig s = false := by unfold zDig; rw [decide_eq_false h]; rfl
theorem zDig_sign {s : ByteArray} (h0 : byteAt s 0 ≠ 43) (h1 : byteAt s 0 ≠ 45) : zDig s = false := by
  unfold zDig
  rw [show (byteAt s 0 == 43) = false by simpa using h0, show (byteAt s 0 == 45) = false by simpa using h1]
  simp
theorem zDig_byte {s : ByteArray} {k : Nat} (h1 : 1 ≤ k) (h4 : k ≤ 4) (h : digB (byteAt s k) = false) : zDig s = false := by
  unfold zDig
  obtain rfl | rfl | rfl | rfl : k = 1 ∨ k = 2 ∨ k = 3 ∨ k = 4 := by omega
  all_goals rw [h]; simp
theorem zDig_all {s : ByteArray} (h5 : s.size = 5) (h0 : byteAt s 0 = 43 ∨ byteAt s 0 = 45) (h : ∀ j, 1 ≤ j → j ≤ 4 → digB (byteAt s j) = true) : zDig s = true := by
  unfold zDig
  rw [h 1 (by omega) (by omega), h 2 (by omega) (by omega), h 3 (by omega) (by omega), h 4 (by omega) (by omega), decide_eq_true h5]
  rcases h0 with e | e <;> rw [e] <;> rfl
set_option maxRecDepth 100000 in
set_option maxHeartbeats 16000000 in
theorem zone_g (s : ByteArray) (hs : s.size ≤ 1000000) (w : World) (hg : Gd w) (hc : Go.Lib.CaseVar 2 Go.Lib.caseA w) :
    Calls Tryd.prog 55 #[.string s] w fun e w' => e = .returned (.tuple #[.int .i64 (zF s), .int .i64 (zE s)]) ∧ Below w.heap.size w w' := by
  have HG := Lib.hid hg
  have HC := Lib.hid hc
  obtain ⟨u, hu4, hua, huc⟩ := upper_any s hs
  have HUA := Lib.hid hua
  have HUC := Lib.hid huc
  have HK := Lib.hid (keyOf_zz u hu4)
  have HSZ := Lib.hid hs
  obtain ⟨F, hF⟩ : ∃ F, zF s = F := ⟨_, rfl⟩
  obtain ⟨E, hE⟩ : ∃ E, zE s = E := ⟨_, rfl⟩
  rw [hF, hE]
  have XF := Lib.hid hF
  have XE := Lib.hid hE
  clear hg hc hua huc hu4 hF hE hs
  go_enter Tryd.func55, Tryd.ntmps55
  go_wp2_with fail
  refine (zones_s w).mono ?_
  rintro e w1 ⟨rfl, hm, b1⟩
  have HM := Lib.hid hm
  have HB1 := Lib.hid b1
  clear hm b1
  go_wp2_with fail
  refine (HUC.out w1 (HG.out.below HB1.out) (Go.Lib.CaseVar_below HC.out HB1.out)).mono ?_
  rintro e w2 ⟨rfl, b2⟩
  have HM2 := Lib.hid (HM.out.kept (grOf b2) (by simp))
  have HB2 := Lib.hid (HB1.out.trans (b2.mono HB1.out.size))
  clear b2
  by_cases hin : u ∈ zKeys
  case pos =>
    obtain ⟨n, hn1, hn2, hn3⟩ := z_in hin
    have HN1 := Lib.hid hn1
    clear hn1 hin
    cases ha : ascB s
    case true =>
      have hnam : zNam s = some n := by unfold zNam; rw [if_pos ha, ← HUA.out ha]; exact HN1.out
      obtain ⟨e1, e2⟩ := z_named hnam
      rw [XF.out] at e1
      rw [XE.out] at e2
      subst e1 e2
      have HCF := Lib.hid (contains_c s)
      rw [ha] at HCF
      clear hnam ha
      go_wp2_with (at_lookup; refine wpList_lookup_own_ok _ rfl _ _ 97 rfl 9 3 keyedZ Tryd.underlying97 zR (zeroInt _) (.held (.int .i64 0)) [] rfl w.heap.size 12 zD rfl HM2.out _ _ rfl HK.out ?_; intro vv ps hvv; rw [hn3] at hvv; obtain rfl : vv = .int .i64 F := (by have h9 := congrArg Prod.fst (Option.some.inj hvv); injection h9); rw [hn2])
      refine (HCF.out w2).mono ?_
      rintro e w3 ⟨rfl, b3⟩
      have HB3 := Lib.hid (HB2.out.trans (b3.mono HB2.out.size))
      clear b3
      go_wp2_with fail
      go_ret2
      exact ⟨rfl, HB3.out⟩
    case false =>
      have hnam : zNam s = none := by unfold zNam; rw [ha]; rfl
      have HNAM := Lib.hid hnam
      have HCF := Lib.hid (contains_c s)
      rw [ha] at HCF
      clear hnam ha
      go_wp2_with (at_lookup; refine wpList_lookup_own_ok _ rfl _ _ 97 rfl 9 3 keyedZ Tryd.underlying97 zR (zeroInt _) (.held (.int .i64 0)) [] rfl w.heap.size 12 zD rfl HM2.out _ _ rfl HK.out ?_; intro vv ps hvv; rw [hn3] at hvv; obtain rfl : vv = .int .i64 n := (by have h9 := congrArg Prod.fst (Option.some.inj hvv); injection h9); rw [hn2])
      refine (HCF.out w2).mono ?_
      rintro e w3 ⟨rfl, b3⟩
      have HBR := Lib.hid (HB2.out.trans (b3.mono HB2.out.size))
      clear b3 hn3 hn2
      by_cases h5 : s.size = 5
      case neg =>
        obtain ⟨e1, e2⟩ := z_bad HNAM.out (zDig_size h5)
        rw [XF.out] at e1
        rw [XE.out] at e2
        subst e1 e2
        have n5 : ((s.size : Int) != 5) = true := by simp; omega
        have n6 : (s.size != 5) = true := by simpa using h5
        go_wp2_with fail
        go_ret2
        exact ⟨rfl, HBR.out⟩
      have l0 : (0 : Nat) < s.size := by omega
      have l5 : (s.size : Int) = 5 := by omega
      have n5 : ((s.size : Int) != 5) = false := by rw [l5]; rfl
      have q0 : (0 : Int) < (s.size : Int) := by omega
      have b0 : byteAt s 0 = s[0] := byteAt_in l0
      have HB0 := Lib.hid b0
      clear b0
      by_cases e43 : (s[0] : UInt8).toNat = 43
      case pos =>
        have m1 : (((s[0] : UInt8).toNat : Int) != 43) = false := by rw [e43]; rfl
        have m3 : (((s[0] : UInt8).toNat : Int) == 45) = false := by rw [e43]; rfl
        have m4 : ((s[0] : UInt8).toNat != 43) = false := by rw [e43]; rfl
        have m5 : ((s[0] : UInt8).toNat == 45) = false := by rw [e43]; rfl
        have HSG := Lib.hid (show byteAt s 0 = 43 ∨ byteAt s 0 = 45 from .inl (by rw [HB0.out]; exact UInt8.toNat_inj.1 e43))
        go_wp2_with fail
        go_loopw [6, 7] (fun nv i wr => ∃ k : Nat, k ≤ 4 ∧ i = .int .i64 ((k : Int) + 1) ∧ nv = .int .i64 (zAcc s k) ∧ (∀ j, 1 ≤ j → j ≤ k → digB (byteAt s j) = true) ∧ Below w.heap.size w wr) (fun _ i _ => 5 - (intOf i).toNat)
        case atStart => exact ⟨0, Nat.zero_le _, rfl, rfl, fun j a b => by omega, HBR.out⟩
        case round =>
          obtain ⟨k, hk, rfl, rfl, hdg, hR⟩ := hrel
          have HR := Lib.hid hR
          have HD := Lib.hid hdg
          obtain ⟨z0, z1⟩ := zAcc_bk k hdg
          have z9 := nineN_le hk
          clear hR hdg
          by_cases hlt : k < 4
          · have i1 : (k : Int) + 1 < 5 := by omega
            have i2 : (k : Int) + 1 < (s.size : Int) := by omega
            have i3 : (0 : Int) ≤ (k : Int) + 1 := by omega
            have i4 : ((k : Int) + 1).toNat = k + 1 := by omega
            have hks : k + 1 < s.size := by omega
            cases hdk : digB s[k + 1]
            · obtain ⟨e1, e2⟩ := z_bad HNAM.out (zDig_byte (k := k + 1) (by omega) (by omega) (by rw [byteAt_in hks]; exact hdk))
              rw [XF.out] at e1
              rw [XE.out] at e2
              subst e1 e2
              go_wp2_with fail
              refine (digit_c _ _).mono ?_
              rintro r w' ⟨rfl, rfl⟩
              rw [hdk]
              go_wp2_with fail
              go_ret2
              exact ⟨rfl, HR.out⟩
            · have hsub := sub48 s[k + 1]
              have hv9 := dgV_bd hdk
              have hve : dgV (byteAt s (k + 1)) = dgV s[k + 1] := by rw [byteAt_in hks]
              obtain ⟨v, hv⟩ : ∃ v : Int, dgV s[k + 1] = v := ⟨_, rfl⟩
              rw [show (((s[k + 1] - 48 : UInt8).toNat : Nat) : Int) = dgV s[k + 1] from rfl, hv] at hsub
              rw [hv] at hv9 hve
              have hw1 : IntKind.i64.wrap (10 * zAcc s k) = 10 * zAcc s k := IntWalk.i64_in _ (by omega)
              have hw2 : IntKind.i64.wrap (10 * zAcc s k + v) = 10 * zAcc s k + v := IntWalk.i64_in _ (by omega)
              have hw3 : IntKind.i64.wrap ((k : Int) + 1 + 1) = (k : Int) + 1 + 1 := IntWalk.i64_in _ (by omega)
              have HVE := Lib.hid hve
              clear hve hv
              go_wp2_with fail
              refine (digit_c _ _).mono ?_
              rintro r w' ⟨rfl, rfl⟩
              rw [hdk]
              go_wp2_with fail
              go_roundw
              case rel => exact ⟨k + 1, by omega, by push_cast; rfl, by rw [zAcc, HVE.out], fun j a b => by
                rcases Nat.lt_or_ge k j with h | h
                · obtain rfl : j = k + 1 := by omega
                  rw [byteAt_in hks]; exact hdk
                · exact HD.out j a h, HR.out⟩
              case measure => simp only [intOf]; omega
          · obtain rfl : k = 4 := by omega
            have i1 : decide (((4 : Nat) : Int) + 1 < 5) = false := by decide
            obtain ⟨e1, e2⟩ := z_dig HNAM.out (zDig_all (by omega) HSG.out HD.out)
            rw [XF.out] at e1
            rw [XE.out] at e2
            obtain ⟨N, hN⟩ : ∃ N, zAcc s 4 = N := ⟨_, rfl⟩
            rw [hN] at z0 z1 e1 e2
            have hN9 : N ≤ 9999 := by omega
            have XN := Lib.hid hN
            clear z1 z9 hN
            have hw1 : IntKind.i64.wrap (N / 100 * 60) = N / 100 * 60 := IntWalk.i64_in _ (by omega)
            have hw2 : IntKind.i64.wrap (N / 100 * 60 + N % 100) = N / 100 * 60 + N % 100 := IntWalk.i64_in _ (by omega)
            have hw3 : IntKind.i64.wrap (-(N / 100 * 60 + N % 100)) = -(N / 100 * 60 + N % 100) := IntWalk.i64_in _ (by omega)
            by_cases h59 : 59 < N % 100
            · have g1 : zoneE N = 3 := if_pos h59
              have g2 : zoneV (byteAt s 0) N = 0 := by unfold zoneV; rw [g1]; rfl
              rw [g2] at e1
              rw [g1] at e2
              subst e1 e2
              clear g1 g2
              rw [XN.out]
              go_wp2_with fail
              go_ret2
              exact ⟨rfl, HR.out⟩
            · have h59' : decide (59 < N % 100) = false := decide_eq_false h59
              by_cases h84 : 840 < N / 100 * 60 + N % 100
              · have g1 : zoneE N = 2 := by unfold zoneE; rw [if_neg h59, if_pos h84]
                have g2 : zoneV (byteAt s 0) N = 0 := by unfold zoneV; rw [g1]; rfl
                rw [g2] at e1
                rw [g1] at e2
                subst e1 e2
                clear g1 g2
                rw [XN.out]
                go_wp2_with fail
                go_ret2
                exact ⟨rfl, HR.out⟩
              · have h84' : decide (840 < N / 100 * 60 + N % 100) = false := decide_eq_false h84
                have g1 : zoneE N = 0 := by unfold zoneE; rw [if_neg h59, if_neg h84]
                have g2 : zoneV (byteAt s 0) N = N / 100 * 60 + N % 100 := by unfold zoneV; rw [if_neg (by rw [g1]; simp), HB0.out, e43]; rfl
                rw [g2] at e1
                rw [g1] at e2
                subst e1 e2
                clear g1 g2
                rw [XN.out]
                go_wp2_with fail
                go_ret2
                exact ⟨rfl, HR.out⟩
      by_cases e45 : (s[0] : UInt8).toNat = 45
      case pos =>
        have m1 : (((s[0] : UInt8).toNat : Int) != 43) = true := by rw [e45]; rfl
        have m2 : (((s[0] : UInt8).toNat : Int) != 45) = false := by rw [e45]; rfl
        have m3 : (((s[0] : UInt8).toNat : Int) == 45) = true := by rw [e45]; rfl
        have HSG := Lib.hid (show byteAt s 0 = 43 ∨ byteAt s 0 = 45 from .inr (by rw [HB0.out]; exact UInt8.toNat_inj.1 e45))
        go_wp2_with fail
        go_loopw [6, 7] (fun nv i wr => ∃ k : Nat, k ≤ 4 ∧ i = .int .i64 ((k : Int) + 1) ∧ nv = .int .i64 (zAcc s k) ∧ (∀ j, 1 ≤ j → j ≤ k → digB (byteAt s j) = true) ∧ Below w.heap.size w wr) (fun _ i _ => 5 - (intOf i).toNat)
        case atStart => exact ⟨0, Nat.zero_le _, rfl, rfl, fun j a b => by omega, HBR.out⟩
        case round =>
          obtain ⟨k, hk, rfl, rfl, hdg, hR⟩ := hrel
          have HR := Lib.hid hR
          have HD := Lib.hid hdg
          obtain ⟨z0, z1⟩ := zAcc_bk k hdg
          have z9 := nineN_le hk
          clear hR hdg
          by_cases hlt : k < 4
          · have i1 : (k : Int) + 1 < 5 := by omega
            have i2 : (k : Int) + 1 < (s.size : Int) := by omega
            have i3 : (0 : Int) ≤ (k : Int) + 1 := by omega
            have i4 : ((k : Int) + 1).toNat = k + 1 := by omega
            have hks : k + 1 < s.size := by omega
            cases hdk : digB s[k + 1]
            · obtain ⟨e1, e2⟩ := z_bad HNAM.out (zDig_byte (k := k + 1) (by omega) (by omega) (by rw [byteAt_in hks]; exact hdk))
              rw [XF.out] at e1
              rw [XE.out] at e2
              subst e1 e2
              go_wp2_with fail
              refine (digit_c _ _).mono ?_
              rintro r w' ⟨rfl, rfl⟩
              rw [hdk]
              go_wp2_with fail
              go_ret2
              exact ⟨rfl, HR.out⟩
            · have hsub := sub48 s[k + 1]
              have hv9 := dgV_bd hdk
              have hve : dgV (byteAt s (k + 1)) = dgV s[k + 1] := by rw [byteAt_in hks]
              obtain ⟨v, hv⟩ : ∃ v : Int, dgV s[k + 1] = v := ⟨_, rfl⟩
              rw [show (((s[k + 1] - 48 : UInt8).toNat : Nat) : Int) = dgV s[k + 1] from rfl, hv] at hsub
              rw [hv] at hv9 hve
              have hw1 : IntKind.i64.wrap (10 * zAcc s k) = 10 * zAcc s k := IntWalk.i64_in _ (by omega)
              have hw2 : IntKind.i64.wrap (10 * zAcc s k + v) = 10 * zAcc s k + v := IntWalk.i64_in _ (by omega)
              have hw3 : IntKind.i64.wrap ((k : Int) + 1 + 1) = (k : Int) + 1 + 1 := IntWalk.i64_in _ (by omega)
              have HVE := Lib.hid hve
              clear hve hv
              go_wp2_with fail
              refine (digit_c _ _).mono ?_
              rintro r w' ⟨rfl, rfl⟩
              rw [hdk]
              go_wp2_with fail
              go_roundw
              case rel => exact ⟨k + 1, by omega, by push_cast; rfl, by rw [zAcc, HVE.out], fun j a b => by
                rcases Nat.lt_or_ge k j with h | h
                · obtain rfl : j = k + 1 := by omega
                  rw [byteAt_in hks]; exact hdk
                · exact HD.out j a h, HR.out⟩
              case measure => simp only [intOf]; omega
          · obtain rfl : k = 4 := by omega
            have i1 : decide (((4 : Nat) : Int) + 1 < 5) = false := by decide
            obtain ⟨e1, e2⟩ := z_dig HNAM.out (zDig_all (by omega) HSG.out HD.out)
            rw [XF.out] at e1
            rw [XE.out] at e2
            obtain ⟨N, hN⟩ : ∃ N, zAcc s 4 = N := ⟨_, rfl⟩
            rw [hN] at z0 z1 e1 e2
            have hN9 : N ≤ 9999 := by omega
            have XN := Lib.hid hN
            clear z1 z9 hN
            have hw1 : IntKind.i64.wrap (N / 100 * 60) = N / 100 * 60 := IntWalk.i64_in _ (by omega)
            have hw2 : IntKind.i64.wrap (N / 100 * 60 + N % 100) = N / 100 * 60 + N % 100 := IntWalk.i64_in _ (by omega)
            have hw3 : IntKind.i64.wrap (-(N / 100 * 60 + N % 100)) = -(N / 100 * 60 + N % 100) := IntWalk.i64_in _ (by omega)
            by_cases h59 : 59 < N % 100
            · have g1 : zoneE N = 3 := if_pos h59
              have g2 : zoneV (byteAt s 0) N = 0 := by unfold zoneV; rw [g1]; rfl
              rw [g2] at e1
              rw [g1] at e2
              subst e1 e2
              clear g1 g2
              rw [XN.out]
              go_wp2_with fail
              go_ret2
              exact ⟨rfl, HR.out⟩
            · have h59' : decide (59 < N % 100) = false := decide_eq_false h59
              by_cases h84 : 840 < N / 100 * 60 + N % 100
              · have g1 : zoneE N = 2 := by unfold zoneE; rw [if_neg h59, if_pos h84]
                have g2 : zoneV (byteAt s 0) N = 0 := by unfold zoneV; rw [g1]; rfl
                rw [g2] at e1
                rw [g1] at e2
                subst e1 e2
                clear g1 g2
                rw [XN.out]
                go_wp2_with fail
                go_ret2
                exact ⟨rfl, HR.out⟩
              · have h84' : decide (840 < N / 100 * 60 + N % 100) = false := decide_eq_false h84
                have g1 : zoneE N = 0 := by unfold zoneE; rw [if_neg h59, if_neg h84]
                have g2 : zoneV (byteAt s 0) N = -(N / 100 * 60 + N % 100) := by unfold zoneV; rw [if_neg (by rw [g1]; simp), HB0.out, e45]; rfl
                rw [g2] at e1
                rw [g1] at e2
                subst e1 e2
                clear g1 g2
                rw [XN.out]
                go_wp2_with fail
                go_ret2
                exact ⟨rfl, HR.out⟩
      obtain ⟨e1, e2⟩ := z_bad HNAM.out (zDig_sign (by rw [HB0.out]; intro h; exact e43 (by rw [h]; rfl)) (by rw [HB0.out]; intro h; exact e45 (by rw [h]; rfl)))
      rw [XF.out] at e1
      rw [XE.out] at e2
      subst e1 e2
      have m1 : (((s[0] : UInt8).toNat : Int) != 43) = true := by simp; omega
      have m2 : (((s[0] : UInt8).toNat : Int) != 45) = true := by simp; omega
      go_wp2_with fail
      go_ret2
      exact ⟨rfl, HBR.out⟩
  case neg =>
    obtain ⟨hn1, hn2⟩ := z_out hin
    have hnam : zNam s = none := by
      unfold zNam
      split
      · rename_i ha; rw [← HUA.out ha]; exact hn1
      · rfl
    have HNAM := Lib.hid hnam
    have HBR := Lib.hid HB2.out
    clear hnam hn1 hin
    go_upto_region 2 with (at_lookup; refine wpList_lookup_own_ok _ rfl _ _ 97 rfl 9 3 keyedZ Tryd.underlying97 zR (zeroInt _) (.held (.int .i64 0)) [] rfl w.heap.size 12 zD rfl HM2.out _ _ rfl HK.out ?_; intro vv ps hvv; rw [hn2])
    clear hn2 hvv
    by_cases h5 : s.size = 5
    case neg =>
      obtain ⟨e1, e2⟩ := z_bad HNAM.out (zDig_size h5)
      rw [XF.out] at e1
      rw [XE.out] at e2
      subst e1 e2
      have n5 : ((s.size : Int) != 5) = true := by simp; omega
      have n6 : (s.size != 5) = true := by simpa using h5
      go_wp2_with fail
      go_ret2
      exact ⟨rfl, HBR.out⟩
    have l0 : (0 : Nat) < s.size := by omega
    have l5 : (s.size : Int) = 5 := by omega
    have n5 : ((s.size : Int) != 5) = false := by rw [l5]; rfl
    have q0 : (0 : Int) < (s.size : Int) := by omega
    have b0 : byteAt s 0 = s[0] := byteAt_in l0
    have HB0 := Lib.hid b0
    clear b0
    by_cases e43 : (s[0] : UInt8).toNat = 43
    case pos =>
      have m1 : (((s[0] : UInt8).toNat : Int) != 43) = false := by rw [e43]; rfl
      have m3 : (((s[0] : UInt8).toNat : Int) == 45) = false := by rw [e43]; rfl
      have m4 : ((s[0] : UInt8).toNat != 43) = false := by rw [e43]; rfl
      have m5 : ((s[0] : UInt8).toNat == 45) = false := by rw [e43]; rfl
      have HSG := Lib.hid (show byteAt s 0 = 43 ∨ byteAt s 0 = 45 from .inl (by rw [HB0.out]; exact UInt8.toNat_inj.1 e43))
      go_wp2_with fail
      go_loopw [6, 7] (fun nv i wr => ∃ k : Nat, k ≤ 4 ∧ i = .int .i64 ((k : Int) + 1) ∧ nv = .int .i64 (zAcc s k) ∧ (∀ j, 1 ≤ j → j ≤ k → digB (byteAt s j) = true) ∧ Below w.heap.size w wr) (fun _ i _ => 5 - (intOf i).toNat)
      case atStart => exact ⟨0, Nat.zero_le _, rfl, rfl, fun j a b => by omega, HBR.out⟩
      case round =>
        obtain ⟨k, hk, rfl, rfl, hdg, hR⟩ := hrel
        have HR := Lib.hid hR
        have HD := Lib.hid hdg
        obtain ⟨z0, z1⟩ := zAcc_bk k hdg
        have z9 := nineN_le hk
        clear hR hdg
        by_cases hlt : k < 4
        · have i1 : (k : Int) + 1 < 5 := by omega
          have i2 : (k : Int) + 1 < (s.size : Int) := by omega
          have i3 : (0 : Int) ≤ (k : Int) + 1 := by omega
          have i4 : ((k : Int) + 1).toNat = k + 1 := by omega
          have hks : k + 1 < s.size := by omega
          cases hdk : digB s[k + 1]
          · obtain ⟨e1, e2⟩ := z_bad HNAM.out (zDig_byte (k := k + 1) (by omega) (by omega) (by rw [byteAt_in hks]; exact hdk))
            rw [XF.out] at e1
            rw [XE.out] at e2
            subst e1 e2
            go_wp2_with fail
            refine (digit_c _ _).mono ?_
            rintro r w' ⟨rfl, rfl⟩
            rw [hdk]
            go_wp2_with fail
            go_ret2
            exact ⟨rfl, HR.out⟩
          · have hsub := sub48 s[k + 1]
            have hv9 := dgV_bd hdk
            have hve : dgV (byteAt s (k + 1)) = dgV s[k + 1] := by rw [byteAt_in hks]
            obtain ⟨v, hv⟩ : ∃ v : Int, dgV s[k + 1] = v := ⟨_, rfl⟩
            rw [show (((s[k + 1] - 48 : UInt8).toNat : Nat) : Int) = dgV s[k + 1] from rfl, hv] at hsub
            rw [hv] at hv9 hve
            have hw1 : IntKind.i64.wrap (10 * zAcc s k) = 10 * zAcc s k := IntWalk.i64_in _ (by omega)
            have hw2 : IntKind.i64.wrap (10 * zAcc s k + v) = 10 * zAcc s k + v := IntWalk.i64_in _ (by omega)
            have hw3 : IntKind.i64.wrap ((k : Int) + 1 + 1) = (k : Int) + 1 + 1 := IntWalk.i64_in _ (by omega)
            have HVE := Lib.hid hve
            clear hve hv
            go_wp2_with fail
            refine (digit_c _ _).mono ?_
            rintro r w' ⟨rfl, rfl⟩
            rw [hdk]
            go_wp2_with fail
            go_roundw
            case rel => exact ⟨k + 1, by omega, by push_cast; rfl, by rw [zAcc, HVE.out], fun j a b => by
              rcases Nat.lt_or_ge k j with h | h
              · obtain rfl : j = k + 1 := by omega
                rw [byteAt_in hks]; exact hdk
              · exact HD.out j a h, HR.out⟩
            case measure => simp only [intOf]; omega
        · obtain rfl : k = 4 := by omega
          have i1 : decide (((4 : Nat) : Int) + 1 < 5) = false := by decide
          obtain ⟨e1, e2⟩ := z_dig HNAM.out (zDig_all (by omega) HSG.out HD.out)
          rw [XF.out] at e1
          rw [XE.out] at e2
          obtain ⟨N, hN⟩ : ∃ N, zAcc s 4 = N := ⟨_, rfl⟩
          rw [hN] at z0 z1 e1 e2
          have hN9 : N ≤ 9999 := by omega
          have XN := Lib.hid hN
          clear z1 z9 hN
          have hw1 : IntKind.i64.wrap (N / 100 * 60) = N / 100 * 60 := IntWalk.i64_in _ (by omega)
          have hw2 : IntKind.i64.wrap (N / 100 * 60 + N % 100) = N / 100 * 60 + N % 100 := IntWalk.i64_in _ (by omega)
          have hw3 : IntKind.i64.wrap (-(N / 100 * 60 + N % 100)) = -(N / 100 * 60 + N % 100) := IntWalk.i64_in _ (by omega)
          by_cases h59 : 59 < N % 100
          · have g1 : zoneE N = 3 := if_pos h59
            have g2 : zoneV (byteAt s 0) N = 0 := by unfold zoneV; rw [g1]; rfl
            rw [g2] at e1
            rw [g1] at e2
            subst e1 e2
            clear g1 g2
            rw [XN.out]
            go_wp2_with fail
            go_ret2
            exact ⟨rfl, HR.out⟩
          · have h59' : decide (59 < N % 100) = false := decide_eq_false h59
            by_cases h84 : 840 < N / 100 * 60 + N % 100
            · have g1 : zoneE N = 2 := by unfold zoneE; rw [if_neg h59, if_pos h84]
              have g2 : zoneV (byteAt s 0) N = 0 := by unfold zoneV; rw [g1]; rfl
              rw [g2] at e1
              rw [g1] at e2
              subst e1 e2
              clear g1 g2
              rw [XN.out]
              go_wp2_with fail
              go_ret2
              exact ⟨rfl, HR.out⟩
            · have h84' : decide (840 < N / 100 * 60 + N % 100) = false := decide_eq_false h84
              have g1 : zoneE N = 0 := by unfold zoneE; rw [if_neg h59, if_neg h84]
              have g2 : zoneV (byteAt s 0) N = N / 100 * 60 + N % 100 := by unfold zoneV; rw [if_neg (by rw [g1]; simp), HB0.out, e43]; rfl
              rw [g2] at e1
              rw [g1] at e2
              subst e1 e2
              clear g1 g2
              rw [XN.out]
              go_wp2_with fail
              go_ret2
              exact ⟨rfl, HR.out⟩
    by_cases e45 : (s[0] : UInt8).toNat = 45
    case pos =>
      have m1 : (((s[0] : UInt8).toNat : Int) != 43) = true := by rw [e45]; rfl
      have m2 : (((s[0] : UInt8).toNat : Int) != 45) = false := by rw [e45]; rfl
      have m3 : (((s[0] : UInt8).toNat : Int) == 45) = true := by rw [e45]; rfl
      have HSG := Lib.hid (show byteAt s 0 = 43 ∨ byteAt s 0 = 45 from .inr (by rw [HB0.out]; exact UInt8.toNat_inj.1 e45))
      go_wp2_with fail
      go_loopw [6, 7] (fun nv i wr => ∃ k : Nat, k ≤ 4 ∧ i = .int .i64 ((k : Int) + 1) ∧ nv = .int .i64 (zAcc s k) ∧ (∀ j, 1 ≤ j → j ≤ k → digB (byteAt s j) = true) ∧ Below w.heap.size w wr) (fun _ i _ => 5 - (intOf i).toNat)
      case atStart => exact ⟨0, Nat.zero_le _, rfl, rfl, fun j a b => by omega, HBR.out⟩
      case round =>
        obtain ⟨k, hk, rfl, rfl, hdg, hR⟩ := hrel
        have HR := Lib.hid hR
        have HD := Lib.hid hdg
        obtain ⟨z0, z1⟩ := zAcc_bk k hdg
        have z9 := nineN_le hk
        clear hR hdg
        by_cases hlt : k < 4
        · have i1 : (k : Int) + 1 < 5 := by omega
          have i2 : (k : Int) + 1 < (s.size : Int) := by omega
          have i3 : (0 : Int) ≤ (k : Int) + 1 := by omega
          have i4 : ((k : Int) + 1).toNat = k + 1 := by omega
          have hks : k + 1 < s.size := by omega
          cases hdk : digB s[k + 1]
          · obtain ⟨e1, e2⟩ := z_bad HNAM.out (zDig_byte (k := k + 1) (by omega) (by omega) (by rw [byteAt_in hks]; exact hdk))
            rw [XF.out] at e1
            rw [XE.out] at e2
            subst e1 e2
            go_wp2_with fail
            refine (digit_c _ _).mono ?_
            rintro r w' ⟨rfl, rfl⟩
            rw [hdk]
            go_wp2_with fail
            go_ret2
            exact ⟨rfl, HR.out⟩
          · have hsub := sub48 s[k + 1]
            have hv9 := dgV_bd hdk
            have hve : dgV (byteAt s (k + 1)) = dgV s[k + 1] := by rw [byteAt_in hks]
            obtain ⟨v, hv⟩ : ∃ v : Int, dgV s[k + 1] = v := ⟨_, rfl⟩
            rw [show (((s[k + 1] - 48 : UInt8).toNat : Nat) : Int) = dgV s[k + 1] from rfl, hv] at hsub
            rw [hv] at hv9 hve
            have hw1 : IntKind.i64.wrap (10 * zAcc s k) = 10 * zAcc s k := IntWalk.i64_in _ (by omega)
            have hw2 : IntKind.i64.wrap (10 * zAcc s k + v) = 10 * zAcc s k + v := IntWalk.i64_in _ (by omega)
            have hw3 : IntKind.i64.wrap ((k : Int) + 1 + 1) = (k : Int) + 1 + 1 := IntWalk.i64_in _ (by omega)
            have HVE := Lib.hid hve
            clear hve hv
            go_wp2_with fail
            refine (digit_c _ _).mono ?_
            rintro r w' ⟨rfl, rfl⟩
            rw [hdk]
            go_wp2_with fail
            go_roundw
            case rel => exact ⟨k + 1, by omega, by push_cast; rfl, by rw [zAcc, HVE.out], fun j a b => by
              rcases Nat.lt_or_ge k j with h | h
              · obtain rfl : j = k + 1 := by omega
                rw [byteAt_in hks]; exact hdk
              · exact HD.out j a h, HR.out⟩
            case measure => simp only [intOf]; omega
        · obtain rfl : k = 4 := by omega
          have i1 : decide (((4 : Nat) : Int) + 1 < 5) = false := by decide
          obtain ⟨e1, e2⟩ := z_dig HNAM.out (zDig_all (by omega) HSG.out HD.out)
          rw [XF.out] at e1
          rw [XE.out] at e2
          obtain ⟨N, hN⟩ : ∃ N, zAcc s 4 = N := ⟨_, rfl⟩
          rw [hN] at z0 z1 e1 e2
          have hN9 : N ≤ 9999 := by omega
          have XN := Lib.hid hN
          clear z1 z9 hN
          have hw1 : IntKind.i64.wrap (N / 100 * 60) = N / 100 * 60 := IntWalk.i64_in _ (by omega)
          have hw2 : IntKind.i64.wrap (N / 100 * 60 + N % 100) = N / 100 * 60 + N % 100 := IntWalk.i64_in _ (by omega)
          have hw3 : IntKind.i64.wrap (-(N / 100 * 60 + N % 100)) = -(N / 100 * 60 + N % 100) := IntWalk.i64_in _ (by omega)
          by_cases h59 : 59 < N % 100
          · have g1 : zoneE N = 3 := if_pos h59
            have g2 : zoneV (byteAt s 0) N = 0 := by unfold zoneV; rw [g1]; rfl
            rw [g2] at e1
            rw [g1] at e2
            subst e1 e2
            clear g1 g2
            rw [XN.out]
            go_wp2_with fail
            go_ret2
            exact ⟨rfl, HR.out⟩
          · have h59' : decide (59 < N % 100) = false := decide_eq_false h59
            by_cases h84 : 840 < N / 100 * 60 + N % 100
            · have g1 : zoneE N = 2 := by unfold zoneE; rw [if_neg h59, if_pos h84]
              have g2 : zoneV (byteAt s 0) N = 0 := by unfold zoneV; rw [g1]; rfl
              rw [g2] at e1
              rw [g1] at e2
              subst e1 e2
              clear g1 g2
              rw [XN.out]
              go_wp2_with fail
              go_ret2
              exact ⟨rfl, HR.out⟩
            · have h84' : decide (840 < N / 100 * 60 + N % 100) = false := decide_eq_false h84
              have g1 : zoneE N = 0 := by unfold zoneE; rw [if_neg h59, if_neg h84]
              have g2 : zoneV (byteAt s 0) N = -(N / 100 * 60 + N % 100) := by unfold zoneV; rw [if_neg (by rw [g1]; simp), HB0.out, e45]; rfl
              rw [g2] at e1
              rw [g1] at e2
              subst e1 e2
              clear g1 g2
              rw [XN.out]
              go_wp2_with fail
              go_ret2
              exact ⟨rfl, HR.out⟩
    obtain ⟨e1, e2⟩ := z_bad HNAM.out (zDig_sign (by rw [HB0.out]; intro h; exact e43 (by rw [h]; rfl)) (by rw [HB0.out]; intro h; exact e45 (by rw [h]; rfl)))
    rw [XF.out] at e1
    rw [XE.out] at e2
    subst e1 e2
    have m1 : (((s[0] : UInt8).toNat : Int) != 43) = true := by simp; omega
    have m2 : (((s[0] : UInt8).toNat : Int) != 45) = true := by simp; omega
    go_wp2_with fail
    go_ret2
    exact ⟨rfl, HBR.out⟩
end Go.Proofs.YtiijngjhhcjiaaaDoor
