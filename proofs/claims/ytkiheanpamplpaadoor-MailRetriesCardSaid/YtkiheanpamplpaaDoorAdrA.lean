/-
  Package mail and its reference: texts of addresses.
-/
import Derived.Test.YtkiheanpamplpaaDoorMaiN
import Derived.Lib.IndexLaws
import Derived.IntWalk
set_option linter.unusedSimpArgs false
set_option linter.unusedVariables false
set_option linter.unnecessarySimpa false
namespace Go.Proofs.YtkiheanpamplpaaDoor
open Go.RowKit Go.Bul
def atI (s : ByteArray) : Int := Lib.indexByte s.data.toList 64
def addrU (s : ByteArray) : ByteArray := s.extract 0 (atI s).toNat
def addrP (s : ByteArray) : ByteArray := s.extract ((atI s).toNat + 1) s.size
def addrE (s : ByteArray) : Int := if atI s < 0 then 3 else if 0 ≤ Lib.indexByte (addrP s).data.toList 64 then 3 else if userB (addrU s) = false then 12 else siteE (addrP s)
def aggA (u p : ByteArray) : Value := .agg #[.string u, .string p]
def addrV (s : ByteArray) : Value := if addrE s = 0 then aggA (addrU s) (addrP s) else aggA ⟨#[]⟩ ⟨#[]⟩
theorem atI_lt (s : ByteArray) (h : 0 ≤ atI s) : (atI s).toNat < s.size := by
  obtain ⟨o, ho⟩ : ∃ o : Nat, atI s = o := ⟨(atI s).toNat, by omega⟩
  have h1 := (Lib.indexByte_some (l := s.data.toList) (c := 64) (o := o) ho).1
  obtain ⟨h2, _⟩ := List.getElem?_eq_some_iff.1 h1
  rw [ho]
  simpa using h2
theorem mk_data (s : ByteArray) : (⟨s.data.toList.toArray⟩ : ByteArray) = s := rfl
theorem cut_yes {s : ByteArray} (h : 0 ≤ atI s) : Lib.cut s.data.toList [64] = ((addrU s).data.toList, (addrP s).data.toList, true) := by
  unfold Lib.cut
  rw [Lib.index_one]
  have h' : 0 ≤ Lib.indexByte s.data.toList 64 := h
  rw [if_pos h']
  have hlt := atI_lt s h
  unfold addrU addrP
  rw [Lib.extract_data, Lib.extract_to_end, List.drop_zero, Nat.sub_zero]
  rfl
theorem cut_no {s : ByteArray} (h : atI s < 0) : Lib.cut s.data.toList [64] = (s.data.toList, [], false) := by
  unfold Lib.cut
  rw [Lib.index_one]
  have h' : ¬ 0 ≤ Lib.indexByte s.data.toList 64 := by unfold atI at h; omega
  rw [if_neg h']
theorem cut_s1 (s : ByteArray) (h : 0 ≤ atI s) (w : World) (hs : s.size ≤ 100000) (hg : Gl w) :
    Calls Tryd.prog 46 #[.string s, .string ⟨#[64]⟩] w fun e w' => e = .returned (.tuple #[.string (addrU s), .string (addrP s), .bool true]) ∧ ∃ n, w' = w.drewN n := by
  obtain ⟨m, hm⟩ := hg.maxLen
  have h1 := Tryd.strings_Cut s ⟨#[64]⟩ m w (by omega) hm
  rw [show (⟨#[64]⟩ : ByteArray).data.toList = [64] from rfl, cut_yes h] at h1
  exact h1
theorem cut_s0 (s : ByteArray) (h : atI s < 0) (w : World) (hs : s.size ≤ 100000) (hg : Gl w) :
    Calls Tryd.prog 46 #[.string s, .string ⟨#[64]⟩] w fun e w' => e = .returned (.tuple #[.string s, .string ⟨#[]⟩, .bool false]) ∧ ∃ n, w' = w.drewN n := by
  obtain ⟨m, hm⟩ := hg.maxLen
  have h1 := Tryd.strings_Cut s ⟨#[64]⟩ m w (by omega) hm
  rw [show (⟨#[64]⟩ : ByteArray).data.toList = [64] from rfl, cut_no h] at h1
  exact h1
theorem has64_s (s : ByteArray) (w : World) : Calls Tryd.prog 47 #[.string s, .string ⟨#[64]⟩] w fun e w' => e = .returned (.bool (decide (0 ≤ Lib.indexByte s.data.toList 64))) ∧ w = w' :=
  (Tryd.strings_Contains_one s 64 w).mono fun _ _ ⟨he, hw⟩ => ⟨he, hw.symm⟩
theorem addrV_bad {s : ByteArray} (h : addrE s ≠ 0) : addrV s = aggA ⟨#[]⟩ ⟨#[]⟩ := by unfold addrV; rw [if_neg h]
theorem addrV_ok {s : ByteArray} (h : addrE s = 0) : addrV s = aggA (addrU s) (addrP s) := by unfold addrV; rw [if_pos h]
theorem block_drewN {w : World} {n b : Nat} {o : Obj} (h : w.heap[b]? = some o) : (w.drewN n).heap[b]? = some o := h
def set2 (w : World) (b : Nat) (a0 a1 : Value) : World := (w.setCell ⟨b, 0, none⟩ a0).setCell ⟨b, 1, none⟩ a1
theorem set2_block {w : World} {b : Nat} {c0 c1 : Value} {t : TypeId} (h : w.heap[b]? = some (.cells #[c0, c1] t (0, 0))) (a0 a1 : Value) : (set2 w b a0 a1).heap[b]? = some (.cells #[a0, a1] t (0, 0)) := by
  simp [set2, World.setCell, Array.getElem?_modify, h]
theorem set2_below {B b : Nat} {a w : World} (h : Below B a w) (hb : B ≤ b) (a0 a1 : Value) : Below B a (set2 w b a0 a1) := (h.setCell hb _).setCell hb _
set_option maxRecDepth 100000 in
set_option maxHeartbeats 2000000 in
theorem parseAddr_s (s : ByteArray) (hs : s.size ≤ 100000) (w : World) (hg : Gl w) :
    Calls Tryd.prog 20 #[.string s] w fun e w' => e = .returned (.tuple #[addrV s, .int .i64 (addrE s)]) ∧ Below w.heap.size w w' := by
  have HG := Lib.hid (hg.below ((Below.refl _ _).alloc (Nat.le_refl _) (.cells #[.string ⟨#[]⟩, .string ⟨#[]⟩] 27)))
  have hb0 : Below w.heap.size w (w.alloc (.cells #[.string ⟨#[]⟩, .string ⟨#[]⟩] 27)) := (Below.refl _ _).alloc (Nat.le_refl _) _
  have HB0 := Lib.hid hb0
  clear hg hb0
  by_cases c1 : atI s < 0
  · have HR := Lib.hid (show addrE s = 3 by unfold addrE; rw [if_pos c1])
    have C1 := Lib.hid c1
    clear c1
    go_enter Tryd.func20, Tryd.ntmps20
    go_wp2_with fail
    refine (cut_s0 s C1.out _ hs HG.out).mono ?_
    rintro e w1 ⟨rfl, n, rfl⟩
    go_wp2_with fail
    have HV := Lib.hid (addrV_bad (s := s) (by rw [HR.out]; decide))
    refine bodyPost_ret (results_cell2 rfl _ _ w.heap.size _ _ _ _ rfl (set2_block (block_drewN (heap_alloc_new _ _)) _ _) Tryd.underlying27 rfl (by kernel_rfl)) rfl ⟨by rw [HV.out, HR.out]; rfl, set2_below (b := w.heap.size) (below_drewN ((Below.refl _ _).alloc (Nat.le_refl _) _) _) (Nat.le_refl _) _ _⟩
  have c1' : 0 ≤ atI s := by omega
  have C1 := Lib.hid c1'
  have N1 := Lib.hid c1
  have hlt := atI_lt s c1'
  have su : (addrU s).size ≤ 100000 := by unfold addrU; rw [extract_size _ _ _ (by omega)]; omega
  have sp : (addrP s).size ≤ 100000 := by unfold addrP; rw [extract_size _ _ _ (Nat.le_refl _)]; omega
  clear c1 c1' hlt
  by_cases c2 : 0 ≤ Lib.indexByte (addrP s).data.toList 64
  · have HR := Lib.hid (show addrE s = 3 by unfold addrE; rw [if_neg (by have := N1.out; omega), if_pos c2])
    have HV := Lib.hid (addrV_bad (s := s) (by rw [HR.out]; decide))
    go_enter Tryd.func20, Tryd.ntmps20
    go_wp2_with fail
    refine (cut_s1 s C1.out _ hs HG.out).mono ?_
    rintro e w1 ⟨rfl, n, rfl⟩
    go_wp2_with fail
    refine (has64_s (addrP s) _).mono ?_
    rintro e w' ⟨rfl, rfl⟩
    go_wp2_with fail
    refine bodyPost_ret (results_cell2 rfl _ _ w.heap.size _ _ _ _ rfl (set2_block (block_drewN (heap_alloc_new _ _)) _ _) Tryd.underlying27 rfl (by kernel_rfl)) rfl ⟨by rw [HV.out, HR.out]; rfl, set2_below (b := w.heap.size) (below_drewN ((Below.refl _ _).alloc (Nat.le_refl _) _) _) (Nat.le_refl _) _ _⟩
  have N2 := Lib.hid c2
  have c2' : decide (0 ≤ Lib.indexByte (addrP s).data.toList 64) = false := by rw [decide_eq_false_iff_not]; exact c2
  clear c2
  go_enter Tryd.func20, Tryd.ntmps20
  go_wp2_with fail
  refine (cut_s1 s C1.out _ hs HG.out).mono ?_
  rintro e w1 ⟨rfl, n, rfl⟩
  go_wp2_with fail
  refine (has64_s (addrP s) _).mono ?_
  rintro e w' ⟨rfl, rfl⟩
  rw [c2']
  clear c2'
  go_wp2_with fail
  refine (user_s (addrU s) (by unfold maxLen; omega) _).mono ?_
  rintro e w0 ⟨rfl, rfl⟩
  cases c3 : userB (addrU s)
  · have HR := Lib.hid (show addrE s = 12 by unfold addrE; rw [if_neg (by have := N1.out; omega), if_neg (by have := N2.out; omega), if_pos c3])
    have HV := Lib.hid (addrV_bad (s := s) (by rw [HR.out]; decide))
    clear c3
    go_wp2_with fail
    refine bodyPost_ret (results_cell2 rfl _ _ w.heap.size _ _ _ _ rfl (set2_block (block_drewN (heap_alloc_new _ _)) _ _) Tryd.underlying27 rfl (by kernel_rfl)) rfl ⟨by rw [HV.out, HR.out]; rfl, set2_below (b := w.heap.size) (below_drewN ((Below.refl _ _).alloc (Nat.le_refl _) _) _) (Nat.le_refl _) _ _⟩
  have HR := Lib.hid (show addrE s = siteE (addrP s) by unfold addrE; rw [if_neg (by have := N1.out; omega), if_neg (by have := N2.out; omega), if_neg (by rw [c3]; simp)])
  clear c3
  go_wp2_with fail
  refine (site_s (addrP s) (by unfold maxLen; omega) _).mono ?_
  rintro e w0 ⟨rfl, rfl⟩
  by_cases c4 : siteE (addrP s) = 0
  · have HV := Lib.hid (addrV_ok (s := s) (by rw [HR.out]; exact c4))
    have C4 := Lib.hid c4
    rw [c4]
    clear c4
    go_wp2_with fail
    refine bodyPost_ret (results_cell2 rfl _ _ w.heap.size _ _ _ _ rfl (set2_block (block_drewN (heap_alloc_new _ _)) _ _) Tryd.underlying27 rfl (by kernel_rfl)) rfl ⟨by rw [HV.out, HR.out, C4.out]; rfl, set2_below (b := w.heap.size) (below_drewN ((Below.refl _ _).alloc (Nat.le_refl _) _) _) (Nat.le_refl _) _ _⟩
  · have HV := Lib.hid (addrV_bad (s := s) (by rw [HR.out]; exact c4))
    have b1 : (siteE (addrP s) == 0) = false := by rw [beq_eq_false_iff_ne]; exact c4
    clear c4
    go_wp2_with fail
    refine bodyPost_ret (results_cell2 rfl _ _ w.heap.size _ _ _ _ rfl (set2_block (block_drewN (heap_alloc_new _ _)) _ _) Tryd.underlying27 rfl (by kernel_rfl)) rfl ⟨by rw [HV.out, HR.out]; rfl, set2_below (b := w.heap.size) (below_drewN ((Below.refl _ _).alloc (Nat.le_refl _) _) _) (Nat.le_refl _) _ _⟩
/-! ### The reference -/
structure AtRel (s : ByteArray) (k n at_ : Nat) : Prop where
  le : n ≤ k
  at_le : at_ ≤ k
  none_ : n = 0 → ∀ j, j < k → s.data.toList[j]? ≠ some 64
  one : n = 1 → at_ < k ∧ s.data.toList[at_]? = some 64 ∧ ∀ j, j < k → j ≠ at_ → s.data.toList[j]? ≠ some 64
  two : 2 ≤ n → ∃ i j, i < j ∧ j < k ∧ s.data.toList[i]? = some 64 ∧ s.data.toList[j]? = some 64
theorem AtRel.start (s : ByteArray) : AtRel s 0 0 0 := ⟨Nat.le_refl _, Nat.le_refl _, fun _ j h => absurd h (Nat.not_lt_zero _), fun h => absurd h (by decide), fun h => absurd h (by decide)⟩
theorem AtRel.other {s : ByteArray} {k n a : Nat} (h : AtRel s k n a) (hn : s.data.toList[k]? ≠ some 64) : AtRel s (k + 1) n a :=
  ⟨by have := h.le; omega, by have := h.at_le; omega, fun e j hj => by
    by_cases hk : j = k
    · subst hk; exact hn
    · exact h.none_ e j (by omega), fun e => by
    obtain ⟨h1, h2, h3⟩ := h.one e
    exact ⟨by omega, h2, fun j hj hne => by
      by_cases hk : j = k
      · subst hk; exact hn
      · exact h3 j (by omega) hne⟩, fun e => by
    obtain ⟨i, j, h1, h2, h3, h4⟩ := h.two e
    exact ⟨i, j, h1, by omega, h3, h4⟩⟩
theorem AtRel.found {s : ByteArray} {k n a : Nat} (h : AtRel s k n a) (hn : s.data.toList[k]? = some 64) : AtRel s (k + 1) (n + 1) k :=
  ⟨by have := h.le; omega, by omega, fun e => absurd e (by omega), fun e => ⟨by omega, hn, fun j hj hne => h.none_ (by omega) j (by omega)⟩, fun e => by
    by_cases h1 : n = 1
    · obtain ⟨g1, g2, _⟩ := h.one h1
      exact ⟨a, k, g1, by omega, g2, hn⟩
    · obtain ⟨i, j, g1, g2, g3, g4⟩ := h.two (by omega)
      exact ⟨i, j, g1, by omega, g3, g4⟩⟩
theorem indexByte_is {l : List UInt8} {c : UInt8} {o : Nat} (h1 : l[o]? = some c) (h2 : ∀ j, j < o → l[j]? ≠ some c) : Lib.indexByte l c = o := by
  have hge := Lib.indexByte_ge l c
  by_cases h : Lib.indexByte l c = -1
  · exact absurd h1 (Lib.indexByte_none h o)
  · obtain ⟨m, hm⟩ : ∃ m : Nat, Lib.indexByte l c = m := ⟨(Lib.indexByte l c).toNat, by omega⟩
    obtain ⟨g1, g2⟩ := Lib.indexByte_some hm
    rcases Nat.lt_trichotomy m o with h3 | h3 | h3
    · exact absurd g1 (h2 m h3)
    · rw [hm, h3]
    · exact absurd h1 (g2 o h3)
theorem atI_none {s : ByteArray} (h : ∀ j, j < s.size → s.data.toList[j]? ≠ some 64) : atI s < 0 := by
  have hge := Lib.indexByte_ge s.data.toList 64
  rcases Int.lt_or_le (atI s) 0 with h1 | h1
  · exact h1
  · obtain ⟨m, hm⟩ : ∃ m : Nat, Lib.indexByte s.data.toList 64 = m := ⟨(atI s).toNat, by unfold atI at h1 ⊢; omega⟩
    obtain ⟨g1, g2⟩ := Lib.indexByte_some hm
    obtain ⟨hl, _⟩ := List.getElem?_eq_some_iff.1 g1
    exact absurd g1 (h m (by simpa using hl))
theorem addrP_at (s : ByteArray) (j : Nat) : (addrP s).data.toList[j]? = s.data.toList[(atI s).toNat + 1 + j]? := by
  unfold addrP
  rw [Lib.extract_to_end, List.getElem?_drop]
theorem AtRel.zero {s : ByteArray} {a : Nat} (h : AtRel s s.size 0 a) : addrE s = 3 := by
  unfold addrE
  rw [if_pos (atI_none (h.none_ rfl))]
theorem AtRel.uno {s : ByteArray} {a : Nat} (h : AtRel s s.size 1 a) : atI s = a ∧ a < s.size ∧ addrE s = if userB (addrU s) = false then 12 else siteE (addrP s) := by
  obtain ⟨h1, h2, h3⟩ := h.one rfl
  have ha : atI s = a := indexByte_is h2 (fun j hj => h3 j (by omega) (by omega))
  refine ⟨ha, h1, ?_⟩
  unfold addrE
  rw [if_neg (by omega)]
  have hp : ¬ 0 ≤ Lib.indexByte (addrP s).data.toList 64 := by
    intro h0
    obtain ⟨m, hm⟩ : ∃ m : Nat, Lib.indexByte (addrP s).data.toList 64 = m := ⟨(Lib.indexByte (addrP s).data.toList 64).toNat, by omega⟩
    obtain ⟨g1, _⟩ := Lib.indexByte_some hm
    rw [addrP_at, ha] at g1
    obtain ⟨hl, _⟩ := List.getElem?_eq_some_iff.1 g1
    have hl' : (a : Int).toNat + 1 + m < s.size := by simpa using hl
    exact h3 _ (by omega) (by omega) g1
  rw [if_neg hp]
theorem AtRel.more {s : ByteArray} {n a : Nat} (h : AtRel s s.size n a) (hn : 2 ≤ n) : addrE s = 3 := by
  obtain ⟨i, j, h1, h2, h3, h4⟩ := h.two hn
  have hge := Lib.indexByte_ge s.data.toList 64
  unfold addrE
  by_cases h0 : atI s < 0
  · rw [if_pos h0]
  rw [if_neg h0]
  have ho : Lib.indexByte s.data.toList 64 = ((atI s).toNat : Int) := by unfold atI at h0 ⊢; omega
  obtain ⟨g1, g2⟩ := Lib.indexByte_some ho
  have hj : (atI s).toNat < j := by
    rcases Nat.lt_or_ge (atI s).toNat j with h | h
    · exact h
    · exact absurd h3 (g2 i (by omega))
  rw [if_pos]
  rcases Int.lt_or_le (Lib.indexByte (addrP s).data.toList 64) 0 with h5 | h5
  · exfalso
    have hge2 := Lib.indexByte_ge (addrP s).data.toList 64
    have h6 : Lib.indexByte (addrP s).data.toList 64 = -1 := by omega
    have h7 := Lib.indexByte_none h6 (j - (atI s).toNat - 1)
    rw [addrP_at, show (atI s).toNat + 1 + (j - (atI s).toNat - 1) = j by omega] at h7
    exact h7 h4
  · exact h5
theorem at_get (s : ByteArray) (k : Nat) (h : k < s.size) : s.data.toList[k]? = some s[k] := by
  rw [List.getElem?_eq_getElem (by simpa using h)]
  rfl
set_option maxRecDepth 100000 in
set_option maxHeartbeats 2000000 in
theorem refAddr_s (s : ByteArray) (hs : s.size ≤ 100000) (w : World) :
    Calls Tryd.prog 21 #[.string s] w fun e w' => e = .returned (.tuple #[addrV s, .int .i64 (addrE s)]) ∧ Below w.heap.size w w' := by
  go_enter Tryd.func21, Tryd.ntmps21
  go_wp2_with fail
  go_loop [4, 5, 6] (fun t n i => ∃ k m a : Nat, k ≤ s.size ∧ i = .int .i64 k ∧ n = .int .i64 m ∧ t = .int .i64 a ∧ AtRel s k m a) (fun _ _ i => s.size - (intOf i).toNat)
  case atStart => exact ⟨0, 0, 0, Nat.zero_le _, rfl, rfl, rfl, AtRel.start s⟩
  case round =>
    obtain ⟨k, m, a, hk, rfl, rfl, rfl, hr⟩ := hrel
    have hm := hr.le
    have ha := hr.at_le
    have HR := Lib.hid hr
    clear hr
    by_cases hlt : k < s.size
    · have hg := at_get s k hlt
      by_cases h64 : s[k] = 64
      · have HN := Lib.hid (HR.out.found (by rw [hg, h64]))
        have hq : ((s[k].toNat : Int) == 64) = true := by rw [h64]; rfl
        clear hg h64
        go_wp2_with fail
        go_round
        case rel => exact ⟨k + 1, m + 1, k, by omega, by go_num, by go_num, rfl, HN.out⟩
        case measure => simp [intOf]; omega
      · have HN := Lib.hid (HR.out.other (by rw [hg]; intro e; exact h64 (Option.some.inj e)))
        have hq : ((s[k].toNat : Int) == 64) = false := by
          rw [beq_eq_false_iff_ne]
          intro e
          apply h64
          apply UInt8.toNat_inj.1
          have : s[k].toNat = 64 := by omega
          rw [this]; rfl
        clear hg h64
        go_wp2_with fail
        go_round
        case rel => exact ⟨k + 1, m, a, by omega, by go_num, rfl, rfl, HN.out⟩
        case measure => simp [intOf]; omega
    · have hke : k = s.size := by omega
      subst hke
      by_cases h1 : m = 1
      · subst h1
        obtain ⟨g1, g2, g3⟩ := HR.out.uno
        have hu : addrU s = s.extract 0 a := by unfold addrU; rw [g1]; rfl
        have hp : addrP s = s.extract (a + 1) s.size := by unfold addrP; rw [g1]; rfl
        rw [hu, hp] at g3
        have su : (s.extract 0 a).size ≤ 100000 := by rw [extract_size _ _ _ (by omega)]; omega
        have sp : (s.extract (a + 1) s.size).size ≤ 100000 := by rw [extract_size _ _ _ (Nat.le_refl _)]; omega
        have HU := Lib.hid hu
        have HP := Lib.hid hp
        have G3 := Lib.hid g3
        clear hu hp g3 g1 HR
        go_wp2_with fail
        refine (refUser_s (s.extract 0 a) (by unfold maxLen; omega) _).mono ?_
        rintro e w0 ⟨rfl, rfl⟩
        cases c3 : userB (s.extract 0 a)
        · have HE := Lib.hid (show addrE s = 12 by rw [G3.out, if_pos c3])
          have HV := Lib.hid (addrV_bad (s := s) (by rw [HE.out]; decide))
          clear c3
          go_wp2_with fail
          refine bodyPost_ret (results_cell2 rfl _ _ w.heap.size _ _ _ _ rfl (heap_alloc_new _ _) Tryd.underlying23 rfl (by kernel_rfl)) rfl ⟨by rw [HV.out, HE.out]; rfl, (Below.refl _ _).alloc (Nat.le_refl _) _⟩
        have HE := Lib.hid (show addrE s = siteE (s.extract (a + 1) s.size) by rw [G3.out, if_neg (by rw [c3]; simp)])
        clear c3
        go_wp2_with fail
        refine (refSite_s (s.extract (a + 1) s.size) (by unfold maxLen; omega) _).mono ?_
        rintro e w0 ⟨rfl, rfl⟩
        by_cases c4 : siteE (s.extract (a + 1) s.size) = 0
        · have HV := Lib.hid (addrV_ok (s := s) (by rw [HE.out]; exact c4))
          have C4 := Lib.hid c4
          rw [c4]
          clear c4
          go_wp2_with fail
          have k1 : IntKind.i64.wrap ((a : Int) + 1) = (a : Int) + 1 := IntWalk.i64_in _ (by omega)
          have k2 : ((a : Int) + 1).toNat = a + 1 := by omega
          have k3 : (a : Int) ≤ (s.size : Int) := by omega
          have k4 : (a : Int) + 1 ≤ (s.size : Int) := by omega
          have k5 : (0 : Int) ≤ (a : Int) + 1 := by omega
          refine wp_region_after_tail 8 (by kernel_rfl) (by kernel_rfl) ?_
          simp only [List.take_succ_cons, List.take_zero, List.drop_succ_cons, List.drop_zero]
          iterate 8 go_big_quiet_step (fail)
          refine wpQuiet_nil ?_
          rintro w2 ⟨⟨_, hb2⟩, rfl⟩
          have hz := (hb2.block w.heap.size (by rw [size_alloc]; omega)).trans (heap_alloc_new _ _)
          have HZ := Lib.hid hz
          have f0 := frozen_of hz 0
          have f1 := frozen_of hz 1
          have z0 : w2.cell? ⟨w.heap.size, 0, none⟩ = some (.string ⟨#[]⟩) := by unfold World.cell?; rw [hz]; rfl
          have z1 : w2.cell? ⟨w.heap.size, 1, none⟩ = some (.string ⟨#[]⟩) := by unfold World.cell?; rw [hz]; rfl
          have HB2 := Lib.hid (((Below.refl _ _).alloc (Nat.le_refl _) _).trans (hb2.mono (by rw [size_alloc]; omega)))
          clear hz hb2 k1 k2 k3 k4 k5
          go_wp2_with fail
          refine bodyPost_ret (results_cell2 rfl _ _ w.heap.size _ _ _ _ rfl (set2_block HZ.out _ _) Tryd.underlying23 rfl (by kernel_rfl)) rfl ⟨by rw [HV.out, HE.out, C4.out, HU.out, HP.out]; rfl, set2_below (b := w.heap.size) HB2.out (Nat.le_refl _) _ _⟩
        · have HV := Lib.hid (addrV_bad (s := s) (by rw [HE.out]; exact c4))
          have b1 : (siteE (s.extract (a + 1) s.size) == 0) = false := by rw [beq_eq_false_iff_ne]; exact c4
          clear c4
          go_wp2_with fail
          refine (refSite_s (s.extract (a + 1) s.size) (by unfold maxLen; omega) _).mono ?_
          rintro e w0 ⟨rfl, rfl⟩
          go_wp2_with fail
          refine bodyPost_ret (results_cell2 rfl _ _ w.heap.size _ _ _ _ rfl (heap_alloc_new _ _) Tryd.underlying23 rfl (by kernel_rfl)) rfl ⟨by rw [HV.out, HE.out]; rfl, (Below.refl _ _).alloc (Nat.le_refl _) _⟩
      · have hq : ((m : Int) == 1) = false := by rw [beq_eq_false_iff_ne]; omega
        have HE := Lib.hid (show addrE s = 3 by
          by_cases h0 : m = 0
          · subst h0; exact HR.out.zero
          · exact HR.out.more (by omega))
        have HV := Lib.hid (addrV_bad (s := s) (by rw [HE.out]; decide))
        go_wp2_with fail
        refine bodyPost_ret (results_cell2 rfl _ _ w.heap.size _ _ _ _ rfl (heap_alloc_new _ _) Tryd.underlying23 rfl (by kernel_rfl)) rfl ⟨by rw [HV.out, HE.out]; rfl, (Below.refl _ _).alloc (Nat.le_refl _) _⟩
end Go.Proofs.YtkiheanpamplpaaDoor
