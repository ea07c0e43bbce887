/-
  Package date: Parse undoes FormatZone (plainly).
-/
import Derived.Test.YtiijngjhhcjiaaaDoorDbH
set_option linter.unusedSimpArgs false
set_option linter.unusedVariables false
set_option linter.unnecessarySimpa false
namespace Go.Proofs.YtiijngjhhcjiaaaDoor
open Go.RowKit Go.Bul
theorem tk_at {s : ByteArray} {p : UInt8 → Bool} {k : Nat} (h : k < s.size) (hp : p (byteAt s k) = true) : tkC s p k 0 = byteAt s k ∧ tkA s p k 0 = k + 1 ∧ tkE s p k 0 = 0 := by
  rw [byteAt_in h] at hp ⊢
  exact tk_yes h hp
theorem pk_at {s : ByteArray} {p : UInt8 → Bool} {k : Nat} (h : k < s.size) : pkB s p k 0 = p (byteAt s k) := by
  rw [byteAt_in h]
  exact pk_in h
theorem dgC_dig {n : Nat} (h : n < 10) : digB (dgC n) = true ∧ (dgC n - 48 : UInt8).toNat = n ∧ blkB (dgC n) = false := by
  obtain rfl | rfl | rfl | rfl | rfl | rfl | rfl | rfl | rfl | rfl : n = 0 ∨ n = 1 ∨ n = 2 ∨ n = 3 ∨ n = 4 ∨ n = 5 ∨ n = 6 ∨ n = 7 ∨ n = 8 ∨ n = 9 := by omega
  all_goals exact ⟨by decide, by decide, by decide⟩
theorem nm_step {s : ByteArray} {k v d : Nat} {n : Int} (h : k < s.size) (hb : byteAt s k = dgC v) (hv : v < 10) : nmS s (d + 1) ⟨k, 0, n⟩ = nmS s d ⟨k + 1, 0, 10 * n + v⟩ := by
  obtain ⟨h1, h2, _⟩ := dgC_dig hv
  obtain ⟨t1, t2, t3⟩ := tk_at (p := digB) h (by rw [hb]; exact h1)
  rw [nmS]
  simp only [t1, t2, t3, hb, h2]
theorem bl_at {s : ByteArray} {k : Nat} (h : k + 1 < s.size) (h1 : byteAt s k = 32) (h2 : blkB (byteAt s (k + 1)) = false) : blS s k 0 = ⟨k + 1, 0⟩ := by
  obtain ⟨_, t2, t3⟩ := tk_at (s := s) (p := blkB) (k := k) (by omega) (by rw [h1]; decide)
  unfold blS
  rw [t2, t3, skA_no (by rw [pk_at h]; exact h2)]
theorem word_at {s : ByteArray} {k : Nat} (h : k + 3 ≤ s.size) : wordAt s k = ⟨#[byteAt s k, byteAt s (k + 1), byteAt s (k + 2)]⟩ := by
  unfold wordAt
  apply ByteArray.ext
  rw [ByteArray.data_extract]
  have hd : s.data.size = s.size := rfl
  refine Array.ext (by simp; omega) (fun i h1 h2 => ?_)
  have h3 : i < 3 := h2
  rw [Array.getElem_extract]
  obtain rfl | rfl | rfl : i = 0 ∨ i = 1 ∨ i = 2 := by omega
  all_goals
    simp only [List.getElem_toArray, List.getElem_cons_zero, List.getElem_cons_succ, Nat.add_zero]
    rw [byteAt_in (by omega)]
    rfl
theorem na_at {s : ByteArray} {xs : List ByteArray} {k i : Nat} (h : k + 3 ≤ s.size) (hi : idxF ⟨#[byteAt s k, byteAt s (k + 1), byteAt s (k + 2)]⟩ xs 0 = i) : naI s xs k 0 = i ∧ naK s xs k 0 = k + 3 ∧ naE s xs k 0 = 0 := by
  rw [← word_at h] at hi
  obtain ⟨h1, h2, h3⟩ := na_yes (s := s) (xs := xs) (k := k) (by omega) (by rw [hi]; omega)
  exact ⟨by rw [h1, hi], h2, h3⟩
theorem byteAt_ext {s : ByteArray} {a b j : Nat} (h : a + j < b) (hb : b ≤ s.size) : byteAt (s.extract a b) j = byteAt s (a + j) := by
  rw [byteAt_in (by rw [ByteArray.size_extract]; omega), byteAt_in (by omega), ByteArray.getElem_extract]
theorem byteAt_list (l : List UInt8) (k : Nat) : byteAt ⟨l.toArray⟩ k = l.getD k 0 := by
  unfold byteAt
  have hsz : (⟨l.toArray⟩ : ByteArray).size = l.length := sbSize l
  split
  · rename_i h
    rw [hsz] at h
    rw [List.getD_eq_getElem?_getD, List.getElem?_eq_getElem h]
    rfl
  · rename_i h
    rw [hsz] at h
    rw [List.getD_eq_getElem?_getD, List.getElem?_eq_none (by omega)]
    rfl
theorem day_idx {wd : Nat} (h : wd < 7) : ∃ a b c, dayN wd = [a, b, c] ∧ idxF ⟨#[a, b, c]⟩ dayB 0 = wd ∧ letB a = true := by
  obtain rfl | rfl | rfl | rfl | rfl | rfl | rfl : wd = 0 ∨ wd = 1 ∨ wd = 2 ∨ wd = 3 ∨ wd = 4 ∨ wd = 5 ∨ wd = 6 := by omega
  all_goals exact ⟨_, _, _, rfl, by decide +kernel, by decide⟩
theorem mon_idx {m : Nat} (h : m < 12) : ∃ a b c, monN m = [a, b, c] ∧ idxF ⟨#[a, b, c]⟩ monB 0 = m ∧ blkB a = false := by
  obtain rfl | rfl | rfl | rfl | rfl | rfl | rfl | rfl | rfl | rfl | rfl | rfl : m = 0 ∨ m = 1 ∨ m = 2 ∨ m = 3 ∨ m = 4 ∨ m = 5 ∨ m = 6 ∨ m = 7 ∨ m = 8 ∨ m = 9 ∨ m = 10 ∨ m = 11 := by omega
  all_goals exact ⟨_, _, _, rfl, by decide +kernel, by decide⟩
theorem zKeys_short : (zKeys.all fun u => decide (u.length ≤ 3)) = true := by decide
theorem z_five {s : ByteArray} (h : s.size = 5) : zNam s = none := by
  unfold zNam
  split
  · refine (z_out fun hm => ?_).1
    have := List.all_eq_true.1 zKeys_short _ hm
    unfold Lib.toUpperA at this
    rw [decide_eq_true_eq, List.length_map] at this
    have hl : s.data.toList.length = s.size := by simp
    omega
  · rfl
/-- the zone's text -/
theorem zone_text {s : ByteArray} {sz : Nat} (h5 : s.size = 5) (ho : sz ≤ 840) (sg : UInt8) (hs : sg = 43 ∨ sg = 45) (b0 : byteAt s 0 = sg) (b1 : byteAt s 1 = dgC (sz / 60 / 10)) (b2 : byteAt s 2 = dgC (sz / 60 % 10)) (b3 : byteAt s 3 = dgC (sz % 60 / 10)) (b4 : byteAt s 4 = dgC (sz % 60 % 10)) :
    zF s = (if sg = 45 then -(sz : Int) else sz) ∧ zE s = 0 := by
  have hd : zDig s = true := zDig_all h5 (by rw [b0]; exact hs) (fun j h1 h4 => by
    obtain rfl | rfl | rfl | rfl : j = 1 ∨ j = 2 ∨ j = 3 ∨ j = 4 := by omega
    · rw [b1]; exact (dgC_dig (by omega)).1
    · rw [b2]; exact (dgC_dig (by omega)).1
    · rw [b3]; exact (dgC_dig (by omega)).1
    · rw [b4]; exact (dgC_dig (by omega)).1)
  obtain ⟨e1, e2⟩ := z_dig (z_five h5) hd
  have v1 : dgV (byteAt s 1) = ((sz / 60 / 10 : Nat) : Int) := by rw [b1]; unfold dgV; rw [(dgC_dig (by omega)).2.1]
  have v2 : dgV (byteAt s 2) = ((sz / 60 % 10 : Nat) : Int) := by rw [b2]; unfold dgV; rw [(dgC_dig (by omega)).2.1]
  have v3 : dgV (byteAt s 3) = ((sz % 60 / 10 : Nat) : Int) := by rw [b3]; unfold dgV; rw [(dgC_dig (by omega)).2.1]
  have v4 : dgV (byteAt s 4) = ((sz % 60 % 10 : Nat) : Int) := by rw [b4]; unfold dgV; rw [(dgC_dig (by omega)).2.1]
  have hN : zAcc s 4 = ((sz / 60 * 100 + sz % 60 : Nat) : Int) := by
    simp only [zAcc, Nat.zero_add, Nat.reduceAdd, v1, v2, v3, v4]
    omega
  rw [e1, e2, hN]
  have q1 : ((sz / 60 * 100 + sz % 60 : Nat) : Int) % 100 = ((sz % 60 : Nat) : Int) := by omega
  have q2 : ((sz / 60 * 100 + sz % 60 : Nat) : Int) / 100 * 60 + ((sz / 60 * 100 + sz % 60 : Nat) : Int) % 100 = (sz : Int) := by omega
  have hE : zoneE ((sz / 60 * 100 + sz % 60 : Nat) : Int) = 0 := by
    unfold zoneE
    rw [if_neg (by omega), if_neg (by omega)]
  refine ⟨?_, hE⟩
  unfold zoneV
  rw [if_neg (by rw [hE]; simp), q2, b0]
  rcases hs with rfl | rfl
  · rfl
  · rfl
/-- read, of a formatted text -/
theorem read_text (c : Civ) (hc : CivOk c) (hy : c.y ≤ 2199) (wd : Nat) (hw : wd < 7) (sg : UInt8) (hs : sg = 43 ∨ sg = 45) (sz : Nat) (ho : sz ≤ 840) :
    readS ⟨(Lib.join (partsL c wd sg sz) [32]).toArray⟩ = ⟨true, wd, c.y, c.m, c.d, c.h, c.mi, 0, 5, 12, 17, 20, 0, if sg = 45 then -(sz : Int) else sz, 23, 0⟩ ∧ (⟨(Lib.join (partsL c wd sg sz) [32]).toArray⟩ : ByteArray).size = 28 := by
  obtain ⟨d0, d1, d2, hd, hdi, hdl⟩ := day_idx hw
  have hm0 := hc.m0
  have hm1 := hc.m1
  obtain ⟨m0, m1, m2, hm, hmi, hml⟩ := mon_idx (m := c.m - 1) (by omega)
  have hL : Lib.join (partsL c wd sg sz) [32] = [d0, d1, d2, 44, 32, dgC (c.d / 10), dgC (c.d % 10), 32, m0, m1, m2, 32, dgC (c.y / 1000), dgC (c.y / 100 % 10), dgC (c.y / 10 % 10), dgC (c.y % 10), 32, dgC (c.h / 10), dgC (c.h % 10), 58, dgC (c.mi / 10), dgC (c.mi % 10), 32, sg, dgC (sz / 60 / 10), dgC (sz / 60 % 10), dgC (sz % 60 / 10), dgC (sz % 60 % 10)] := by
    simp [partsL, Lib.join, hd, hm, dg2, dg4]
  rw [hL]
  obtain ⟨s, hsd⟩ : ∃ s : ByteArray, s = ⟨[d0, d1, d2, 44, 32, dgC (c.d / 10), dgC (c.d % 10), 32, m0, m1, m2, 32, dgC (c.y / 1000), dgC (c.y / 100 % 10), dgC (c.y / 10 % 10), dgC (c.y % 10), 32, dgC (c.h / 10), dgC (c.h % 10), 58, dgC (c.mi / 10), dgC (c.mi % 10), 32, sg, dgC (sz / 60 / 10), dgC (sz / 60 % 10), dgC (sz % 60 / 10), dgC (sz % 60 % 10)].toArray⟩ := ⟨_, rfl⟩
  have hz : s.size = 28 := by rw [hsd]; rfl
  have B := fun k => byteAt_list [d0, d1, d2, 44, 32, dgC (c.d / 10), dgC (c.d % 10), 32, m0, m1, m2, 32, dgC (c.y / 1000), dgC (c.y / 100 % 10), dgC (c.y / 10 % 10), dgC (c.y % 10), 32, dgC (c.h / 10), dgC (c.h % 10), 58, dgC (c.mi / 10), dgC (c.mi % 10), 32, sg, dgC (sz / 60 / 10), dgC (sz / 60 % 10), dgC (sz % 60 / 10), dgC (sz % 60 % 10)] k
  rw [← hsd] at B ⊢
  clear hsd
  refine ⟨?_, hz⟩
  have hd1 := hc.d1
  have hd9 := monthD_le c.y c.m
  have hh := hc.h1
  have hi := hc.mi1
  have hy0 := hc.y0
  have blk_sg : blkB sg = false := by rcases hs with rfl | rfl <;> decide
  -- the day of the week
  have p0 : pkB s letB 0 0 = true := by rw [pk_at (by omega), B 0]; exact hdl
  obtain ⟨n1, n2, n3⟩ := na_at (s := s) (xs := dayB) (k := 0) (i := wd) (by omega) (by rw [B 0, B 1, B 2]; exact hdi)
  obtain ⟨_, t2, t3⟩ := tk_at (s := s) (p := jusB 44) (k := 3) (by omega) (by rw [show byteAt s 3 = 44 from B 3]; decide)
  have s4 : skA s 4 0 = 5 := by
    rw [skA_yes (by rw [pk_at (by omega), show byteAt s 4 = 32 from B 4]; decide), skA_no (by rw [pk_at (by omega), B 5]; exact (dgC_dig (by omega)).2.2)]
  have hA : rdA s = ⟨wd, 5, 0⟩ := by
    unfold rdA
    rw [if_pos p0, n1, n2, n3, t2, t3, s4]
  -- the day
  have x1 : nmS s 1 ⟨5, 0, 0⟩ = ⟨6, 0, ((c.d / 10 : Nat) : Int)⟩ := by
    rw [nm_step (v := c.d / 10) (by omega) (B 5) (by omega)]
    show (⟨6, 0, 10 * 0 + ((c.d / 10 : Nat) : Int)⟩ : Nm) = _
    rw [show 10 * 0 + ((c.d / 10 : Nat) : Int) = ((c.d / 10 : Nat) : Int) by omega]
  have p1 : pkB s digB 6 0 = true := by rw [pk_at (by omega), B 6]; exact (dgC_dig (by omega)).1
  have x2 : nmS s 1 ⟨6, 0, 0⟩ = ⟨7, 0, ((c.d % 10 : Nat) : Int)⟩ := by
    rw [nm_step (v := c.d % 10) (by omega) (B 6) (by omega)]
    show (⟨7, 0, 10 * 0 + ((c.d % 10 : Nat) : Int)⟩ : Nm) = _
    rw [show 10 * 0 + ((c.d % 10 : Nat) : Int) = ((c.d % 10 : Nat) : Int) by omega]
  have hB : rdB s 5 0 = ⟨7, 0, (c.d : Int)⟩ := by
    rw [rdB_yes x1 p1 x2]
    congr 1
    show 10 * ((c.d / 10 : Nat) : Int) + ((c.d % 10 : Nat) : Int) = c.d
    omega
  have b1 : blS s 7 0 = ⟨8, 0⟩ := bl_at (by omega) (B 7) (by rw [B 8]; exact hml)
  obtain ⟨j1, j2, j3⟩ := na_at (s := s) (xs := monB) (k := 8) (i := c.m - 1) (by omega) (by rw [B 8, B 9, B 10]; exact hmi)
  have b2 : blS s 11 0 = ⟨12, 0⟩ := bl_at (by omega) (B 11) (by rw [B 12]; exact (dgC_dig (by omega)).2.2)
  have x3 : nmS s 4 ⟨12, 0, 0⟩ = ⟨16, 0, (c.y : Int)⟩ := by
    rw [nm_step (v := c.y / 1000) (by omega) (B 12) (by omega), nm_step (v := c.y / 100 % 10) (by omega) (B 13) (by omega), nm_step (v := c.y / 10 % 10) (by omega) (B 14) (by omega), nm_step (v := c.y % 10) (by omega) (B 15) (by omega)]
    unfold nmS
    congr 1
    omega
  have b3 : blS s 16 0 = ⟨17, 0⟩ := bl_at (by omega) (B 16) (by rw [B 17]; exact (dgC_dig (by omega)).2.2)
  have x4 : nmS s 2 ⟨17, 0, 0⟩ = ⟨19, 0, (c.h : Int)⟩ := by
    rw [nm_step (v := c.h / 10) (by omega) (B 17) (by omega), nm_step (v := c.h % 10) (by omega) (B 18) (by omega)]
    unfold nmS
    congr 1
    omega
  obtain ⟨_, u2, u3⟩ := tk_at (s := s) (p := jusB 58) (k := 19) (by omega) (by rw [show byteAt s 19 = 58 from B 19]; decide)
  have b4 : tkS s (jusB 58) 19 0 = ⟨20, 0⟩ := by unfold tkS; rw [u2, u3]
  have x5 : nmS s 2 ⟨20, 0, 0⟩ = ⟨22, 0, (c.mi : Int)⟩ := by
    rw [nm_step (v := c.mi / 10) (by omega) (B 20) (by omega), nm_step (v := c.mi % 10) (by omega) (B 21) (by omega)]
    unfold nmS
    congr 1
    omega
  have hC : rdC s 22 0 = ⟨0, 0, 22, 0⟩ := rdC_no (by rw [pk_at (by omega), show byteAt s 22 = 32 from B 22]; decide)
  have b5 : blS s 22 0 = ⟨23, 0⟩ := bl_at (by omega) (B 22) (by rw [B 23]; exact blk_sg)
  have hzs : (s.extract 23 s.size).size = 5 := by rw [ByteArray.size_extract]; omega
  have Z := fun j (hj : j < 5) => byteAt_ext (s := s) (a := 23) (b := s.size) (j := j) (by omega) (Nat.le_refl _)
  obtain ⟨z1, z2⟩ := zone_text (s := s.extract 23 s.size) hzs ho sg hs (by rw [Z 0 (by omega), B 23]; rfl) (by rw [Z 1 (by omega), B 24]; rfl) (by rw [Z 2 (by omega), B 25]; rfl) (by rw [Z 3 (by omega), B 26]; rfl) (by rw [Z 4 (by omega), B 27]; rfl)
  have hDz : rdDz s 23 0 = if sg = 45 then -(sz : Int) else sz := by
    unfold rdDz
    rw [if_neg (by simp), if_neg (by omega), z1]
  have hDe : rdDe s 23 0 = 0 := by
    unfold rdDe
    rw [if_neg (by simp), if_neg (by omega), z2]
  unfold readS
  simp only [hA, hB, b1, j1, j2, j3, b2, x3, b3, x4, b4, x5, hC, b5, hDz, hDe, p0]
  congr 1
  omega
theorem parse_text (n t sz : Nat) (sg : UInt8) (hs : sg = 43 ∨ sg = 45) (hn : n ≤ 105190559) (ht : t ≤ 105190559) (ho : sz ≤ 840) (hrel : (t : Int) - (if sg = 45 then -(sz : Int) else sz) = n) :
    parseF ⟨(fmtL t sg sz).toArray⟩ = ⟨n, 0, 0⟩ ∧ (⟨(fmtL t sg sz).toArray⟩ : ByteArray).size = 28 := by
  have hc := civOf_ok t
  have hy := year_le ht
  have hm := minOf_civOf t
  have hw : wdOf t < 7 := Nat.mod_lt _ (by decide)
  obtain ⟨hr, hsz⟩ := read_text (civOf t) hc hy (wdOf t) hw sg hs sz ho
  unfold fmtL
  refine ⟨?_, hsz⟩
  obtain ⟨s, hsd⟩ : ∃ s : ByteArray, s = ⟨(Lib.join (partsL (civOf t) (wdOf t) sg sz) [32]).toArray⟩ := ⟨_, rfl⟩
  rw [← hsd] at hr hsz ⊢
  obtain ⟨c, hcc⟩ : ∃ c, civOf t = c := ⟨_, rfl⟩
  rw [hcc] at hr hc hy hm
  have h1 : pk1 (readS s) = ⟨23, 0⟩ := by
    unfold pk1
    rw [hr]
    show ckS _ (decide (2000 ≤ (c.y : Int)) && decide ((c.y : Int) ≤ 2199)) _ _ = _
    rw [decide_eq_true (by have := hc.y0; omega), decide_eq_true (by omega)]
    rfl
  have h2 : pk2 (readS s) = ⟨23, 0⟩ := by
    unfold pk2
    rw [h1, hr]
    show ckS _ (decide (1 ≤ (c.d : Int)) && decide ((c.d : Int) ≤ (monthD ((c.y : Int)).toNat ((c.m : Int)).toNat : Nat))) _ _ = _
    rw [Int.toNat_natCast, Int.toNat_natCast, decide_eq_true (by have := hc.d0; omega), decide_eq_true (by have := hc.d1; omega)]
    rfl
  have h3 : pk3 (readS s) = ⟨23, 0⟩ := by
    unfold pk3
    rw [h2, hr]
    show ckS _ (decide ((c.h : Int) ≤ 23)) _ _ = _
    rw [decide_eq_true (by have := hc.h1; omega)]
    rfl
  have h4 : pk4 (readS s) = ⟨23, 0⟩ := by
    unfold pk4
    rw [h3, hr]
    show ckS _ (decide ((c.mi : Int) ≤ 59)) _ _ = _
    rw [decide_eq_true (by have := hc.mi1; omega)]
    rfl
  have h5 : pk5 (readS s) = ⟨23, 0⟩ := by
    unfold pk5
    rw [h4, hr]
    rfl
  have hl : locS (readS s) = t := by
    unfold locS
    rw [hr]
    exact hm
  have h6 : pk6 (readS s) = ⟨23, 0⟩ := by
    unfold pk6
    rw [h5, hl, hr]
    show ckS _ (!true || decide ((((t / 1440 + 5) % 7 : Nat) : Int) = ((wdOf t : Nat) : Int))) _ _ = _
    rw [decide_eq_true (by rfl)]
    rfl
  have h7 : pk7 (readS s) = ⟨23, 0⟩ := by
    unfold pk7
    rw [h6, hl, hr]
    show ckS _ (decide (0 ≤ (t : Int) - (if sg = 45 then -(sz : Int) else sz) ∧ (t : Int) - (if sg = 45 then -(sz : Int) else sz) ≤ 105190559)) _ _ = _
    rw [hrel, decide_eq_true (by omega)]
    rfl
  unfold parseF
  rw [if_neg (by omega), if_neg (by rw [h1]; simp), if_neg (by rw [h5]; simp), if_neg (by rw [h7]; simp), hl, hr]
  show (⟨(t : Int) - (if sg = 45 then -(sz : Int) else sz), 0, 0⟩ : Pr) = _
  rw [hrel]
theorem dgC_inj {a : Nat} (h : a < 10) (e : dgC a = dgC 0) : a = 0 := by
  have h1 := (dgC_dig h).2.1
  have h2 := (dgC_dig (n := 0) (by omega)).2.1
  rw [e, h2] at h1
  exact h1.symm
theorem fmt_form (t : Nat) (sg : UInt8) (sz : Nat) : ∃ l, l.length = 23 ∧ fmtL t sg sz = l ++ [sg, dgC (sz / 60 / 10), dgC (sz / 60 % 10), dgC (sz % 60 / 10), dgC (sz % 60 % 10)] := by
  have hc := civOf_ok t
  have hw : wdOf t < 7 := Nat.mod_lt _ (by decide)
  obtain ⟨d0, d1, d2, hd, _, _⟩ := day_idx hw
  have hm0 := hc.m0
  have hm1 := hc.m1
  obtain ⟨m0, m1, m2, hm, _, _⟩ := mon_idx (m := (civOf t).m - 1) (by omega)
  refine ⟨[d0, d1, d2, 44, 32, dgC ((civOf t).d / 10), dgC ((civOf t).d % 10), 32, m0, m1, m2, 32, dgC ((civOf t).y / 1000), dgC ((civOf t).y / 100 % 10), dgC ((civOf t).y / 10 % 10), dgC ((civOf t).y % 10), 32, dgC ((civOf t).h / 10), dgC ((civOf t).h % 10), 58, dgC ((civOf t).mi / 10), dgC ((civOf t).mi % 10), 32], rfl, ?_⟩
  simp [fmtL, partsL, Lib.join, hd, hm, dg2, dg4]
/-- only the text in the zone 0 is the canonical one -/
theorem fmt_canon (n t sz : Nat) (sg : UInt8) (hs : sg = 43 ∨ sg = 45) (ho : sz ≤ 840) (h45 : sg = 45 → 1 ≤ sz) (h : fmtL n 43 0 = fmtL t sg sz) : sz = 0 := by
  obtain ⟨l1, k1, e1⟩ := fmt_form n 43 0
  obtain ⟨l2, k2, e2⟩ := fmt_form t sg sz
  rw [e1, e2] at h
  obtain ⟨_, h2⟩ := List.append_inj h (by omega)
  simp only [List.cons.injEq, and_true] at h2
  obtain ⟨g0, g1, g2, g3, g4⟩ := h2
  have a1 := dgC_inj (a := sz / 60 / 10) (by omega) g1.symm
  have a2 := dgC_inj (a := sz / 60 % 10) (by omega) g2.symm
  have a3 := dgC_inj (a := sz % 60 / 10) (by omega) g3.symm
  have a4 := dgC_inj (a := sz % 60 % 10) (by omega) g4.symm
  omega
end Go.Proofs.YtiijngjhhcjiaaaDoor
