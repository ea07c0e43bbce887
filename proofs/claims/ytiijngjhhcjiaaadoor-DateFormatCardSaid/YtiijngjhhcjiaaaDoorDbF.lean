/-
  Package date: what Parse leaves, at every text, as a plain function; its bounds.
-/
import Derived.Test.YtiijngjhhcjiaaaDoorDbE
import Derived.Test.YtiijngjhhcjiaaaDoorDatQ
set_option linter.unusedSimpArgs false
set_option linter.unusedVariables false
set_option linter.unnecessarySimpa false
namespace Go.Proofs.YtiijngjhhcjiaaaDoor
open Go.RowKit Go.Bul
/-- what read leaves -/
structure Rd where
  named : Bool
  wd : Int
  y : Int
  mo : Int
  d : Int
  h : Int
  mi : Int
  sec : Int
  dA : Int
  yA : Int
  hA : Int
  miA : Int
  sA : Int
  z : Int
  k : Nat
  e : Int
def readS (s : ByteArray) : Rd :=
  let A := rdA s
  let B := rdB s A.k A.e
  let c1 := blS s B.k B.e
  let k2 := naK s monB c1.k c1.e
  let e2 := naE s monB c1.k c1.e
  let c3 := blS s k2 e2
  let Y := nmS s 4 ⟨c3.k, c3.e, 0⟩
  let c4 := blS s Y.k Y.e
  let H := nmS s 2 ⟨c4.k, c4.e, 0⟩
  let c5 := tkS s (jusB 58) H.k H.e
  let M := nmS s 2 ⟨c5.k, c5.e, 0⟩
  let C := rdC s M.k M.e
  let c6 := blS s C.k C.e
  ⟨pkB s letB 0 0, A.wd, Y.n, 1 + naI s monB c1.k c1.e, B.n, H.n, M.n, C.n, A.k, c3.k, c4.k, c5.k, C.at0, rdDz s c6.k c6.e, c6.k, rdDe s c6.k c6.e⟩
def rdCells (r : Rd) : Array Value := #[.bool r.named, .int .i64 r.wd, .int .i64 r.y, .int .i64 r.mo, .int .i64 r.d, .int .i64 r.h, .int .i64 r.mi, .int .i64 r.sec, .int .i64 r.dA, .int .i64 r.yA, .int .i64 r.hA, .int .i64 r.miA, .int .i64 r.sA, .int .i64 r.z]
theorem read_S (b : Nat) (s : ByteArray) (hsz : s.size ≤ 1000000) (w : World) (hb7 : 7 ≤ b) (hg : Gd w) (hcv : ∀ W, Bt b w W → Go.Lib.CaseVar 2 Go.Lib.caseA W) (h : ScAt w b s (0 : Nat) 0) :
    Calls Tryd.prog 38 #[.pointer (some ⟨b, 0, none⟩)] w fun r w' => r = .returned (.agg (rdCells (readS s))) ∧ ScAt w' b s (readS s).k (readS s).e ∧ Bt b w w' :=
  read_g b s hsz w hb7 hg hcv h _ rfl _ rfl _ rfl _ rfl _ rfl _ rfl _ rfl _ rfl _ rfl _ rfl _ rfl _ rfl _ rfl _ rfl _ rfl _ _ rfl rfl
theorem zFind_bd {u : List UInt8} {n : Int} (h : zFind u = some n) : -480 ≤ n ∧ n ≤ 0 := by
  unfold zFind at h
  obtain ⟨x, hx, rfl⟩ := Option.map_eq_some_iff.1 h
  have hm := List.mem_of_find?_eq_some hx
  have hall : (zEnt.all fun x => decide (-480 ≤ x.2) && decide (x.2 ≤ 0)) = true := by decide
  have := List.all_eq_true.1 hall x hm
  simpa using this
theorem zF_bd (s : ByteArray) : -1000 ≤ zF s ∧ zF s ≤ 1000 := by
  cases hn : zNam s with
  | some n =>
    rw [(z_named hn).1]
    unfold zNam at hn
    split at hn
    · have := zFind_bd hn; omega
    · cases hn
  | none =>
    cases hd : zDig s
    · rw [(z_bad hn hd).1]; omega
    · rw [(z_dig hn hd).1]
      have hb : 0 ≤ zAcc s 4 := (zAcc_bk 4 (fun j h1 h4 => by
        cases hx : digB (byteAt s j)
        · rw [zDig_byte h1 h4 hx] at hd; cases hd
        · rfl)).1
      unfold zoneV
      split
      · omega
      · rename_i hz
        have hz' : zoneE (zAcc s 4) = 0 := by simpa using hz
        have h840 : zAcc s 4 / 100 * 60 + zAcc s 4 % 100 ≤ 840 := by
          unfold zoneE at hz'
          split at hz'
          · cases hz'
          · split at hz'
            · cases hz'
            · omega
        split <;> omega
structure RdOk (r : Rd) : Prop where
  wd0 : 0 ≤ r.wd
  wd1 : r.wd ≤ 6
  y0 : 0 ≤ r.y
  y1 : r.y ≤ 300000
  mo0 : 1 ≤ r.mo
  mo1 : r.mo ≤ 12
  d0 : 0 ≤ r.d
  d1 : r.d ≤ 3000
  h0 : 0 ≤ r.h
  h1 : r.h ≤ 3000
  mi0 : 0 ≤ r.mi
  mi1 : r.mi ≤ 3000
  sec0 : 0 ≤ r.sec
  sec1 : r.sec ≤ 3000
  z0 : -1000 ≤ r.z
  z1 : r.z ≤ 1000
theorem readS_ok (s : ByteArray) : RdOk (readS s) := by
  obtain ⟨a1, a2, a3⟩ := rdA_le (s := s)
  have kB := rdB_le (s := s) (e := (rdA s).e) a1
  have hI := naI_bd (s := s) (xs := monB) (k := (blS s (rdB s (rdA s).k (rdA s).e).k (rdB s (rdA s).k (rdA s).e).e).k) (e := (blS s (rdB s (rdA s).k (rdA s).e).k (rdB s (rdA s).k (rdA s).e).e).e) (by decide)
  rw [show (monB.length : Int) = 12 from rfl] at hI
  have n4 : nmB 4 = 283305 := rfl
  have n2 : nmB 2 = 2805 := rfl
  have k1 := blS_le (s := s) (e := (rdB s (rdA s).k (rdA s).e).e) kB.1
  unfold readS
  refine ⟨a2, by show (rdA s).wd ≤ 6; omega, nm_bd.1, Int.le_trans nm_bd.2 (by rw [n4]; omega), by show 1 ≤ 1 + naI _ _ _ _; omega, by show 1 + naI _ _ _ _ ≤ 12; omega, kB.2.1, kB.2.2, nm_bd.1, Int.le_trans nm_bd.2 (by rw [n2]; omega), nm_bd.1, Int.le_trans nm_bd.2 (by rw [n2]; omega), ?_, ?_, ?_, ?_⟩
  · exact (rdC_le (nmS_size 2 _ (tkA_le (nmS_size 2 _ (blS_le (nmS_size 4 _ (blS_le (naK_le k1)))))).1)).2.1
  · exact (rdC_le (nmS_size 2 _ (tkA_le (nmS_size 2 _ (blS_le (nmS_size 4 _ (blS_le (naK_le k1)))))).1)).2.2
  · show -1000 ≤ rdDz s _ _
    unfold rdDz
    split
    · omega
    · split
      · omega
      · exact (zF_bd _).1
  · show rdDz s _ _ ≤ 1000
    unfold rdDz
    split
    · omega
    · split
      · omega
      · exact (zF_bd _).2
/-! ### the checks -/
structure Ck where
  at0 : Int
  e : Int
def ckS (x : Ck) (ok : Bool) (na ne : Int) : Ck := ⟨scC ok x.e na x.at0, scC ok x.e ne x.e⟩
theorem ckS_zero {x : Ck} {ok : Bool} {na ne : Int} (hne : ne ≠ 0) (h : (ckS x ok na ne).e = 0) : x.e = 0 ∧ ok = true := by
  unfold ckS scC scF at h
  cases ok
  · simp only [Bool.false_eq_true, if_false] at h
    split at h
    · exact absurd h hne
    · rename_i h2; exact absurd h h2
  · exact ⟨by simpa using h, rfl⟩
theorem ckS_true (x : Ck) (na ne : Int) : ckS x true na ne = x := rfl
theorem ckS_err {x : Ck} {ok : Bool} {na ne : Int} (h : x.e ≠ 0) : (ckS x ok na ne).e ≠ 0 := by
  unfold ckS scC scF
  cases ok
  · simp only [Bool.false_eq_true, if_false]
    rw [if_neg h]; exact h
  · exact h
theorem ckS_no {x : Ck} {na ne : Int} (hne : ne ≠ 0) : (ckS x false na ne).e ≠ 0 := by
  intro h
  have := (ckS_zero hne h).2
  cases this
def pk1 (r : Rd) : Ck := ckS ⟨r.k, r.e⟩ (decide (2000 ≤ r.y) && decide (r.y ≤ 2199)) r.yA 2
def pk2 (r : Rd) : Ck := ckS (pk1 r) (decide (1 ≤ r.d) && decide (r.d ≤ (monthD r.y.toNat r.mo.toNat : Nat))) r.dA 13
def pk3 (r : Rd) : Ck := ckS (pk2 r) (decide (r.h ≤ 23)) r.hA 13
def pk4 (r : Rd) : Ck := ckS (pk3 r) (decide (r.mi ≤ 59)) r.miA 13
def pk5 (r : Rd) : Ck := ckS (pk4 r) (decide (r.sec ≤ 60)) r.sA 13
def locS (r : Rd) : Nat := minOf ⟨r.y.toNat, r.mo.toNat, r.d.toNat, r.h.toNat, r.mi.toNat⟩
def pk6 (r : Rd) : Ck := ckS (pk5 r) (!r.named || decide ((((locS r / 1440 + 5) % 7 : Nat) : Int) = r.wd)) 0 13
def pk7 (r : Rd) : Ck := ckS (pk6 r) (decide (0 ≤ (locS r : Int) - r.z ∧ (locS r : Int) - r.z ≤ 105190559)) 0 2
/-- minute, place, error -/
structure Pr where
  m : Int
  at0 : Int
  e : Int
def parseF (s : ByteArray) : Pr :=
  if 64 < s.size then ⟨0, 64, 5⟩
  else if (pk1 (readS s)).e ≠ 0 then ⟨0, (pk1 (readS s)).at0, (pk1 (readS s)).e⟩
  else if (pk5 (readS s)).e ≠ 0 then ⟨0, (pk5 (readS s)).at0, (pk5 (readS s)).e⟩
  else if (pk7 (readS s)).e ≠ 0 then ⟨0, (pk7 (readS s)).at0, (pk7 (readS s)).e⟩
  else ⟨(locS (readS s) : Int) - (readS s).z, 0, 0⟩
theorem minOf_le {c : Civ} (h : CivOk c) (hy : c.y ≤ 2199) : minOf c ≤ 105190559 := by
  have h1 := days_year h
  have h2 : sumY 2000 (c.y - 2000 + 1) ≤ sumY 2000 200 := sumY_mono (by have := h.y0; omega)
  have h200 : sumY 2000 200 = 73049 := by decide +kernel
  rw [minOf_days]
  have := h.h1
  have := h.mi1
  omega
/-- what the first five checks give -/
theorem pk5_ok {r : Rd} (hr : RdOk r) (h : (pk5 r).e = 0) : CivOk ⟨r.y.toNat, r.mo.toNat, r.d.toNat, r.h.toNat, r.mi.toNat⟩ ∧ r.y ≤ 2199 ∧ r.e = 0 ∧ r.sec ≤ 60 ∧ 2000 ≤ r.y ∧ 1 ≤ r.d ∧ r.d ≤ (monthD r.y.toNat r.mo.toNat : Nat) ∧ r.h ≤ 23 ∧ r.mi ≤ 59 := by
  obtain ⟨h4, o5⟩ := ckS_zero (by decide) h
  obtain ⟨h3, o4⟩ := ckS_zero (by decide) h4
  obtain ⟨h2, o3⟩ := ckS_zero (by decide) h3
  obtain ⟨h1, o2⟩ := ckS_zero (by decide) h2
  obtain ⟨h0, o1⟩ := ckS_zero (by decide) h1
  simp only [Bool.and_eq_true, decide_eq_true_eq] at o1 o2 o3 o4 o5
  have := hr.mo0
  have := hr.mo1
  have := hr.h0
  have := hr.mi0
  exact ⟨⟨by show 2000 ≤ r.y.toNat; omega, by show 1 ≤ r.mo.toNat; omega, by show r.mo.toNat ≤ 12; omega, by show 1 ≤ r.d.toNat; omega, by show r.d.toNat ≤ monthD r.y.toNat r.mo.toNat; omega, by show r.h.toNat ≤ 23; omega, by show r.mi.toNat ≤ 59; omega⟩, o1.2, h0, o5, o1.1, o2.1, o2.2, o3, o4⟩
theorem parseF_bd (s : ByteArray) : 0 ≤ (parseF s).m ∧ (parseF s).m ≤ 105190559 := by
  unfold parseF
  split
  · exact ⟨by decide, by decide⟩
  · split
    · exact ⟨by show (0 : Int) ≤ 0; omega, by show (0 : Int) ≤ _; omega⟩
    · split
      · exact ⟨by show (0 : Int) ≤ 0; omega, by show (0 : Int) ≤ _; omega⟩
      · split
        · exact ⟨by show (0 : Int) ≤ 0; omega, by show (0 : Int) ≤ _; omega⟩
        · rename_i h
          have h7 : (pk7 (readS s)).e = 0 := by simpa using h
          have := (ckS_zero (by decide) h7).2
          simpa using this
end Go.Proofs.YtiijngjhhcjiaaaDoor
