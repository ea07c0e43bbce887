/-
  Package date: what read leaves, at every text, as plain functions; their bounds.
-/
import Derived.Test.YtiijngjhhcjiaaaDoorDatR
set_option linter.unusedSimpArgs false
set_option linter.unusedVariables false
set_option linter.unnecessarySimpa false
namespace Go.Proofs.YtiijngjhhcjiaaaDoor
open Go.RowKit Go.Bul
def dayB : List ByteArray := dayT.map (fun l => ⟨l.toArray⟩)
theorem nmS_bd {s : ByteArray} : ∀ (d j : Nat) (x : Nm), 0 ≤ x.n → x.n ≤ nmB j → 0 ≤ (nmS s d x).n ∧ (nmS s d x).n ≤ nmB (j + d)
  | 0, j, x, h0, h1 => ⟨h0, h1⟩
  | d + 1, j, x, h0, h1 => by
    have hv : ((tkC s digB x.k x.e - 48 : UInt8).toNat : Int) ≤ 255 := by have := (tkC s digB x.k x.e - 48 : UInt8).toNat_lt; omega
    have := nmS_bd (s := s) d (j + 1) ⟨tkA s digB x.k x.e, tkE s digB x.k x.e, 10 * x.n + ((tkC s digB x.k x.e - 48 : UInt8).toNat : Int)⟩ (by show 0 ≤ 10 * x.n + _; omega) (by show 10 * x.n + _ ≤ 10 * nmB j + 255; omega)
    rw [show j + (d + 1) = j + 1 + d by omega]
    exact this
theorem nm_bd {s : ByteArray} {d k : Nat} {e : Int} : 0 ≤ (nmS s d ⟨k, e, 0⟩).n ∧ (nmS s d ⟨k, e, 0⟩).n ≤ nmB d := by
  have := nmS_bd (s := s) d 0 ⟨k, e, 0⟩ (Int.le_refl _) (Int.le_refl _)
  rwa [Nat.zero_add] at this
theorem idxF_bd (y : ByteArray) : ∀ (xs : List ByteArray) (k : Nat), idxF y xs k < (k + xs.length : Nat) ∧ -1 ≤ idxF y xs k
  | [], k => ⟨by show (-1 : Int) < _; omega, Int.le_refl _⟩
  | x :: r, k => by
    unfold idxF
    split
    · simp only [List.length_cons]; omega
    · have := idxF_bd y r (k + 1)
      simp only [List.length_cons]
      omega
theorem naI_bd {s : ByteArray} {xs : List ByteArray} {k : Nat} {e : Int} (h : 0 < xs.length) : 0 ≤ naI s xs k e ∧ naI s xs k e < xs.length := by
  have := idxF_bd (wordAt s k) xs 0
  unfold naI
  split
  · omega
  · split
    · omega
    · split <;> omega
theorem naK_le {s : ByteArray} {xs : List ByteArray} {k : Nat} {e : Int} (h : k ≤ s.size) : naK s xs k e ≤ s.size := by
  unfold naK
  split
  · exact h
  · split
    · exact Nat.le_refl _
    · split <;> omega
theorem skA_le' {s : ByteArray} {k : Nat} {e : Int} (h : k ≤ s.size) : skA s k e ≤ s.size := skA_le _ _ _ (Nat.le_refl _) h
/-- the place and the error -/
structure Sc where
  k : Nat
  e : Int
def blS (s : ByteArray) (k : Nat) (e : Int) : Sc := ⟨skA s (tkA s blkB k e) (tkE s blkB k e), tkE s blkB k e⟩
def tkS (s : ByteArray) (p : UInt8 → Bool) (k : Nat) (e : Int) : Sc := ⟨tkA s p k e, tkE s p k e⟩
theorem blS_le {s : ByteArray} {k : Nat} {e : Int} (h : k ≤ s.size) : (blS s k e).k ≤ s.size := skA_le' (tkA_le h).1
/-- the day of the week -/
structure Hd where
  wd : Int
  k : Nat
  e : Int
def rdA (s : ByteArray) : Hd := if pkB s letB 0 0 = true then ⟨naI s dayB 0 0, skA s (tkA s (jusB 44) (naK s dayB 0 0) (naE s dayB 0 0)) (tkE s (jusB 44) (naK s dayB 0 0) (naE s dayB 0 0)), tkE s (jusB 44) (naK s dayB 0 0) (naE s dayB 0 0)⟩ else ⟨0, 0, 0⟩
theorem rdA_le {s : ByteArray} : (rdA s).k ≤ s.size ∧ 0 ≤ (rdA s).wd ∧ (rdA s).wd < 7 := by
  unfold rdA
  split
  · have := naI_bd (s := s) (xs := dayB) (k := 0) (e := 0) (by decide)
    exact ⟨skA_le' (tkA_le (naK_le (Nat.zero_le _))).1, this.1, this.2⟩
  · exact ⟨Nat.zero_le _, Int.le_refl _, by show (0 : Int) < 7; omega⟩
/-- the day -/
def rdB (s : ByteArray) (k : Nat) (e : Int) : Nm :=
  let x := nmS s 1 ⟨k, e, 0⟩
  if pkB s digB x.k x.e = true then ⟨(nmS s 1 ⟨x.k, x.e, 0⟩).k, (nmS s 1 ⟨x.k, x.e, 0⟩).e, 10 * x.n + (nmS s 1 ⟨x.k, x.e, 0⟩).n⟩ else x
theorem rdB_le {s : ByteArray} {k : Nat} {e : Int} (h : k ≤ s.size) : (rdB s k e).k ≤ s.size ∧ 0 ≤ (rdB s k e).n ∧ (rdB s k e).n ≤ 3000 := by
  have h1 := nm_bd (s := s) (d := 1) (k := k) (e := e)
  have h2 := nmS_size (s := s) 1 ⟨k, e, 0⟩ h
  have hB : nmB 1 = 255 := rfl
  rw [hB] at h1
  unfold rdB
  simp only
  split
  · have h3 := nm_bd (s := s) (d := 1) (k := (nmS s 1 ⟨k, e, 0⟩).k) (e := (nmS s 1 ⟨k, e, 0⟩).e)
    rw [hB] at h3
    exact ⟨nmS_size 1 _ h2, by show 0 ≤ 10 * _ + _; omega, by show 10 * _ + _ ≤ _; omega⟩
  · exact ⟨h2, h1.1, by omega⟩
/-- the seconds -/
structure Se where
  n : Int
  at0 : Int
  k : Nat
  e : Int
def rdC (s : ByteArray) (k : Nat) (e : Int) : Se := if pkB s (jusB 58) k e = true then ⟨(nmS s 2 ⟨k + 1, e, 0⟩).n, (k + 1 : Nat), (nmS s 2 ⟨k + 1, e, 0⟩).k, (nmS s 2 ⟨k + 1, e, 0⟩).e⟩ else ⟨0, 0, k, e⟩
theorem rdC_le {s : ByteArray} {k : Nat} {e : Int} (h : k ≤ s.size) : (rdC s k e).k ≤ s.size ∧ 0 ≤ (rdC s k e).n ∧ (rdC s k e).n ≤ 3000 := by
  unfold rdC
  split
  · rename_i hp
    have h1 := nm_bd (s := s) (d := 2) (k := k + 1) (e := e)
    rw [show nmB 2 = 2805 from rfl] at h1
    exact ⟨nmS_size 2 _ (pk_lt hp).1, h1.1, by show (nmS s 2 _).n ≤ 3000; omega⟩
  · exact ⟨h, Int.le_refl _, by show (0 : Int) ≤ 3000; omega⟩
end Go.Proofs.YtiijngjhhcjiaaaDoor
