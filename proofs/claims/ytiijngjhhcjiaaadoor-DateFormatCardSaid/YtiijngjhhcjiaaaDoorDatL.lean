/-
  Package date: the scan of a text: number, blanks.
-/
import Derived.Test.YtiijngjhhcjiaaaDoorDatK
set_option linter.unusedSimpArgs false
set_option linter.unusedVariables false
set_option linter.unnecessarySimpa false
namespace Go.Proofs.YtiijngjhhcjiaaaDoor
open Go.RowKit Go.Bul
theorem tkA_le {s : ByteArray} {p : UInt8 → Bool} {k : Nat} {e : Int} (h : k ≤ s.size) : tkA s p k e ≤ s.size ∧ k ≤ tkA s p k e ∧ tkA s p k e ≤ k + 1 := by
  unfold tkA
  split
  · exact ⟨h, Nat.le_refl _, Nat.le_succ _⟩
  · split
    · split
      · exact ⟨by omega, by omega, by omega⟩
      · exact ⟨h, Nat.le_refl _, Nat.le_succ _⟩
    · exact ⟨h, Nat.le_refl _, Nat.le_succ _⟩
theorem sub48 (c : UInt8) : IntKind.u8.wrap ((c.toNat : Int) - 48) = (((c - 48 : UInt8).toNat : Nat) : Int) := by
  have h1 := UInt8.toNat_sub c 48
  have h2 := c.toNat_lt
  have h3 : (48 : UInt8).toNat = 48 := rfl
  rw [h3] at h1
  rw [h1]
  unfold IntKind.wrap
  simp [IntKind.signed, IntKind.bits]
  omega
/-- the number under way: the place, the error, the value -/
structure Nm where
  k : Nat
  e : Int
  n : Int
def nmS (s : ByteArray) : Nat → Nm → Nm
  | 0, x => x
  | d + 1, x => nmS s d ⟨tkA s digB x.k x.e, tkE s digB x.k x.e, 10 * x.n + ((tkC s digB x.k x.e - 48 : UInt8).toNat : Int)⟩
def nmB : Nat → Int
  | 0 => 0
  | j + 1 => 10 * nmB j + 255
theorem nmB_le {j : Nat} (h : j ≤ 4) : 0 ≤ nmB j ∧ nmB j ≤ 283305 := by
  obtain rfl | rfl | rfl | rfl | rfl : j = 0 ∨ j = 1 ∨ j = 2 ∨ j = 3 ∨ j = 4 := by omega
  all_goals decide
theorem nmS_size {s : ByteArray} : ∀ (d : Nat) (x : Nm), x.k ≤ s.size → (nmS s d x).k ≤ s.size
  | 0, x, h => h
  | d + 1, x, h => nmS_size d _ (tkA_le h).1
set_option maxRecDepth 100000 in
set_option maxHeartbeats 4000000 in
theorem scanNumber_s (b : Nat) (s : ByteArray) (k : Nat) (e : Int) (d : Nat) (hd : d ≤ 4) (hs : s.size ≤ 1000000) (hk : k ≤ s.size) (w : World) (h : ScAt w b s k e) :
    Calls Tryd.prog 52 #[.pointer (some ⟨b, 0, none⟩), .int .i64 d] w fun r w' => r = .returned (.tuple #[.int .i64 (nmS s d ⟨k, e, 0⟩).n, .int .i64 k]) ∧ ScAt w' b s ((nmS s d ⟨k, e, 0⟩).k : Nat) (nmS s d ⟨k, e, 0⟩).e ∧ Bt b w w' := by
  have H := Lib.hid h
  have y1 := cellAt h 1
  clear h
  obtain ⟨R, hR⟩ : ∃ R, nmS s d ⟨k, e, 0⟩ = R := ⟨_, rfl⟩
  rw [hR]
  go_enter Tryd.func52, Tryd.ntmps52
  go_wp2_with fail
  clear y1
  go_loopw [4, 11] (fun nv i wr => ∃ (j : Nat) (x : Nm), j ≤ d ∧ i = .int .i64 j ∧ nv = .int .i64 x.n ∧ nmS s (d - j) x = R ∧ x.k ≤ s.size ∧ 0 ≤ x.n ∧ x.n ≤ nmB j ∧ ScAt wr b s x.k x.e ∧ Bt b w wr) (fun _ i _ => d - (intOf i).toNat)
  case atStart => exact ⟨0, ⟨k, e, 0⟩, Nat.zero_le _, rfl, rfl, hR, hk, Int.le_refl _, Int.le_refl _, H.out, Bt.refl _ _⟩
  case round =>
    obtain ⟨j, x, hj, rfl, rfl, hx, hxk, hn0, hn1, hS, hB⟩ := hrel
    have HS := Lib.hid hS
    have HB := Lib.hid hB
    clear hS hB
    by_cases hlt : j < d
    · have i1 : (j : Int) < (d : Int) := by omega
      obtain ⟨q0, q1⟩ := nmB_le (j := j) (by omega)
      have hw1 : IntKind.i64.wrap (10 * x.n) = 10 * x.n := IntWalk.i64_in _ (by omega)
      go_wp2_with fail
      refine (take_digit b s x.k x.e hs hxk _ HS.out).mono ?_
      rintro r w1 ⟨rfl, h1, h2⟩
      have HS1 := Lib.hid h1
      have HB1 := Lib.hid (HB.out.trans h2)
      clear h1 h2
      have hsub := sub48 (tkC s digB x.k x.e)
      obtain ⟨v, hv⟩ : ∃ v : Nat, (tkC s digB x.k x.e - 48 : UInt8).toNat = v := ⟨_, rfl⟩
      have hv9 : v ≤ 255 := by rw [← hv]; have := (tkC s digB x.k x.e - 48 : UInt8).toNat_lt; omega
      rw [hv] at hsub
      have hw2 : IntKind.i64.wrap (10 * x.n + (v : Int)) = 10 * x.n + (v : Int) := IntWalk.i64_in _ (by omega)
      unfold B8
      go_wp2_with fail
      go_roundw
      case rel =>
        refine ⟨j + 1, ⟨tkA s digB x.k x.e, tkE s digB x.k x.e, 10 * x.n + (v : Int)⟩, by omega, by push_cast; rfl, rfl, ?_, (tkA_le hxk).1, by show 0 ≤ 10 * x.n + (v : Int); omega, by show 10 * x.n + (v : Int) ≤ 10 * nmB j + 255; omega, HS1.out, HB1.out⟩
        rw [← hx, show d - j = (d - (j + 1)) + 1 by omega, nmS, hv]
      case measure => simp only [intOf]; omega
    · obtain rfl : j = d := by omega
      have i1 : decide ((j : Int) < (j : Int)) = false := by simp
      rw [Nat.sub_self] at hx
      have hx' : x = R := hx
      subst hx'
      go_wp2_with fail
      go_ret2
      exact ⟨rfl, HS.out, HB.out⟩
def skA (s : ByteArray) (k : Nat) (e : Int) : Nat := if h : pkB s blkB k e = true then skA s (k + 1) e else k
termination_by s.size - k
decreasing_by
  have : k < s.size := by
    unfold pkB at h
    by_cases he : e ≠ 0
    · rw [if_pos he] at h; cases h
    · rw [if_neg he] at h
      by_cases hk : k < s.size
      · exact hk
      · rw [dif_neg hk] at h; cases h
  omega
theorem skA_yes {s : ByteArray} {k : Nat} {e : Int} (h : pkB s blkB k e = true) : skA s k e = skA s (k + 1) e := by rw [skA, dif_pos h]
theorem skA_no {s : ByteArray} {k : Nat} {e : Int} (h : pkB s blkB k e = false) : skA s k e = k := by rw [skA, dif_neg (by rw [h]; decide)]
theorem pk_lt {s : ByteArray} {p : UInt8 → Bool} {k : Nat} {e : Int} (h : pkB s p k e = true) : k < s.size ∧ e = 0 := by
  unfold pkB at h
  by_cases he : e ≠ 0
  · rw [if_pos he] at h; cases h
  · rw [if_neg he] at h
    by_cases hk : k < s.size
    · exact ⟨hk, by omega⟩
    · rw [dif_neg hk] at h; cases h
def leftIn (s : ByteArray) (b : Nat) (w : World) : Nat := match w.cell? ⟨b, 1, none⟩ with
  | some (.int _ i) => s.size - i.toNat
  | _ => 0
theorem leftIn_at {s : ByteArray} {b : Nat} {w : World} {k : Nat} {e : Int} (h : ScAt w b s k e) : leftIn s b w = s.size - k := by
  unfold leftIn
  rw [cellAt h 1]
  rfl
def blK (s : ByteArray) (opt : Bool) (k : Nat) (e : Int) : Nat := if opt = true then k else tkA s blkB k e
def blE (s : ByteArray) (opt : Bool) (k : Nat) (e : Int) : Int := if opt = true then e else tkE s blkB k e
theorem skA_le {s : ByteArray} : ∀ (n k : Nat) (e : Int), s.size - k ≤ n → k ≤ s.size → skA s k e ≤ s.size
  | n, k, e, hn, hk => by
    cases h : pkB s blkB k e
    · rw [skA_no h]; exact hk
    · have h1 := (pk_lt h).1
      match n, hn with
      | 0, hn => omega
      | n + 1, hn =>
        rw [skA_yes h]
        exact skA_le n (k + 1) e (by omega) (by omega)
set_option maxRecDepth 100000 in
set_option maxHeartbeats 4000000 in
theorem skip_s (b : Nat) (s : ByteArray) (k : Nat) (e : Int) (hs : s.size ≤ 1000000) (hk : k ≤ s.size) (w : World) (h : ScAt w b s k e) :
    Calls Tryd.prog 51 #[.pointer (some ⟨b, 0, none⟩), .bool true] w fun r w' => r = .returned (.tuple #[]) ∧ ScAt w' b s (skA s k e : Nat) e ∧ Bt b w w' := by
  have H := Lib.hid h
  clear h
  go_enter Tryd.func51, Tryd.ntmps51
  go_wp2_with fail
  go_loopw [] (fun wr => ∃ k' : Nat, skA s k' e = skA s k e ∧ k' ≤ s.size ∧ ScAt wr b s k' e ∧ Bt b w wr) (fun wr => leftIn s b wr)
  case atStart => exact ⟨k, rfl, hk, H.out, Bt.refl _ _⟩
  case round =>
    obtain ⟨k', hsk, hk', hS, hB⟩ := hrel
    have HS := Lib.hid hS
    have HB := Lib.hid hB
    have HL := Lib.hid (leftIn_at hS)
    clear hS hB
    go_wp2_with fail
    refine (peek_blank b s k' e _ HS.out).mono ?_
    rintro r w1 ⟨rfl, nq, hw1⟩
    have HS1 := Lib.hid (show ScAt w1 b s k' e by rw [hw1]; exact HS.out)
    have HB1 := Lib.hid (show Bt b w w1 by rw [hw1]; exact HB.out.drewN nq)
    clear hw1
    cases hp : pkB s blkB k' e
    · go_wp2_with fail
      go_end0
      rw [← hsk, skA_no hp]
      exact ⟨rfl, HS1.out, HB1.out⟩
    · have hlt := (pk_lt hp).1
      have y1 := cellAt HS1.out 1
      have f1 := frozenAt HS1.out 1
      have hw2 : IntKind.i64.wrap ((k' : Int) + 1) = (k' : Int) + 1 := IntWalk.i64_in _ (by omega)
      go_wp2_with fail
      have HS2 := Lib.hid (show ScAt (w1.setCell ⟨b, 1, none⟩ (.int .i64 ((k' : Int) + 1))) b s (k' + 1 : Nat) e by push_cast; exact setCell_block HS1.out)
      go_roundw
      case rel => exact ⟨k' + 1, by rw [← hsk, skA_yes hp], by omega, HS2.out, HB1.out.trans (Bt.set _ _)⟩
      case measure => rw [leftIn_at HS2.out, HL.out]; omega
set_option maxRecDepth 100000 in
set_option maxHeartbeats 4000000 in
theorem blanks_sc (b : Nat) (s : ByteArray) (k : Nat) (e : Int) (hs : s.size ≤ 1000000) (hk : k ≤ s.size) (w0 : World) (h : ScAt w0 b s k e) :
    Calls Tryd.prog 51 #[.pointer (some ⟨b, 0, none⟩), .bool false] w0 fun r w' => r = .returned (.tuple #[]) ∧ ScAt w' b s (skA s (tkA s blkB k e) (tkE s blkB k e) : Nat) (tkE s blkB k e) ∧ Bt b w0 w' := by
  go_enter Tryd.func51, Tryd.ntmps51
  go_wp2_with fail
  refine (take_blank b s k e hs hk w0 h).mono ?_
  rintro r w ⟨rfl, h1, h2⟩
  have H := Lib.hid h1
  have HB0 := Lib.hid h2
  have hk1 := (tkA_le (s := s) (p := blkB) (k := k) (e := e) hk).1
  clear h1 h2 h
  generalize hgk : tkA s blkB k e = k1 at H hk1
  generalize hge : tkE s blkB k e = e1 at H
  unfold B8
  go_wp2_with fail
  go_loopw [] (fun wr => ∃ k' : Nat, skA s k' e1 = skA s k1 e1 ∧ k' ≤ s.size ∧ ScAt wr b s k' e1 ∧ Bt b w wr) (fun wr => leftIn s b wr)
  case atStart => exact ⟨k1, rfl, hk1, H.out, Bt.refl _ _⟩
  case round =>
    obtain ⟨k', hsk, hk', hS, hB⟩ := hrel
    have HS := Lib.hid hS
    have HB := Lib.hid hB
    have HL := Lib.hid (leftIn_at hS)
    clear hS hB
    go_wp2_with fail
    refine (peek_blank b s k' e1 _ HS.out).mono ?_
    rintro r w1 ⟨rfl, nq, hw1⟩
    have HS1 := Lib.hid (show ScAt w1 b s k' e1 by rw [hw1]; exact HS.out)
    have HB1 := Lib.hid (show Bt b w w1 by rw [hw1]; exact HB.out.drewN nq)
    clear hw1
    cases hp : pkB s blkB k' e1
    · go_wp2_with fail
      go_end0
      rw [hgk, hge, ← hsk, skA_no hp]
      exact ⟨rfl, HS1.out, HB0.out.trans HB1.out⟩
    · have hlt := (pk_lt hp).1
      have y1 := cellAt HS1.out 1
      have f1 := frozenAt HS1.out 1
      have hw2 : IntKind.i64.wrap ((k' : Int) + 1) = (k' : Int) + 1 := IntWalk.i64_in _ (by omega)
      go_wp2_with fail
      have HS2 := Lib.hid (show ScAt (w1.setCell ⟨b, 1, none⟩ (.int .i64 ((k' : Int) + 1))) b s (k' + 1 : Nat) e1 by push_cast; exact setCell_block HS1.out)
      go_roundw
      case rel => exact ⟨k' + 1, by rw [← hsk, skA_yes hp], by omega, HS2.out, HB1.out.trans (Bt.set _ _)⟩
      case measure => rw [leftIn_at HS2.out, HL.out]; omega
end Go.Proofs.YtiijngjhhcjiaaaDoor
