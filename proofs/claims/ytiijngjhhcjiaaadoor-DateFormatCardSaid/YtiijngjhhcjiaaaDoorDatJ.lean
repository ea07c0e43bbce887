/-
  Package date: the scan of a text: fail, check, take, peek.
-/
import Derived.Test.YtiijngjhhcjiaaaDoorDatI
set_option linter.unusedSimpArgs false
set_option linter.unusedVariables false
set_option linter.unnecessarySimpa false
namespace Go.Proofs.YtiijngjhhcjiaaaDoor
open Go.RowKit Go.Bul
/-- the world is as it was but for block b and what is new -/
structure Bt (b : Nat) (w w' : World) : Prop where
  os : w'.os = w.os
  tape : w'.tape = w.tape
  output : w'.output = w.output
  size : w.heap.size ≤ w'.heap.size
  block : ∀ k, k < w.heap.size → k ≠ b → w'.heap[k]? = w.heap[k]?
theorem Bt.refl (b : Nat) (w : World) : Bt b w w := ⟨rfl, rfl, rfl, Nat.le_refl _, fun _ _ _ => rfl⟩
theorem Bt.trans {b : Nat} {w w1 w2 : World} (h : Bt b w w1) (k : Bt b w1 w2) : Bt b w w2 :=
  ⟨k.os.trans h.os, k.tape.trans h.tape, k.output.trans h.output, Nat.le_trans h.size k.size, fun i hi hb => (k.block i (Nat.lt_of_lt_of_le hi h.size) hb).trans (h.block i hi hb)⟩
theorem Bt.of_below {b : Nat} {w w' : World} (h : Below w.heap.size w w') : Bt b w w' := ⟨h.os, h.tape, h.output, h.size, fun k hk _ => h.block k hk⟩
theorem Bt.set {b k : Nat} (w : World) (u : Value) : Bt b w (w.setCell ⟨b, k, none⟩ u) := ⟨rfl, rfl, rfl, by simp [World.setCell], fun i hi hb => Below.heap_setCell _ _ _ _ (by simpa using hb)⟩
theorem Bt.to_below {b B : Nat} {w w' : World} (h : Bt b w w') (hB : B ≤ w.heap.size) (hb : B ≤ b) : Below B w w' := ⟨h.os, h.tape, h.output, h.size, fun k hk => h.block k (by omega) (by omega)⟩
theorem Bt.drewN {b : Nat} {w w' : World} (h : Bt b w w') (n : Nat) : Bt b w (w'.drewN n) := ⟨h.os, h.tape, h.output, h.size, h.block⟩
/-- the scan x lies in block b -/
def ScAt (w : World) (b : Nat) (s : ByteArray) (a e : Int) : Prop := w.heap[b]? = some (.cells #[.string s, .int .i64 a, .int .i64 e] 61 (0, 0))
theorem ScAt.below {w w' : World} {b : Nat} {s : ByteArray} {a e : Int} (h : ScAt w b s a e) (hb : Below w.heap.size w w') : ScAt w' b s a e := (hb.block b (ltBlock h)).trans h
theorem ScAt.bt {w w' : World} {b b' : Nat} {s : ByteArray} {a e : Int} (h : ScAt w b s a e) (hb : Bt b' w w') (hne : b ≠ b') : ScAt w' b s a e := (hb.block b (ltBlock h) hne).trans h
theorem ScAt.drewN {w : World} {b : Nat} {s : ByteArray} {a e : Int} (h : ScAt w b s a e) (n : Nat) : ScAt (w.drewN n) b s a e := h
def B8 (c : UInt8) : Value := .int .u8 c.toNat
/-- what a failure leaves: n if there was no error yet, else x -/
def scF (e n x : Int) : Int := if e = 0 then n else x
def scC (ok : Bool) (e n x : Int) : Int := if ok = true then x else scF e n x
theorem scF_zero (n x : Int) : scF 0 n x = n := rfl
theorem scF_ne {e : Int} (h : e ≠ 0) (n x : Int) : scF e n x = x := if_neg h
set_option maxRecDepth 100000 in
theorem fail_s (b : Nat) (s : ByteArray) (a e na ne : Int) (w : World) (h : ScAt w b s a e) :
    Calls Tryd.prog 54 #[.pointer (some ⟨b, 0, none⟩), .int .i64 na, .int .i64 ne] w fun r w' => r = .returned (.tuple #[]) ∧ ScAt w' b s (scF e na a) (scF e ne e) ∧ Bt b w w' := by
  have y1 := cellAt h 1
  have y2 := cellAt h 2
  have f1 := frozenAt h 1
  have f2 := frozenAt h 2
  have H := Lib.hid h
  clear h
  by_cases h0 : e = 0
  · subst h0
    go_enter Tryd.func54, Tryd.ntmps54
    go_wp2_with fail
    go_end0
    exact ⟨rfl, by rw [scF_zero, scF_zero]; exact setCell_block (setCell_block H.out), (Bt.set _ _).trans (Bt.set _ _)⟩
  · have hq : (e == 0) = false := by rw [beq_eq_false_iff_ne]; exact h0
    go_enter Tryd.func54, Tryd.ntmps54
    go_wp2_with fail
    go_end0
    exact ⟨rfl, by rw [scF_ne h0, scF_ne h0]; exact H.out, Bt.refl _ _⟩
set_option maxRecDepth 100000 in
theorem check_sc (b : Nat) (s : ByteArray) (a e na ne : Int) (ok : Bool) (w : World) (h : ScAt w b s a e) :
    Calls Tryd.prog 39 #[.pointer (some ⟨b, 0, none⟩), .bool ok, .int .i64 na, .int .i64 ne] w fun r w' => r = .returned (.tuple #[]) ∧ ScAt w' b s (scC ok e na a) (scC ok e ne e) ∧ Bt b w w' := by
  cases ok
  · go_enter Tryd.func39, Tryd.ntmps39
    go_wp2_with fail
    refine (fail_s b s a e na ne w h).mono ?_
    rintro r w' ⟨rfl, h1, h2⟩
    go_wp2_with fail
    go_end0
    exact ⟨rfl, h1, h2⟩
  · go_enter Tryd.func39, Tryd.ntmps39
    go_wp2_with fail
    go_end0
    exact ⟨rfl, h, Bt.refl _ _⟩
def digB (c : UInt8) : Bool := decide (48 ≤ c.toNat) && decide (c.toNat ≤ 57)
def blkB (c : UInt8) : Bool := (c.toNat == 32) || (c.toNat == 9)
def letB (c : UInt8) : Bool := (decide (97 ≤ c.toNat) && decide (c.toNat ≤ 122)) || (decide (65 ≤ c.toNat) && decide (c.toNat ≤ 90))
theorem quietC {P : Program} {f : FuncId} {args : Array Value} {w : World} {n : Nat} {v : Value} (h : Calls P f args (w.drewN n) fun e w' => e = .returned v ∧ w.drewN n = w') : Calls P f args (w.drewN n) fun e w'' => e = .returned v ∧ ∃ m, w'' = w.drewN m :=
  h.mono fun _ _ ⟨he, hm⟩ => ⟨he, n, hm.symm⟩
theorem retB {a b : Bool} (h : a = b) : Ending.returned (.bool a) = Ending.returned (.bool b) := by rw [h]
set_option maxRecDepth 100000 in
theorem digit_c (c : UInt8) (w : World) : Calls Tryd.prog 53 #[B8 c] w fun e w' => e = .returned (.bool (digB c)) ∧ w = w' := by
  unfold B8
  go_enter Tryd.func53, Tryd.ntmps53
  go_wp2
  all_goals
    go_ret
    exact ⟨retB (by rw [Bool.eq_iff_iff]; simp [digB]; try omega), rfl⟩
set_option maxRecDepth 100000 in
theorem blank_c (c : UInt8) (w : World) : Calls Tryd.prog 66 #[B8 c] w fun e w' => e = .returned (.bool (blkB c)) ∧ w = w' := by
  unfold B8
  go_enter Tryd.func66, Tryd.ntmps66
  go_wp2
  all_goals
    go_ret
    exact ⟨retB (by rw [Bool.eq_iff_iff]; simp [blkB]; try omega), rfl⟩
set_option maxRecDepth 100000 in
theorem letter_c (c : UInt8) (w : World) : Calls Tryd.prog 47 #[B8 c] w fun e w' => e = .returned (.bool (letB c)) ∧ w = w' := by
  unfold B8
  go_enter Tryd.func47, Tryd.ntmps47
  go_wp2
  all_goals
    go_ret
    exact ⟨retB (by rw [Bool.eq_iff_iff]; simp [letB]; try omega), rfl⟩
/-- what take leaves: the byte read (0 at an error), the place, the error -/
def tkC (s : ByteArray) (p : UInt8 → Bool) (k : Nat) (e : Int) : UInt8 := if e ≠ 0 then 0 else if h : k < s.size then (if p s[k] then s[k] else 0) else 0
def tkA (s : ByteArray) (p : UInt8 → Bool) (k : Nat) (e : Int) : Nat := if e ≠ 0 then k else if h : k < s.size then (if p s[k] then k + 1 else k) else k
def tkE (s : ByteArray) (p : UInt8 → Bool) (k : Nat) (e : Int) : Int := if e ≠ 0 then e else if h : k < s.size then (if p s[k] then 0 else 3) else 4
theorem tk_err {s : ByteArray} {p : UInt8 → Bool} {k : Nat} {e : Int} (h : e ≠ 0) : tkC s p k e = 0 ∧ tkA s p k e = k ∧ tkE s p k e = e := by
  unfold tkC tkA tkE
  simp [h]
theorem tk_end {s : ByteArray} {p : UInt8 → Bool} {k : Nat} (h : ¬ k < s.size) : tkC s p k 0 = 0 ∧ tkA s p k 0 = k ∧ tkE s p k 0 = 4 := by
  unfold tkC tkA tkE
  simp [h]
theorem tk_yes {s : ByteArray} {p : UInt8 → Bool} {k : Nat} (h : k < s.size) (hp : p s[k] = true) : tkC s p k 0 = s[k] ∧ tkA s p k 0 = k + 1 ∧ tkE s p k 0 = 0 := by
  unfold tkC tkA tkE
  simp [h, hp]
theorem tk_no {s : ByteArray} {p : UInt8 → Bool} {k : Nat} (h : k < s.size) (hp : p s[k] = false) : tkC s p k 0 = 0 ∧ tkA s p k 0 = k ∧ tkE s p k 0 = 3 := by
  unfold tkC tkA tkE
  simp [h, hp]
set_option maxRecDepth 100000 in
set_option maxHeartbeats 4000000 in
theorem take_digit (b : Nat) (s : ByteArray) (k : Nat) (e : Int) (hs : s.size ≤ 1000000) (hk : k ≤ s.size) (w : World) (h : ScAt w b s k e) :
    Calls Tryd.prog 49 #[.pointer (some ⟨b, 0, none⟩), .func (.func 53) #[] #[]] w fun r w' => r = .returned (B8 (tkC s digB k e)) ∧ ScAt w' b s (tkA s digB k e : Nat) (tkE s digB k e) ∧ Bt b w w' := by
  have H := Lib.hid h
  have y0 := cellAt h 0
  have y1 := cellAt h 1
  have y2 := cellAt h 2
  have f1 := frozenAt h 1
  clear h
  by_cases h0 : e = 0
  case neg =>
    have hq : (e == 0) = false := by rw [beq_eq_false_iff_ne]; exact h0
    obtain ⟨t1, t2, t3⟩ := tk_err (s := s) (p := digB) (k := k) h0
    rw [t1, t2, t3]
    go_enter Tryd.func49, Tryd.ntmps49
    go_wp2_with fail
    go_ret
    exact ⟨rfl, H.out, Bt.refl _ _⟩
  subst h0
  have x0 : ∀ q, (w.drewN q).cell? ⟨b, 0, none⟩ = some (.string s) := fun q => y0
  have x1 : ∀ q, (w.drewN q).cell? ⟨b, 1, none⟩ = some (.int .i64 k) := fun q => y1
  by_cases hlt : k < s.size
  case neg =>
    obtain ⟨t1, t2, t3⟩ := tk_end (s := s) (p := digB) hlt
    rw [t1, t2, t3]
    have hq : ((k : Int) == (s.size : Int)) = true := by rw [beq_iff_eq]; omega
    go_enter Tryd.func49, Tryd.ntmps49
    go_wp2_with fail
    go_quiet (fail)
    obtain ⟨wq, hwq⟩ : ∃ wq, wq = w.drewN nq := ⟨_, rfl⟩
    have HQ := Lib.hid (show ScAt wq b s k 0 by rw [hwq]; exact H.out)
    have HBq := Lib.hid (show Bt b w wq by rw [hwq]; exact (Bt.refl b w).drewN nq)
    rw [← hwq]
    clear hwq y0 y1 y2 f1 x0 x1
    have z1 := cellAt HQ.out 1
    go_wp2_with fail
    refine (fail_s b s k 0 k 4 wq HQ.out).mono ?_
    rintro r w1 ⟨rfl, h1, h2⟩
    go_wp2_with fail
    go_ret
    exact ⟨rfl, h1, HBq.out.trans h2⟩
  have hq : ((k : Int) == (s.size : Int)) = false := by rw [beq_eq_false_iff_ne]; omega
  have i1 : (0 : Int) ≤ (k : Int) := by omega
  have i2 : (k : Int) < (s.size : Int) := by omega
  cases hp : digB s[k]
  · obtain ⟨t1, t2, t3⟩ := tk_no hlt hp
    rw [t1, t2, t3]
    go_enter Tryd.func49, Tryd.ntmps49
    go_wp2_with fail
    go_quiet (fail)
    obtain ⟨wq, hwq⟩ : ∃ wq, wq = w.drewN nq := ⟨_, rfl⟩
    have HQ := Lib.hid (show ScAt wq b s k 0 by rw [hwq]; exact H.out)
    have HBq := Lib.hid (show Bt b w wq by rw [hwq]; exact (Bt.refl b w).drewN nq)
    rw [← hwq]
    clear hwq y0 y1 y2 f1 x0 x1
    have x0 : ∀ q, (wq.drewN q).cell? ⟨b, 0, none⟩ = some (.string s) := fun q => cellAt HQ.out 0
    have x1 : ∀ q, (wq.drewN q).cell? ⟨b, 1, none⟩ = some (.int .i64 k) := fun q => cellAt HQ.out 1
    go_wp2_with fail
    go_quiet ((go_at_call 53; exact quietC (digit_c _ _)))
    rw [hp]
    obtain ⟨wp, hwp⟩ : ∃ wp, wp = wq.drewN nq := ⟨_, rfl⟩
    have HP := Lib.hid (show ScAt wp b s k 0 by rw [hwp]; exact HQ.out)
    have HBp := Lib.hid (show Bt b w wp by rw [hwp]; exact HBq.out.drewN nq)
    rw [← hwp]
    clear hwp x0 x1
    have z1 := cellAt HP.out 1
    go_wp2_with fail
    refine (fail_s b s k 0 k 3 wp HP.out).mono ?_
    rintro r w1 ⟨rfl, h1, h2⟩
    go_wp2_with fail
    go_ret
    exact ⟨rfl, h1, HBp.out.trans h2⟩
  · obtain ⟨t1, t2, t3⟩ := tk_yes hlt hp
    rw [t1, t2, t3]
    have hw1 : IntKind.i64.wrap ((k : Int) + 1) = (k : Int) + 1 := IntWalk.i64_in _ (by omega)
    have hw2 : IntKind.i64.wrap ((k : Int) + 1 - 1) = (k : Int) := by rw [IntWalk.i64_in _ (by omega)]; omega
    go_enter Tryd.func49, Tryd.ntmps49
    go_wp2_with fail
    go_quiet (fail)
    obtain ⟨wq, hwq⟩ : ∃ wq, wq = w.drewN nq := ⟨_, rfl⟩
    have HQ := Lib.hid (show ScAt wq b s k 0 by rw [hwq]; exact H.out)
    have HBq := Lib.hid (show Bt b w wq by rw [hwq]; exact (Bt.refl b w).drewN nq)
    rw [← hwq]
    clear hwq y0 y1 y2 f1 x0 x1
    have x0 : ∀ q, (wq.drewN q).cell? ⟨b, 0, none⟩ = some (.string s) := fun q => cellAt HQ.out 0
    have x1 : ∀ q, (wq.drewN q).cell? ⟨b, 1, none⟩ = some (.int .i64 k) := fun q => cellAt HQ.out 1
    go_wp2_with fail
    go_quiet ((go_at_call 53; exact quietC (digit_c _ _)))
    rw [hp]
    obtain ⟨wp, hwp⟩ : ∃ wp, wp = wq.drewN nq := ⟨_, rfl⟩
    have HP := Lib.hid (show ScAt wp b s k 0 by rw [hwp]; exact HQ.out)
    have HBp := Lib.hid (show Bt b w wp by rw [hwp]; exact HBq.out.drewN nq)
    rw [← hwp]
    clear hwp x0 x1
    have z1 := cellAt HP.out 1
    have f1 := frozenAt HP.out 1
    go_wp2_with fail
    obtain ⟨w5, hw5⟩ : ∃ w5, w5 = wp.setCell ⟨b, 1, none⟩ (.int .i64 ((k : Int) + 1)) := ⟨_, rfl⟩
    have H5 := Lib.hid (show ScAt w5 b s ((k : Int) + 1) 0 by rw [hw5]; exact setCell_block HP.out)
    have HB5 := Lib.hid (show Bt b w w5 by rw [hw5]; exact HBp.out.trans (Bt.set _ _))
    rw [← hw5]
    clear hw5 z1 f1
    have v0 : ∀ q, (w5.drewN q).cell? ⟨b, 0, none⟩ = some (.string s) := fun q => cellAt H5.out 0
    have v1 : ∀ q, (w5.drewN q).cell? ⟨b, 1, none⟩ = some (.int .i64 ((k : Int) + 1)) := fun q => cellAt H5.out 1
    have i3 : (0 : Int) ≤ (k : Int) + 1 - 1 := by omega
    have i4 : (k : Int) + 1 - 1 < (s.size : Int) := by omega
    go_quiet (fail)
    go_wp2_with fail
    go_ret
    exact ⟨rfl, by push_cast; exact H5.out, HB5.out.drewN _⟩
end Go.Proofs.YtiijngjhhcjiaaaDoor
