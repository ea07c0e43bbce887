/-
  Package date: the scan of a text: take and peek, at each property.
-/
import Derived.Test.YtiijngjhhcjiaaaDoorDatJ
set_option linter.unusedSimpArgs false
set_option linter.unusedVariables false
set_option linter.unnecessarySimpa false
namespace Go.Proofs.YtiijngjhhcjiaaaDoor
open Go.RowKit Go.Bul
def jusB (c0 c : UInt8) : Bool := (c.toNat : Int) == (c0.toNat : Int)
/-- the value of just(c0), its variable in block B -/
def jusV (B : Nat) : Value := .func (.func 65) #[] #[.pointer (some ⟨B, 0, none⟩)]
set_option maxRecDepth 100000 in
theorem just_c (c c0 : UInt8) (B : Nat) (w : World) (h : w.cell? ⟨B, 0, none⟩ = some (B8 c0)) : Calls Tryd.prog 65 #[B8 c, .pointer (some ⟨B, 0, none⟩)] w fun e w' => e = .returned (.bool (jusB c0 c)) ∧ w = w' := by
  unfold B8 at h ⊢
  go_enter Tryd.func65, Tryd.ntmps65
  go_wp2_with fail
  go_ret
  exact ⟨rfl, rfl⟩
set_option maxRecDepth 100000 in
theorem just_s (c0 : UInt8) (w : World) : Calls Tryd.prog 50 #[B8 c0] w fun e w' => e = .returned (jusV w.heap.size) ∧ w.alloc (.cells #[B8 c0] 5) = w' := by
  have hmf : ∀ (fn : Fn) (first cap : Array Value) (w : World), (Instr.makeFunc fn first cap).run Tryd.prog w = .ok (.func fn first cap) w := fun _ _ _ _ => rfl
  unfold B8
  go_enter Tryd.func50, Tryd.ntmps50
  go_wp2_with fail
  go_ret
  exact ⟨rfl, rfl⟩
def pkB (s : ByteArray) (p : UInt8 → Bool) (k : Nat) (e : Int) : Bool := if e ≠ 0 then false else if h : k < s.size then p s[k] else false
theorem pk_err {s : ByteArray} {p : UInt8 → Bool} {k : Nat} {e : Int} (h : e ≠ 0) : pkB s p k e = false := by unfold pkB; simp [h]
theorem pk_end {s : ByteArray} {p : UInt8 → Bool} {k : Nat} (h : ¬ k < s.size) : pkB s p k 0 = false := by unfold pkB; simp [h]
theorem pk_in {s : ByteArray} {p : UInt8 → Bool} {k : Nat} (h : k < s.size) : pkB s p k 0 = p s[k] := by unfold pkB; simp [h]
set_option maxRecDepth 100000 in
set_option maxHeartbeats 4000000 in
theorem take_blank (b : Nat) (s : ByteArray) (k : Nat) (e : Int) (hs : s.size ≤ 1000000) (hk : k ≤ s.size) (w : World) (h : ScAt w b s k e) :
    Calls Tryd.prog 49 #[.pointer (some ⟨b, 0, none⟩), .func (.func 66) #[] #[]] w fun r w' => r = .returned (B8 (tkC s blkB k e)) ∧ ScAt w' b s (tkA s blkB k e : Nat) (tkE s blkB k e) ∧ Bt b w w' := by
  have H := Lib.hid h
  have y0 := cellAt h 0
  have y1 := cellAt h 1
  have y2 := cellAt h 2
  have f1 := frozenAt h 1
  clear h
  by_cases h0 : e = 0
  case neg =>
    have hq : (e == 0) = false := by rw [beq_eq_false_iff_ne]; exact h0
    obtain ⟨t1, t2, t3⟩ := tk_err (s := s) (p := blkB) (k := k) h0
    rw [t1, t2, t3]
    go_enter Tryd.func49, Tryd.ntmps49
    go_wp2_with fail
    go_ret
    exact ⟨rfl, H.out, Bt.refl _ _⟩
  subst h0
  have x0 : ∀ q, (w.drewN q).cell? ⟨b, 0, none⟩ = some (.string s) := fun q => y0
  have x1 : ∀ q, (w.drewN q).cell? ⟨b, 1, none⟩ = some (.int .i64 k) := fun q => y1
  by_cases hlt : k < s.size
  case neg =>
    obtain ⟨t1, t2, t3⟩ := tk_end (s := s) (p := blkB) hlt
    rw [t1, t2, t3]
    have hq : ((k : Int) == (s.size : Int)) = true := by rw [beq_iff_eq]; omega
    go_enter Tryd.func49, Tryd.ntmps49
    go_wp2_with fail
    go_quiet (fail)
    obtain ⟨wq, hwq⟩ : ∃ wq, wq = w.drewN nq := ⟨_, rfl⟩
    have HQ := Lib.hid (show ScAt wq b s k 0 by rw [hwq]; exact H.out)
    have HBq := Lib.hid (show Bt b w wq by rw [hwq]; exact (Bt.refl b w).drewN nq)
    rw [← hwq]
    clear hwq y0 y1 y2 f1 x0 x1
    have z1 := cellAt HQ.out 1
    go_wp2_with fail
    refine (fail_s b s k 0 k 4 wq HQ.out).mono ?_
    rintro r w1 ⟨rfl, h1, h2⟩
    go_wp2_with fail
    go_ret
    exact ⟨rfl, h1, HBq.out.trans h2⟩
  have hq : ((k : Int) == (s.size : Int)) = false := by rw [beq_eq_false_iff_ne]; omega
  have i1 : (0 : Int) ≤ (k : Int) := by omega
  have i2 : (k : Int) < (s.size : Int) := by omega
  cases hp : blkB s[k]
  · obtain ⟨t1, t2, t3⟩ := tk_no hlt hp
    rw [t1, t2, t3]
    go_enter Tryd.func49, Tryd.ntmps49
    go_wp2_with fail
    go_quiet (fail)
    obtain ⟨wq, hwq⟩ : ∃ wq, wq = w.drewN nq := ⟨_, rfl⟩
    have HQ := Lib.hid (show ScAt wq b s k 0 by rw [hwq]; exact H.out)
    have HBq := Lib.hid (show Bt b w wq by rw [hwq]; exact (Bt.refl b w).drewN nq)
    rw [← hwq]
    clear hwq y0 y1 y2 f1 x0 x1
    have x0 : ∀ q, (wq.drewN q).cell? ⟨b, 0, none⟩ = some (.string s) := fun q => cellAt HQ.out 0
    have x1 : ∀ q, (wq.drewN q).cell? ⟨b, 1, none⟩ = some (.int .i64 k) := fun q => cellAt HQ.out 1
    go_wp2_with fail
    go_quiet ((go_at_call 66; exact quietC (blank_c _ _)))
    rw [hp]
    obtain ⟨wp, hwp⟩ : ∃ wp, wp = wq.drewN nq := ⟨_, rfl⟩
    have HP := Lib.hid (show ScAt wp b s k 0 by rw [hwp]; exact HQ.out)
    have HBp := Lib.hid (show Bt b w wp by rw [hwp]; exact HBq.out.drewN nq)
    rw [← hwp]
    clear hwp x0 x1
    have z1 := cellAt HP.out 1
    go_wp2_with fail
    refine (fail_s b s k 0 k 3 wp HP.out).mono ?_
    rintro r w1 ⟨rfl, h1, h2⟩
    go_wp2_with fail
    go_ret
    exact ⟨rfl, h1, HBp.out.trans h2⟩
  · obtain ⟨t1, t2, t3⟩ := tk_yes hlt hp
    rw [t1, t2, t3]
    have hw1 : IntKind.i64.wrap ((k : Int) + 1) = (k : Int) + 1 := IntWalk.i64_in _ (by omega)
    have hw2 : IntKind.i64.wrap ((k : Int) + 1 - 1) = (k : Int) := by rw [IntWalk.i64_in _ (by omega)]; omega
    go_enter Tryd.func49, Tryd.ntmps49
    go_wp2_with fail
    go_quiet (fail)
    obtain ⟨wq, hwq⟩ : ∃ wq, wq = w.drewN nq := ⟨_, rfl⟩
    have HQ := Lib.hid (show ScAt wq b s k 0 by rw [hwq]; exact H.out)
    have HBq := Lib.hid (show Bt b w wq by rw [hwq]; exact (Bt.refl b w).drewN nq)
    rw [← hwq]
    clear hwq y0 y1 y2 f1 x0 x1
    have x0 : ∀ q, (wq.drewN q).cell? ⟨b, 0, none⟩ = some (.string s) := fun q => cellAt HQ.out 0
    have x1 : ∀ q, (wq.drewN q).cell? ⟨b, 1, none⟩ = some (.int .i64 k) := fun q => cellAt HQ.out 1
    go_wp2_with fail
    go_quiet ((go_at_call 66; exact quietC (blank_c _ _)))
    rw [hp]
    obtain ⟨wp, hwp⟩ : ∃ wp, wp = wq.drewN nq := ⟨_, rfl⟩
    have HP := Lib.hid (show ScAt wp b s k 0 by rw [hwp]; exact HQ.out)
    have HBp := Lib.hid (show Bt b w wp by rw [hwp]; exact HBq.out.drewN nq)
    rw [← hwp]
    clear hwp x0 x1
    have z1 := cellAt HP.out 1
    have f1 := frozenAt HP.out 1
    go_wp2_with fail
    obtain ⟨w5, hw5⟩ : ∃ w5, w5 = wp.setCell ⟨b, 1, none⟩ (.int .i64 ((k : Int) + 1)) := ⟨_, rfl⟩
    have H5 := Lib.hid (show ScAt w5 b s ((k : Int) + 1) 0 by rw [hw5]; exact setCell_block HP.out)
    have HB5 := Lib.hid (show Bt b w w5 by rw [hw5]; exact HBp.out.trans (Bt.set _ _))
    rw [← hw5]
    clear hw5 z1 f1
    have v0 : ∀ q, (w5.drewN q).cell? ⟨b, 0, none⟩ = some (.string s) := fun q => cellAt H5.out 0
    have v1 : ∀ q, (w5.drewN q).cell? ⟨b, 1, none⟩ = some (.int .i64 ((k : Int) + 1)) := fun q => cellAt H5.out 1
    have i3 : (0 : Int) ≤ (k : Int) + 1 - 1 := by omega
    have i4 : (k : Int) + 1 - 1 < (s.size : Int) := by omega
    go_quiet (fail)
    go_wp2_with fail
    go_ret
    exact ⟨rfl, by push_cast; exact H5.out, HB5.out.drewN _⟩
set_option maxRecDepth 100000 in
set_option maxHeartbeats 4000000 in
theorem take_just (b : Nat) (s : ByteArray) (k : Nat) (e : Int) (hs : s.size ≤ 1000000) (hk : k ≤ s.size) (w : World) (h : ScAt w b s k e) (B : Nat) (c0 : UInt8) (hB : w.cell? ⟨B, 0, none⟩ = some (B8 c0)) :
    Calls Tryd.prog 49 #[.pointer (some ⟨b, 0, none⟩), jusV B] w fun r w' => r = .returned (B8 (tkC s (jusB c0) k e)) ∧ ScAt w' b s (tkA s (jusB c0) k e : Nat) (tkE s (jusB c0) k e) ∧ Bt b w w' := by
  unfold jusV
  have H := Lib.hid h
  have y0 := cellAt h 0
  have y1 := cellAt h 1
  have y2 := cellAt h 2
  have f1 := frozenAt h 1
  clear h
  by_cases h0 : e = 0
  case neg =>
    have hq : (e == 0) = false := by rw [beq_eq_false_iff_ne]; exact h0
    obtain ⟨t1, t2, t3⟩ := tk_err (s := s) (p := (jusB c0)) (k := k) h0
    rw [t1, t2, t3]
    go_enter Tryd.func49, Tryd.ntmps49
    go_wp2_with fail
    go_ret
    exact ⟨rfl, H.out, Bt.refl _ _⟩
  subst h0
  have x0 : ∀ q, (w.drewN q).cell? ⟨b, 0, none⟩ = some (.string s) := fun q => y0
  have x1 : ∀ q, (w.drewN q).cell? ⟨b, 1, none⟩ = some (.int .i64 k) := fun q => y1
  by_cases hlt : k < s.size
  case neg =>
    obtain ⟨t1, t2, t3⟩ := tk_end (s := s) (p := (jusB c0)) hlt
    rw [t1, t2, t3]
    have hq : ((k : Int) == (s.size : Int)) = true := by rw [beq_iff_eq]; omega
    go_enter Tryd.func49, Tryd.ntmps49
    go_wp2_with fail
    go_quiet (fail)
    obtain ⟨wq, hwq⟩ : ∃ wq, wq = w.drewN nq := ⟨_, rfl⟩
    have HQ := Lib.hid (show ScAt wq b s k 0 by rw [hwq]; exact H.out)
    have HBq := Lib.hid (show Bt b w wq by rw [hwq]; exact (Bt.refl b w).drewN nq)
    rw [← hwq]
    clear hwq y0 y1 y2 f1 x0 x1
    have z1 := cellAt HQ.out 1
    go_wp2_with fail
    refine (fail_s b s k 0 k 4 wq HQ.out).mono ?_
    rintro r w1 ⟨rfl, h1, h2⟩
    go_wp2_with fail
    go_ret
    exact ⟨rfl, h1, HBq.out.trans h2⟩
  have hq : ((k : Int) == (s.size : Int)) = false := by rw [beq_eq_false_iff_ne]; omega
  have i1 : (0 : Int) ≤ (k : Int) := by omega
  have i2 : (k : Int) < (s.size : Int) := by omega
  cases hp : (jusB c0) s[k]
  · obtain ⟨t1, t2, t3⟩ := tk_no hlt hp
    rw [t1, t2, t3]
    go_enter Tryd.func49, Tryd.ntmps49
    go_wp2_with fail
    go_quiet (fail)
    obtain ⟨wq, hwq⟩ : ∃ wq, wq = w.drewN nq := ⟨_, rfl⟩
    have HQ := Lib.hid (show ScAt wq b s k 0 by rw [hwq]; exact H.out)
    have HBq := Lib.hid (show Bt b w wq by rw [hwq]; exact (Bt.refl b w).drewN nq)
    have HBB := Lib.hid (show ∀ q, (wq.drewN q).cell? ⟨B, 0, none⟩ = some (B8 c0) by rw [hwq]; exact fun q => hB)
    rw [← hwq]
    clear hwq y0 y1 y2 f1 x0 x1
    have x0 : ∀ q, (wq.drewN q).cell? ⟨b, 0, none⟩ = some (.string s) := fun q => cellAt HQ.out 0
    have x1 : ∀ q, (wq.drewN q).cell? ⟨b, 1, none⟩ = some (.int .i64 k) := fun q => cellAt HQ.out 1
    go_wp2_with fail
    go_quiet ((go_at_call 65; exact quietC (just_c _ c0 B _ (HBB.out _))))
    rw [hp]
    obtain ⟨wp, hwp⟩ : ∃ wp, wp = wq.drewN nq := ⟨_, rfl⟩
    have HP := Lib.hid (show ScAt wp b s k 0 by rw [hwp]; exact HQ.out)
    have HBp := Lib.hid (show Bt b w wp by rw [hwp]; exact HBq.out.drewN nq)
    rw [← hwp]
    clear hwp x0 x1
    have z1 := cellAt HP.out 1
    go_wp2_with fail
    refine (fail_s b s k 0 k 3 wp HP.out).mono ?_
    rintro r w1 ⟨rfl, h1, h2⟩
    go_wp2_with fail
    go_ret
    exact ⟨rfl, h1, HBp.out.trans h2⟩
  · obtain ⟨t1, t2, t3⟩ := tk_yes hlt hp
    rw [t1, t2, t3]
    have hw1 : IntKind.i64.wrap ((k : Int) + 1) = (k : Int) + 1 := IntWalk.i64_in _ (by omega)
    have hw2 : IntKind.i64.wrap ((k : Int) + 1 - 1) = (k : Int) := by rw [IntWalk.i64_in _ (by omega)]; omega
    go_enter Tryd.func49, Tryd.ntmps49
    go_wp2_with fail
    go_quiet (fail)
    obtain ⟨wq, hwq⟩ : ∃ wq, wq = w.drewN nq := ⟨_, rfl⟩
    have HQ := Lib.hid (show ScAt wq b s k 0 by rw [hwq]; exact H.out)
    have HBq := Lib.hid (show Bt b w wq by rw [hwq]; exact (Bt.refl b w).drewN nq)
    have HBB := Lib.hid (show ∀ q, (wq.drewN q).cell? ⟨B, 0, none⟩ = some (B8 c0) by rw [hwq]; exact fun q => hB)
    rw [← hwq]
    clear hwq y0 y1 y2 f1 x0 x1
    have x0 : ∀ q, (wq.drewN q).cell? ⟨b, 0, none⟩ = some (.string s) := fun q => cellAt HQ.out 0
    have x1 : ∀ q, (wq.drewN q).cell? ⟨b, 1, none⟩ = some (.int .i64 k) := fun q => cellAt HQ.out 1
    go_wp2_with fail
    go_quiet ((go_at_call 65; exact quietC (just_c _ c0 B _ (HBB.out _))))
    rw [hp]
    obtain ⟨wp, hwp⟩ : ∃ wp, wp = wq.drewN nq := ⟨_, rfl⟩
    have HP := Lib.hid (show ScAt wp b s k 0 by rw [hwp]; exact HQ.out)
    have HBp := Lib.hid (show Bt b w wp by rw [hwp]; exact HBq.out.drewN nq)
    rw [← hwp]
    clear hwp x0 x1
    have z1 := cellAt HP.out 1
    have f1 := frozenAt HP.out 1
    go_wp2_with fail
    obtain ⟨w5, hw5⟩ : ∃ w5, w5 = wp.setCell ⟨b, 1, none⟩ (.int .i64 ((k : Int) + 1)) := ⟨_, rfl⟩
    have H5 := Lib.hid (show ScAt w5 b s ((k : Int) + 1) 0 by rw [hw5]; exact setCell_block HP.out)
    have HB5 := Lib.hid (show Bt b w w5 by rw [hw5]; exact HBp.out.trans (Bt.set _ _))
    rw [← hw5]
    clear hw5 z1 f1
    have v0 : ∀ q, (w5.drewN q).cell? ⟨b, 0, none⟩ = some (.string s) := fun q => cellAt H5.out 0
    have v1 : ∀ q, (w5.drewN q).cell? ⟨b, 1, none⟩ = some (.int .i64 ((k : Int) + 1)) := fun q => cellAt H5.out 1
    have i3 : (0 : Int) ≤ (k : Int) + 1 - 1 := by omega
    have i4 : (k : Int) + 1 - 1 < (s.size : Int) := by omega
    go_quiet (fail)
    go_wp2_with fail
    go_ret
    exact ⟨rfl, by push_cast; exact H5.out, HB5.out.drewN _⟩
set_option maxRecDepth 100000 in
set_option maxHeartbeats 4000000 in
theorem peek_digit (b : Nat) (s : ByteArray) (k : Nat) (e : Int) (w : World) (h : ScAt w b s k e) :
    Calls Tryd.prog 46 #[.pointer (some ⟨b, 0, none⟩), .func (.func 53) #[] #[]] w fun r w' => r = .returned (.bool (pkB s digB k e)) ∧ ∃ n, w' = w.drewN n := by
  have x0 : ∀ q, (w.drewN q).cell? ⟨b, 0, none⟩ = some (.string s) := fun q => cellAt h 0
  have x1 : ∀ q, (w.drewN q).cell? ⟨b, 1, none⟩ = some (.int .i64 k) := fun q => cellAt h 1
  have x2 : ∀ q, (w.drewN q).cell? ⟨b, 2, none⟩ = some (.int .i64 e) := fun q => cellAt h 2
  clear h
  by_cases h0 : e = 0
  case neg =>
    have hq : (e == 0) = false := by rw [beq_eq_false_iff_ne]; exact h0
    rw [pk_err h0]
    go_enter Tryd.func46, Tryd.ntmps46
    go_wp2_with fail
    go_quiet (fail)
    go_wp2_with fail
    go_ret
    exact ⟨rfl, _, rfl⟩
  subst h0
  by_cases hlt : k < s.size
  case neg =>
    rw [pk_end hlt]
    have i2 : decide ((k : Int) < (s.size : Int)) = false := decide_eq_false (by omega)
    have i3 : decide (k < s.size) = false := decide_eq_false hlt
    go_enter Tryd.func46, Tryd.ntmps46
    go_wp2_with fail
    go_quiet (fail)
    go_wp2_with fail
    go_ret
    exact ⟨rfl, _, rfl⟩
  rw [pk_in hlt]
  have i1 : (0 : Int) ≤ (k : Int) := by omega
  have i2 : decide ((k : Int) < (s.size : Int)) = true := decide_eq_true (by omega)
  have i3 : decide (k < s.size) = true := decide_eq_true hlt
  have i4 : (k : Int) < (s.size : Int) := by omega
  go_enter Tryd.func46, Tryd.ntmps46
  go_wp2_with fail
  go_quiet ((go_at_call 53; exact quietC (digit_c _ _)))
  go_wp2_with fail
  go_ret
  exact ⟨rfl, _, rfl⟩
set_option maxRecDepth 100000 in
set_option maxHeartbeats 4000000 in
theorem peek_blank (b : Nat) (s : ByteArray) (k : Nat) (e : Int) (w : World) (h : ScAt w b s k e) :
    Calls Tryd.prog 46 #[.pointer (some ⟨b, 0, none⟩), .func (.func 66) #[] #[]] w fun r w' => r = .returned (.bool (pkB s blkB k e)) ∧ ∃ n, w' = w.drewN n := by
  have x0 : ∀ q, (w.drewN q).cell? ⟨b, 0, none⟩ = some (.string s) := fun q => cellAt h 0
  have x1 : ∀ q, (w.drewN q).cell? ⟨b, 1, none⟩ = some (.int .i64 k) := fun q => cellAt h 1
  have x2 : ∀ q, (w.drewN q).cell? ⟨b, 2, none⟩ = some (.int .i64 e) := fun q => cellAt h 2
  clear h
  by_cases h0 : e = 0
  case neg =>
    have hq : (e == 0) = false := by rw [beq_eq_false_iff_ne]; exact h0
    rw [pk_err h0]
    go_enter Tryd.func46, Tryd.ntmps46
    go_wp2_with fail
    go_quiet (fail)
    go_wp2_with fail
    go_ret
    exact ⟨rfl, _, rfl⟩
  subst h0
  by_cases hlt : k < s.size
  case neg =>
    rw [pk_end hlt]
    have i2 : decide ((k : Int) < (s.size : Int)) = false := decide_eq_false (by omega)
    have i3 : decide (k < s.size) = false := decide_eq_false hlt
    go_enter Tryd.func46, Tryd.ntmps46
    go_wp2_with fail
    go_quiet (fail)
    go_wp2_with fail
    go_ret
    exact ⟨rfl, _, rfl⟩
  rw [pk_in hlt]
  have i1 : (0 : Int) ≤ (k : Int) := by omega
  have i2 : decide ((k : Int) < (s.size : Int)) = true := decide_eq_true (by omega)
  have i3 : decide (k < s.size) = true := decide_eq_true hlt
  have i4 : (k : Int) < (s.size : Int) := by omega
  go_enter Tryd.func46, Tryd.ntmps46
  go_wp2_with fail
  go_quiet ((go_at_call 66; exact quietC (blank_c _ _)))
  go_wp2_with fail
  go_ret
  exact ⟨rfl, _, rfl⟩
set_option maxRecDepth 100000 in
set_option maxHeartbeats 4000000 in
theorem peek_letter (b : Nat) (s : ByteArray) (k : Nat) (e : Int) (w : World) (h : ScAt w b s k e) :
    Calls Tryd.prog 46 #[.pointer (some ⟨b, 0, none⟩), .func (.func 47) #[] #[]] w fun r w' => r = .returned (.bool (pkB s letB k e)) ∧ ∃ n, w' = w.drewN n := by
  have x0 : ∀ q, (w.drewN q).cell? ⟨b, 0, none⟩ = some (.string s) := fun q => cellAt h 0
  have x1 : ∀ q, (w.drewN q).cell? ⟨b, 1, none⟩ = some (.int .i64 k) := fun q => cellAt h 1
  have x2 : ∀ q, (w.drewN q).cell? ⟨b, 2, none⟩ = some (.int .i64 e) := fun q => cellAt h 2
  clear h
  by_cases h0 : e = 0
  case neg =>
    have hq : (e == 0) = false := by rw [beq_eq_false_iff_ne]; exact h0
    rw [pk_err h0]
    go_enter Tryd.func46, Tryd.ntmps46
    go_wp2_with fail
    go_quiet (fail)
    go_wp2_with fail
    go_ret
    exact ⟨rfl, _, rfl⟩
  subst h0
  by_cases hlt : k < s.size
  case neg =>
    rw [pk_end hlt]
    have i2 : decide ((k : Int) < (s.size : Int)) = false := decide_eq_false (by omega)
    have i3 : decide (k < s.size) = false := decide_eq_false hlt
    go_enter Tryd.func46, Tryd.ntmps46
    go_wp2_with fail
    go_quiet (fail)
    go_wp2_with fail
    go_ret
    exact ⟨rfl, _, rfl⟩
  rw [pk_in hlt]
  have i1 : (0 : Int) ≤ (k : Int) := by omega
  have i2 : decide ((k : Int) < (s.size : Int)) = true := decide_eq_true (by omega)
  have i3 : decide (k < s.size) = true := decide_eq_true hlt
  have i4 : (k : Int) < (s.size : Int) := by omega
  go_enter Tryd.func46, Tryd.ntmps46
  go_wp2_with fail
  go_quiet ((go_at_call 47; exact quietC (letter_c _ _)))
  go_wp2_with fail
  go_ret
  exact ⟨rfl, _, rfl⟩
set_option maxRecDepth 100000 in
set_option maxHeartbeats 4000000 in
theorem peek_just (b : Nat) (s : ByteArray) (k : Nat) (e : Int) (w : World) (h : ScAt w b s k e) (B : Nat) (c0 : UInt8) (hB : w.cell? ⟨B, 0, none⟩ = some (B8 c0)) :
    Calls Tryd.prog 46 #[.pointer (some ⟨b, 0, none⟩), jusV B] w fun r w' => r = .returned (.bool (pkB s (jusB c0) k e)) ∧ ∃ n, w' = w.drewN n := by
  unfold jusV
  have x0 : ∀ q, (w.drewN q).cell? ⟨b, 0, none⟩ = some (.string s) := fun q => cellAt h 0
  have x1 : ∀ q, (w.drewN q).cell? ⟨b, 1, none⟩ = some (.int .i64 k) := fun q => cellAt h 1
  have x2 : ∀ q, (w.drewN q).cell? ⟨b, 2, none⟩ = some (.int .i64 e) := fun q => cellAt h 2
  have HBB := Lib.hid (show ∀ q, (w.drewN q).cell? ⟨B, 0, none⟩ = some (B8 c0) from fun q => hB)
  clear h
  by_cases h0 : e = 0
  case neg =>
    have hq : (e == 0) = false := by rw [beq_eq_false_iff_ne]; exact h0
    rw [pk_err h0]
    go_enter Tryd.func46, Tryd.ntmps46
    go_wp2_with fail
    go_quiet (fail)
    go_wp2_with fail
    go_ret
    exact ⟨rfl, _, rfl⟩
  subst h0
  by_cases hlt : k < s.size
  case neg =>
    rw [pk_end hlt]
    have i2 : decide ((k : Int) < (s.size : Int)) = false := decide_eq_false (by omega)
    have i3 : decide (k < s.size) = false := decide_eq_false hlt
    go_enter Tryd.func46, Tryd.ntmps46
    go_wp2_with fail
    go_quiet (fail)
    go_wp2_with fail
    go_ret
    exact ⟨rfl, _, rfl⟩
  rw [pk_in hlt]
  have i1 : (0 : Int) ≤ (k : Int) := by omega
  have i2 : decide ((k : Int) < (s.size : Int)) = true := decide_eq_true (by omega)
  have i3 : decide (k < s.size) = true := decide_eq_true hlt
  have i4 : (k : Int) < (s.size : Int) := by omega
  go_enter Tryd.func46, Tryd.ntmps46
  go_wp2_with fail
  go_quiet ((go_at_call 65; exact quietC (just_c _ c0 B _ (HBB.out _))))
  go_wp2_with fail
  go_ret
  exact ⟨rfl, _, rfl⟩
end Go.Proofs.YtiijngjhhcjiaaaDoor
