/-
  Package mail: Bounce, the bounce itself.
-/
import Derived.Test.YtkiheanpamplpaaDoorMaiG
set_option linter.unusedSimpArgs false
set_option linter.unusedVariables false
set_option linter.unnecessarySimpa false
namespace Go.Proofs.YtkiheanpamplpaaDoor
open Go.RowKit Go.Bul
def bounceB (m : Ms) (code : Int) : ByteArray := m.tu ++ ⟨#[64]⟩ ++ m.ts ++ ⟨#[32]⟩ ++ ⟨(Lib.itoa code).toArray⟩ ++ ⟨#[10]⟩ ++ m.su ++ ⟨#[10]⟩
def bounceM (m : Ms) (name : ByteArray) (code now : Int) : Ms := ⟨⟨#[]⟩, name, m.fu, m.fs, m.nu, now, ⟨#[78, 111, 116, 32, 100, 101, 108, 105, 118, 101, 114, 101, 100]⟩, [], bounceB m code⟩
theorem keepS {w1 w' w2 : World} {b : Nat} {x y z : Option Value} (hb : b < w1.heap.size) (h : w'.cell? ⟨b, 2, none⟩ = x ∧ w'.cell? ⟨b, 3, none⟩ = y ∧ w'.cell? ⟨b, 6, none⟩ = z ∧ Below w1.heap.size w1 w') (h2 : Below w'.heap.size w' w2) :
    w2.cell? ⟨b, 2, none⟩ = x ∧ w2.cell? ⟨b, 3, none⟩ = y ∧ w2.cell? ⟨b, 6, none⟩ = z ∧ Below w1.heap.size w1 w2 := by
  have hs := h.2.2.2.size
  have hb2 : b < w'.heap.size := by omega
  exact ⟨(h2.cell (p := ⟨b, 2, none⟩) hb2).trans h.1, (h2.cell (p := ⟨b, 3, none⟩) hb2).trans h.2.1, (h2.cell (p := ⟨b, 6, none⟩) hb2).trans h.2.2.1, h.2.2.2.trans (h2.mono hs)⟩
theorem glS {w w1 w' : World} {A B C : Prop} (hg : Gl w) (hb : Below w.heap.size w w1) (h : A ∧ B ∧ C ∧ Below w1.heap.size w1 w') : Gl w' := hg.below (hb.trans (h.2.2.2.mono hb.size))
theorem last4 {A B C D : Prop} (h : A ∧ B ∧ C ∧ D) : D := h.2.2.2
theorem itoa_len (n : Int) (h0 : -9223372036854775808 ≤ n) (h1 : n ≤ 9223372036854775807) : (⟨(Lib.itoa n).toArray⟩ : ByteArray).size ≤ 100 := by
  rw [size_of (Lib.itoa n)]
  unfold Lib.itoa
  split
  · have := dec_len 20 n.natAbs (by omega); simp; omega
  · have := dec_len 20 n.toNat (by omega); omega
set_option maxRecDepth 100000 in
set_option maxHeartbeats 4000000 in
theorem bounce_c (m : Ms) (v : Value) (ok : m.Ok) (name : ByteArray) (hname : name.size ≤ maxLen) (code now : Int) (k0 : -9223372036854775808 ≤ code) (k1 : code ≤ 9223372036854775807) (w : World) (hg : Gl w) (h : m.fu.size ≠ 0) (hh : HopsIn w v m.ho)
    (hc : checkE m = 0) (hs : siteE name = 0) (hn : 0 ≤ now ∧ now ≤ 105190559) :
    Calls Tryd.prog 10 #[msgV m v, .string name, .int .i64 code, .int .i64 now] w fun e w' => e = .returned (.tuple #[msgV (bounceM m name code now) (.slice none 0 0), .bool true]) ∧ Below w.heap.size w w' := by
  have ze := empty_no h
  have HG := Lib.hid hg
  have HH := Lib.hid hh
  have OK := Lib.hid ok
  obtain ⟨a1, a2, a3, a4, a5, a6, a7, a8, _, _⟩ := check_zero hc
  have s1 := user_size a3
  have s2 := site_size a5
  have s3 := sub_size a8
  have s4 := itoa_len code k0 k1
  have HD := Lib.hid (digits_s code k0 k1)
  clear h hh ok a1 a2 a3 a4 a5 a6 a7 a8 hg k0 k1
  go_enter Tryd.func10, Tryd.ntmps10
  unfold msgV
  go_wp2_with fail
  refine (check_s m v OK.out _ (HH.out.below (two_allocs _ _ _))).mono ?_
  rintro e w1 ⟨rfl, b1⟩
  rw [hc]
  have HZ := Lib.hid (show w1.heap[w.heap.size + 1]? = some (.cells (msgCells noMs (.slice none 0 0)) 29 (0, 0)) from (b1.block (w.heap.size + 1) (by simp only [size_alloc]; omega)).trans (two_last w _ _))
  have HBw := Lib.hid ((two_allocs w _ _).trans (b1.mono (two_allocs _ _ _).size))
  have HMb := Lib.hid (show MsgAt w1 w.heap.size m v from ((MsgAt.new w m v 29).below ((Below.refl _ _).alloc (Nat.le_refl _) _) (by simp only [size_alloc]; omega)).below b1 (by simp only [size_alloc]; omega))
  have HS1 := Lib.hid (show w.heap.size + 2 ≤ w1.heap.size by have := b1.size; simp only [size_alloc] at this; omega)
  clear b1
  go_wp2_with fail
  refine (site_s name hname _).mono ?_
  rintro e w0 ⟨rfl, rfl⟩
  rw [hs]
  go_wp2_with fail
  refine (minute_s now _).mono ?_
  rintro e w0 ⟨rfl, rfl⟩
  rw [show decide (0 ≤ now ∧ now ≤ 105190559) = true by simp; exact hn]
  clear hn hs hc ze
  go_wp2_with fail
  obtain ⟨_, _, g2, g3, _, _, g6, _, _⟩ := HMb.out
  have HS2 := Lib.hid (show w.heap.size < w1.heap.size by have := HS1.out; omega)
  have one : ∀ c : UInt8, (⟨#[c]⟩ : ByteArray).size = 1 := fun _ => rfl
  have z0 : (m.tu ++ ⟨#[64]⟩ ++ m.ts).size ≤ 71 := by rw [ByteArray.size_append, ByteArray.size_append, one]; omega
  have z1 : (m.tu ++ ⟨#[64]⟩ ++ m.ts ++ ⟨#[32]⟩).size ≤ 72 := by rw [ByteArray.size_append, one]; omega
  have z2 : (m.tu ++ ⟨#[64]⟩ ++ m.ts ++ ⟨#[32]⟩ ++ ⟨(Lib.itoa code).toArray⟩).size ≤ 172 := by rw [ByteArray.size_append]; omega
  have z3 : (m.tu ++ ⟨#[64]⟩ ++ m.ts ++ ⟨#[32]⟩ ++ ⟨(Lib.itoa code).toArray⟩ ++ ⟨#[10]⟩).size ≤ 173 := by rw [ByteArray.size_append, one]; omega
  have z4 : (m.tu ++ ⟨#[64]⟩ ++ m.ts ++ ⟨#[32]⟩ ++ ⟨(Lib.itoa code).toArray⟩ ++ ⟨#[10]⟩ ++ m.su).size ≤ 373 := by rw [ByteArray.size_append]; omega
  have ka1 := fun (w : World) => run_string_add_sum (P := Tryd.prog) w (m.tu ++ ⟨#[64]⟩ ++ m.ts) (⟨#[32]⟩ : ByteArray) (by rw [one]; omega)
  have ka2 := fun (w : World) => run_string_add_sum (P := Tryd.prog) w (m.tu ++ ⟨#[64]⟩ ++ m.ts ++ ⟨#[32]⟩) (⟨(Lib.itoa code).toArray⟩ : ByteArray) (by omega)
  have ka3 := fun (w : World) => run_string_add_sum (P := Tryd.prog) w (m.tu ++ ⟨#[64]⟩ ++ m.ts ++ ⟨#[32]⟩ ++ ⟨(Lib.itoa code).toArray⟩) (⟨#[10]⟩ : ByteArray) (by rw [one]; omega)
  have ka4 := fun (w : World) => run_string_add_sum (P := Tryd.prog) w (m.tu ++ ⟨#[64]⟩ ++ m.ts ++ ⟨#[32]⟩ ++ ⟨(Lib.itoa code).toArray⟩ ++ ⟨#[10]⟩) m.su (by omega)
  have ka5 := fun (w : World) => run_string_add_sum (P := Tryd.prog) w (m.tu ++ ⟨#[64]⟩ ++ m.ts ++ ⟨#[32]⟩ ++ ⟨(Lib.itoa code).toArray⟩ ++ ⟨#[10]⟩ ++ m.su) (⟨#[10]⟩ : ByteArray) (by rw [one]; omega)
  clear one z0 z1 z2 z3 z4
  go_region_held3 (fun w' => w'.cell? ⟨w.heap.size, 2, none⟩ = some (.string m.tu) ∧ w'.cell? ⟨w.heap.size, 3, none⟩ = some (.string m.ts) ∧ w'.cell? ⟨w.heap.size, 6, none⟩ = some (.string m.su) ∧ Below w1.heap.size w1 w')
    (first
      | exact ⟨by assumption, by assumption, by assumption, (Below.refl _ _).drew⟩
      | exact keepS HS2.out (by assumption) hb9
      | exact keepS HS2.out ⟨by assumption, by assumption, by assumption, by assumption⟩ hb9
      | (refine ⟨?_, ?_, ?_, ?_⟩ <;> go_keep))
    ((first
      | (go_at_call 22; refine (string_s m.tu m.ts (by omega) (by omega) _).mono ?_; rintro e w2 ⟨rfl, hb9⟩)
      | (go_at_call 31; refine (HD.out _ (glS HG.out HBw.out (by assumption))).mono ?_; rintro e w2 ⟨rfl, hb9⟩)))
  have hb2 : Below w1.heap.size w1 w2 := last4 (by assumption)
  have hm2 := HMb.out.below hb2 HS2.out
  have hz2 := (hb2.block (w.heap.size + 1) (by have := HS1.out; omega)).trans HZ.out
  have HZ2 := Lib.hid hz2
  have HB2 := Lib.hid (HBw.out.trans (hb2.mono HBw.out.size))
  have f0 := frozen_of hz2 0
  have f1 := frozen_of hz2 1
  have f2 := frozen_of hz2 2
  have f3 := frozen_of hz2 3
  have f4 := frozen_of hz2 4
  have f5 := frozen_of hz2 5
  have f6 := frozen_of hz2 6
  have f7 := frozen_of hz2 7
  have f8 := frozen_of hz2 8
  obtain ⟨y0, y1, y2, y3, y4, y5, y6, y7, y8⟩ := MsgAt.of_block hz2
  obtain ⟨x0, x1, x2, x3, x4, x5, x6, x7, x8⟩ := hm2
  clear hz2 hb2 ka1 ka2 ka3 ka4 ka5
  go_wp2_with fail
  refine bodyPost_ret (results_cell2 rfl _ _ (w.heap.size + 1) _ _ _ _ rfl (set9_block HZ2.out _ _ _ _ _ _ _ _ _) Tryd.underlying29 rfl (by kernel_rfl)) rfl ⟨rfl, set9_below (B := w.heap.size) (b := w.heap.size + 1) HB2.out (by omega) _ _ _ _ _ _ _ _ _⟩
end Go.Proofs.YtkiheanpamplpaaDoor
