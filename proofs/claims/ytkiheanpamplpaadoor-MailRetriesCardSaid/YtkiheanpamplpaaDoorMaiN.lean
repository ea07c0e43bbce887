/-
  The reference of package mail: Bounce, the bounce itself.
-/
import Derived.Test.YtkiheanpamplpaaDoorMaiM
import Derived.Test.YtkiheanpamplpaaDoorRegQ
set_option linter.unusedSimpArgs false
set_option linter.unusedVariables false
set_option linter.unnecessarySimpa false
namespace Go.Proofs.YtkiheanpamplpaaDoor
open Go.RowKit Go.Bul
set_option maxRecDepth 100000 in
set_option maxHeartbeats 4000000 in
theorem refBounce_c (m : Ms) (v : Value) (ok : m.Ok) (name : ByteArray) (hname : name.size ≤ maxLen) (code now : Int) (k0 : -9223372036854775808 ≤ code) (k1 : code ≤ 9223372036854775807) (w : World) (hg : Gl w) (h : m.fu.size ≠ 0) (hh : HopsIn w v m.ho)
    (hc : checkE m = 0) (hs : siteE name = 0) (hn : 0 ≤ now ∧ now ≤ 105190559) :
    Calls Tryd.prog 11 #[msgV m v, .string name, .int .i64 code, .int .i64 now] w fun e w' => e = .returned (.tuple #[msgV (bounceM m name code now) (.slice none 0 0), .bool true]) ∧ Below w.heap.size w w' := by
  have ze := empty_no h
  have HG := Lib.hid hg
  have HH := Lib.hid hh
  have OK := Lib.hid ok
  obtain ⟨a1, a2, a3, a4, a5, a6, a7, a8, _, _⟩ := check_zero hc
  have s1 := user_size a3
  have s2 := site_size a5
  have s3 := sub_size a8
  have s4 := itoa_len code k0 k1
  have HD := Lib.hid (refDigits_s code k0 k1)
  clear h hh ok a1 a2 a3 a4 a5 a6 a7 a8 hg k0 k1
  go_enter Tryd.func11, Tryd.ntmps11
  unfold msgV
  go_wp2_with fail
  refine (refCheck_s m v OK.out _ (HH.out.below (two_allocs _ _ _))).mono ?_
  rintro e w1 ⟨rfl, b1⟩
  rw [hc]
  have HZ := Lib.hid (show w1.heap[w.heap.size + 1]? = some (.cells (msgCells noMs (.slice none 0 0)) 26 (0, 0)) from (b1.block (w.heap.size + 1) (by simp only [size_alloc]; omega)).trans (two_last w _ _))
  have HBw := Lib.hid ((two_allocs w _ _).trans (b1.mono (two_allocs _ _ _).size))
  have HMb := Lib.hid (show MsgAt w1 w.heap.size m v from ((MsgAt.new w m v 26).below ((Below.refl _ _).alloc (Nat.le_refl _) _) (by simp only [size_alloc]; omega)).below b1 (by simp only [size_alloc]; omega))
  have HS1 := Lib.hid (show w.heap.size + 2 ≤ w1.heap.size by have := b1.size; simp only [size_alloc] at this; omega)
  clear b1
  go_wp2_with fail
  refine (refSite_s name hname _).mono ?_
  rintro e w0 ⟨rfl, rfl⟩
  rw [hs]
  go_wp2_with fail
  refine (refMinute_s now _).mono ?_
  rintro e w0 ⟨rfl, rfl⟩
  rw [show decide (0 ≤ now ∧ now ≤ 105190559) = true by simp; exact hn]
  clear hn hs hc ze
  go_wp2_with fail
  have HS2 := Lib.hid (show w.heap.size < w1.heap.size by have := HS1.out; omega)
  have one : ∀ c : UInt8, (⟨#[c]⟩ : ByteArray).size = 1 := fun _ => rfl
  have z0 : (m.tu ++ ⟨#[64]⟩ ++ m.ts).size ≤ 71 := by rw [ByteArray.size_append, ByteArray.size_append, one]; omega
  have z1 : (m.tu ++ ⟨#[64]⟩ ++ m.ts ++ ⟨#[32]⟩).size ≤ 72 := by rw [ByteArray.size_append, one]; omega
  have z2 : (m.tu ++ ⟨#[64]⟩ ++ m.ts ++ ⟨#[32]⟩ ++ ⟨(Lib.itoa code).toArray⟩).size ≤ 172 := by rw [ByteArray.size_append]; omega
  have z3 : (m.tu ++ ⟨#[64]⟩ ++ m.ts ++ ⟨#[32]⟩ ++ ⟨(Lib.itoa code).toArray⟩ ++ ⟨#[10]⟩).size ≤ 173 := by rw [ByteArray.size_append, one]; omega
  have z4 : (m.tu ++ ⟨#[64]⟩ ++ m.ts ++ ⟨#[32]⟩ ++ ⟨(Lib.itoa code).toArray⟩ ++ ⟨#[10]⟩ ++ m.su).size ≤ 373 := by rw [ByteArray.size_append]; omega
  have ka1 := fun (w : World) => run_string_add_sum (P := Tryd.prog) w (m.tu ++ ⟨#[64]⟩ ++ m.ts) (⟨#[32]⟩ : ByteArray) (by rw [one]; omega)
  have ka2 := fun (w : World) => run_string_add_sum (P := Tryd.prog) w (m.tu ++ ⟨#[64]⟩ ++ m.ts ++ ⟨#[32]⟩) (⟨(Lib.itoa code).toArray⟩ : ByteArray) (by omega)
  have ka3 := fun (w : World) => run_string_add_sum (P := Tryd.prog) w (m.tu ++ ⟨#[64]⟩ ++ m.ts ++ ⟨#[32]⟩ ++ ⟨(Lib.itoa code).toArray⟩) (⟨#[10]⟩ : ByteArray) (by rw [one]; omega)
  have ka4 := fun (w : World) => run_string_add_sum (P := Tryd.prog) w (m.tu ++ ⟨#[64]⟩ ++ m.ts ++ ⟨#[32]⟩ ++ ⟨(Lib.itoa code).toArray⟩ ++ ⟨#[10]⟩) m.su (by omega)
  have ka5 := fun (w : World) => run_string_add_sum (P := Tryd.prog) w (m.tu ++ ⟨#[64]⟩ ++ m.ts ++ ⟨#[32]⟩ ++ ⟨(Lib.itoa code).toArray⟩ ++ ⟨#[10]⟩ ++ m.su) (⟨#[10]⟩ : ByteArray) (by rw [one]; omega)
  clear one z0 z1 z2 z3 z4
  have HXa : ∀ x : After w1.heap.size w1, MsgAt x.W w.heap.size m v := fun x => HMb.out.below x.below HS2.out
  have HGa : ∀ x : After w1.heap.size w1, Gl x.W := fun x => (HG.out.below HBw.out).below x.below
  have x0 : ∀ x : After w1.heap.size w1, x.W.cell? ⟨w.heap.size, 0, none⟩ = _ := fun x => (HXa x).1
  have x1 : ∀ x : After w1.heap.size w1, x.W.cell? ⟨w.heap.size, 1, none⟩ = _ := fun x => (HXa x).2.1
  have x2 : ∀ x : After w1.heap.size w1, x.W.cell? ⟨w.heap.size, 2, none⟩ = _ := fun x => (HXa x).2.2.1
  have x3 : ∀ x : After w1.heap.size w1, x.W.cell? ⟨w.heap.size, 3, none⟩ = _ := fun x => (HXa x).2.2.2.1
  have x4 : ∀ x : After w1.heap.size w1, x.W.cell? ⟨w.heap.size, 4, none⟩ = _ := fun x => (HXa x).2.2.2.2.1
  have x6 : ∀ x : After w1.heap.size w1, x.W.cell? ⟨w.heap.size, 6, none⟩ = _ := fun x => (HXa x).2.2.2.2.2.2.1
  have HXh := Lib.hid HXa
  have HGh := Lib.hid HGa
  clear HXa HGa
  refine wp_region_after_tail 20 (by kernel_rfl) (by kernel_rfl) ?_
  simp only [List.take_succ_cons, List.take_zero, List.drop_succ_cons, List.drop_zero]
  iterate 20 (first
    | go_big_quiet_step (first
        | (go_at_call 34; exact After.call _ (refText_s m.tu m.ts (by omega) (by omega) _))
        | (go_at_call 35; exact After.call _ (HD.out _))))
  refine wpQuiet_nil ?_
  rintro _ ⟨⟨w2, hb2⟩, rfl⟩
  clear x0 x1 x2 x3 x4 x6
  have hm2 := HMb.out.below hb2 HS2.out
  have hz2 := (hb2.block (w.heap.size + 1) (by have := HS1.out; omega)).trans HZ.out
  have HZ2 := Lib.hid hz2
  have HB2 := Lib.hid (HBw.out.trans (hb2.mono HBw.out.size))
  have f0 := frozen_of hz2 0
  have f1 := frozen_of hz2 1
  have f2 := frozen_of hz2 2
  have f3 := frozen_of hz2 3
  have f4 := frozen_of hz2 4
  have f5 := frozen_of hz2 5
  have f6 := frozen_of hz2 6
  have f7 := frozen_of hz2 7
  have f8 := frozen_of hz2 8
  obtain ⟨y0, y1, y2, y3, y4, y5, y6, y7, y8⟩ := MsgAt.of_block hz2
  obtain ⟨x0, x1, x2, x3, x4, x5, x6, x7, x8⟩ := hm2
  clear hz2 hb2 ka1 ka2 ka3 ka4 ka5
  go_wp2_with fail
  refine bodyPost_ret (results_cell2 rfl _ _ (w.heap.size + 1) _ _ _ _ rfl (set9_block HZ2.out _ _ _ _ _ _ _ _ _) Tryd.underlying26 rfl (by kernel_rfl)) rfl ⟨rfl, set9_below (B := w.heap.size) (b := w.heap.size + 1) HB2.out (by omega) _ _ _ _ _ _ _ _ _⟩
end Go.Proofs.YtkiheanpamplpaaDoor
