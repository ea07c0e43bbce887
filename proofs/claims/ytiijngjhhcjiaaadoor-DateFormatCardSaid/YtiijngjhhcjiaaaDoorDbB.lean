/-
  Package date and its reference: the texts of numbers and days.
-/
import Derived.Test.YtiijngjhhcjiaaaDoorDatX
import Derived.Test.YtiijngjhhcjiaaaDoorFct
set_option linter.unusedSimpArgs false
set_option linter.unusedVariables false
set_option linter.unnecessarySimpa false
namespace Go.Proofs.YtiijngjhhcjiaaaDoor
open Go.RowKit Go.Bul
def digL : Nat → Nat → List UInt8
  | 0, _ => []
  | k + 1, n => digL k (n / 10) ++ [dgC (n % 10)]
theorem digL_len : ∀ k n, (digL k n).length = k
  | 0, _ => rfl
  | k + 1, n => by rw [digL, List.length_append, digL_len k]; rfl
theorem digL2 {n : Nat} (h : n < 100) : digL 2 n = dg2 n := by
  simp [digL, dg2]
  rw [Nat.mod_eq_of_lt (by omega)]
theorem digL4 {n : Nat} (h : n < 10000) : digL 4 n = dg4 n := by
  simp only [digL, dg4, List.nil_append, List.cons_append]
  rw [show n / 10 / 10 / 10 % 10 = n / 1000 by omega, show n / 10 / 10 % 10 = n / 100 % 10 by omega]
theorem sb_append (a b : List UInt8) : (⟨a.toArray⟩ : ByteArray) ++ ⟨b.toArray⟩ = ⟨(a ++ b).toArray⟩ := by
  apply ByteArray.ext
  rw [ByteArray.data_append]
  simp
theorem dgC_byte {n : Nat} (h : n < 10) : (48 + (n : Int)) = ((dgC n).toNat : Int) := by
  unfold dgC; rw [UInt8.toNat_ofNat']; omega
theorem conv04_one (c : UInt8) (n : Int) (hn : n = (c.toNat : Int)) (w : World) (b : Nat) (h : w.cell? ⟨b, 0, none⟩ = some (.int .u8 n)) :
    (convert 67 9 (.slice (some ⟨b, 0, none⟩) 1 1)).run Tryd.prog w = .ok (.string ⟨#[c]⟩) w :=
  run_convert_bytes_back (P := Tryd.prog) w 67 9 5 ⟨b, 0, none⟩ 1 [c] Tryd.underlying67 Tryd.underlying5 Tryd.underlying9
    (fun j hj => by
      obtain rfl : j = 0 := by simpa using hj
      show w.cell? ⟨b, 0, none⟩ = _
      rw [h, hn]; rfl)
set_option maxRecDepth 100000 in
set_option maxHeartbeats 4000000 in
theorem refDigits04_s (n k : Nat) (hk : k ≤ 4) (hn : n ≤ 1000000) (w : World) : Calls Tryd.prog 32 #[.int .i64 n, .int .i64 k] w fun e w' => e = .returned (Sb (digL k n)) ∧ Below w.heap.size w w' := by
  obtain ⟨R, hR⟩ : ∃ R, digL k n = R := ⟨_, rfl⟩
  rw [hR]
  have HR := Lib.hid hR
  clear hR
  go_enter Tryd.func32, Tryd.ntmps32
  go_wp2_with fail
  go_loopw [0, 5, 6] (fun nv sv i wr => ∃ (j m : Nat) (l : List UInt8), j ≤ k ∧ m ≤ 1000000 ∧ i = .int .i64 j ∧ nv = .int .i64 m ∧ sv = Sb l ∧ l.length = j ∧ digL (k - j) m ++ l = R ∧ Below w.heap.size w wr) (fun _ _ i _ => k - (intOf i).toNat)
  case atStart => exact ⟨0, n, [], Nat.zero_le _, hn, rfl, rfl, rfl, rfl, by rw [Nat.sub_zero, List.append_nil]; exact HR.out, Below.refl _ _⟩
  case round =>
    obtain ⟨j, m, l, hj, hm, rfl, rfl, rfl, hl, hd, hb⟩ := hrel
    have HB := Lib.hid hb
    have HD := Lib.hid hd
    have HL := Lib.hid hl
    clear hb hd hl
    by_cases hlt : j < k
    · have i1 : (j : Int) < (k : Int) := by omega
      have kc := conv04_one (dgC (m % 10)) (48 + (m : Int) % 10) (by have := dgC_byte (n := m % 10) (by omega); omega) (wr.alloc (.cells #[.int .u8 (48 + (m : Int) % 10)] 5)) wr.heap.size (cellAt (heapNew _ _) 0)
      have ka := fun (w : World) => run_string_add_sum (P := Tryd.prog) w ⟨#[dgC (m % 10)]⟩ ⟨l.toArray⟩ (by rw [show (⟨#[dgC (m % 10)]⟩ : ByteArray).size = 1 from rfl, sbSize, HL.out]; omega)
      go_wp2_with fail
      clear kc ka
      go_roundw
      case rel => exact ⟨j + 1, m / 10, dgC (m % 10) :: l, by omega, by omega, by push_cast; rfl, by push_cast; rfl, congrArg Value.string (sb_append [dgC (m % 10)] l), by simp [HL.out], by
        rw [← HD.out, show k - j = (k - (j + 1)) + 1 by omega, digL, List.append_assoc]
        rfl, HB.out.alloc HB.out.size _⟩
      case measure => simp only [intOf]; omega
    · obtain rfl : j = k := by omega
      have i1 : decide ((j : Int) < (j : Int)) = false := by simp
      have hd := HD.out
      rw [Nat.sub_self] at hd
      go_wp2_with fail
      go_ret
      exact ⟨by rw [← hd]; rfl, HB.out⟩
theorem digL2_c {n : Nat} (h : n < 100) (w : World) : Calls Tryd.prog 32 #[.int .i64 n, .int .i64 2] w fun e w' => e = .returned (Sb (dg2 n)) ∧ Below w.heap.size w w' := by
  have := refDigits04_s n 2 (by omega) (by omega) w
  rwa [digL2 h] at this
theorem digL4_c {n : Nat} (h : n < 10000) (w : World) : Calls Tryd.prog 32 #[.int .i64 n, .int .i64 4] w fun e w' => e = .returned (Sb (dg4 n)) ∧ Below w.heap.size w w' := by
  have := refDigits04_s n 4 (by omega) (by omega) w
  rwa [digL4 h] at this
theorem refWeekday_s (n : Nat) (hn : n ≤ 105190559) (w : World) : Calls Tryd.prog 26 #[.int .i64 n] w fun e w' => e = .returned (.int .i64 (((n / 1440 + 5) % 7 : Nat) : Int)) ∧ w = w' := by
  have hw : IntKind.i64.wrap ((n : Int) / 1440 + 5) = (n : Int) / 1440 + 5 := IntWalk.i64_in _ (by omega)
  go_enter Tryd.func26, Tryd.ntmps26
  go_wp2_with fail
  go_ret
  exact ⟨rfl, rfl⟩
def dayS (c : Civ) : ByteArray := ⟨(dg4 c.y).toArray⟩ ++ ⟨#[45]⟩ ++ ⟨(dg2 c.m).toArray⟩ ++ ⟨#[45]⟩ ++ ⟨(dg2 c.d).toArray⟩
set_option maxRecDepth 100000 in
set_option maxHeartbeats 8000000 in
theorem formatDay_s (n : Nat) (hn : n ≤ 73048) (w : World) (hg : Gd w) : Calls Tryd.prog 22 #[.int .i64 n] w fun e w' => e = .returned (.tuple #[.string (dayS (civOf (n * 1440))), .int .i64 0]) ∧ Below w.heap.size w w' := by
  have HG := Lib.hid hg
  have hw : IntKind.i64.wrap ((n : Int) * 1440) = ((n * 1440 : Nat) : Int) := by rw [IntWalk.i64_in _ (by omega)]; omega
  have a1 : ¬ (n : Int) < 0 := by omega
  have a2 : ¬ (73048 : Int) < (n : Int) := by omega
  have HOK := Lib.hid (civOf_ok (n * 1440))
  have hy9 := year_le (n := n * 1440) (by omega)
  have HT := Lib.hid (toCivil_s (n * 1440) (by omega))
  clear hg
  obtain ⟨c, hc⟩ : ∃ c, civOf (n * 1440) = c := ⟨_, rfl⟩
  rw [hc] at HT HOK hy9 ⊢
  clear hc
  obtain ⟨t, ht⟩ : ∃ t, n * 1440 = t := ⟨_, rfl⟩
  rw [ht] at hw HT
  clear ht
  go_enter Tryd.func22, Tryd.ntmps22
  go_wp2_with fail
  refine (HT.out w).mono ?_
  rintro e w1 ⟨rfl, b1⟩
  have HB1 := Lib.hid b1
  clear b1
  simp only [civCells]
  go_wp2_with fail
  obtain ⟨w2, hw2⟩ : ∃ w2, w2 = w1.alloc (.cells #[.int .i64 c.y, .int .i64 c.m, .int .i64 c.d, .int .i64 c.h, .int .i64 c.mi] 24) := ⟨_, rfl⟩
  have hs2 : w1.heap.size < w2.heap.size := by rw [hw2, sizeA]; omega
  have HZ := Lib.hid (show w2.heap[w1.heap.size]? = some (.cells #[.int .i64 c.y, .int .i64 c.m, .int .i64 c.d, .int .i64 c.h, .int .i64 c.mi] 24 (0, 0)) by rw [hw2]; exact heapNew _ _)
  have HB2 := Lib.hid (show Below w.heap.size w w2 by rw [hw2]; exact HB1.out.alloc HB1.out.size _)
  rw [← hw2]
  clear hw2
  have HZa := Lib.hid (show ∀ x : After w2.heap.size w2, x.W.heap[w1.heap.size]? = some (.cells #[.int .i64 c.y, .int .i64 c.m, .int .i64 c.d, .int .i64 c.h, .int .i64 c.mi] 24 (0, 0)) from fun x => (x.below.block _ hs2).trans HZ.out)
  have HGa := Lib.hid (show ∀ x : After w2.heap.size w2, Gd x.W from fun x => (HG.out.below HB2.out).below x.below)
  have x0 : ∀ x : After w2.heap.size w2, x.W.cell? ⟨w1.heap.size, 0, none⟩ = some (.int .i64 c.y) := fun x => cellAt (HZa.out x) 0
  have x1 : ∀ x : After w2.heap.size w2, x.W.cell? ⟨w1.heap.size, 1, none⟩ = some (.int .i64 c.m) := fun x => cellAt (HZa.out x) 1
  have x2 : ∀ x : After w2.heap.size w2, x.W.cell? ⟨w1.heap.size, 2, none⟩ = some (.int .i64 c.d) := fun x => cellAt (HZa.out x) 2
  have hd := HOK.out.d1
  have hd2 := monthD_le c.y c.m
  have hm := HOK.out.m1
  have l2 : ∀ k, (⟨(dg2 k).toArray⟩ : ByteArray).size = 2 := fun k => rfl
  have l4 : ∀ k, (⟨(dg4 k).toArray⟩ : ByteArray).size = 4 := fun k => rfl
  have e1 : (⟨#[45]⟩ : ByteArray).size = 1 := rfl
  have ka1 := fun (w : World) => run_string_add_sum (P := Tryd.prog) w ⟨(dg4 c.y).toArray⟩ ⟨#[45]⟩ (by simp only [ByteArray.size_append, l2, l4, e1]; omega)
  have ka2 := fun (w : World) => run_string_add_sum (P := Tryd.prog) w (⟨(dg4 c.y).toArray⟩ ++ ⟨#[45]⟩) ⟨(dg2 c.m).toArray⟩ (by simp only [ByteArray.size_append, l2, l4, e1]; omega)
  have ka3 := fun (w : World) => run_string_add_sum (P := Tryd.prog) w (⟨(dg4 c.y).toArray⟩ ++ ⟨#[45]⟩ ++ ⟨(dg2 c.m).toArray⟩) ⟨#[45]⟩ (by simp only [ByteArray.size_append, l2, l4, e1]; omega)
  have ka4 := fun (w : World) => run_string_add_sum (P := Tryd.prog) w (⟨(dg4 c.y).toArray⟩ ++ ⟨#[45]⟩ ++ ⟨(dg2 c.m).toArray⟩ ++ ⟨#[45]⟩) ⟨(dg2 c.d).toArray⟩ (by simp only [ByteArray.size_append, l2, l4, e1]; omega)
  clear l2 l4 e1
  refine wp_region_after (by kernel_rfl) (by kernel_rfl) ?_
  iterate 15 (go_big_quiet_step ((first
    | (go_at_call 35; with_reducible exact callBelow _ (padded4_s c.y (by have := HOK.out.y0; omega) (by omega) _ (HGa.out _)))
    | (go_at_call 35; with_reducible exact callBelow _ (padded2_s c.m (by omega) _ (HGa.out _)))
    | (go_at_call 35; with_reducible exact callBelow _ (padded2_s c.d (by omega) _ (HGa.out _))))))
  refine wpQuiet_nil ?_
  rintro w3 ⟨⟨_, hb3⟩, rfl⟩
  have HB3 := Lib.hid (HB2.out.trans (hb3.mono HB2.out.size))
  clear hb3 x0 x1 x2 ka1 ka2 ka3 ka4
  go_wp2_with fail
  go_ret2
  exact ⟨rfl, HB3.out⟩
theorem formatDay_bad (n : Int) (hn : ¬ (0 ≤ n ∧ n ≤ 73048)) (w : World) : Calls Tryd.prog 22 #[.int .i64 n] w fun e w' => e = .returned (.tuple #[.string ⟨#[]⟩, .int .i64 2]) ∧ w = w' := by
  by_cases h0 : n < 0
  · go_enter Tryd.func22, Tryd.ntmps22
    go_wp2_with fail
    go_ret2
    exact ⟨rfl, rfl⟩
  · have h1 : 73048 < n := by omega
    go_enter Tryd.func22, Tryd.ntmps22
    go_wp2_with fail
    go_ret2
    exact ⟨rfl, rfl⟩
set_option maxRecDepth 100000 in
set_option maxHeartbeats 8000000 in
theorem refFormatDay_s (n : Nat) (hn : n ≤ 73048) (w : World) (hg : Gd w) : Calls Tryd.prog 23 #[.int .i64 n] w fun e w' => e = .returned (.tuple #[.string (dayS (civOf (n * 1440))), .int .i64 0]) ∧ Below w.heap.size w w' := by
  have HG := Lib.hid hg
  have hw : IntKind.i64.wrap ((n : Int) * 1440) = ((n * 1440 : Nat) : Int) := by rw [IntWalk.i64_in _ (by omega)]; omega
  have a1 : ¬ (n : Int) < 0 := by omega
  have a2 : ¬ (73048 : Int) < (n : Int) := by omega
  have HOK := Lib.hid (civOf_ok (n * 1440))
  have hy9 := year_le (n := n * 1440) (by omega)
  have HT := Lib.hid (refToCivil_s (n * 1440) (by omega))
  clear hg
  obtain ⟨c, hc⟩ : ∃ c, civOf (n * 1440) = c := ⟨_, rfl⟩
  rw [hc] at HT HOK hy9 ⊢
  clear hc
  obtain ⟨t, ht⟩ : ∃ t, n * 1440 = t := ⟨_, rfl⟩
  rw [ht] at hw HT
  clear ht
  go_enter Tryd.func23, Tryd.ntmps23
  go_wp2_with fail
  refine (HT.out w).mono ?_
  rintro e w1 ⟨rfl, b1⟩
  have HB1 := Lib.hid b1
  clear b1
  simp only [civCells]
  go_wp2_with fail
  obtain ⟨w2, hw2⟩ : ∃ w2, w2 = w1.alloc (.cells #[.int .i64 c.y, .int .i64 c.m, .int .i64 c.d, .int .i64 c.h, .int .i64 c.mi] 28) := ⟨_, rfl⟩
  have hs2 : w1.heap.size < w2.heap.size := by rw [hw2, sizeA]; omega
  have HZ := Lib.hid (show w2.heap[w1.heap.size]? = some (.cells #[.int .i64 c.y, .int .i64 c.m, .int .i64 c.d, .int .i64 c.h, .int .i64 c.mi] 28 (0, 0)) by rw [hw2]; exact heapNew _ _)
  have HB2 := Lib.hid (show Below w.heap.size w w2 by rw [hw2]; exact HB1.out.alloc HB1.out.size _)
  rw [← hw2]
  clear hw2
  have HZa := Lib.hid (show ∀ x : After w2.heap.size w2, x.W.heap[w1.heap.size]? = some (.cells #[.int .i64 c.y, .int .i64 c.m, .int .i64 c.d, .int .i64 c.h, .int .i64 c.mi] 28 (0, 0)) from fun x => (x.below.block _ hs2).trans HZ.out)
  have HGa := Lib.hid (show ∀ x : After w2.heap.size w2, Gd x.W from fun x => (HG.out.below HB2.out).below x.below)
  have x0 : ∀ x : After w2.heap.size w2, x.W.cell? ⟨w1.heap.size, 0, none⟩ = some (.int .i64 c.y) := fun x => cellAt (HZa.out x) 0
  have x1 : ∀ x : After w2.heap.size w2, x.W.cell? ⟨w1.heap.size, 1, none⟩ = some (.int .i64 c.m) := fun x => cellAt (HZa.out x) 1
  have x2 : ∀ x : After w2.heap.size w2, x.W.cell? ⟨w1.heap.size, 2, none⟩ = some (.int .i64 c.d) := fun x => cellAt (HZa.out x) 2
  have hd := HOK.out.d1
  have hd2 := monthD_le c.y c.m
  have hm := HOK.out.m1
  have l2 : ∀ k, (⟨(dg2 k).toArray⟩ : ByteArray).size = 2 := fun k => rfl
  have l4 : ∀ k, (⟨(dg4 k).toArray⟩ : ByteArray).size = 4 := fun k => rfl
  have e1 : (⟨#[45]⟩ : ByteArray).size = 1 := rfl
  have ka1 := fun (w : World) => run_string_add_sum (P := Tryd.prog) w ⟨(dg4 c.y).toArray⟩ ⟨#[45]⟩ (by simp only [ByteArray.size_append, l2, l4, e1]; omega)
  have ka2 := fun (w : World) => run_string_add_sum (P := Tryd.prog) w (⟨(dg4 c.y).toArray⟩ ++ ⟨#[45]⟩) ⟨(dg2 c.m).toArray⟩ (by simp only [ByteArray.size_append, l2, l4, e1]; omega)
  have ka3 := fun (w : World) => run_string_add_sum (P := Tryd.prog) w (⟨(dg4 c.y).toArray⟩ ++ ⟨#[45]⟩ ++ ⟨(dg2 c.m).toArray⟩) ⟨#[45]⟩ (by simp only [ByteArray.size_append, l2, l4, e1]; omega)
  have ka4 := fun (w : World) => run_string_add_sum (P := Tryd.prog) w (⟨(dg4 c.y).toArray⟩ ++ ⟨#[45]⟩ ++ ⟨(dg2 c.m).toArray⟩ ++ ⟨#[45]⟩) ⟨(dg2 c.d).toArray⟩ (by simp only [ByteArray.size_append, l2, l4, e1]; omega)
  clear l2 l4 e1
  refine wp_region_after (by kernel_rfl) (by kernel_rfl) ?_
  iterate 15 (go_big_quiet_step ((first
    | (go_at_call 32; with_reducible exact callBelow _ (digL4_c (n := c.y) (by omega) _))
    | (go_at_call 32; with_reducible exact callBelow _ (digL2_c (n := c.m) (by omega) _))
    | (go_at_call 32; with_reducible exact callBelow _ (digL2_c (n := c.d) (by omega) _)))))
  refine wpQuiet_nil ?_
  rintro w3 ⟨⟨_, hb3⟩, rfl⟩
  have HB3 := Lib.hid (HB2.out.trans (hb3.mono HB2.out.size))
  clear hb3 x0 x1 x2 ka1 ka2 ka3 ka4
  go_wp2_with fail
  go_ret2
  exact ⟨rfl, HB3.out⟩
theorem refFormatDay_bad (n : Int) (hn : ¬ (0 ≤ n ∧ n ≤ 73048)) (w : World) : Calls Tryd.prog 23 #[.int .i64 n] w fun e w' => e = .returned (.tuple #[.string ⟨#[]⟩, .int .i64 2]) ∧ w = w' := by
  by_cases h0 : n < 0
  · go_enter Tryd.func23, Tryd.ntmps23
    go_wp2_with fail
    go_ret2
    exact ⟨rfl, rfl⟩
  · have h1 : 73048 < n := by omega
    go_enter Tryd.func23, Tryd.ntmps23
    go_wp2_with fail
    go_ret2
    exact ⟨rfl, rfl⟩
end Go.Proofs.YtiijngjhhcjiaaaDoor
