/-
  The law MailAddresses, walked.
-/
import Derived.Test.YtkiheanpamplpaaDoorKnwB
set_option linter.unusedSimpArgs false
set_option linter.unusedVariables false
set_option linter.unnecessarySimpa false
namespace Go.Proofs.YtkiheanpamplpaaDoor
open Go.RowKit Go.Bul Go.Maps
theorem data_ext {a b : ByteArray} (h : a.data.toList = b.data.toList) : a = b := by
  cases a; cases b; simp_all
theorem addr_text {s : ByteArray} (h : addrE s = 0) : addrU s ++ ⟨#[64]⟩ ++ addrP s = s := by
  have h0 : 0 ≤ atI s := by
    unfold addrE at h
    by_cases c : atI s < 0
    · rw [if_pos c] at h; exact absurd h (by decide)
    · omega
  have hlt := atI_lt s h0
  have ho : Lib.indexByte s.data.toList 64 = ((atI s).toNat : Int) := by unfold atI at h0 ⊢; omega
  obtain ⟨g1, _⟩ := Lib.indexByte_some ho
  apply data_ext
  have e1 : (addrU s ++ ⟨#[64]⟩ ++ addrP s).data.toList = (addrU s).data.toList ++ [64] ++ (addrP s).data.toList := by
    simp only [ByteArray.data_append, Array.toList_append]
  rw [e1]
  unfold addrU addrP
  rw [Lib.extract_data, Lib.extract_to_end, List.drop_zero, Nat.sub_zero]
  obtain ⟨hl, hg⟩ := List.getElem?_eq_some_iff.1 g1
  rw [List.append_assoc, List.singleton_append, ← hg, ← List.drop_eq_getElem_cons hl, List.take_append_drop]
def cut120 (s : ByteArray) : ByteArray := s.extract 0 (min s.size 120)
theorem cut120_size (s : ByteArray) : (cut120 s).size ≤ 120 := by unfold cut120; rw [extract_size _ _ _ (Nat.min_le_left _ _)]; omega
theorem pA_ok {s : ByteArray} (he : addrE s = 0) (hs : s.size ≤ 100000) (w : World) (hg : Gl w) : Calls Tryd.prog 20 #[.string s] w fun e w' => e = .returned (.tuple #[.agg #[.string (addrU s), .string (addrP s)], .int .i64 0]) ∧ Below w.heap.size w w' := by
  have h := parseAddr_s s hs w hg
  rw [addrV_ok he, he] at h
  exact h
theorem pA_bad {s : ByteArray} (he : addrE s ≠ 0) (hs : s.size ≤ 100000) (w : World) (hg : Gl w) : Calls Tryd.prog 20 #[.string s] w fun e w' => e = .returned (.tuple #[.agg #[.string ⟨#[]⟩, .string ⟨#[]⟩], .int .i64 (addrE s)]) ∧ Below w.heap.size w w' := by
  have h := parseAddr_s s hs w hg
  rw [addrV_bad he] at h
  exact h
theorem rA_ok {s : ByteArray} (he : addrE s = 0) (hs : s.size ≤ 100000) (w : World) : Calls Tryd.prog 21 #[.string s] w fun e w' => e = .returned (.tuple #[.agg #[.string (addrU s), .string (addrP s)], .int .i64 0]) ∧ Below w.heap.size w w' := by
  have h := refAddr_s s hs w
  rw [addrV_ok he, he] at h
  exact h
theorem rA_bad {s : ByteArray} (he : addrE s ≠ 0) (hs : s.size ≤ 100000) (w : World) : Calls Tryd.prog 21 #[.string s] w fun e w' => e = .returned (.tuple #[.agg #[.string ⟨#[]⟩, .string ⟨#[]⟩], .int .i64 (addrE s)]) ∧ Below w.heap.size w w' := by
  have h := refAddr_s s hs w
  rw [addrV_bad he] at h
  exact h
theorem addr_sizes {s : ByteArray} (h : addrE s = 0) (hs : s.size ≤ 120) : (addrU s).size ≤ 120 ∧ (addrP s).size ≤ 120 := by
  have h0 : 0 ≤ atI s := by
    unfold addrE at h
    by_cases c : atI s < 0
    · rw [if_pos c] at h; exact absurd h (by decide)
    · omega
  have hlt := atI_lt s h0
  unfold addrU addrP
  rw [extract_size _ _ _ (by omega), extract_size _ _ _ (Nat.le_refl _)]
  omega
theorem cells2 {w : World} {b : Nat} {u p : ByteArray} {t : TypeId} (h : w.heap[b]? = some (.cells #[.string u, .string p] t (0, 0))) : w.cell? ⟨b, 0, none⟩ = some (.string u) ∧ w.cell? ⟨b, 1, none⟩ = some (.string p) := by
  constructor <;> (unfold World.cell?; rw [h]; rfl)
set_option maxRecDepth 100000 in
set_option maxHeartbeats 8000000 in
theorem lawAddresses_s (s : ByteArray) (hs : s.size ≤ maxLen) (w : World) (hg : Gl w) :
    Calls Tryd.prog 7 #[.string s] w fun e w' => e = .returned (.bool true) ∧ Below w.heap.size w w' := by
  unfold maxLen at hs
  have HG := Lib.hid hg
  have hz := cut120_size s
  have hz1 : (min (s.size : Int) 120).toNat = min s.size 120 := by omega
  have hz2 : (0 : Int) ≤ min (s.size : Int) 120 := by omega
  have hz3 : min (s.size : Int) 120 ≤ s.size := by omega
  clear hg
  by_cases he : addrE (cut120 s) = 0
  · have HE := Lib.hid he
    have hq : ((addrU (cut120 s) ++ ⟨#[64]⟩ ++ addrP (cut120 s)).toList == (s.extract 0 (min s.size 120)).toList) = true := by
      rw [addr_text he, beq_iff_eq]; rfl
    obtain ⟨su, sp⟩ := addr_sizes he hz
    clear he
    go_enter Tryd.func7, Tryd.ntmps7
    go_wp2_with fail
    refine (pA_ok HE.out (by omega) _ HG.out).mono ?_
    rintro e w1 ⟨rfl, b1⟩
    go_wp2_with fail
    refine (rA_ok HE.out (by omega) _).mono ?_
    rintro e w2 ⟨rfl, b2⟩
    have hz2' := (b2.block w1.heap.size (by rw [size_alloc]; omega)).trans (heap_alloc_new w1 (.cells #[.string (addrU (cut120 s)), .string (addrP (cut120 s))] 27))
    have HB2 := Lib.hid (b1.trans ((((Below.refl _ _).alloc (Nat.le_refl _) _).trans (b2.mono (by rw [size_alloc]; omega))).mono b1.size))
    have hs2 : w1.heap.size < w2.heap.size := lt_of_block hz2'
    have HZ := Lib.hid hz2'
    clear b1 b2 hz2'
    go_wp2_with fail
    refine (known49_s _ (HG.out.below (HB2.out.alloc HB2.out.size _))).mono ?_
    rintro e w3 ⟨rfl, b3⟩
    obtain ⟨x0, x1⟩ := cells2 ((b3.block w1.heap.size (by rw [size_alloc]; omega)).trans ((Below.heap_alloc _ _ _ hs2).trans HZ.out))
    obtain ⟨y0, y1⟩ := cells2 ((b3.block w2.heap.size (by rw [size_alloc]; omega)).trans (heap_alloc_new w2 (.cells #[.string (addrU (cut120 s)), .string (addrP (cut120 s))] 23)))
    have HB3 := Lib.hid ((HB2.out.alloc HB2.out.size _).trans (b3.mono (by rw [size_alloc]; have := HB2.out.size; omega)))
    clear b3
    go_wp2_with fail
    refine (string_s (addrU (cut120 s)) (addrP (cut120 s)) (by omega) (by omega) _).mono ?_
    rintro e w4 ⟨rfl, b4⟩
    have HB4 := Lib.hid (HB3.out.trans (b4.mono HB3.out.size))
    clear b4
    go_wp2_with fail
    go_ret
    exact ⟨rfl, HB4.out⟩
  · have hq : (addrE (cut120 s) == 0) = false := by rw [beq_eq_false_iff_ne]; exact he
    have hq2 : (addrE (cut120 s) != 0) = true := by rw [bne, hq]; rfl
    have HE := Lib.hid he
    clear he
    go_enter Tryd.func7, Tryd.ntmps7
    go_wp2_with fail
    refine (pA_bad HE.out (by omega) _ HG.out).mono ?_
    rintro e w1 ⟨rfl, b1⟩
    go_wp2_with fail
    refine (rA_bad HE.out (by omega) _).mono ?_
    rintro e w2 ⟨rfl, b2⟩
    have hz2' := (b2.block w1.heap.size (by rw [size_alloc]; omega)).trans (heap_alloc_new w1 (.cells #[.string ⟨#[]⟩, .string ⟨#[]⟩] 27))
    have HB2 := Lib.hid (b1.trans ((((Below.refl _ _).alloc (Nat.le_refl _) _).trans (b2.mono (by rw [size_alloc]; omega))).mono b1.size))
    have hs2 : w1.heap.size < w2.heap.size := lt_of_block hz2'
    have HZ := Lib.hid hz2'
    clear b1 b2 hz2'
    go_wp2_with fail
    refine (known49_s _ (HG.out.below (HB2.out.alloc HB2.out.size _))).mono ?_
    rintro e w3 ⟨rfl, b3⟩
    obtain ⟨x0, x1⟩ := cells2 ((b3.block w1.heap.size (by rw [size_alloc]; omega)).trans ((Below.heap_alloc _ _ _ hs2).trans HZ.out))
    obtain ⟨y0, y1⟩ := cells2 ((b3.block w2.heap.size (by rw [size_alloc]; omega)).trans (heap_alloc_new w2 (.cells #[.string ⟨#[]⟩, .string ⟨#[]⟩] 23)))
    have HB3 := Lib.hid ((HB2.out.alloc HB2.out.size _).trans (b3.mono (by rw [size_alloc]; have := HB2.out.size; omega)))
    clear b3
    go_wp2_with fail
    go_ret
    exact ⟨rfl, HB3.out⟩
end Go.Proofs.YtkiheanpamplpaaDoor
