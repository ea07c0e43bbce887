/-
  Package field: the check of a field.
-/
import Derived.Test.YtkiheanpamplpaaDoorFldA
import Derived.Test.YtkiheanpamplpaaDoorMaiJ
set_option linter.unusedSimpArgs false
set_option linter.unusedVariables false
set_option linter.unnecessarySimpa false
namespace Go.Proofs.YtkiheanpamplpaaDoor
open Go.RowKit Go.Bul
def wordsZ (s : ByteArray) : List ByteArray := (wordsL s.data.toList).map fun l => ⟨l.toArray⟩
theorem wordsZ_map (s : ByteArray) : (wordsZ s).map Value.string = (wordsL s.data.toList).map St := by unfold wordsZ; rw [List.map_map]; rfl
theorem wordsZ_len (s : ByteArray) : (wordsZ s).length = (wordsL s.data.toList).length := by unfold wordsZ; rw [List.length_map]
theorem wordsZ_data (s : ByteArray) : (wordsZ s).map (·.data.toList) = wordsL s.data.toList := by unfold wordsZ; rw [List.map_map]; exact List.map_id _
theorem wordsZ_le (s : ByteArray) : (wordsZ s).length ≤ s.size := by
  rw [wordsZ_len]
  have := words_len s.data.toList []
  simp at this
  have h2 : s.data.size = s.size := rfl
  unfold wordsL; omega
theorem wordsZ_s (s : ByteArray) (w : World) (hs : s.size ≤ 4294967280) : Calls Tryd.prog 88 #[.string s] w fun e w' => ∃ v, e = .returned v ∧ OwnH w.heap.size w' v (wordsZ s) ∧ Below w.heap.size w w' :=
  (words_s s w hs).mono fun _ _ ⟨v, he, ho, hb⟩ => ⟨v, he, by unfold OwnH; rw [wordsZ_map, wordsZ_len]; exact ho, hb⟩
theorem join_h (v : Value) (zs : List ByteArray) (sep : ByteArray) (w : World) (hn : zs.length ≤ 100000) (hlen : (Lib.join (zs.map (·.data.toList)) sep.data.toList).length ≤ 140737488355328) (h : HopsIn w v zs) :
    Calls Tryd.prog 58 #[v, .string sep] w fun e w' => e = .returned (St (Lib.join (zs.map (·.data.toList)) sep.data.toList)) ∧ Below w.heap.size w w' := by
  rcases h with ⟨rfl, a, c, rfl, _⟩ | ⟨b, off, c, rfl, hb, hc, hcell⟩
  · exact (Tryd.strings_Join_none a c sep w).mono fun _ _ ⟨he, hw⟩ => ⟨he, by subst hw; exact Below.refl _ _⟩
  · exact Tryd.strings_Join b off c zs sep w (fun j x hj => by
      obtain ⟨hl, rfl⟩ := List.getElem?_eq_some_iff.1 hj
      exact hcell j hl) hb (by omega) hc hlen
theorem squeeze_le (s : ByteArray) (hs : s.size ≤ 4294967270) : (squeezeL s.data.toList).length ≤ 4294967280 := by
  have := squeeze_len s.data.toList []
  simp at this
  have h2 : s.data.size = s.size := rfl
  unfold squeezeL wordsL; omega
theorem joinWords_s (v : Value) (s : ByteArray) (w : World) (hs : s.size ≤ 100000) (h : HopsIn w v (wordsZ s)) :
    Calls Tryd.prog 58 #[v, .string ⟨#[32]⟩] w fun e w' => e = .returned (St (squeezeL s.data.toList)) ∧ Below w.heap.size w w' := by
  have h1 := squeeze_le s (by omega)
  have h2 := wordsZ_le s
  have h9 := join_h v (wordsZ s) ⟨#[32]⟩ w (by omega) (by rw [wordsZ_data]; show (squeezeL s.data.toList).length ≤ _; omega) h
  rw [wordsZ_data] at h9
  exact h9
/-- a pair of strings as a struct -/
def fldV (n b : ByteArray) : Value := .agg #[.string n, .string b]
def checkF (n b : ByteArray) : Int := if vnB n = false then 12 else if 0 ≤ printableL b.data.toList then 6 else if squeezeL b.data.toList ≠ b.data.toList then 3 else if 8192 < b.size ∨ (wordsZ b).any longB = true then 5 else 0
theorem words_piece : ∀ (l cur x : List UInt8), x ∈ wordsA l cur → x.length ≤ l.length + cur.length
  | [], cur, x, h => by
    unfold wordsA at h
    split at h
    · cases h
    · rw [List.mem_singleton.1 h]; simp
  | c :: l, cur, x, h => by
    unfold wordsA at h
    split at h
    · split at h
      · have := words_piece l [] x h
        simp at this ⊢; omega
      · rcases List.mem_cons.1 h with h | h
        · rw [h]; simp
        · have := words_piece l [] x h
          simp at this ⊢; omega
    · have := words_piece l (cur ++ [c]) x h
      simp at this ⊢; omega
theorem wordsZ_mem {s z : ByteArray} (h : z ∈ wordsZ s) : z.size ≤ s.size := by
  obtain ⟨l, hl, rfl⟩ := List.mem_map.1 h
  have := words_piece s.data.toList [] l hl
  rw [size_of l]
  have h2 : s.data.size = s.size := rfl
  simp at this
  omega
set_option maxRecDepth 100000 in
set_option maxHeartbeats 2000000 in
theorem checkF_s (n b : ByteArray) (hn : n.size ≤ 100000) (hb : b.size ≤ 100000) (w : World) :
    Calls Tryd.prog 105 #[fldV n b] w fun e w' => e = .returned (.int .i64 (checkF n b)) ∧ Below w.heap.size w w' := by
  unfold fldV
  go_enter Tryd.func105, Tryd.ntmps105
  go_wp2_with fail
  refine (wordsZ_s b _ (by omega)).mono ?_
  rintro e w1 ⟨v, rfl, ho, b1⟩
  have HB1 := Lib.hid (((Below.refl _ _).alloc (Nat.le_refl _) _).trans (b1.mono (by rw [size_alloc]; omega)))
  have hz := (b1.block w.heap.size (by rw [size_alloc]; omega)).trans (heap_alloc_new _ _)
  have z0 : w1.cell? ⟨w.heap.size, 0, none⟩ = some (.string n) := by unfold World.cell?; rw [hz]; rfl
  have z1 : w1.cell? ⟨w.heap.size, 1, none⟩ = some (.string b) := by unfold World.cell?; rw [hz]; rfl
  have HS := Lib.hid (show w.heap.size < w1.heap.size by have := b1.size; rw [size_alloc] at this; omega)
  have HO := Lib.hid (OwnH.hops ho)
  have hwl := wordsZ_le b
  clear hz ho b1
  go_wp2_with fail
  refine (validName_s n (by unfold maxLen; omega) _).mono ?_
  rintro e w0 ⟨rfl, rfl⟩
  cases c1 : vnB n
  · have HR := Lib.hid (show checkF n b = 12 by unfold checkF; rw [if_pos c1])
    clear c1
    go_wp2_with fail
    go_ret
    exact ⟨ret_int HR.out.symm, HB1.out⟩
  have C1 := Lib.hid (show ¬ vnB n = false by rw [c1]; simp)
  clear c1
  go_wp2_with fail
  refine (printable_s b (by unfold maxLen; omega) _).mono ?_
  rintro e w0 ⟨rfl, rfl⟩
  by_cases c2 : 0 ≤ printableL b.data.toList
  · have HR := Lib.hid (show checkF n b = 6 by unfold checkF; rw [if_neg C1.out, if_pos c2])
    go_wp2_with fail
    go_ret
    exact ⟨ret_int HR.out.symm, HB1.out⟩
  have C2 := Lib.hid c2
  have c2' : printableL b.data.toList < 0 := by omega
  clear c2
  go_wp2_with fail
  clear c2'
  have HXa : ∀ x : After w1.heap.size w1, x.W.cell? ⟨w.heap.size, 1, none⟩ = some (.string b) := fun x => (x.below.cell (p := ⟨w.heap.size, 1, none⟩) HS.out).trans z1
  have HOa := Lib.hid (show ∀ x : After w1.heap.size w1, HopsIn x.W v (wordsZ b) from fun x => HO.out.below x.below)
  cases c3 : (b.toList == squeezeL b.data.toList)
  all_goals
    have c3' : (squeezeL b.data.toList == b.toList) = (b.toList == squeezeL b.data.toList) := by rw [Bool.eq_iff_iff, beq_iff_eq, beq_iff_eq]; exact ⟨Eq.symm, Eq.symm⟩
    have HC := Lib.hid c3
    rw [c3] at c3'
    clear c3
    refine wp_region_after (by kernel_rfl) (by kernel_rfl) ?_
    iterate 6 (go_big_quiet_step ((go_at_call 58; exact After.call _ (joinWords_s v b _ hb (HOa.out _)))))
    refine wpQuiet_nil ?_
    rintro w2 ⟨⟨_, hb2⟩, rfl⟩
    have HB2 := Lib.hid (HB1.out.trans (hb2.mono HB1.out.size))
    have z2 := (hb2.cell (p := ⟨w.heap.size, 1, none⟩) HS.out).trans z1
    have HO2 := Lib.hid (HO.out.below hb2)
    clear hb2 HXa
  · have HR := Lib.hid (show checkF n b = 3 by unfold checkF; rw [if_neg C1.out, if_neg (by have := C2.out; omega), if_pos (by have := HC.out; rw [beq_eq_false_iff_ne, toList_data] at this; exact fun e => this e.symm)])
    clear HC
    go_wp2_with fail
    go_ret
    exact ⟨ret_int HR.out.symm, HB2.out⟩
  have HE := Lib.hid (show squeezeL b.data.toList = b.data.toList by have := HC.out; rw [beq_iff_eq, toList_data] at this; exact this.symm)
  clear HC
  by_cases c4 : 8192 < b.size
  · have HR := Lib.hid (show checkF n b = 5 by unfold checkF; rw [if_neg C1.out, if_neg (by have := C2.out; omega), if_neg (by rw [HE.out]; simp), if_pos (.inl c4)])
    go_wp2_with fail
    go_ret
    exact ⟨ret_int HR.out.symm, HB2.out⟩
  have C4 := Lib.hid c4
  go_wp2_with fail
  refine (some_s v (wordsZ b) _ cf_long longB _ (fun z hz => long_s z (by have := wordsZ_mem hz; unfold maxLen; omega) _) (by omega) HO2.out).mono ?_
  rintro e w' ⟨rfl, rfl⟩
  cases c5 : (wordsZ b).any longB
  · have HR := Lib.hid (show checkF n b = 0 by unfold checkF; rw [if_neg C1.out, if_neg (by have := C2.out; omega), if_neg (by rw [HE.out]; simp), if_neg (by have := C4.out; rw [c5]; simp; omega)])
    clear c5
    go_wp2_with fail
    go_ret
    exact ⟨ret_int HR.out.symm, HB2.out⟩
  · have HR := Lib.hid (show checkF n b = 5 by unfold checkF; rw [if_neg C1.out, if_neg (by have := C2.out; omega), if_neg (by rw [HE.out]; simp), if_pos (.inr c5)])
    clear c5
    go_wp2_with fail
    go_ret
    exact ⟨ret_int HR.out.symm, HB2.out⟩
end Go.Proofs.YtkiheanpamplpaaDoor
