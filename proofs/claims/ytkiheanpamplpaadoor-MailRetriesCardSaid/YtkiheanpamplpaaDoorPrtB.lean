/-
  Package mail: the text of a valid message.
-/
import Derived.Test.YtkiheanpamplpaaDoorPrtA
set_option linter.unusedSimpArgs false
set_option linter.unusedVariables false
set_option linter.unnecessarySimpa false
namespace Go.Proofs.YtkiheanpamplpaaDoor
open Go.RowKit Go.Bul
theorem hopsE_sites : ∀ (l pre : List ByteArray) (e : Int), hopsE pre l e = 0 → e = 0 ∧ ∀ z ∈ l, siteE z = 0
  | [], pre, e, h => ⟨h, fun z hz => by cases hz⟩
  | z :: r, pre, e, h => by
    unfold hopsE at h
    by_cases h1 : siteE z ≠ 0
    · rw [if_pos h1] at h; exact absurd h h1
    rw [if_neg h1] at h
    by_cases h2 : Lib.containsS pre z = true
    · rw [if_pos h2] at h; exact absurd h (by decide)
    rw [if_neg h2] at h
    obtain ⟨h3, h4⟩ := hopsE_sites r _ e h
    refine ⟨h3, fun y hy => ?_⟩
    rcases List.mem_cons.1 hy with rfl | hy
    · simpa using h1
    · exact h4 y hy
theorem join_sites : ∀ (l : List ByteArray), (∀ z ∈ l, z.size ≤ 30) → (Lib.join (l.map (·.data.toList)) [32]).length ≤ 31 * l.length
  | [], _ => by simp [Lib.join_nil]
  | z :: r, h => by
    have h1 := join_sites r (fun y hy => h y (List.mem_cons_of_mem _ hy))
    have h2 := h z (List.mem_cons_self ..)
    have h3 := join_len_cons z.data.toList (r.map (·.data.toList))
    have h4 : z.data.toList.length = z.size := by simp
    rw [List.map_cons, List.length_cons]
    omega
theorem hopT_len {l : List ByteArray} (h : ∀ z ∈ l, siteE z = 0) (hn : l.length ≤ 16) : (hopT l).size ≤ 500 := by
  have := join_sites l (fun z hz => site_size (h z hz))
  unfold hopT
  rw [size_of (Lib.join (l.map (·.data.toList)) [32])]
  omega
theorem adT_len {u s : ByteArray} (hu : userB u = true) (hs : siteE s = 0) : (adT u s).size ≤ 71 := by
  have h1 := user_size hu
  have h2 := site_size hs
  unfold adT
  rw [ByteArray.size_append, ByteArray.size_append, show (⟨#[64]⟩ : ByteArray).size = 1 from rfl]
  omega
theorem numT_len (n : Int) (h0 : -9223372036854775808 ≤ n) (h1 : n ≤ 9223372036854775807) : (numT n).size ≤ 100 := itoa_len n h0 h1
theorem fldsM_ok {m : Ms} (hc : checkE m = 0) : ∀ f ∈ fldsM m, f.1.size ≤ 100000 ∧ f.2.size ≤ 100000 := by
  obtain ⟨a1, a2, a3, a4, a5, a6, a7, a8, a9, a10⟩ := check_zero hc
  have k1 := adT_len a1 a2
  have k2 := adT_len a3 a5
  have k3 := numT_len m.nu (by omega) (by omega)
  have k4 := numT_len m.da (by omega) (by omega)
  have k5 := hopT_len (hopsE_sites _ _ _ a10).2 a9
  have k6 := sub_size a8
  have n0 : nm0.size = 4 := rfl
  have n1 : nm1.size = 2 := rfl
  have n2 : nm2.size = 6 := rfl
  have n3 : nm3.size = 4 := rfl
  have n4 : nm4.size = 4 := rfl
  have n5 : nm5.size = 7 := rfl
  intro f hf
  unfold fldsM at hf
  simp only [List.mem_cons, List.not_mem_nil, or_false] at hf
  rcases hf with rfl | rfl | rfl | rfl | rfl | rfl <;> constructor <;> simp only <;> omega
theorem ix0 (x0 x1 x2 x3 x4 x5 : Value) (w : World) : (Instr.index 102 (.agg #[x0, x1, x2, x3, x4, x5]) (.int .i64 0)).run Tryd.prog w = .ok x0 w := by kernel_rfl
theorem ix1 (x0 x1 x2 x3 x4 x5 : Value) (w : World) : (Instr.index 102 (.agg #[x0, x1, x2, x3, x4, x5]) (.int .i64 1)).run Tryd.prog w = .ok x1 w := by kernel_rfl
theorem ix2 (x0 x1 x2 x3 x4 x5 : Value) (w : World) : (Instr.index 102 (.agg #[x0, x1, x2, x3, x4, x5]) (.int .i64 2)).run Tryd.prog w = .ok x2 w := by kernel_rfl
theorem ix3 (x0 x1 x2 x3 x4 x5 : Value) (w : World) : (Instr.index 102 (.agg #[x0, x1, x2, x3, x4, x5]) (.int .i64 3)).run Tryd.prog w = .ok x3 w := by kernel_rfl
theorem ix4 (x0 x1 x2 x3 x4 x5 : Value) (w : World) : (Instr.index 102 (.agg #[x0, x1, x2, x3, x4, x5]) (.int .i64 4)).run Tryd.prog w = .ok x4 w := by kernel_rfl
theorem ix5 (x0 x1 x2 x3 x4 x5 : Value) (w : World) : (Instr.index 102 (.agg #[x0, x1, x2, x3, x4, x5]) (.int .i64 5)).run Tryd.prog w = .ok x5 w := by kernel_rfl
structure PrtRel (m : Ms) (B : Nat) (w1 : World) (k : Nat) (v : Value) (wr : World) : Prop where
  own : wr.ownsRow B 105 2 v k (cellsF ((fldsM m).take k))
  below : Below B w1 wr
set_option maxRecDepth 100000 in
set_option maxHeartbeats 4000000 in
theorem print_good (m : Ms) (v : Value) (ok : m.Ok) (w : World) (hg : Gl w) (hh : HopsIn w v m.ho) (hc : checkE m = 0) :
    Calls Tryd.prog 37 #[msgV m v] w fun e w' => e = .returned (.tuple #[.string (printT m), .int .i64 (printE m)]) ∧ Below w.heap.size w w' := by
  have HH := Lib.hid hh
  have OK := Lib.hid ok
  have HFO := Lib.hid (fldsM_ok hc)
  obtain ⟨a1, a2, a3, a4, a5, a6, a7, a8, a9, a10⟩ := check_zero hc
  have k1 := user_size a1
  have k1' := site_size a2
  have k2 := user_size a3
  have k2' := site_size a5
  have k5 := hopT_len (hopsE_sites _ _ _ a10).2 a9
  have k6 : m.bo.size ≤ 32768 := by
    have := (hopsE_sites _ _ _ a10).1
    by_cases h : 32768 < m.bo.size
    · rw [if_pos h] at this; exact absurd this (by decide)
    · omega
  have HN0 := Lib.hid a6
  have HN1 := Lib.hid a7
  have HE := Lib.hid (show printE m = (printF (fldsM m)).1 by unfold printE; rw [if_neg (by rw [hc]; simp)])
  have hj : (Lib.join (m.ho.map (·.data.toList)) [32]).length ≤ 500 := by
    unfold hopT at k5
    rwa [size_of (Lib.join (m.ho.map (·.data.toList)) [32])] at k5
  have hg0 := hg.below ((Below.refl w.heap.size w).alloc (Nat.le_refl _) (.cells (msgCells m v) 29))
  have HG := Lib.hid hg0
  clear hh ok a1 a2 a3 a4 a5 a6 a7 a8 a10 hg hg0
  go_enter Tryd.func37, Tryd.ntmps37
  unfold msgV
  go_wp2_with fail
  refine (check_s m v OK.out _ (HH.out.below ((Below.refl _ _).alloc (Nat.le_refl _) _))).mono ?_
  rintro e w1 ⟨rfl, b1⟩
  rw [hc]
  clear hc
  have HB1 := Lib.hid (((Below.refl _ _).alloc (Nat.le_refl _) _).trans (b1.mono (by rw [size_alloc]; omega)))
  have HS := Lib.hid (show w.heap.size < w1.heap.size by have := b1.size; rw [size_alloc] at this; omega)
  have HM1 := Lib.hid ((MsgAt.new w m v 29).below b1 (by rw [size_alloc]; omega))
  have HG1 := Lib.hid (HG.out.below b1)
  have HH1 := Lib.hid (HH.out.below HB1.out)
  clear b1
  go_wp2_with fail
  have HXa : ∀ x : After w1.heap.size w1, MsgAt x.W w.heap.size m v := fun x => HM1.out.below x.below HS.out
  have HGa := Lib.hid (show ∀ x : After w1.heap.size w1, Gl x.W from fun x => HG1.out.below x.below)
  have HHa := Lib.hid (show ∀ x : After w1.heap.size w1, HopsIn x.W v m.ho from fun x => HH1.out.below x.below)
  have x0 : ∀ x : After w1.heap.size w1, x.W.cell? ⟨w.heap.size, 0, none⟩ = _ := fun x => (HXa x).1
  have x1 : ∀ x : After w1.heap.size w1, x.W.cell? ⟨w.heap.size, 1, none⟩ = _ := fun x => (HXa x).2.1
  have x2 : ∀ x : After w1.heap.size w1, x.W.cell? ⟨w.heap.size, 2, none⟩ = _ := fun x => (HXa x).2.2.1
  have x3 : ∀ x : After w1.heap.size w1, x.W.cell? ⟨w.heap.size, 3, none⟩ = _ := fun x => (HXa x).2.2.2.1
  have x4 : ∀ x : After w1.heap.size w1, x.W.cell? ⟨w.heap.size, 4, none⟩ = _ := fun x => (HXa x).2.2.2.2.1
  have x5 : ∀ x : After w1.heap.size w1, x.W.cell? ⟨w.heap.size, 5, none⟩ = _ := fun x => (HXa x).2.2.2.2.2.1
  have x6 : ∀ x : After w1.heap.size w1, x.W.cell? ⟨w.heap.size, 6, none⟩ = _ := fun x => (HXa x).2.2.2.2.2.2.1
  have x7 : ∀ x : After w1.heap.size w1, x.W.cell? ⟨w.heap.size, 7, none⟩ = _ := fun x => (HXa x).2.2.2.2.2.2.2.1
  have HXh := Lib.hid HXa
  clear HXa
  refine wp_region_after (by kernel_rfl) (by kernel_rfl) ?_
  iterate 19 (go_big_quiet_step ((first
    | (go_at_call 22; with_reducible exact After.call _ (string_s m.fu m.fs (by omega) (by omega) _))
    | (go_at_call 22; with_reducible exact After.call _ (string_s m.tu m.ts (by omega) (by omega) _))
    | (go_at_call 31; with_reducible exact After.call _ (digits_s m.nu (by have := HN0.out; omega) (by have := HN0.out; omega) _ (HGa.out _)))
    | (go_at_call 31; with_reducible exact After.call _ (digits_s m.da (by have := HN1.out; omega) (by have := HN1.out; omega) _ (HGa.out _)))
    | (go_at_call 58; with_reducible exact After.call _ (join_h v m.ho ⟨#[32]⟩ _ OK.out.hn (Nat.le_trans hj (by omega)) (HHa.out _))))))
  refine wpQuiet_nil ?_
  rintro w2 ⟨⟨_, hb2⟩, rfl⟩
  clear x0 x1 x2 x3 x4 x5 x6 x7
  have HB2 := Lib.hid (HB1.out.trans (hb2.mono (Nat.le_of_lt HS.out)))
  have hs2 := hb2.size
  have hs1 := HS.out
  have HM2 := Lib.hid (HM1.out.below hb2 HS.out)
  have HG2 := Lib.hid (HG1.out.below hb2)
  obtain ⟨i0, hi, hz0, hz1, hz2⟩ := info_parts info105
  clear hb2
  go_wp2_with fail
  go_loopw [5, 33] (fun l i wr => ∃ k : Nat, k ≤ 6 ∧ i = .int .i64 k ∧ PrtRel m w2.heap.size w2 k l wr) (fun _ i _ => 6 - (intOf i).toNat)
  case atStart => exact ⟨0, Nat.zero_le _, rfl, ⟨World.ownsRow_nil _ _ _ _, Below.refl _ _⟩⟩
  case round =>
    obtain ⟨k, hk, rfl, hr⟩ := hrel
    obtain ⟨hown, hbw⟩ := hr
    have hsw := hbw.size
    have hlt9 := hown.lt
    have HO := Lib.hid hown
    have HBw := Lib.hid hbw
    clear hown hbw
    by_cases hlt : k < 6
    · have hk6 : k = 0 ∨ k = 1 ∨ k = 2 ∨ k = 3 ∨ k = 4 ∨ k = 5 := by omega
      have jx0 := ix0
      have jx1 := ix1
      have jx2 := ix2
      have jx3 := ix3
      have jx4 := ix4
      have jx5 := ix5
      rcases hk6 with rfl | rfl | rfl | rfl | rfl | rfl
      all_goals
        go_wp2_with fail
        refine (names_s _).mono ?_
        rintro e w3 ⟨rfl, b3⟩
        have hs3 := b3.size
        have HB3 := Lib.hid (HBw.out.trans (b3.mono hsw))
        have hO3 := HO.out.kept (grownBy_of b3) (by cases hv : Value.ownBlock _ <;> simp)
        clear b3
        go_wp2_with (at_builtin; refine wpList_append_own _ rfl _ _ 100 rfl w2.heap.size 105 i0 _ 2 32 Tryd.underlying100 hi hz0 hz1 hz2 rfl (by decide) _ _ _ rfl (hO3.alloc _) ⟨w3.heap.size, 0, none⟩ 1 1 [_, _] rfl rfl (World.news_of_block (cs := #[_, _]) (t := 105) (fr := (0, 0)) (heap_alloc_new w3 _)) (by simp [Value.oneCell']) (by unfold maxLen; omega) (by omega) (by simp; omega) ?_; intro v4 w4 hown4 hgr4 _)
        go_roundw
        case rel => exact ⟨_, by omega, by go_num, ⟨hown4, (HB3.out.alloc (by omega) _).grown hgr4 (by simp; omega) (fun k hk => (hlt9 k hk).1)⟩⟩
        case measure => simp [intOf]
    · have hk6 : k = 6 := by omega
      subst hk6
      have HFI := Lib.hid (FldsIn.of_owns (fs := fldsM m) HO.out)
      have hm := HM2.out.below HBw.out (by omega)
      obtain ⟨_, _, _, _, _, _, _, _, g8⟩ := hm
      have HB4 := Lib.hid (HB2.out.trans (HBw.out.mono (Nat.le_trans (Nat.le_of_lt hs1) hs2)))
      go_wp2_with fail
      refine (printF_s _ (fldsM m) _ (by show (6 : Nat) ≤ _; omega) HFO.out HFI.out).mono ?_
      rintro e w3 ⟨rfl, b3⟩
      have g8' := (b3.cell (p := ⟨w.heap.size, 8, none⟩) (by simp; omega)).trans g8
      have HB5 := Lib.hid (HB4.out.trans (b3.mono HB4.out.size))
      clear b3 g8
      have hl := printF_len (fldsM m)
      by_cases ce : (printF (fldsM m)).1 = 0
      · have HT := Lib.hid (show printT m = (printF (fldsM m)).2 ++ ⟨#[10]⟩ ++ m.bo by unfold printT; rw [if_neg (by rw [HE.out, ce]; simp)])
        have HE0 := Lib.hid (HE.out.trans ce)
        rw [ce]
        clear ce
        have ka1 := fun (w : World) => run_string_add_sum (P := Tryd.prog) w (printF (fldsM m)).2 (⟨#[10]⟩ : ByteArray) (by rw [show (⟨#[10]⟩ : ByteArray).size = 1 from rfl]; omega)
        have ka2 := fun (w : World) => run_string_add_sum (P := Tryd.prog) w ((printF (fldsM m)).2 ++ ⟨#[10]⟩ : ByteArray) m.bo (by rw [ByteArray.size_append, show (⟨#[10]⟩ : ByteArray).size = 1 from rfl]; omega)
        go_wp2_with fail
        go_ret2
        exact ⟨by rw [HT.out, HE0.out]; rfl, HB5.out⟩
      · have HT := Lib.hid (show printT m = ⟨#[]⟩ by unfold printT; rw [if_pos (by rw [HE.out]; exact ce)])
        have hq : ((printF (fldsM m)).1 == 0) = false := by rw [beq_eq_false_iff_ne]; exact ce
        clear ce
        go_wp2_with fail
        go_ret2
        exact ⟨by rw [HT.out, HE.out]; rfl, HB5.out⟩
theorem print_s (m : Ms) (v : Value) (ok : m.Ok) (w : World) (hg : Gl w) (hh : HopsIn w v m.ho) :
    Calls Tryd.prog 37 #[msgV m v] w fun e w' => e = .returned (.tuple #[.string (printT m), .int .i64 (printE m)]) ∧ Below w.heap.size w w' := by
  by_cases hc : checkE m = 0
  · exact print_good m v ok w hg hh hc
  · have he : printE m = checkE m := by unfold printE; rw [if_pos hc]
    have ht : printT m = ⟨#[]⟩ := by unfold printT; rw [if_pos (by rw [he]; exact hc)]
    rw [he, ht]
    exact print_bad m v ok w hh hc
end Go.Proofs.YtkiheanpamplpaaDoor
