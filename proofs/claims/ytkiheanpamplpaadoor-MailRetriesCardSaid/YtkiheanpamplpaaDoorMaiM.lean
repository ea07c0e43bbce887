/-
  The reference of package mail: Pass, passing on.
-/
import Derived.Test.YtkiheanpamplpaaDoorMaiL
import Derived.Maps.AppendAt
set_option linter.unusedSimpArgs false
set_option linter.unusedVariables false
set_option linter.unnecessarySimpa false
namespace Go.Proofs.YtkiheanpamplpaaDoor
open Go.RowKit Go.Bul
theorem run_append_zero {P : Program} (w : World) (base : Nat) (t ty e : TypeId) (i : TypeInfo) (size : Nat) (ht : P.underlying t = some (.slice e)) (hi : P.info? e = some i)
    (v : Value) (n : Nat) (xs : List Value) (hown : w.ownsRow base e size v n xs) : (Builtin.append_ #[t, t] ty #[v, .slice none 0 0]).run P w = .ok v w := by
  rcases hown.2 with ⟨rfl, rfl⟩ | ⟨g, cap, cur, rfl, _, _, hnc, _⟩
  · simp [Builtin.append_, run_underlying ht, sizeOf, typeInfo, hi, Builtin.lenOf, Builtin.firstCells]
  · simp [Builtin.append_, run_underlying ht, sizeOf, typeInfo, hi, Builtin.lenOf, Builtin.firstCells, hnc, storeCells]
/-- the append of a slice of strings to a row of one's own -/
theorem run_append_hops (w : World) (base : Nat) (ty : TypeId) (v : Value) (n : Nat) (xs : List Value) (hown : w.ownsRow base 9 1 v n xs) (u : Value) (zs : List ByteArray) (hu : HopsIn w u zs)
    (hn : n + zs.length ≤ 100000) (hbase : base ≤ w.heap.size) :
    ∃ v' w', (Builtin.append_ #[24, 24] ty #[v, u]).run Tryd.prog w = .ok v' w' ∧ w'.ownsRow base 9 1 v' (n + zs.length) (xs ++ zs.map Value.string) ∧ w.grownBy w' v.ownBlock ∧
      (v'.ownBlock = v.ownBlock ∨ v'.ownBlock = some w.heap.size) := by
  obtain ⟨i0, hi, hz0, hz1, hz2⟩ := info_parts infoString
  rcases hu with ⟨rfl, a, c, rfl, hc⟩ | ⟨b, off, c, rfl, hb, hc, hcell⟩
  · cases a with
    | none =>
      obtain rfl := hc rfl
      exact ⟨v, w, run_append_zero w base _ ty _ i0 1 Tryd.underlying24 hi v n xs hown, by simpa using hown, World.grownBy.refl w _, .inl rfl⟩
    | some ad =>
      obtain ⟨v', w', h1, h2, h3, _, h5⟩ := run_append_own_at (P := Tryd.prog) w base 24 ty 9 i0 _ 1 16 Tryd.underlying24 hi hz0 hz1 hz2 rfl (by omega) v n xs hown ad 0 c [] (by simp) (by simp) (by simp) (by unfold maxLen; omega) (by omega) hbase
      exact ⟨v', w', h1, by simpa using h2, h3, h5⟩
  · obtain ⟨v', w', h1, h2, h3, _, h5⟩ := run_append_own_at (P := Tryd.prog) w base 24 ty 9 i0 _ 1 16 Tryd.underlying24 hi hz0 hz1 hz2 rfl (by omega) v n xs hown ⟨b, off, none⟩ zs.length c (zs.map Value.string) (by simp)
      (fun j x hj => by
        simp only [List.getElem?_map, Option.map_eq_some_iff] at hj
        obtain ⟨z, hz, rfl⟩ := hj
        obtain ⟨hl, rfl⟩ := List.getElem?_eq_some_iff.1 hz
        rw [show (⟨b, off, none⟩ : Addr).add j = ⟨b, off + j, none⟩ by unfold Addr.add; split <;> simp_all]
        exact hcell j hl)
      (by intro x hx; obtain ⟨z, _, rfl⟩ := List.mem_map.1 hx; rfl) (by unfold maxLen; omega) (by omega) hbase
    exact ⟨v', w', h1, h2, h3, h5⟩
theorem wp_append_hops {o : Oper} {a : Act} {w : World} {K : Act → World → Prop} {Q : Exit → Act → World → Prop} (s x : Operand)
    (ho : o.op = .call { callee := .builtin .append, args := #[s, x], argTypes := #[24, 24] })
    (base : Nat) (v : Value) (n : Nat) (xs : List Value) (hs : a.eval s = v) (hown : w.ownsRow base 9 1 v n xs) (u : Value) (zs : List ByteArray) (hx : a.eval x = u) (hu : HopsIn w u zs)
    (hn : n + zs.length ≤ 100000) (hbase : base ≤ w.heap.size)
    (h : ∀ v' w', w'.ownsRow base 9 1 v' (n + zs.length) (xs ++ zs.map Value.string) → w.grownBy w' v.ownBlock → (v'.ownBlock = v.ownBlock ∨ v'.ownBlock = some w.heap.size) → K (a.put o.dst v') w') : o.wp Tryd.prog a w K Q := by
  obtain ⟨v', w', hrun, h2, h3, h4⟩ := run_append_hops w base o.type v n xs hown u zs hu hn hbase
  unfold Oper.wp execOp
  simp only [ho, resolve, invoke, builtin, Sem.run_bind, Sem.run_pure, Result.andThen_ok, List.map_toArray, List.map_cons, List.map_nil, hs, hx, hrun]
  exact h v' w' h2 h3 h4
theorem wpList_append_hops {ops : Array Oper} {rest : List Oper} {o : Oper} {a : Act} {w : World} {Q : Exit → Act → World → Prop} (hgd : o.guard = none) (s x : Operand)
    (ho : o.op = .call { callee := .builtin .append, args := #[s, x], argTypes := #[24, 24] })
    (base : Nat) (v : Value) (n : Nat) (xs : List Value) (hs : a.eval s = v) (hown : w.ownsRow base 9 1 v n xs) (u : Value) (zs : List ByteArray) (hx : a.eval x = u) (hu : HopsIn w u zs)
    (hn : n + zs.length ≤ 100000) (hbase : base ≤ w.heap.size)
    (h : ∀ v' w', w'.ownsRow base 9 1 v' (n + zs.length) (xs ++ zs.map Value.string) → w.grownBy w' v.ownBlock → (v'.ownBlock = v.ownBlock ∨ v'.ownBlock = some w.heap.size) → wpList Tryd.prog ops Q rest (a.put o.dst v') w') : wpList Tryd.prog ops Q (o :: rest) a w :=
  wpList_plain hgd fun _ hK => wp_append_hops s x ho base v n xs hs hown u zs hx hu hn hbase fun v' w' h2 h3 h4 => hK _ _ (h v' w' h2 h3 h4)
set_option maxRecDepth 100000 in
set_option maxHeartbeats 4000000 in
theorem refPass_c (m : Ms) (v : Value) (ok : m.Ok) (name : ByteArray) (hname : name.size ≤ maxLen) (w : World) (hh : HopsIn w v m.ho) (hgood : passE m name = 0) :
    Calls Tryd.prog 19 #[msgV m v, .string name] w fun e w' => ∃ v', e = .returned (.tuple #[msgV { m with ho := m.ho ++ [name] } v', .int .i64 0]) ∧ OwnH w.heap.size w' v' (m.ho ++ [name]) ∧ Below w.heap.size w w' := by
  obtain ⟨i0, hi, hz0, hz1, hz2⟩ := info_parts infoString
  have HH := Lib.hid hh
  have OK := Lib.hid ok
  obtain ⟨c1, c2, c3, c4⟩ := passE_zero hgood
  have hn5 := ok.hn
  obtain ⟨a0, len, cap, hv⟩ : ∃ a n c, v = .slice a n c := by
    rcases hh with ⟨_, a, c, h, _⟩ | ⟨b, off, c, h, _⟩
    · exact ⟨_, _, _, h⟩
    · exact ⟨_, _, _, h⟩
  subst hv
  obtain rfl : len = m.ho.length := by
    rcases hh with ⟨h, a, c, e, _⟩ | ⟨b, off, c, e, _⟩
    · cases e; rw [h]; rfl
    · cases e; rfl
  clear hh ok hgood
  go_enter Tryd.func19, Tryd.ntmps19
  unfold msgV
  go_wp2_with fail
  refine (refCheck_s m _ OK.out _ (HH.out.below (two_allocs _ _ _))).mono ?_
  rintro e w1 ⟨rfl, b1⟩
  have hz : w1.heap[w.heap.size + 1]? = some (.cells (msgCells noMs (.slice none 0 0)) 26 (0, 0)) := (b1.block (w.heap.size + 1) (by simp only [size_alloc]; omega)).trans (two_last w _ _)
  have hx : w1.heap[w.heap.size]? = some (.cells (msgCells m (.slice a0 m.ho.length cap)) 26 (0, 0)) := (b1.block w.heap.size (by simp only [size_alloc]; omega)).trans ((Below.heap_alloc _ _ _ (by rw [size_alloc]; omega)).trans (heap_alloc_new _ _))
  have HBw := Lib.hid ((two_allocs w _ _).trans (b1.mono (two_allocs _ _ _).size))
  have HHs := Lib.hid (HH.out.below HBw.out)
  have HS1 := Lib.hid (show w.heap.size + 2 ≤ w1.heap.size by have := b1.size; simp only [size_alloc] at this; omega)
  have HZ := Lib.hid hz
  have HX := Lib.hid hx
  obtain ⟨_, _, _, _, _, _, _, g7, _⟩ := MsgAt.of_block hx
  clear hz hx b1
  rw [c1]
  go_wp2_with fail
  refine (refSite_s name hname _).mono ?_
  rintro e w0 ⟨rfl, rfl⟩
  rw [c2]
  go_wp2_with fail
  refine (refHas_s _ m.ho name _ hn5 HHs.out).mono ?_
  rintro e w' ⟨rfl, rfl⟩
  rw [c3]
  have c5 : ((m.ho.length : Int) == 16) = false := by rw [beq_eq_false_iff_ne]; omega
  have hs1 : w.heap.size < w1.heap.size := by have := HS1.out; omega
  have hs2 : w.heap.size + 1 < w1.heap.size := by have := HS1.out; omega
  have hown0 : (w1.alloc (.cells #[] 9)).ownsRow w1.heap.size 9 1 (.slice (some ⟨w1.heap.size, 0, none⟩) 0 0) 0 [] := World.ownsRow_made w1 #[] 0 (Nat.le_refl _) (by decide) (by simp)
  have HO := Lib.hid hown0
  clear hown0
  go_wp2_with (first
    | (at_builtin; refine wpList_append_hops rfl (.tmp 32) (.tmp 34) rfl w1.heap.size (.slice (some ⟨w1.heap.size, 0, none⟩) 0 0) 0 [] rfl HO.out _ m.ho rfl (HHs.out.below ((Below.refl _ _).alloc (Nat.le_refl _) _)) (by omega) (by simp) ?_; intro v2 w2 hown hgr hloc; have hlt := hown.lt; have hb2 : Below w1.heap.size w1 w2 := (((Below.refl _ _).alloc (Nat.le_refl _) _).grown hgr (by simp) (fun k hk => by simp [Value.ownBlock] at hk; omega)); have hs2' := hb2.size; have HX2 := Lib.hid ((hb2.block w.heap.size (by omega)).trans HX.out); have HZ2 := Lib.hid ((hb2.block (w.heap.size + 1) (by omega)).trans HZ.out); have HB2 := Lib.hid hb2; clear hb2 g7 hgr hloc)
    | (at_builtin; refine wpList_append_own _ rfl (.tmp 35) (.tmp 37) 24 rfl w1.heap.size 9 i0 (.string ⟨#[]⟩) 1 16 Tryd.underlying24 hi hz0 hz1 hz2 rfl (by decide) _ _ _ rfl (hown.alloc _) ⟨w2.heap.size, 0, none⟩ 1 1 [.string name] rfl rfl (cell_one_new _ _ _) (by simp [Value.oneCell']) (by unfold maxLen; omega) (by omega) (by simp; omega) ?_; intro v3 w3 hown3 hgr3 _; obtain ⟨a9, l9, c9, rfl⟩ := owns_slice hown3; have hx3 := (hgr3.block w.heap.size (by rw [size_alloc]; omega) (fun e => by have := hlt _ e.symm; omega)).trans ((Below.heap_alloc _ _ _ (by omega)).trans HX2.out); have hz3 := (hgr3.block (w.heap.size + 1) (by rw [size_alloc]; omega) (fun e => by have := hlt _ e.symm; omega)).trans ((Below.heap_alloc _ _ _ (by omega)).trans HZ2.out); have HX3 := Lib.hid hx3; have HZ3 := Lib.hid hz3; obtain ⟨x0, x1, x2, x3, x4, x5, x6, x7, x8⟩ := MsgAt.of_block hx3; obtain ⟨y0, y1, y2, y3, y4, y5, y6, y7, y8⟩ := MsgAt.of_block hz3; have e7 := frozen_of hx3 7; have f0 := frozen_of hz3 0; have f1 := frozen_of hz3 1; have f2 := frozen_of hz3 2; have f3 := frozen_of hz3 3; have f4 := frozen_of hz3 4; have f5 := frozen_of hz3 5; have f6 := frozen_of hz3 6; have f7 := frozen_of hz3 7; have f8 := frozen_of hz3 8; clear hx3 hz3))
  have hz4 : (w3.setCell ⟨w.heap.size, 7, none⟩ (.slice a9 l9 c9)).heap[w.heap.size + 1]? = _ := (Below.heap_setCell _ _ _ _ (by simp)).trans HZ3.out
  refine bodyPost_ret (results_cell2 rfl _ _ (w.heap.size + 1) _ _ _ _ rfl (set9_block hz4 _ _ _ _ _ _ _ _ _) Tryd.underlying26 rfl (by kernel_rfl)) rfl ?_
  have hb3 : Below w.heap.size w w3 := (((HBw.out.trans (HB2.out.mono (by omega))).alloc (by omega) _).grown hgr3 (by simp; omega) (fun k hk => by have := (hlt k hk).1; omega))
  have ho4 : OwnH (w.heap.size + 2) w3 (.slice a9 l9 c9) (m.ho ++ [name]) := OwnH.of hown3 (by omega) HS1.out
  have ho5 : OwnH (w.heap.size + 2) (w3.setCell ⟨w.heap.size, 7, none⟩ (.slice a9 l9 c9)) (.slice a9 l9 c9) (m.ho ++ [name]) := ho4.set (by omega)
  exact ⟨_, rfl, OwnH.set9 (b := w.heap.size + 1) ho5 (by omega) (by omega) _ _ _ _ _ _ _ _ _, set9_below (B := w.heap.size) (b := w.heap.size + 1) (hb3.setCell (p := ⟨w.heap.size, 7, none⟩) (by simp) _) (by omega) _ _ _ _ _ _ _ _ _⟩
end Go.Proofs.YtkiheanpamplpaaDoor
