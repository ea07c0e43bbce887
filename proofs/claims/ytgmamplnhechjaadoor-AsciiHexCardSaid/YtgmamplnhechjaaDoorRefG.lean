/-
  The reference of package ascii: Hex: what it answers.
-/
import Derived.Test.YtgmamplnhechjaaDoorRefF
import Derived.Deep.RegionHeld3
import Derived.Deep.AppendLies
set_option linter.unusedSimpArgs false
set_option linter.unusedVariables false
set_option linter.unnecessarySimpa false
namespace Go.Proofs.YtgmamplnhechjaaDoor
open Go.RowKit Go.Bul
theorem own_bytes {w : World} {B : Nat} {e : TypeId} {v : Value} {l : List UInt8} (h : w.ownsRow B e 1 v l.length (l.map B8)) :
    (v = .slice none 0 0 ∧ l = []) ∨ ∃ g c, v = .slice (some ⟨g, 0, none⟩) l.length c ∧ g < w.heap.size ∧ ∀ j (hj : j < l.length), w.cell? ((⟨g, 0, none⟩ : Addr).add j) = some (.int .u8 (l[j].toNat : Int)) := by
  have hlt := h.lt
  rcases h.2 with ⟨h1, h2⟩ | ⟨g, c, cur, h1, h2, h3, h4, h5⟩
  · exact .inl ⟨h1, List.eq_nil_of_length_eq_zero h2⟩
  · exact .inr ⟨g, c, h1, (hlt g (by rw [h1]; rfl)).2, fun j hj => h.cells (g := g) (by rw [h1]; rfl) j _ (by simp [hj])⟩
theorem BysIn.of_owns {w : World} {B : Nat} {v : Value} {l : List UInt8} (h : w.ownsRow B 5 1 v l.length (l.map B8)) : BysIn w v l := by
  rcases own_bytes h with ⟨h1, h2⟩ | ⟨g, c, h1, h2, h3⟩
  · exact .inl ⟨h2, _, _, h1⟩
  · refine .inr ⟨g, 0, c, h1, h2, fun j hj => ?_⟩
    have := h3 j hj
    rw [show (⟨g, 0, none⟩ : Addr).add j = ⟨g, 0 + j, none⟩ by unfold Addr.add; split <;> simp_all] at this
    exact this
set_option maxRecDepth 100000 in
set_option maxHeartbeats 3200000 in
theorem refHex_row (b off c : Nat) (l : List UInt8) (w : World) (hl : l.length ≤ 4294967280) (hb : b < w.heap.size) (hc : ∀ j (h : j < l.length), w.cell? ⟨b, off + j, none⟩ = some (B8 l[j])) :
    Calls Tryd.prog 34 #[.slice (some ⟨b, off, none⟩) l.length c] w fun e w' => e = .returned (St (hexL l)) ∧ Below w.heap.size w w' := by
  obtain ⟨i0, hi, hz0, hz1, hz2⟩ := info_parts infoByte
  go_enter Tryd.func34, Tryd.ntmps34
  go_wp2_with fail
  go_loopw [3, 4] (fun v u wr => ∃ k : Nat, k ≤ l.length ∧ u = .int .i64 k ∧ wr.ownsRow w.heap.size 5 1 v (hexL (l.take k)).length ((hexL (l.take k)).map B8) ∧ Below w.heap.size w wr) (fun _ u _ => l.length - (intOf u).toNat)
  case atStart => exact ⟨0, Nat.zero_le _, rfl, World.ownsRow_nil _ _ _ _, Below.refl _ _⟩
  case round =>
    obtain ⟨k, hk, rfl, hown, hbw⟩ := hrel
    by_cases hlt : k < l.length
    · have hcell : wr.cell? ⟨b, off + k, none⟩ = some (B8 l[k]) := by rw [hbw.cell (p := ⟨b, off + k, none⟩) hb]; exact hc k hlt
      have hc8 := (l[k]).toNat_lt
      have hlen : (hexL (l.take k)).length ≤ 2 * l.length := by
        rw [hexL_len, List.length_take]; omega
      have hI1 := Lib.hid (hexS_at (l[k].toNat / 16) (by omega))
      have hI2 := Lib.hid (hexS_at (l[k].toNat % 16) (by omega))
      have i1 : (0 : Int) ≤ (k : Int) := by omega
      have i2 : (k : Int) < l.length := by omega
      have hsz := hbw.size
      have hlt9 := hown.lt
      have ag : u3.ownBlock ≠ some b := fun e => by have := hlt9 b e; omega
      have q1 : IntKind.u8.wrap ((l[k].toNat : Int) / 16) = ((l[k].toNat / 16 : Nat) : Int) := by simp [IntKind.wrap, IntKind.signed, IntKind.bits]; omega
      have q2 : ((l[k].toNat : Int)).tmod 16 = ((l[k].toNat % 16 : Nat) : Int) := by rw [Int.tmod_eq_emod_of_nonneg (by omega)]; omega
      have q3 : (0 : Int) ≤ ((l[k].toNat / 16 : Nat) : Int) := by omega
      have q4 : ((l[k].toNat / 16 : Nat) : Int) < 16 := by omega
      have q5 : (0 : Int) ≤ ((l[k].toNat % 16 : Nat) : Int) := by omega
      have q6 : ((l[k].toNat % 16 : Nat) : Int) < 16 := by omega
      go_wp2_with fail
      go_region_held3 (fun w' => w'.cell? ⟨b, off + k, none⟩ = some (B8 l[k]))
        (first
          | go_keep
          | (rw [hgrow.cell_far _ (by simp; omega) (Ne.symm ag)]; assumption))
        ((refine step_append_lies _ (by rfl) _ _ _ (by rfl) w.heap.size 5 i0 _ 1 1 Tryd.underlying39 hi hz0 hz1 hz2 rfl (by omega) u3 _ _ (by rfl) ((hown.alloc _).drew)
            ⟨wr.heap.size, 0, none⟩ 2 2 [_, _] (by rfl) (by rfl) (World.news_of_block (cs := #[_, _]) (t := 5) (fr := (0, 0)) (heap_alloc_new wr _)) (by simp [Value.oneCell'])
            (by omega) (by unfold maxLen; omega) (by omega) (by simp; omega) (wr.heap.size + 1) (by simp) ?_; intro gg cap w1 hown1 hgrow hat hlt2))
      all_goals
        go_wp2_with fail
        go_roundw
        case rel =>
          refine ⟨k + 1, by omega, by go_num, ?_, (((hbw.alloc hsz _).drew).grown hgrow (by simp; omega) (fun k hk => (hlt9 k hk).1))⟩
          have h5 : (hexL (l.take (k + 1))).map B8 = (hexL (l.take k)).map B8 ++ [B8 (hexD (l[k].toNat / 16)), B8 (hexD (l[k].toNat % 16))] := by
            rw [hexL_snoc l k hlt]; simp
          have h6 : (hexL (l.take (k + 1))).length = (hexL (l.take k)).length + 2 := by rw [hexL_snoc l k hlt]; simp
          rw [h5, h6, ← hI1.out, ← hI2.out]
          exact hown1
        case measure => simp [intOf]; omega
    · have hk2 : l.take k = l := List.take_of_length_le (by omega)
      rw [hk2] at hown
      rcases own_bytes hown with ⟨rfl, hnil⟩ | ⟨g, cap, rfl, hg2, hcells⟩
      · have HN := Lib.hid hnil
        have kc := run_convert_bytes_nil (P := Tryd.prog) wr 39 5 Tryd.underlying39 Tryd.underlying5 0 0 9 Tryd.underlying9
        clear hnil hown hk2
        go_wp2_with fail
        go_ret
        exact ⟨by rw [HN.out]; rfl, hbw⟩
      · have kc := run_convert_bytes_back (P := Tryd.prog) wr 39 9 5 ⟨g, 0, none⟩ cap (hexL l) Tryd.underlying39 Tryd.underlying5 Tryd.underlying9 hcells
        clear hown hcells hk2
        go_wp2_with fail
        go_ret
        exact ⟨rfl, hbw⟩
set_option maxRecDepth 100000 in
theorem refHex_none (a : Option Addr) (c : Nat) (w : World) :
    Calls Tryd.prog 34 #[.slice a 0 c] w fun e w' => e = .returned (St (hexL [])) ∧ Below w.heap.size w w' := by
  have kc := run_convert_bytes_nil (P := Tryd.prog) w 39 5 Tryd.underlying39 Tryd.underlying5 0 0 9 Tryd.underlying9
  go_enter Tryd.func34, Tryd.ntmps34
  go_wp2_with fail
  refine wp_loop_rounds 1 ?_
  rw [rounds_succ]
  go_wp2_with fail
  go_ret
  exact ⟨rfl, Below.refl _ _⟩
theorem refHex_s (v : Value) (l : List UInt8) (w : World) (hl : l.length ≤ 4294967280) (h : BysIn w v l) :
    Calls Tryd.prog 34 #[v] w fun e w' => e = .returned (St (hexL l)) ∧ Below w.heap.size w w' := by
  rcases h with ⟨rfl, a, c, rfl⟩ | ⟨b, off, c, rfl, h2, h3⟩
  · exact refHex_none a c w
  · exact refHex_row b off c l w hl h2 h3
end Go.Proofs.YtgmamplnhechjaaDoor
