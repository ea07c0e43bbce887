/-
  The reference of package ascii: Hex, Unhex: what they answer.
-/
import Derived.Test.YtgmamplnhechjaaDoorRefE
set_option linter.unusedSimpArgs false
set_option linter.unusedVariables false
set_option linter.unnecessarySimpa false
namespace Go.Proofs.YtgmamplnhechjaaDoor
open Go.RowKit Go.Bul
theorem refNibble_c (c : UInt8) (w : World) : Calls Tryd.prog 63 #[B8 c] w fun e w' => e = .returned (.int .i64 (nib c)) ∧ w' = w := by
  have hc := c.toNat_lt
  cases hd : diB c
  · have hd' : ¬ (48 ≤ c.toNat ∧ c.toNat ≤ 57) := by simpa [diB] using hd
    have HN := Lib.hid (show nib c = if 97 ≤ c.toNat ∧ c.toNat ≤ 102 then (c.toNat : Int) - 87 else -1 by unfold nib; rw [if_neg hd'])
    clear hd'
    by_cases g1 : 97 ≤ c.toNat
    · by_cases g2 : c.toNat ≤ 102
      · go_enter Tryd.func63, Tryd.ntmps63
        go_wp2_with (go_at_call 42; refine (refDigit_c _ _).mono ?_; rintro e w' ⟨rfl, rfl⟩)
        all_goals
          go_ret
          exact ⟨ret_int (by rw [HN.out, if_pos ⟨g1, g2⟩]), rfl⟩
      · go_enter Tryd.func63, Tryd.ntmps63
        go_wp2_with (go_at_call 42; refine (refDigit_c _ _).mono ?_; rintro e w' ⟨rfl, rfl⟩)
        all_goals
          go_ret
          exact ⟨ret_int (by rw [HN.out, if_neg (fun h => g2 h.2)]), rfl⟩
    · go_enter Tryd.func63, Tryd.ntmps63
      go_wp2_with (go_at_call 42; refine (refDigit_c _ _).mono ?_; rintro e w' ⟨rfl, rfl⟩)
      all_goals
        go_ret
        exact ⟨ret_int (by rw [HN.out, if_neg (fun h => g1 h.1)]), rfl⟩
  · have hd' : 48 ≤ c.toNat ∧ c.toNat ≤ 57 := by simpa [diB] using hd
    have HN := Lib.hid (show nib c = (c.toNat : Int) - 48 by unfold nib; rw [if_pos hd'])
    go_enter Tryd.func63, Tryd.ntmps63
    go_wp2_with (go_at_call 42; refine (refDigit_c _ _).mono ?_; rintro e w' ⟨rfl, rfl⟩)
    all_goals
      go_ret
      exact ⟨ret_int HN.out.symm, rfl⟩
set_option maxRecDepth 100000 in
set_option maxHeartbeats 400000 in
theorem refUnhex_even (s : ByteArray) (hs : s.size ≤ 4294967280) (hm : s.size % 2 = 0) (w : World) :
    Calls Tryd.prog 35 #[.string s] w fun e w' => UnhexPost w.heap.size (unhexA s.data.toList) e w' ∧ Below w.heap.size w w' := by
  obtain ⟨i0, hi, hz0, hz1, hz2⟩ := info_parts infoByte
  have hodd : (((s.size : Int) % 2) == 1) = false := by simp; omega
  have HM := Lib.hid hm
  clear hm
  go_enter Tryd.func35, Tryd.ntmps35
  go_wp2_with fail
  go_loopw [4, 5] (fun v i wr => ∃ (k : Nat) (bs : List UInt8), k ≤ s.size ∧ i = .int .i64 k ∧ wr.ownsRow w.heap.size 5 1 v bs.length (bs.map B8) ∧ Below w.heap.size w wr ∧ (2 * bs.length = k ∧ unhexA s.data.toList = (unhexA (s.data.toList.drop k)).map (bs ++ ·))) (fun _ i _ => s.size - (intOf i).toNat)
  case atStart => exact ⟨0, [], Nat.zero_le _, rfl, World.ownsRow_nil _ _ _ _, Below.refl _ _, rfl, by simp⟩
  case round =>
    obtain ⟨k, bs, hk, rfl, hown, hbw, hlu⟩ := hrel
    have HU := Lib.hid hlu.2
    have HL := Lib.hid hlu.1
    clear hlu
    by_cases hlt : k < s.size
    · have hb2 : k + 1 < s.size := by have := HM.out; have := HL.out; omega
      have hi1 : (0 : Int) ≤ (k : Int) := by omega
      have hi2 : (0 : Int) ≤ (k : Int) + 1 := by omega
      have hi3 : (k : Int) + 1 < s.size := by omega
      have hi4 : (k : Int) < s.size := by omega
      have hst := unhex_step s k hlt hb2
      have HS := Lib.hid hst
      clear hst
      have hn1 := nib_bd s[k]
      have hn2 := nib_bd s[k + 1]
      go_wp2_with fail
      go_quiet ((go_at_call 63; exact Calls.quiet_of_same (refNibble_c _ _)))
      have hbw2 : Below w.heap.size w (wr.drewN nq) := below_drewN hbw _
      by_cases g1 : nib s[k] < 0
      · go_wp2_with fail
        go_ret2
        exact ⟨by rw [HU.out, HS.out, if_pos (.inl g1)]; rfl, hbw2⟩
      · by_cases g2 : nib s[k + 1] < 0
        · go_wp2_with fail
          go_ret2
          exact ⟨by rw [HU.out, HS.out, if_pos (.inr g2)]; rfl, hbw2⟩
        · have g1' : 0 ≤ nib s[k] := by omega
          have g2' : 0 ≤ nib s[k + 1] := by omega
          have hown2 : (wr.drewN nq).ownsRow w.heap.size 5 1 u4 bs.length (bs.map B8) := hown
          have hlen : bs.length ≤ 4294967280 := by have := HL.out; omega
          have hsz : w.heap.size ≤ wr.heap.size := hbw.size
          have hlt9 := hown2.lt
          go_wp2_with (at_builtin; refine wpList_append_own _ rfl _ _ 39 rfl w.heap.size 5 i0 (.int .u8 0) 1 1 Tryd.underlying39 hi hz0 hz1 hz2 rfl (by decide) _ _ _ rfl (hown2.alloc _) ⟨(wr.drewN nq).heap.size, 0, none⟩ 1 1 [_] rfl rfl (cell_one_new _ _ _) (by simp [Value.oneCell']) (by unfold maxLen; omega) (by omega) (by simp; omega) ?_; intro v' w1 hown1 hgr1 _)
          go_roundw
          case rel =>
            refine ⟨k + 2, bs ++ [UInt8.ofNat (16 * (nib s[k]).toNat + (nib s[k + 1]).toNat)], by omega, by go_num, ?_, ?_, ?_, ?_⟩
            · rw [List.length_append, List.map_append, List.map_singleton]
              have h5 : B8 (UInt8.ofNat (16 * (nib s[k]).toNat + (nib s[k + 1]).toNat)) = .int .u8 (16 * nib s[k] + nib s[k + 1]) := by
                have := byte_of (nib s[k]) (nib s[k + 1]) g1' hn1.2 g2' hn2.2 _ rfl
                show Value.int .u8 _ = _
                rw [this]
              rw [h5]
              exact hown1
            · exact (hbw2.alloc hsz _).grown hgr1 (by simp; omega) (fun k hk => (hlt9 k hk).1)
            · have := HL.out; simp; omega
            · rw [HU.out, HS.out, if_neg (by omega), Option.map_map]
              congr 1
              funext l
              simp
          case measure => simp [intOf]; omega
    · go_wp2_with fail
      go_ret2
      refine ⟨?_, hbw⟩
      rw [HU.out, List.drop_eq_nil_of_le (by simp; omega)]
      exact ⟨u4, rfl, by simpa using hown⟩
theorem unhexA_odd : ∀ l : List UInt8, l.length % 2 = 1 → unhexA l = none
  | [], h => by simp at h
  | [_], _ => rfl
  | a :: b :: l, h => by
    have := unhexA_odd l (by simp at h; omega)
    unfold unhexA
    rw [this]
    split <;> rfl
theorem refUnhex_s (s : ByteArray) (hs : s.size ≤ 4294967280) (w : World) :
    Calls Tryd.prog 35 #[.string s] w fun e w' => UnhexPost w.heap.size (unhexA s.data.toList) e w' ∧ Below w.heap.size w w' := by
  by_cases hm : s.size % 2 = 0
  · exact refUnhex_even s hs hm w
  · have ho := unhexA_odd s.data.toList (by have : s.data.toList.length = s.size := by simp
                                            omega)
    rw [ho]
    have hodd : (((s.size : Int) % 2) == 1) = true := by simp; omega
    clear hm
    go_enter Tryd.func35, Tryd.ntmps35
    go_wp2_with fail
    go_ret2
    exact ⟨rfl, Below.refl _ _⟩
theorem unhex_s (s : ByteArray) (hs : s.size ≤ 4294967280) (w : World) :
    Calls Tryd.prog 33 #[.string s] w fun e w' => UnhexPost w.heap.size (unhexA s.data.toList) e w' ∧ Below w.heap.size w w' := by
  by_cases hm : s.size % 2 = 0
  · exact unhex_even s hs hm w
  · have ho := unhexA_odd s.data.toList (by have : s.data.toList.length = s.size := by simp
                                            omega)
    rw [ho]
    have hodd : (((s.size : Int) % 2) != 0) = true := by simp; omega
    clear hm
    go_enter Tryd.func33, Tryd.ntmps33
    go_wp2_with fail
    go_ret2
    exact ⟨rfl, Below.refl _ _⟩
end Go.Proofs.YtgmamplnhechjaaDoor
