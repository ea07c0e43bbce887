/-
  Unhex: what it answers.
-/
import Derived.Test.YtgmamplnhechjaaDoorAscH
set_option linter.unusedSimpArgs false
set_option linter.unusedVariables false
set_option linter.unnecessarySimpa false
namespace Go.Proofs.YtgmamplnhechjaaDoor
open Go.RowKit Go.Bul
def nib (c : UInt8) : Int := if 48 ≤ c.toNat ∧ c.toNat ≤ 57 then c.toNat - 48 else if 97 ≤ c.toNat ∧ c.toNat ≤ 102 then c.toNat - 87 else -1
set_option maxRecDepth 100000 in
theorem nib_eq (c : UInt8) : Lib.indexByte hexS.data.toList c = nib c := by
  have h : ∀ k : Fin 256, Lib.indexByte hexS.data.toList (UInt8.ofNat k.val) = nib (UInt8.ofNat k.val) := by decide
  have := h ⟨c.toNat, c.toNat_lt⟩
  simpa using this
theorem nib_bd (c : UInt8) : -1 ≤ nib c ∧ nib c ≤ 15 := by
  unfold nib; split
  · omega
  · split <;> omega
def unhexA : List UInt8 → Option (List UInt8)
  | [] => some []
  | [_] => none
  | a :: b :: l => if nib a < 0 ∨ nib b < 0 then none else (unhexA l).map (UInt8.ofNat (16 * (nib a).toNat + (nib b).toNat) :: ·)
theorem value_c (c : UInt8) (w : World) : Calls Tryd.prog 61 #[B8 c] w fun e w' => e = .returned (.int .i64 (nib c)) ∧ w = w' := by
  go_enter Tryd.func61, Tryd.ntmps61
  go_wp2_with (go_at_call 62; refine (indexByte_g _ _ _).mono ?_; rintro e w' ⟨rfl, rfl⟩)
  go_ret
  exact ⟨ret_int (by have := nib_eq c; rw [← this]; simp [hexS]), rfl⟩
theorem cf_value (args : Array Value) (w : World) : (callFunc 61 args).run Tryd.prog w = .ok (.enter 61 args) w := by kernel_rfl
theorem infoByte : (Tryd.prog.info? 5).map (fun i => (i.zero, i.size, i.bytes)) = some (some (.int .u8 0), 1, 1) := by kernel_rfl
theorem value_q (c : UInt8) (w : World) : Calls Tryd.prog 61 #[B8 c] w fun e w' => e = .returned (.int .i64 (nib c)) ∧ w' = w :=
  (value_c c w).mono fun _ _ ⟨he, hw⟩ => ⟨he, hw.symm⟩
def UnhexPost (B : Nat) (o : Option (List UInt8)) (e : Ending) (w' : World) : Prop :=
  match o with
  | some bs => ∃ v, e = .returned (.tuple #[v, .int .i64 0]) ∧ w'.ownsRow B 5 1 v bs.length (bs.map B8)
  | none => e = .returned (.tuple #[.slice none 0 0, .int .i64 3])
set_option maxRecDepth 100000 in
theorem or_nibs (a b : Int) (ha : 0 ≤ a) (ha' : a ≤ 15) (hb : 0 ≤ b) (hb' : b ≤ 15) : bits BinOp.or IntKind.i64 (a * 16) b = 16 * a + b := by
  have h : ∀ x y : Fin 16, bits BinOp.or IntKind.i64 ((x.val : Int) * 16) (y.val : Int) = 16 * (x.val : Int) + y.val := by decide +kernel
  have := h ⟨a.toNat, by omega⟩ ⟨b.toNat, by omega⟩
  simpa [Int.toNat_of_nonneg ha, Int.toNat_of_nonneg hb] using this
theorem unhex_step (s : ByteArray) (k : Nat) (h1 : k < s.size) (h2 : k + 1 < s.size) : unhexA (s.data.toList.drop k) =
    if nib s[k] < 0 ∨ nib s[k + 1] < 0 then none else (unhexA (s.data.toList.drop (k + 2))).map (UInt8.ofNat (16 * (nib s[k]).toNat + (nib s[k + 1]).toNat) :: ·) := by
  rw [drop_at s k h1, drop_at s (k + 1) h2]; rfl
theorem byte_of (a b : Int) (ha : 0 ≤ a) (ha' : a ≤ 15) (hb : 0 ≤ b) (hb' : b ≤ 15) : ∀ x : Int, x = 16 * a + b → ((UInt8.ofNat (16 * a.toNat + b.toNat)).toNat : Int) = x := by
  intro x hx
  rw [UInt8.toNat_ofNat']
  omega
set_option maxRecDepth 100000 in
set_option maxHeartbeats 400000 in
theorem unhex_even (s : ByteArray) (hs : s.size ≤ 4294967280) (hm : s.size % 2 = 0) (w : World) :
    Calls Tryd.prog 33 #[.string s] w fun e w' => UnhexPost w.heap.size (unhexA s.data.toList) e w' ∧ Below w.heap.size w w' := by
  obtain ⟨i0, hi, hz0, hz1, hz2⟩ := info_parts infoByte
  have hodd : (((s.size : Int) % 2) != 0) = false := by simp; omega
  have HM := Lib.hid hm
  clear hm
  go_enter Tryd.func33, Tryd.ntmps33
  go_wp2_with fail
  go_loopw [4, 6] (fun v i wr => ∃ (k : Nat) (bs : List UInt8), k ≤ s.size ∧ i = .int .i64 k ∧ wr.ownsRow w.heap.size 5 1 v bs.length (bs.map B8) ∧ Below w.heap.size w wr ∧ (2 * bs.length = k ∧ unhexA s.data.toList = (unhexA (s.data.toList.drop k)).map (bs ++ ·))) (fun _ i _ => s.size - (intOf i).toNat)
  case atStart => exact ⟨0, [], Nat.zero_le _, rfl, World.ownsRow_nil _ _ _ _, Below.refl _ _, rfl, by simp⟩
  case round =>
    obtain ⟨k, bs, hk, rfl, hown, hbw, hlu⟩ := hrel
    have HU := Lib.hid hlu.2
    have HL := Lib.hid hlu.1
    clear hlu
    by_cases hlt : k < s.size
    · have hb2 : k + 1 < s.size := by have := HM.out; have := HL.out; omega
      have hi1 : (0 : Int) ≤ (k : Int) := by omega
      have hi2 : (0 : Int) ≤ (k : Int) + 1 := by omega
      have hi3 : (k : Int) + 1 < s.size := by omega
      have hi4 : (k : Int) < s.size := by omega
      have hst := unhex_step s k hlt hb2
      have HS := Lib.hid hst
      clear hst
      have hn1 := nib_bd s[k]
      have hn2 := nib_bd s[k + 1]
      go_wp2_with fail
      go_quiet ((go_at_call 61; exact Calls.quiet_of_same (value_q _ _)))
      have hbw2 : Below w.heap.size w (wr.drewN nq) := below_drewN hbw _
      by_cases g1 : nib s[k] < 0
      · go_wp2_with fail
        go_ret2
        exact ⟨by rw [HU.out, HS.out, if_pos (.inl g1)]; rfl, hbw2⟩
      · by_cases g2 : nib s[k + 1] < 0
        · go_wp2_with fail
          go_ret2
          exact ⟨by rw [HU.out, HS.out, if_pos (.inr g2)]; rfl, hbw2⟩
        · have g1' : 0 ≤ nib s[k] := by omega
          have g2' : 0 ≤ nib s[k + 1] := by omega
          have hown2 : (wr.drewN nq).ownsRow w.heap.size 5 1 u4 bs.length (bs.map B8) := hown
          have hlen : bs.length ≤ 4294967280 := by have := HL.out; omega
          have hor := or_nibs (nib s[k]) (nib s[k + 1]) g1' hn1.2 g2' hn2.2
          have HO := Lib.hid hor
          clear hor
          have hsz := hbw.size
          have hlt9 := hown2.lt
          go_wp2_with (at_builtin; refine wpList_append_own _ rfl _ _ 39 rfl w.heap.size 5 i0 (.int .u8 0) 1 1 Tryd.underlying39 hi hz0 hz1 hz2 rfl (by decide) _ _ _ rfl (hown2.alloc _) ⟨(wr.drewN nq).heap.size, 0, none⟩ 1 1 [.int .u8 (bits BinOp.or IntKind.i64 (nib s[k] * 16) (nib s[k + 1]) % 256)] rfl rfl (cell_one_new _ _ _) (by simp [Value.oneCell']) (by unfold maxLen; omega) (by omega) (by simp; omega) ?_; intro v' w1 hown1 hgr1 _)
          go_roundw
          case rel =>
            refine ⟨k + 2, bs ++ [UInt8.ofNat (16 * (nib s[k]).toNat + (nib s[k + 1]).toNat)], by omega, by go_num, ?_, ?_, ?_, ?_⟩
            · rw [List.length_append, List.map_append, List.map_singleton]
              have h5 : B8 (UInt8.ofNat (16 * (nib s[k]).toNat + (nib s[k + 1]).toNat)) = .int .u8 (bits BinOp.or IntKind.i64 (nib s[k] * 16) (nib s[k + 1]) % 256) := by
                rw [HO.out]
                have := byte_of (nib s[k]) (nib s[k + 1]) g1' hn1.2 g2' hn2.2 _ rfl
                show Value.int .u8 _ = _
                rw [this]
                congr 1
                omega
              rw [h5]
              exact hown1
            · exact (hbw2.alloc hsz _).grown hgr1 (by simp; omega) (fun k hk => (hlt9 k hk).1)
            · have := HL.out; simp; omega
            · rw [HU.out, HS.out, if_neg (by omega), Option.map_map]
              congr 1
              funext l
              simp
          case measure => simp [intOf]; omega
    · go_wp2_with fail
      go_ret2
      refine ⟨?_, hbw⟩
      rw [HU.out, List.drop_eq_nil_of_le (by simp; omega)]
      exact ⟨u4, rfl, by simpa using hown⟩
end Go.Proofs.YtgmamplnhechjaaDoor
