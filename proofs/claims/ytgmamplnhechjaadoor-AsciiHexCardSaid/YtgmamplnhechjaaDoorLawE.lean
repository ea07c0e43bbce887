/-
  The law AsciiHex, walked.
-/
import Derived.Test.YtgmamplnhechjaaDoorLawD
set_option linter.unusedSimpArgs false
set_option linter.unusedVariables false
set_option linter.unnecessarySimpa false
namespace Go.Proofs.YtgmamplnhechjaaDoor
open Go.RowKit Go.Bul
theorem unhex_t (l bs : List UInt8) (hl : (⟨l.toArray⟩ : ByteArray).size ≤ 4294967280) (h : unhexA l = some bs) (w : World) :
    Calls Tryd.prog 33 #[.string ⟨l.toArray⟩] w fun e w' => ∃ v, e = .returned (.tuple #[v, .int .i64 0]) ∧ BysIn w' v bs ∧ Below w.heap.size w w' :=
  unhex_x ⟨l.toArray⟩ bs hl h w
theorem BysIn.cut {w : World} {b off c : Nat} {l : List UInt8} (m : Nat) (hm : m ≤ l.length) (hb : b < w.heap.size) (hc : ∀ j (h : j < l.length), w.cell? ⟨b, off + j, none⟩ = some (B8 l[j])) :
    BysIn w (.slice (some ⟨b, off, none⟩) m c) (l.take m) := by
  refine .inr ⟨b, off, c, by rw [List.length_take, Nat.min_eq_left hm], hb, fun j hj => ?_⟩
  rw [List.length_take] at hj
  rw [hc j (by omega)]
  simp
set_option maxRecDepth 100000 in
set_option maxHeartbeats 8000000 in
theorem lawHex_row (b off c : Nat) (l : List UInt8) (hl : l.length ≤ maxLen) (hlc : l.length ≤ c) (w : World) (hg : Gl w) (hb : b < w.heap.size) (hc : ∀ j (h : j < l.length), w.cell? ⟨b, off + j, none⟩ = some (B8 l[j])) :
    Calls Tryd.prog 9 #[.slice (some ⟨b, off, none⟩) l.length c] w fun e w' => e = .returned (.bool true) ∧ Below w.heap.size w w' := by
  have HG := Lib.hid hg
  have R0 := Lib.hid (BysIn.cut (w := w) (c := c) (min (l.length : Int) 300).toNat (by omega) hb hc)
  have hq : (l.take (min (l.length : Int) 300).toNat).length ≤ 300 := by rw [List.length_take]; omega
  have hu := unhex_hex (l.take (min (l.length : Int) 300).toNat)
  have hs : (⟨(hexL (l.take (min (l.length : Int) 300).toNat)).toArray⟩ : ByteArray).size ≤ 4294967280 := by rw [size_of (hexL (l.take (min (l.length : Int) 300).toNat)), hexL_len]; omega
  generalize l.take (min (l.length : Int) 300).toNat = q at *
  have HU := Lib.hid hu
  have HS := Lib.hid hs
  have HQ := Lib.hid hq
  clear hg hc hu hs hq hb
  unfold maxLen at hl
  go_enter Tryd.func9, Tryd.ntmps9
  go_wp2_with fail
  generalize (min (l.length : Int) 300).toNat = m at *
  refine (hex_s _ q _ (by have := HQ.out; omega) R0.out).mono ?_
  rintro e w1 ⟨rfl, c1⟩
  have R1 := Lib.hid (R0.out.below c1)
  clear R0
  go_wp2_with fail
  refine (unhex_t _ q HS.out HU.out _).mono ?_
  rintro e w2 ⟨v2, rfl, r2, b2⟩
  have c2 := c1.trans (b2.mono c1.size)
  have R2 := Lib.hid (R1.out.below b2)
  have S2 := Lib.hid r2
  clear R1 r2 b2 c1
  go_wp2_with fail
  refine (known_s _ (HG.out.below c2)).mono ?_
  rintro e w3 ⟨rfl, b3⟩
  have c3 := c2.trans (b3.mono c2.size)
  have R3 := Lib.hid (R2.out.below b3)
  have S3 := Lib.hid (S2.out.below b3)
  clear R2 S2 b3 c2
  go_wp2_with fail
  refine (refHex_s _ q _ (by have := HQ.out; omega) R3.out).mono ?_
  rintro e w4 ⟨rfl, b4⟩
  have c4 := c3.trans (b4.mono c3.size)
  have r4 := R3.out.below b4
  have s4 := S3.out.below b4
  clear R3 S3 b4 c3
  have k1 := r4.conv
  have k2 := s4.conv
  clear r4 s4
  go_wp2_with fail
  go_ret
  exact ⟨ret_bool (by simp), c4⟩
set_option maxRecDepth 100000 in
set_option maxHeartbeats 8000000 in
theorem lawHex_none (a : Option Addr) (c : Nat) (w : World) (hg : Gl w) :
    Calls Tryd.prog 9 #[.slice a 0 c] w fun e w' => e = .returned (.bool true) ∧ Below w.heap.size w w' := by
  have HG := Lib.hid hg
  have HU := Lib.hid (unhex_hex [])
  clear hg
  go_enter Tryd.func9, Tryd.ntmps9
  go_wp2_with fail
  rw [show (min (0 : Int) 300).toNat = 0 from rfl]
  refine (hex_none _ _ _).mono ?_
  rintro e w1 ⟨rfl, c1⟩
  go_wp2_with fail
  refine (unhex_t _ [] (by decide) HU.out _).mono ?_
  rintro e w2 ⟨v2, rfl, r2, b2⟩
  have c2 := c1.trans (b2.mono c1.size)
  have S2 := Lib.hid r2
  clear r2 b2 c1
  go_wp2_with fail
  refine (known_s _ (HG.out.below c2)).mono ?_
  rintro e w3 ⟨rfl, b3⟩
  have c3 := c2.trans (b3.mono c2.size)
  have S3 := Lib.hid (S2.out.below b3)
  clear S2 b3 c2
  go_wp2_with fail
  refine (refHex_none _ _ _).mono ?_
  rintro e w4 ⟨rfl, b4⟩
  have c4 := c3.trans (b4.mono c3.size)
  have s4 := S3.out.below b4
  clear S3 b4 c3
  have k2 := s4.conv
  have k1 := (show BysIn w4 (.slice a 0 c) [] from .inl ⟨rfl, a, c, rfl⟩).conv
  clear s4
  go_wp2_with fail
  go_ret
  exact ⟨ret_bool (by simp), c4⟩
theorem lawHex_s (v : Value) (l : List UInt8) (hl : l.length ≤ maxLen) (w : World) (hg : Gl w) (h : BysIn w v l) (hcap : ∀ a n c, v = .slice a n c → n ≤ c) :
    Calls Tryd.prog 9 #[v] w fun e w' => e = .returned (.bool true) ∧ Below w.heap.size w w' := by
  rcases h with ⟨rfl, a, c, rfl⟩ | ⟨b, off, c, rfl, h2, h3⟩
  · exact lawHex_none a c w hg
  · exact lawHex_row b off c l hl (hcap _ _ _ rfl) w hg h2 h3
end Go.Proofs.YtgmamplnhechjaaDoor
