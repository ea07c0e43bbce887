/-
  Unhex: what it answers.
-/
import Derived.Test.YtkiheanpamplpaaDoorAscH
set_option linter.unusedSimpArgs false
set_option linter.unusedVariables false
set_option linter.unnecessarySimpa false
namespace Go.Proofs.YtkiheanpamplpaaDoor
open Go.RowKit Go.Bul
def nib (c : UInt8) : Int := if 48 ≤ c.toNat ∧ c.toNat ≤ 57 then c.toNat - 48 else if 97 ≤ c.toNat ∧ c.toNat ≤ 102 then c.toNat - 87 else -1
set_option maxRecDepth 100000 in
theorem nib_eq (c : UInt8) : Lib.indexByte hexS.data.toList c = nib c := by
  have h : ∀ k : Fin 256, Lib.indexByte hexS.data.toList (UInt8.ofNat k.val) = nib (UInt8.ofNat k.val) := by decide
  have := h ⟨c.toNat, c.toNat_lt⟩
  simpa using this
theorem nib_bd (c : UInt8) : -1 ≤ nib c ∧ nib c ≤ 15 := by
  unfold nib; split
  · omega
  · split <;> omega
def unhexA : List UInt8 → Option (List UInt8)
  | [] => some []
  | [_] => none
  | a :: b :: l => if nib a < 0 ∨ nib b < 0 then none else (unhexA l).map (UInt8.ofNat (16 * (nib a).toNat + (nib b).toNat) :: ·)
theorem infoByte : (Tryd.prog.info? 5).map (fun i => (i.zero, i.size, i.bytes)) = some (some (.int .u8 0), 1, 1) := by kernel_rfl
def UnhexPost (B : Nat) (o : Option (List UInt8)) (e : Ending) (w' : World) : Prop :=
  match o with
  | some bs => ∃ v, e = .returned (.tuple #[v, .int .i64 0]) ∧ w'.ownsRow B 5 1 v bs.length (bs.map B8)
  | none => e = .returned (.tuple #[.slice none 0 0, .int .i64 3])
set_option maxRecDepth 100000 in
theorem or_nibs (a b : Int) (ha : 0 ≤ a) (ha' : a ≤ 15) (hb : 0 ≤ b) (hb' : b ≤ 15) : bits BinOp.or IntKind.i64 (a * 16) b = 16 * a + b := by
  have h : ∀ x y : Fin 16, bits BinOp.or IntKind.i64 ((x.val : Int) * 16) (y.val : Int) = 16 * (x.val : Int) + y.val := by decide +kernel
  have := h ⟨a.toNat, by omega⟩ ⟨b.toNat, by omega⟩
  simpa [Int.toNat_of_nonneg ha, Int.toNat_of_nonneg hb] using this
theorem unhex_step (s : ByteArray) (k : Nat) (h1 : k < s.size) (h2 : k + 1 < s.size) : unhexA (s.data.toList.drop k) =
    if nib s[k] < 0 ∨ nib s[k + 1] < 0 then none else (unhexA (s.data.toList.drop (k + 2))).map (UInt8.ofNat (16 * (nib s[k]).toNat + (nib s[k + 1]).toNat) :: ·) := by
  rw [drop_at s k h1, drop_at s (k + 1) h2]; rfl
theorem byte_of (a b : Int) (ha : 0 ≤ a) (ha' : a ≤ 15) (hb : 0 ≤ b) (hb' : b ≤ 15) : ∀ x : Int, x = 16 * a + b → ((UInt8.ofNat (16 * a.toNat + b.toNat)).toNat : Int) = x := by
  intro x hx
  rw [UInt8.toNat_ofNat']
  omega
end Go.Proofs.YtkiheanpamplpaaDoor
