/-
  The examples of the chapter on mail: the message, its text, its bounce.
-/
import Derived.Test.YtkiheanpamplpaaDoorQueE
set_option linter.unusedSimpArgs false
set_option linter.unusedVariables false
set_option linter.unnecessarySimpa false
namespace Go.Proofs.YtkiheanpamplpaaDoor
open Go.RowKit Go.Bul Go.Maps
def sAnn : ByteArray := ⟨#[97, 110, 110]⟩
def sA : ByteArray := ⟨#[97]⟩
def sBob : ByteArray := ⟨#[98, 111, 98]⟩
def sB : ByteArray := ⟨#[98]⟩
def sHi : ByteArray := ⟨#[72, 105]⟩
def sX : ByteArray := ⟨#[120]⟩
def km : Ms := ⟨sAnn, sA, sBob, sB, 7, 100, sHi, [], sX⟩
theorem it7 : Lib.itoa 7 = [55] := by unfold Lib.itoa; rw [if_neg (by decide), show Int.toNat 7 = 7 from rfl, dec_small (by decide)]; rfl
theorem it8 : Lib.itoa 8 = [56] := by unfold Lib.itoa; rw [if_neg (by decide), show Int.toNat 8 = 8 from rfl, dec_small (by decide)]; rfl
theorem it100 : Lib.itoa 100 = [49, 48, 48] := by
  unfold Lib.itoa
  rw [if_neg (by decide), show Int.toNat 100 = 100 from rfl, dec_big (by decide), show 100 / 10 = 10 from rfl, dec_big (by decide), show 10 / 10 = 1 from rfl, dec_small (by decide)]
  rfl
def kmT : ByteArray := ⟨#[70, 114, 111, 109, 58, 32, 97, 110, 110, 64, 97, 10, 84, 111, 58, 32, 98, 111, 98, 64, 98, 10, 78, 117, 109, 98, 101, 114, 58, 32, 55, 10, 68, 97, 116, 101, 58, 32, 49, 48, 48, 10, 72, 111, 112, 115, 58, 10, 83, 117, 98, 106, 101, 99, 116, 58, 32, 72, 105, 10, 10, 120]⟩
theorem km_ok : km.Ok := ⟨by decide, by decide, by decide, by decide, by decide, by decide, (fun z hz => by cases hz), by decide⟩
theorem km_check : checkE km = 0 := by decide +kernel
theorem km_flds : fldsM km = [(nm0, ⟨#[97, 110, 110, 64, 97]⟩), (nm1, ⟨#[98, 111, 98, 64, 98]⟩), (nm2, ⟨#[55]⟩), (nm3, ⟨#[49, 48, 48]⟩), (nm4, ⟨#[]⟩), (nm5, sHi)] := by
  unfold fldsM numT
  rw [show km.nu = 7 from rfl, show km.da = 100 from rfl, it7, it100]
  rfl
theorem km_printF : printF (fldsM km) = (0, ⟨#[70, 114, 111, 109, 58, 32, 97, 110, 110, 64, 97, 10, 84, 111, 58, 32, 98, 111, 98, 64, 98, 10, 78, 117, 109, 98, 101, 114, 58, 32, 55, 10, 68, 97, 116, 101, 58, 32, 49, 48, 48, 10, 72, 111, 112, 115, 58, 10, 83, 117, 98, 106, 101, 99, 116, 58, 32, 72, 105, 10]⟩) := by
  rw [km_flds]
  decide +kernel
theorem km_printE : printE km = 0 := by unfold printE; rw [if_neg (by rw [km_check]; simp), km_printF]
theorem km_printT : printT km = kmT := by
  unfold printT
  rw [if_neg (by rw [km_printE]; simp), km_printF]
  rfl
def kmB : ByteArray := ⟨#[98, 111, 98, 64, 98, 32, 56, 10, 72, 105, 10]⟩
theorem km_bounceB : bounceB km 8 = kmB := by
  unfold bounceB
  rw [it8]
  rfl
theorem km_bounce : bounceM km sA 8 50 = ⟨⟨#[]⟩, sA, sAnn, sA, 7, 50, ⟨#[78, 111, 116, 32, 100, 101, 108, 105, 118, 101, 114, 101, 100]⟩, [], kmB⟩ := by
  unfold bounceM
  rw [km_bounceB]
  rfl
theorem sA_site : siteE sA = 0 := by decide +kernel
/-- what stands while the examples are gone through -/
structure KI (w : World) (qb mb : Nat) (last : Int) (n : Nat) (D : DataW Value) (w' : World) : Prop where
  q : QAt w' qb sA last mb n D
  m : MsgAt w' w.heap.size km (.slice none 0 0)
  b : Below w.heap.size w w'
  hq : w.heap.size < qb
  hm : w.heap.size < mb
  s : w.heap.size < w'.heap.size
theorem KI.below {w : World} {qb mb : Nat} {last : Int} {n : Nat} {D : DataW Value} {w1 w2 : World} (h : KI w qb mb last n D w1) (hb : Below w1.heap.size w1 w2) : KI w qb mb last n D w2 :=
  ⟨h.q.below hb, h.m.below hb h.s, h.b.trans (hb.mono h.b.size), h.hq, h.hm, Nat.lt_of_lt_of_le h.s hb.size⟩
theorem KI.but2 {w : World} {qb mb : Nat} {last last' : Int} {n n' : Nat} {D D' : DataW Value} {w1 w2 : World} (h : KI w qb mb last n D w1) (hq : QAt w2 qb sA last' mb n' D') (hb : But2 qb mb w1 w2) : KI w qb mb last' n' D' w2 :=
  ⟨hq, h.m.but2 hb h.s (Nat.ne_of_lt h.hq) (Nat.ne_of_lt h.hm), h.b.trans (hb.to_below (Nat.le_of_lt h.s) (Nat.le_of_lt h.hq) (Nat.le_of_lt h.hm)), h.hq, h.hm, Nat.lt_of_lt_of_le h.s hb.size⟩
theorem KI.new {w : World} {qb mb : Nat} {last : Int} {n : Nat} {D : DataW Value} {w1 : World} (h : KI w qb mb last n D w1) (o : Obj) : KI w qb mb last n D (w1.alloc o) := h.below ((Below.refl _ _).alloc (Nat.le_refl _) o)
theorem OwnH.nil {B : Nat} {w : World} {v : Value} (h : OwnH B w v []) : (∃ a l c, v = .slice a l c) ∧ HopsIn w v [] := ⟨owns_slice h, h.hops⟩
end Go.Proofs.YtkiheanpamplpaaDoor
