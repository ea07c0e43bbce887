/-
  Package mail: the text of a message.
-/
import Derived.Test.YtkiheanpamplpaaDoorFldD
import Derived.Test.YtkiheanpamplpaaDoorAdrA
set_option linter.unusedSimpArgs false
set_option linter.unusedVariables false
set_option linter.unnecessarySimpa false
namespace Go.Proofs.YtkiheanpamplpaaDoor
open Go.RowKit Go.Bul
def nm0 : ByteArray := ⟨#[70, 114, 111, 109]⟩
def nm1 : ByteArray := ⟨#[84, 111]⟩
def nm2 : ByteArray := ⟨#[78, 117, 109, 98, 101, 114]⟩
def nm3 : ByteArray := ⟨#[68, 97, 116, 101]⟩
def nm4 : ByteArray := ⟨#[72, 111, 112, 115]⟩
def nm5 : ByteArray := ⟨#[83, 117, 98, 106, 101, 99, 116]⟩
theorem names_s (w : World) : Calls Tryd.prog 59 #[] w fun e w' => e = .returned (.agg #[.string nm0, .string nm1, .string nm2, .string nm3, .string nm4, .string nm5]) ∧ Below w.heap.size w w' := by
  go_enter Tryd.func59, Tryd.ntmps59
  go_wp2_with fail
  refine bodyPost_ret (results_cell_row rfl _ _ w.heap.size _ _ _ _ rfl (heap_alloc_new _ _) Tryd.underlying102 rfl (by kernel_rfl)) rfl ⟨rfl, (Below.refl _ _).alloc (Nat.le_refl _) _⟩
def adT (u s : ByteArray) : ByteArray := u ++ ⟨#[64]⟩ ++ s
def numT (n : Int) : ByteArray := ⟨(Lib.itoa n).toArray⟩
def hopT (l : List ByteArray) : ByteArray := ⟨(Lib.join (l.map (·.data.toList)) [32]).toArray⟩
def fldsM (m : Ms) : List (ByteArray × ByteArray) := [(nm0, adT m.fu m.fs), (nm1, adT m.tu m.ts), (nm2, numT m.nu), (nm3, numT m.da), (nm4, hopT m.ho), (nm5, m.su)]
def printE (m : Ms) : Int := if checkE m ≠ 0 then checkE m else (printF (fldsM m)).1
def printT (m : Ms) : ByteArray := if printE m ≠ 0 then ⟨#[]⟩ else (printF (fldsM m)).2 ++ ⟨#[10]⟩ ++ m.bo
theorem info105 : (Tryd.prog.info? 105).map (fun i => (i.zero, i.size, i.bytes)) = some (some (.agg #[.string ⟨#[]⟩, .string ⟨#[]⟩]), 2, 32) := by kernel_rfl
def cellsF (fs : List (ByteArray × ByteArray)) : List Value := fs.flatMap fun f => [.string f.1, .string f.2]
theorem cellsF_snoc (fs : List (ByteArray × ByteArray)) (f : ByteArray × ByteArray) : cellsF (fs ++ [f]) = cellsF fs ++ [.string f.1, .string f.2] := by unfold cellsF; rw [List.flatMap_append]; rfl
theorem cellsF_at : ∀ (fs : List (ByteArray × ByteArray)) (j : Nat) (h : j < fs.length), (cellsF fs)[j * 2]? = some (.string fs[j].1) ∧ (cellsF fs)[j * 2 + 1]? = some (.string fs[j].2)
  | [], j, h => absurd h (Nat.not_lt_zero _)
  | f :: r, 0, h => ⟨rfl, rfl⟩
  | f :: r, j + 1, h => by
    have := cellsF_at r j (by simpa using h)
    have e : cellsF (f :: r) = .string f.1 :: .string f.2 :: cellsF r := rfl
    rw [e, show (j + 1) * 2 = j * 2 + 2 by omega]
    exact this
theorem FldsIn.of_owns {w : World} {B : Nat} {v : Value} {fs : List (ByteArray × ByteArray)} (h : w.ownsRow B 105 2 v fs.length (cellsF fs)) : FldsIn w v fs := by
  have hlt := h.lt
  rcases h.2 with ⟨h1, h2⟩ | ⟨g, c, cur, h1, h2, h3, h4, h5⟩
  · exact .inl ⟨List.eq_nil_of_length_eq_zero h2, _, _, h1, fun _ => rfl⟩
  · refine .inr ⟨g, 0, c, h1, (hlt g (by rw [h1]; rfl)).2, h4, fun j hj => ?_⟩
    have hc := h.cells (g := g) (by rw [h1]; rfl)
    obtain ⟨a1, a2⟩ := cellsF_at fs j hj
    have k1 := hc (j * 2) _ a1
    have k2 := hc (j * 2 + 1) _ a2
    rw [show (⟨g, 0, none⟩ : Addr).add (j * 2) = ⟨g, 0 + j * 2, none⟩ by unfold Addr.add; split <;> simp_all] at k1
    rw [show (⟨g, 0, none⟩ : Addr).add (j * 2 + 1) = ⟨g, 0 + j * 2 + 1, none⟩ by unfold Addr.add; split <;> simp_all] at k2
    exact ⟨k1, k2⟩
theorem printA_len : ∀ (fs : List (ByteArray × ByteArray)) (out : ByteArray), (printA fs out).2.size ≤ 65536
  | [], out => by
    unfold printA
    split
    · show (0 : Nat) ≤ _; omega
    · show out.size ≤ _; omega
  | f :: r, out => by
    unfold printA
    split
    · show (0 : Nat) ≤ _; omega
    · exact printA_len r _
theorem printF_len (fs : List (ByteArray × ByteArray)) : (printF fs).2.size ≤ 65536 := by
  unfold printF
  split
  · show (0 : Nat) ≤ _; omega
  · exact printA_len _ _
set_option maxRecDepth 100000 in
set_option maxHeartbeats 2000000 in
theorem print_bad (m : Ms) (v : Value) (ok : m.Ok) (w : World) (hh : HopsIn w v m.ho) (hbad : checkE m ≠ 0) :
    Calls Tryd.prog 37 #[msgV m v] w fun e w' => e = .returned (.tuple #[.string ⟨#[]⟩, .int .i64 (checkE m)]) ∧ Below w.heap.size w w' := by
  have HH := Lib.hid hh
  have OK := Lib.hid ok
  have hq : (checkE m == 0) = false := by rw [beq_eq_false_iff_ne]; exact hbad
  clear hh ok hbad
  go_enter Tryd.func37, Tryd.ntmps37
  unfold msgV
  go_wp2_with fail
  refine (check_s m v OK.out _ (HH.out.below ((Below.refl _ _).alloc (Nat.le_refl _) _))).mono ?_
  rintro e w1 ⟨rfl, b1⟩
  have HB1 := Lib.hid (((Below.refl _ _).alloc (Nat.le_refl _) _).trans (b1.mono (by rw [size_alloc]; omega)))
  clear b1
  go_wp2_with fail
  go_ret2
  exact ⟨rfl, HB1.out⟩
end Go.Proofs.YtkiheanpamplpaaDoor
