/-
  Package field: the text of a header.
-/
import Derived.Test.YtkiheanpamplpaaDoorFldC
set_option linter.unusedSimpArgs false
set_option linter.unusedVariables false
set_option linter.unnecessarySimpa false
namespace Go.Proofs.YtkiheanpamplpaaDoor
open Go.RowKit Go.Bul
/-- a slice of fields that reads as fs -/
def FldsIn (w : World) (v : Value) (fs : List (ByteArray × ByteArray)) : Prop :=
  (fs = [] ∧ ∃ a c, v = .slice a 0 c ∧ (a = none → c = 0)) ∨ ∃ b off c, v = .slice (some ⟨b, off, none⟩) fs.length c ∧ b < w.heap.size ∧ fs.length ≤ c ∧
    ∀ j (h : j < fs.length), w.cell? ⟨b, off + j * 2, none⟩ = some (.string fs[j].1) ∧ w.cell? ⟨b, off + j * 2 + 1, none⟩ = some (.string fs[j].2)
theorem FldsIn.below {w w' : World} {v : Value} {l : List (ByteArray × ByteArray)} (h : FldsIn w v l) (hb : Below w.heap.size w w') : FldsIn w' v l := by
  rcases h with h | ⟨b, off, c, h1, h2, hc, h3⟩
  · exact .inl h
  · exact .inr ⟨b, off, c, h1, Nat.lt_of_lt_of_le h2 hb.size, hc, fun j hj => by
      rw [hb.cell (p := ⟨b, off + j * 2, none⟩) h2, hb.cell (p := ⟨b, off + j * 2 + 1, none⟩) h2]; exact h3 j hj⟩
theorem FldsIn.shape {w : World} {v : Value} {fs : List (ByteArray × ByteArray)} (h : FldsIn w v fs) : ∃ a c, v = .slice a fs.length c := by
  rcases h with ⟨rfl, a, c, h, _⟩ | ⟨b, off, c, h, _⟩
  · exact ⟨a, c, h⟩
  · exact ⟨_, c, h⟩
/-- the text of fields: the error and what is printed -/
def printA : List (ByteArray × ByteArray) → ByteArray → Int × ByteArray
  | [], out => if 65536 < out.size then (5, ⟨#[]⟩) else (0, out)
  | f :: r, out => if checkF f.1 f.2 ≠ 0 then (checkF f.1 f.2, ⟨#[]⟩) else printA r (out ++ foldT f.1 f.2)
def printF (fs : List (ByteArray × ByteArray)) : Int × ByteArray := if 64 < fs.length then (9, ⟨#[]⟩) else printA fs ⟨#[]⟩
theorem foldA_len : ∀ (l : List ByteArray) (first : Bool) (out line : ByteArray), (foldA l first out line).size ≤ out.size + line.size + 1 + 2 * lensZ l
  | [], first, out, line => by
    unfold foldA
    rw [ByteArray.size_append, ByteArray.size_append, show (⟨#[10]⟩ : ByteArray).size = 1 from rfl]
    omega
  | z :: r, first, out, line => by
    have e1 : (⟨#[10]⟩ : ByteArray).size = 1 := rfl
    have e2 : (⟨#[32]⟩ : ByteArray).size = 1 := rfl
    have e3 : (⟨#[]⟩ : ByteArray).size = 0 := rfl
    unfold foldA
    split
    · have := foldA_len r false (out ++ (line ++ ⟨#[10]⟩)) (⟨#[]⟩ ++ ⟨#[32]⟩ ++ z)
      simp only [ByteArray.size_append] at this
      simp only [lensZ]
      omega
    · have := foldA_len r false out (line ++ ⟨#[32]⟩ ++ z)
      simp only [ByteArray.size_append] at this
      simp only [lensZ]
      omega
theorem foldT_len (n b : ByteArray) : (foldT n b).size ≤ n.size + 2 * b.size + 10 := by
  have h1 := foldA_len (wordsZ b) true ⟨#[]⟩ (n ++ ⟨#[58]⟩)
  have h2 := lensZ_words b
  rw [ByteArray.size_append, show (⟨#[58]⟩ : ByteArray).size = 1 from rfl, show (⟨#[]⟩ : ByteArray).size = 0 from rfl] at h1
  unfold foldT
  omega
theorem vnB_len {s : ByteArray} (h : vnB s = true) : s.size ≤ 40 := by
  unfold vnB at h
  split at h
  · simp at h; exact h.1.1
  · cases h
theorem checkF_zero {n b : ByteArray} (h : checkF n b = 0) : n.size ≤ 40 ∧ b.size ≤ 8192 := by
  unfold checkF at h
  by_cases a1 : vnB n = false
  · rw [if_pos a1] at h; exact absurd h (by decide)
  rw [if_neg a1] at h
  by_cases a2 : 0 ≤ printableL b.data.toList
  · rw [if_pos a2] at h; exact absurd h (by decide)
  rw [if_neg a2] at h
  by_cases a3 : squeezeL b.data.toList ≠ b.data.toList
  · rw [if_pos a3] at h; exact absurd h (by decide)
  rw [if_neg a3] at h
  by_cases a4 : 8192 < b.size ∨ (wordsZ b).any longB = true
  · rw [if_pos a4] at h; exact absurd h (by decide)
  exact ⟨vnB_len (by simpa using a1), by omega⟩
theorem lenB {B b : Nat} {bs : ByteArray} {w : World} (h : Lib.IsBuilderF TB TU B b (Lib.byteCells bs.data.toList) w) :
    Calls Tryd.prog 83 #[.pointer (some ⟨b, 0, none⟩)] w fun e w' => e = .returned (.int .i64 bs.size) ∧ w = w' :=
  (Tryd.Builder_Len_f B b _ w h).mono fun _ _ ⟨he, hw⟩ => ⟨by rw [he, Lib.byteCells_length]; simp, hw.symm⟩
set_option maxRecDepth 100000 in
set_option maxHeartbeats 4000000 in
theorem printF_s (v : Value) (fs : List (ByteArray × ByteArray)) (w : World) (hn : fs.length ≤ 100000) (hok : ∀ f ∈ fs, f.1.size ≤ 100000 ∧ f.2.size ≤ 100000) (hh : FldsIn w v fs) :
    Calls Tryd.prog 60 #[v] w fun e w' => e = .returned (.tuple #[.string (printF fs).2, .int .i64 (printF fs).1]) ∧ Below w.heap.size w w' := by
  have HH := Lib.hid hh
  obtain ⟨a0, cap, rfl⟩ := hh.shape
  have HK := Lib.hid hok
  clear hh hok
  by_cases h64 : 64 < fs.length
  · have HR := Lib.hid (show printF fs = (9, ⟨#[]⟩) by unfold printF; rw [if_pos h64])
    go_enter Tryd.func60, Tryd.ntmps60
    go_wp2_with fail
    go_ret2
    exact ⟨by rw [HR.out]; rfl, Below.refl _ _⟩
  have HP := Lib.hid (show printF fs = printA fs ⟨#[]⟩ by unfold printF; rw [if_neg h64])
  have h64' : fs.length ≤ 64 := by omega
  clear h64
  go_enter Tryd.func60, Tryd.ntmps60
  go_wp2_with fail
  go_loopw [14] (fun i wr => ∃ (k : Nat) (out : ByteArray), k ≤ fs.length ∧ i = .int .i64 k ∧ printA (fs.drop k) out = printF fs ∧ out.size ≤ k * 17000 ∧ Lib.IsBuilderF TB TU w.heap.size w.heap.size (Lib.byteCells out.data.toList) wr ∧ Below w.heap.size w wr) (fun i _ => fs.length - (intOf i).toNat)
  case atStart => exact ⟨0, ⟨#[]⟩, Nat.zero_le _, rfl, HP.out.symm, Nat.le_refl _, fresh_F w, (Below.refl _ _).alloc (Nat.le_refl _) _⟩
  case round =>
    obtain ⟨k, out, hk, rfl, hgo, hlen, hbd, hbw⟩ := hrel
    have hsw := hbw.size
    have HGo := Lib.hid hgo
    have HBd := Lib.hid hbd
    have HBw := Lib.hid hbw
    clear hgo hbd hbw
    by_cases hlt : k < fs.length
    · rcases HH.out.below HBw.out with ⟨hn0, _⟩ | ⟨bb, off, c8, he, hbw, hlc, hcell⟩
      · rw [hn0] at hlt; exact absurd hlt (Nat.not_lt_zero _)
      · cases he
        obtain ⟨hc0, hc1⟩ := hcell k hlt
        obtain ⟨s1, s2⟩ := HK.out _ (List.getElem_mem hlt)
        have i1 : (k : Int) < fs.length := by omega
        have i3 : (0 : Int) ≤ (k : Int) := by omega
        have HC := Lib.hid hcell
        clear hcell
        go_wp2_with fail
        by_cases ce : checkF fs[k].1 fs[k].2 = 0
        · obtain ⟨t1, t2⟩ := checkF_zero ce
          have hfl := foldT_len fs[k].1 fs[k].2
          have HN := Lib.hid (show printA (fs.drop (k + 1)) (out ++ foldT fs[k].1 fs[k].2) = printF fs by
            have := HGo.out
            rw [List.drop_eq_getElem_cons hlt, printA, if_neg (by rw [ce]; simp)] at this
            exact this)
          refine (fold_good fs[k].1 fs[k].2 s1 s2 _ ce).mono ?_
          rintro e w1 ⟨rfl, b1⟩
          have HB1 := Lib.hid (HBw.out.trans ((((Below.refl _ _).alloc (Nat.le_refl _) _).trans (b1.mono (by rw [size_alloc]; omega))).mono hsw))
          have HB0 := Lib.hid (((Below.refl _ _).alloc (Nat.le_refl _) _).trans (b1.mono (by rw [size_alloc]; omega)))
          clear b1 hc0 hc1
          have HBd1 := Lib.hid (IsBuilderF.below HBd.out HB0.out)
          have hs1 := HB1.out.size
          clear ce
          go_wp2_with fail
          refine (writeS HBd1.out (by omega) hs1).mono ?_
          rintro e w2 ⟨rfl, hb2, hw2, hk2⟩
          have HN1 := Lib.hid hb2
          have HN3 := Lib.hid (HB1.out.trans hw2)
          clear hb2 hk2 hw2
          go_wp2_with fail
          go_roundw
          case rel => exact ⟨k + 1, _, by omega, by go_num, HN.out, by rw [ByteArray.size_append]; omega, HN1.out, HN3.out⟩
          case measure => simp [intOf]; omega
        · have HR := Lib.hid (show printF fs = (checkF fs[k].1 fs[k].2, ⟨#[]⟩) by
            have := HGo.out
            rw [List.drop_eq_getElem_cons hlt, printA, if_pos ce] at this
            exact this.symm)
          have hq : (checkF fs[k].1 fs[k].2 == 0) = false := by rw [beq_eq_false_iff_ne]; exact ce
          refine (fold_bad fs[k].1 fs[k].2 s1 s2 _ ce).mono ?_
          rintro e w1 ⟨rfl, b1⟩
          have HB1 := Lib.hid (HBw.out.trans ((((Below.refl _ _).alloc (Nat.le_refl _) _).trans (b1.mono (by rw [size_alloc]; omega))).mono hsw))
          clear ce b1
          go_wp2_with fail
          go_ret2
          exact ⟨by rw [HR.out]; rfl, HB1.out⟩
    · have hgo := HGo.out
      rw [List.drop_eq_nil_of_le (by omega), printA] at hgo
      have HG := Lib.hid hgo
      clear hgo
      have hol : out.size ≤ 2000000 := by
        have : k * 17000 ≤ 64 * 17000 := Nat.mul_le_mul_right _ (by omega)
        omega
      clear hlen
      go_wp2_with fail
      refine (lenB HBd.out).mono ?_
      rintro e w1 ⟨rfl, rfl⟩
      by_cases h65 : 65536 < out.size
      · have HR := Lib.hid (show printF fs = (5, ⟨#[]⟩) by have := HG.out; rw [if_pos h65] at this; exact this.symm)
        go_wp2_with fail
        go_ret2
        exact ⟨by rw [HR.out]; rfl, HBw.out⟩
      · have HR := Lib.hid (show printF fs = (0, out) by have := HG.out; rw [if_neg h65] at this; exact this.symm)
        go_wp2_with fail
        refine (strB HBd.out hsw).mono ?_
        rintro e w2 ⟨rfl, hw2⟩
        have HB2 := Lib.hid (HBw.out.trans hw2)
        clear hw2
        go_wp2_with fail
        go_ret2
        exact ⟨by rw [HR.out]; rfl, HB2.out⟩
end Go.Proofs.YtkiheanpamplpaaDoor
