/-
  Package field: a field's lines.
-/
import Derived.Test.YtkiheanpamplpaaDoorFldB
set_option linter.unusedSimpArgs false
set_option linter.unusedVariables false
set_option linter.unnecessarySimpa false
namespace Go.Proofs.YtkiheanpamplpaaDoor
open Go.RowKit Go.Bul
/-- the lines of a field: what is done, the line, the words that come -/
def foldA : List ByteArray → Bool → ByteArray → ByteArray → ByteArray
  | [], _, out, line => out ++ (line ++ ⟨#[10]⟩)
  | z :: r, first, out, line => if first = false ∧ 78 < line.size + 1 + z.size then foldA r false (out ++ (line ++ ⟨#[10]⟩)) (⟨#[]⟩ ++ ⟨#[32]⟩ ++ z) else foldA r false out (line ++ ⟨#[32]⟩ ++ z)
def foldT (n b : ByteArray) : ByteArray := foldA (wordsZ b) true ⟨#[]⟩ (n ++ ⟨#[58]⟩)
/-- the length of all words with a blank each -/
def lensZ : List ByteArray → Nat
  | [] => 0
  | z :: r => z.size + 1 + lensZ r
theorem lensZ_take : ∀ (l : List ByteArray) (k : Nat) (h : k < l.length), lensZ (l.take k) + (l[k].size + 1) ≤ lensZ l
  | [], k, h => absurd h (Nat.not_lt_zero _)
  | z :: r, 0, h => by simp [lensZ]
  | z :: r, k + 1, h => by
    have := lensZ_take r k (by simpa using h)
    simp [lensZ] at this ⊢
    omega
theorem lensZ_snoc : ∀ (l : List ByteArray) (k : Nat) (h : k < l.length), lensZ (l.take (k + 1)) = lensZ (l.take k) + (l[k].size + 1)
  | [], k, h => absurd h (Nat.not_lt_zero _)
  | z :: r, 0, h => by simp [lensZ]
  | z :: r, k + 1, h => by
    have := lensZ_snoc r k (by simpa using h)
    simp [lensZ] at this ⊢
    omega
theorem lens_words : ∀ (l cur : List UInt8), lensZ ((wordsA l cur).map fun l => ⟨l.toArray⟩) ≤ l.length + cur.length + 1
  | [], cur => by
    unfold wordsA
    split
    · simp [lensZ]
    · simp [lensZ]; rw [size_of cur]; omega
  | c :: l, cur => by
    unfold wordsA
    have h1 := lens_words l []
    have h2 := lens_words l (cur ++ [c])
    simp at h1 h2
    split
    · split
      · simp; omega
      · simp [lensZ]; rw [size_of cur]; omega
    · simp; omega
theorem lensZ_words (b : ByteArray) : lensZ (wordsZ b) ≤ b.size + 1 := by
  have := lens_words b.data.toList []
  have h2 : b.data.size = b.size := rfl
  simp at this
  unfold wordsZ wordsL
  omega
structure FoldRel (n b : ByteArray) (k : Nat) (first : Bool) (out line : ByteArray) : Prop where
  go : foldA ((wordsZ b).drop k) first out line = foldT n b
  len : out.size + line.size ≤ n.size + 1 + 2 * lensZ ((wordsZ b).take k)
theorem FoldRel.start (n b : ByteArray) : FoldRel n b 0 true ⟨#[]⟩ (n ++ ⟨#[58]⟩) :=
  ⟨rfl, by rw [ByteArray.size_append]; show 0 + (n.size + 1) ≤ _; omega⟩
theorem FoldRel.long {n b : ByteArray} {k : Nat} {out line : ByteArray} (h : FoldRel n b k false out line) (hk : k < (wordsZ b).length) (hl : 78 < line.size + 1 + (wordsZ b)[k].size) :
    FoldRel n b (k + 1) false (out ++ (line ++ ⟨#[10]⟩)) (⟨#[]⟩ ++ ⟨#[32]⟩ ++ (wordsZ b)[k]) := by
  refine ⟨?_, ?_⟩
  · have := h.go
    rw [List.drop_eq_getElem_cons hk, foldA, if_pos ⟨rfl, hl⟩] at this
    exact this
  · have := h.len
    rw [lensZ_snoc _ _ hk]
    simp only [ByteArray.size_append]
    have e1 : (⟨#[10]⟩ : ByteArray).size = 1 := rfl
    have e2 : (⟨#[32]⟩ : ByteArray).size = 1 := rfl
    have e3 : (⟨#[]⟩ : ByteArray).size = 0 := rfl
    omega
theorem FoldRel.short {n b : ByteArray} {k : Nat} {first : Bool} {out line : ByteArray} (h : FoldRel n b k first out line) (hk : k < (wordsZ b).length) (hl : ¬ (first = false ∧ 78 < line.size + 1 + (wordsZ b)[k].size)) :
    FoldRel n b (k + 1) false out (line ++ ⟨#[32]⟩ ++ (wordsZ b)[k]) := by
  refine ⟨?_, ?_⟩
  · have := h.go
    rw [List.drop_eq_getElem_cons hk, foldA, if_neg hl] at this
    exact this
  · have := h.len
    rw [lensZ_snoc _ _ hk]
    simp only [ByteArray.size_append]
    have e2 : (⟨#[32]⟩ : ByteArray).size = 1 := rfl
    omega
theorem FoldRel.last {n b : ByteArray} {k : Nat} {first : Bool} {out line : ByteArray} (h : FoldRel n b k first out line) (hk : (wordsZ b).length ≤ k) : out ++ (line ++ ⟨#[10]⟩) = foldT n b := by
  have := h.go
  rw [List.drop_eq_nil_of_le hk, foldA] at this
  exact this
theorem strCells_bytes (s : ByteArray) : Lib.strCells s = Lib.byteCells s.data.toList := rfl
theorem byteCells_append (a b : ByteArray) : Lib.byteCells a.data.toList ++ Lib.byteCells b.data.toList = Lib.byteCells (a ++ b).data.toList := by
  have : (a ++ b).data = a.data ++ b.data := ByteArray.data_append
  rw [this]
  simp [Lib.byteCells]
abbrev TB : TypeId := 119
abbrev TU : TypeId := 5
theorem grownBy_of {w w' : World} (h : Below w.heap.size w w') : w.grownBy w' none := ⟨h.os, h.tape, h.output, h.size, fun k hk _ => h.block k hk⟩
theorem BuilderAtF.below {B b : Nat} {p : Value} {bs : List Value} {w w' : World} (h : Lib.BuilderAtF TB TU B b p bs w) (hb : Below w.heap.size w w') : Lib.BuilderAtF TB TU B b p bs w' := by
  have hlt := h.lt
  obtain ⟨h1, v, h2, h3, h4⟩ := h
  exact ⟨h1, v, (hb.block b hlt).trans h2, h3.kept (grownBy_of hb) (by cases hv : v.ownBlock <;> simp), h4⟩
theorem IsBuilderF.below {B b : Nat} {bs : List Value} {w w' : World} (h : Lib.IsBuilderF TB TU B b bs w) (hb : Below w.heap.size w w') : Lib.IsBuilderF TB TU B b bs w' :=
  h.elim (fun x => .inl (BuilderAtF.below x hb)) (fun x => .inr (BuilderAtF.below x hb))
theorem fresh_F (w : World) : Lib.IsBuilderF TB TU w.heap.size w.heap.size (Lib.byteCells []) (w.alloc (.cells #[.pointer none, .slice none 0 0] TB)) := Lib.IsBuilderF.of (Lib.fresh_isBuilder _ _ _)
/-- a slice of strings of one's own beside a builder that is written -/
theorem OwnH.others {B b : Nat} {w w' : World} {v : Value} {zs : List ByteArray} (h : OwnH B w v zs) (hk : Lib.OthersKept TU (some b) w w') (hb : b < B) : OwnH B w' v zs := by
  refine ⟨h.1, ?_⟩
  rcases h.2 with h | ⟨g, c, cur, h1, h2, h3, h4⟩
  · exact .inl h
  · refine .inr ⟨g, c, cur, h1, h2, hk g _ h3 (fun e => ?_) (fun c fz e => ?_), h4⟩
    · have := Option.some.inj e
      omega
    · injection e with _ e2
      exact absurd e2 (by decide)
theorem writeS {B b : Nat} {bs s : ByteArray} {w : World} (h : Lib.IsBuilderF TB TU B b (Lib.byteCells bs.data.toList) w) (hlen : bs.size + s.size ≤ 100000000) (hBw : B ≤ w.heap.size) :
    Calls Tryd.prog 80 #[.pointer (some ⟨b, 0, none⟩), .string s] w fun e w' => e = .returned (.tuple #[.int .i64 s.size, .nilIface]) ∧ Lib.IsBuilderF TB TU B b (Lib.byteCells (bs ++ s).data.toList) w' ∧ Below B w w' ∧ Lib.OthersKept TU (some b) w w' :=
  (Tryd.Builder_WriteString_k B b _ s w h (by rw [Lib.byteCells_length]; have : bs.data.size = bs.size := rfl; simp; omega) hBw).mono fun _ _ ⟨he, h1, h2, h3⟩ => ⟨he, .inr (by rw [← byteCells_append]; exact h1), h2, h3⟩
theorem strB {B b : Nat} {bs : ByteArray} {w : World} (h : Lib.IsBuilderF TB TU B b (Lib.byteCells bs.data.toList) w) (hBw : B ≤ w.heap.size) :
    Calls Tryd.prog 81 #[.pointer (some ⟨b, 0, none⟩)] w fun e w' => e = .returned (.string bs) ∧ Below B w w' :=
  (Tryd.Builder_String_any_k B b bs.data.toList w h hBw).mono fun _ _ ⟨he, _, h2, _⟩ => ⟨he, h2⟩
set_option maxRecDepth 100000 in
set_option maxHeartbeats 2000000 in
theorem fold_bad (n b : ByteArray) (hn : n.size ≤ 100000) (hb : b.size ≤ 100000) (w : World) (hbad : checkF n b ≠ 0) :
    Calls Tryd.prog 82 #[fldV n b] w fun e w' => e = .returned (.tuple #[.string ⟨#[]⟩, .int .i64 (checkF n b)]) ∧ Below w.heap.size w w' := by
  have hq : (checkF n b == 0) = false := by rw [beq_eq_false_iff_ne]; exact hbad
  unfold fldV
  go_enter Tryd.func82, Tryd.ntmps82
  go_wp2_with fail
  refine (checkF_s n b hn hb _).mono ?_
  rintro e w1 ⟨rfl, b1⟩
  have HB1 := Lib.hid (((Below.refl _ _).alloc (Nat.le_refl _) _).trans (b1.mono (by rw [size_alloc]; omega)))
  clear b1 hbad
  go_wp2_with fail
  go_ret2
  exact ⟨rfl, HB1.out⟩
set_option maxRecDepth 100000 in
set_option maxHeartbeats 4000000 in
theorem fold_good (n b : ByteArray) (hn : n.size ≤ 100000) (hb : b.size ≤ 100000) (w : World) (hgood : checkF n b = 0) :
    Calls Tryd.prog 82 #[fldV n b] w fun e w' => e = .returned (.tuple #[.string (foldT n b), .int .i64 0]) ∧ Below w.heap.size w w' := by
  have hll := lensZ_words b
  have hwl := wordsZ_le b
  unfold fldV
  go_enter Tryd.func82, Tryd.ntmps82
  go_wp2_with fail
  refine (checkF_s n b hn hb _).mono ?_
  rintro e w1 ⟨rfl, b1⟩
  rw [hgood]
  have HB1 := Lib.hid (((Below.refl _ _).alloc (Nat.le_refl _) _).trans (b1.mono (by rw [size_alloc]; omega)))
  have hz := (b1.block w.heap.size (by rw [size_alloc]; omega)).trans (heap_alloc_new _ _)
  have z0 : w1.cell? ⟨w.heap.size, 0, none⟩ = some (.string n) := by unfold World.cell?; rw [hz]; rfl
  have z1 : w1.cell? ⟨w.heap.size, 1, none⟩ = some (.string b) := by unfold World.cell?; rw [hz]; rfl
  have hs1 : w.heap.size < w1.heap.size := by have := b1.size; rw [size_alloc] at this; omega
  clear hz b1 hgood
  go_wp2_with fail
  refine (wordsZ_s b _ (by omega)).mono ?_
  rintro e w2 ⟨v, rfl, ho, b2⟩
  obtain ⟨a9, c9, rfl⟩ := (OwnH.hops ho).shape
  have hs2 : w1.heap.size + 1 ≤ w2.heap.size := by have := b2.size; rw [size_alloc] at this; omega
  have HB2 := Lib.hid (HB1.out.trans ((((Below.refl _ _).alloc (Nat.le_refl _) _).trans (b2.mono (by rw [size_alloc]; omega))).mono (Nat.le_of_lt hs1)))
  have HF := Lib.hid (IsBuilderF.below (fresh_F w1) b2)
  have HB3 := Lib.hid (show Below w1.heap.size w1 w2 from ((Below.refl _ _).alloc (Nat.le_refl _) _).trans (b2.mono (by rw [size_alloc]; omega)))
  have HO := Lib.hid (show OwnH (w1.heap.size + 1) w2 _ _ from owns_mono ho (B' := w1.heap.size + 1) (by rw [size_alloc]; omega))
  clear ho b2 z0 z1
  have hn5 : (wordsZ b).length ≤ 100000 := by omega
  go_wp2_with fail
  go_loopw [6, 7, 22] (fun l f i wr => ∃ (k : Nat) (first : Bool) (out line : ByteArray), k ≤ (wordsZ b).length ∧ i = .int .i64 k ∧ f = .bool first ∧ l = .string line ∧ FoldRel n b k first out line ∧ Lib.IsBuilderF TB TU w1.heap.size w1.heap.size (Lib.byteCells out.data.toList) wr ∧ OwnH (w1.heap.size + 1) wr (.slice a9 (wordsZ b).length c9) (wordsZ b) ∧ Below w1.heap.size w1 wr) (fun _ _ i _ => (wordsZ b).length - (intOf i).toNat)
  case atStart => exact ⟨0, true, ⟨#[]⟩, n ++ ⟨#[58]⟩, Nat.zero_le _, rfl, rfl, rfl, FoldRel.start n b, HF.out, HO.out, HB3.out⟩
  case round =>
    obtain ⟨k, first, out, line, hk, rfl, rfl, rfl, hrel, hbd, hown, hbw⟩ := hrel
    have hln := hrel.len
    have hsw := hbw.size
    have HRel := Lib.hid hrel
    have HBd := Lib.hid hbd
    have HOw := Lib.hid hown
    have HBw := Lib.hid hbw
    clear hrel hbd hown hbw
    by_cases hlt : k < (wordsZ b).length
    · have htk := lensZ_take (wordsZ b) k hlt
      rcases OwnH.hops HOw.out with ⟨hn0, _⟩ | ⟨bb, off, c8, he, hbw, hlc, hcell⟩
      · rw [hn0] at hlt; exact absurd hlt (Nat.not_lt_zero _)
      · cases he
        have hc0 := hcell k hlt
        have i1 : (k : Int) < (wordsZ b).length := by omega
        have i3 : (0 : Int) ≤ (k : Int) := by omega
        clear hcell
        cases first
        · by_cases hl : 78 < line.size + 1 + (wordsZ b)[k].size
          · have HN := Lib.hid (HRel.out.long hlt hl)
            have ka1 := fun (w : World) => run_string_add_sum (P := Tryd.prog) w line (⟨#[10]⟩ : ByteArray) (by rw [show (⟨#[10]⟩ : ByteArray).size = 1 from rfl]; omega)
            have ka2 := fun (w : World) => run_string_add_sum (P := Tryd.prog) w (⟨#[]⟩ : ByteArray) (⟨#[32]⟩ : ByteArray) (by rw [show (⟨#[32]⟩ : ByteArray).size = 1 from rfl, show (⟨#[]⟩ : ByteArray).size = 0 from rfl]; omega)
            have ka3 := fun (w : World) => run_string_add_sum (P := Tryd.prog) w (⟨#[]⟩ ++ ⟨#[32]⟩ : ByteArray) (wordsZ b)[k] (by rw [ByteArray.size_append, show (⟨#[32]⟩ : ByteArray).size = 1 from rfl, show (⟨#[]⟩ : ByteArray).size = 0 from rfl]; omega)
            go_wp2_with fail
            refine (writeS HBd.out (by rw [ByteArray.size_append, show (⟨#[10]⟩ : ByteArray).size = 1 from rfl]; omega) hsw).mono ?_
            rintro e w3 ⟨rfl, hb3, hw3, hk3⟩
            have HN1 := Lib.hid hb3
            have HN2 := Lib.hid (OwnH.others HOw.out hk3 (by omega))
            have HN3 := Lib.hid (HBw.out.trans hw3)
            clear hb3 hk3
            go_wp2_with fail
            go_roundw
            case rel => exact ⟨k + 1, false, _, _, by omega, by go_num, rfl, rfl, HN.out, HN1.out, HN2.out, HN3.out⟩
            case measure => simp [intOf]; omega
          · have HN := Lib.hid (HRel.out.short hlt (by omega))
            have ka1 := fun (w : World) => run_string_add_sum (P := Tryd.prog) w line (⟨#[32]⟩ : ByteArray) (by rw [show (⟨#[32]⟩ : ByteArray).size = 1 from rfl]; omega)
            have ka3 := fun (w : World) => run_string_add_sum (P := Tryd.prog) w (line ++ ⟨#[32]⟩ : ByteArray) (wordsZ b)[k] (by rw [ByteArray.size_append, show (⟨#[32]⟩ : ByteArray).size = 1 from rfl]; omega)
            go_wp2_with fail
            go_roundw
            case rel => exact ⟨k + 1, false, _, _, by omega, by go_num, rfl, rfl, HN.out, HBd.out, HOw.out, HBw.out⟩
            case measure => simp [intOf]; omega
        · have HN := Lib.hid (HRel.out.short hlt (by simp))
          have ka1 := fun (w : World) => run_string_add_sum (P := Tryd.prog) w line (⟨#[32]⟩ : ByteArray) (by rw [show (⟨#[32]⟩ : ByteArray).size = 1 from rfl]; omega)
          have ka3 := fun (w : World) => run_string_add_sum (P := Tryd.prog) w (line ++ ⟨#[32]⟩ : ByteArray) (wordsZ b)[k] (by rw [ByteArray.size_append, show (⟨#[32]⟩ : ByteArray).size = 1 from rfl]; omega)
          go_wp2_with fail
          go_roundw
          case rel => exact ⟨k + 1, false, _, _, by omega, by go_num, rfl, rfl, HN.out, HBd.out, HOw.out, HBw.out⟩
          case measure => simp [intOf]; omega
    · have HE := Lib.hid (HRel.out.last (by omega))
      have hk0 : lensZ ((wordsZ b).take k) ≤ lensZ (wordsZ b) := by rw [List.take_of_length_le (by omega)]; exact Nat.le_refl _
      have ka1 := fun (w : World) => run_string_add_sum (P := Tryd.prog) w line (⟨#[10]⟩ : ByteArray) (by rw [show (⟨#[10]⟩ : ByteArray).size = 1 from rfl]; omega)
      go_wp2_with fail
      refine (writeS HBd.out (by rw [ByteArray.size_append, show (⟨#[10]⟩ : ByteArray).size = 1 from rfl]; omega) hsw).mono ?_
      rintro e w3 ⟨rfl, hb3, hw3, hk3⟩
      have hs3 := hw3.size
      have HN1 := Lib.hid hb3
      have HN3 := Lib.hid (HBw.out.trans hw3)
      clear hb3 hk3 ka1
      go_wp2_with fail
      refine (strB HN1.out (by omega)).mono ?_
      rintro e w4 ⟨rfl, hw4⟩
      have HN4 := Lib.hid (HB1.out.trans ((HN3.out.trans hw4).mono (Nat.le_of_lt hs1)))
      clear hw4
      go_wp2_with fail
      go_ret2
      exact ⟨by rw [HE.out]; rfl, HN4.out⟩
theorem fold_s (n b : ByteArray) (hn : n.size ≤ 100000) (hb : b.size ≤ 100000) (w : World) :
    Calls Tryd.prog 82 #[fldV n b] w fun e w' => e = .returned (.tuple #[.string (if checkF n b = 0 then foldT n b else ⟨#[]⟩), .int .i64 (checkF n b)]) ∧ Below w.heap.size w w' := by
  by_cases h : checkF n b = 0
  · rw [if_pos h, h]; exact fold_good n b hn hb w h
  · rw [if_neg h]; exact fold_bad n b hn hb w h
end Go.Proofs.YtkiheanpamplpaaDoor
