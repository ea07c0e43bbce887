/-
  Trim: what it answers.
-/
import Derived.Test.YtkiheanpamplpaaDoorAscB
import Derived.Test.YtkiheanpamplpaaDoorGlob
set_option linter.unusedSimpArgs false
set_option linter.unusedVariables false
set_option linter.unnecessarySimpa false
namespace Go.Proofs.YtkiheanpamplpaaDoor
open Go.RowKit Go.Bul
def rtrim (l : List UInt8) : List UInt8 := (l.reverse.dropWhile blB).reverse
def trimL (l : List UInt8) : List UInt8 := rtrim (l.dropWhile blB)
theorem toList_data (s : ByteArray) : s.toList = s.data.toList := ByteArray.toList_eq s
theorem toList_nil {t : ByteArray} (h : t.size = 0) : t.toList = [] := by rw [toList_data]; exact List.eq_nil_of_length_eq_zero (by simpa using h)
theorem toList_ne {t : ByteArray} (h : 0 < t.size) : t.toList ≠ [] := by
  rw [toList_data]; intro e; have : t.data.toList.length = 0 := by rw [e]; rfl
  have h2 : t.data.toList.length = t.size := by simp
  omega
theorem extract_size (t : ByteArray) (a b : Nat) (h : b ≤ t.size) : (t.extract a b).size = b - a := by
  have : t.data.size = t.size := rfl
  rw [Lib.extract_eq]; show ((t.data.toList.drop a).take (b - a)).toArray.size = _; simp; omega
theorem rtrim_snoc (l : List UInt8) (c : UInt8) : rtrim (l ++ [c]) = if blB c then rtrim l else l ++ [c] := by
  unfold rtrim
  rw [List.reverse_append, List.reverse_singleton, List.singleton_append, List.dropWhile_cons]
  split <;> simp
theorem data_snoc (t : ByteArray) (h : 0 < t.size) : t.data.toList = (t.extract 0 (t.size - 1)).data.toList ++ [t[t.size - 1]] := by
  rw [Lib.extract_data, List.drop_zero, Nat.sub_zero]
  have hl : t.data.toList.length = t.size := by simp
  have h1 : t.data.toList = t.data.toList.take (t.size - 1 + 1) := by rw [List.take_of_length_le (by omega)]
  rw [List.take_succ_eq_append_getElem (by omega)] at h1
  exact h1
theorem rtrim_step (t : ByteArray) (h : 0 < t.size) (hb : blB t[t.size - 1] = true) : rtrim t.data.toList = rtrim (t.extract 0 (t.size - 1)).data.toList := by
  rw [data_snoc t h, rtrim_snoc, if_pos hb]
theorem rtrim_stop (t : ByteArray) (h : 0 < t.size) (hb : blB t[t.size - 1] = false) : rtrim t.data.toList = t.data.toList := by
  rw [data_snoc t h, rtrim_snoc, if_neg (by simp [hb])]
theorem rtrim_zero (t : ByteArray) (h : t.size = 0) : rtrim t.data.toList = t.data.toList := by
  rw [← toList_data, toList_nil h]; rfl
theorem toList_full {t : ByteArray} (h : 0 < t.size) : t.toList.isEmpty = false := by
  rw [List.isEmpty_eq_false_iff]; exact toList_ne h
theorem ret_str {a b : ByteArray} (h : a.data.toList = b.data.toList) : Ending.returned (.string a) = .returned (.string b) := by
  have : a = b := by cases a; cases b; simp_all
  rw [this]
def sizeOf' : Value → Nat | .string t => t.size | _ => 0
theorem sizeOf'_string (t : ByteArray) : sizeOf' (.string t) = t.size := rfl
theorem drop_takeWhile (p : UInt8 → Bool) : ∀ l : List UInt8, l.drop (l.takeWhile p).length = l.dropWhile p
  | [] => rfl
  | c :: l => by
    rw [List.takeWhile_cons, List.dropWhile_cons]
    split
    · rw [List.length_cons, List.drop_succ_cons, drop_takeWhile p l]
    · rfl
theorem spanL_drop (p : UInt8 → Bool) (s : ByteArray) (k : Nat) : s.data.toList.drop (spanL p s k) = (s.data.toList.drop k).dropWhile p := by
  unfold spanL
  rw [← List.drop_drop, drop_takeWhile]
theorem spanL_zero (p : UInt8 → Bool) (s : ByteArray) : s.data.toList.drop (spanL p s 0) = s.data.toList.dropWhile p := spanL_drop p s 0
end Go.Proofs.YtkiheanpamplpaaDoor
