/-
  The law MailBounces, walked.
-/
import Derived.Test.YtkiheanpamplpaaDoorLmaA
set_option linter.unusedSimpArgs false
set_option linter.unusedVariables false
set_option linter.unnecessarySimpa false
namespace Go.Proofs.YtkiheanpamplpaaDoor
open Go.RowKit Go.Bul Go.Maps
open Classical in
noncomputable def bnc (m : Ms) (name : ByteArray) (code now : Int) : Ms × Bool := if m.fu.size ≠ 0 ∧ checkE m = 0 ∧ siteE name = 0 ∧ 0 ≤ now ∧ now ≤ 105190559 then (bounceM m name code now, true) else (noMs, false)
theorem bnc_yes {m : Ms} {name : ByteArray} {code now : Int} (h : m.fu.size ≠ 0 ∧ checkE m = 0 ∧ siteE name = 0 ∧ 0 ≤ now ∧ now ≤ 105190559) : bnc m name code now = (bounceM m name code now, true) := by unfold bnc; rw [if_pos h]
theorem bnc_no {m : Ms} {name : ByteArray} {code now : Int} (h : ¬ (m.fu.size ≠ 0 ∧ checkE m = 0 ∧ siteE name = 0 ∧ 0 ≤ now ∧ now ≤ 105190559)) : bnc m name code now = (noMs, false) := by unfold bnc; rw [if_neg h]
theorem bncF_s (m : Ms) (v : Value) (ok : m.Ok) (name : ByteArray) (hname : name.size ≤ maxLen) (code now : Int) (k0 : -9223372036854775808 ≤ code) (k1 : code ≤ 9223372036854775807) (w : World) (hg : Gl w) (hh : HopsIn w v m.ho) :
    Calls Tryd.prog 10 #[msgV m v, .string name, .int .i64 code, .int .i64 now] w fun e w' => e = .returned (.tuple #[msgV (bnc m name code now).1 (.slice none 0 0), .bool (bnc m name code now).2]) ∧ Below w.heap.size w w' := by
  by_cases h : m.fu.size ≠ 0 ∧ checkE m = 0 ∧ siteE name = 0 ∧ 0 ≤ now ∧ now ≤ 105190559
  · rw [bnc_yes h]
    exact bounce_c m v ok name hname code now k0 k1 w hg h.1 hh h.2.1 h.2.2.1 h.2.2.2
  · rw [bnc_no h]
    by_cases h0 : m.fu.size = 0
    · exact bounce_a m v name code now w h0
    · exact bounce_b m v ok name hname code now w h0 hh (by
        by_cases h1 : checkE m = 0
        · by_cases h2 : siteE name = 0
          · exact .inr (.inr fun h3 => h ⟨h0, h1, h2, h3⟩)
          · exact .inr (.inl h2)
        · exact .inl h1)
theorem refBncF_s (m : Ms) (v : Value) (ok : m.Ok) (name : ByteArray) (hname : name.size ≤ maxLen) (code now : Int) (k0 : -9223372036854775808 ≤ code) (k1 : code ≤ 9223372036854775807) (w : World) (hg : Gl w) (hh : HopsIn w v m.ho) :
    Calls Tryd.prog 11 #[msgV m v, .string name, .int .i64 code, .int .i64 now] w fun e w' => e = .returned (.tuple #[msgV (bnc m name code now).1 (.slice none 0 0), .bool (bnc m name code now).2]) ∧ Below w.heap.size w w' := by
  by_cases h : m.fu.size ≠ 0 ∧ checkE m = 0 ∧ siteE name = 0 ∧ 0 ≤ now ∧ now ≤ 105190559
  · rw [bnc_yes h]
    exact refBounce_c m v ok name hname code now k0 k1 w hg h.1 hh h.2.1 h.2.2.1 h.2.2.2
  · rw [bnc_no h]
    by_cases h0 : m.fu.size = 0
    · exact refBounce_a m v name code now w h0
    · exact refBounce_b m v ok name hname code now w h0 hh (by
        by_cases h1 : checkE m = 0
        · by_cases h2 : siteE name = 0
          · exact .inr (.inr fun h3 => h ⟨h0, h1, h2, h3⟩)
          · exact .inr (.inl h2)
        · exact .inl h1)
theorem sub_deliv : subE ⟨#[78, 111, 116, 32, 100, 101, 108, 105, 118, 101, 114, 101, 100]⟩ = 0 := by decide +kernel
theorem user_none : userB ⟨#[]⟩ = true := by decide +kernel
theorem bounceB_len {m : Ms} {code : Int} (h : checkE m = 0) (k0 : -9223372036854775808 ≤ code) (k1 : code ≤ 9223372036854775807) : (bounceB m code).size ≤ 400 := by
  obtain ⟨_, _, a3, _, a5, _, _, a8, _, _⟩ := check_zero h
  have s1 := user_size a3
  have s2 := site_size a5
  have s3 := sub_size a8
  have s4 := itoa_len code k0 k1
  have one : ∀ c : UInt8, (⟨#[c]⟩ : ByteArray).size = 1 := fun _ => rfl
  unfold bounceB
  simp only [ByteArray.size_append, one]
  omega
theorem bounceM_check {m : Ms} {name : ByteArray} {code now : Int} (hu : m.fu.size ≠ 0) (h : checkE m = 0) (hs : siteE name = 0) (hn : 0 ≤ now ∧ now ≤ 105190559) (k0 : -9223372036854775808 ≤ code) (k1 : code ≤ 9223372036854775807) : checkE (bounceM m name code now) = 0 := by
  have hb := bounceB_len h k0 k1
  obtain ⟨a1, a2, _, _, _, a6, _, _, _, _⟩ := check_zero h
  have e1 : userB (bounceM m name code now).fu = true := user_none
  have e2 : siteE (bounceM m name code now).fs = 0 := hs
  have e3 : userB (bounceM m name code now).tu = true := a1
  have e4 : (bounceM m name code now).tu.size ≠ 0 := hu
  have e5 : siteE (bounceM m name code now).ts = 0 := a2
  have e6 : 0 ≤ (bounceM m name code now).nu ∧ (bounceM m name code now).nu ≤ 2147483647 := a6
  have e7 : 0 ≤ (bounceM m name code now).da ∧ (bounceM m name code now).da ≤ 105190559 := hn
  have e8 : subE (bounceM m name code now).su = 0 := sub_deliv
  have e9 : (bounceM m name code now).ho = [] := rfl
  have e10 : ¬ 32768 < (bounceM m name code now).bo.size := by show ¬ 32768 < (bounceB m code).size; omega
  unfold checkE
  rw [if_neg (by rw [e1]; simp), if_neg (by rw [e2]; simp), if_neg (by rw [e3]; simp [e4]), if_neg (by rw [e5]; simp), if_neg (by omega), if_neg (by simp; omega), if_neg (by rw [e8]; simp), e9, if_neg (by decide), if_neg e10]
  rfl
theorem noMs_ok : noMs.Ok := ⟨by decide, by decide, by decide, by decide, by decide, by decide, (fun z hz => by cases hz), by decide⟩
theorem sizeLe49 (n : Nat) (h : n ≤ 4294967280) : n ≤ maxLen := by unfold maxLen; omega
structure BncOk (bm : Ms) (is : Bool) : Prop where
  fu : bm.fu.size = 0
  ho : bm.ho = []
  ok : bm.Ok
  check : is = true → checkE bm = 0
theorem bnc_ok (m : Ms) (ok : m.Ok) (name : ByteArray) (hname : name.size ≤ maxLen) (code now : Int) (k0 : -9223372036854775808 ≤ code) (k1 : code ≤ 9223372036854775807) : BncOk (bnc m name code now).1 (bnc m name code now).2 := by
  by_cases h : m.fu.size ≠ 0 ∧ checkE m = 0 ∧ siteE name = 0 ∧ 0 ≤ now ∧ now ≤ 105190559
  · rw [bnc_yes h]
    have hb := bounceB_len h.2.1 k0 k1
    exact ⟨rfl, rfl, ⟨Nat.zero_le _, hname, ok.fu, ok.fs, (by show (13 : Nat) ≤ _; decide), sizeLe49 _ (by show (bounceB m code).size ≤ _; omega), (fun z hz => by cases hz), Nat.zero_le _⟩, fun _ => bounceM_check h.1 h.2.1 h.2.2.1 h.2.2.2 k0 k1⟩
  · rw [bnc_no h]
    exact ⟨rfl, rfl, noMs_ok, fun e => by cases e⟩
end Go.Proofs.YtkiheanpamplpaaDoor
