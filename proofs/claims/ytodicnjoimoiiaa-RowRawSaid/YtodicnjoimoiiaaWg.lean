/- The walks of the comparisons: numbers, texts, tags, versions; the reference's. -/
import Derived.Test.YtodicnjoimoiiaaVerMath
import Derived.StillTailTactics
import Derived.Deep.RegionHeld3
namespace Go.Proofs.Ytodicnjoimoiiaa
open Go.RowKit Go.Lib
set_option linter.unusedVariables false
set_option linter.unusedSimpArgs false

/-- a number has come back; the world is as it was -/
theorem cmpi_any (a b : Int) (w : World) : Calls Try.prog 53 #[.int .i64 a, .int .i64 b] w fun e w' => e = .returned (.int .i64 (cmpI a b)) ∧ w = w' := by
  rcases Int.lt_trichotomy a b with h | h | h
  · have e : cmpI a b = -1 := by simp [cmpI, h]
    rw [e]
    clear e
    go_enter Try.func53, Try.ntmps53
    go_wp2
    go_ret
    exact ⟨rfl, rfl⟩
  · subst h
    rw [cmpI_self]
    go_enter Try.func53, Try.ntmps53
    go_wp2
    go_ret
    exact ⟨rfl, rfl⟩
  · have e : cmpI a b = 1 := by unfold cmpI; rw [if_neg (by omega), if_pos h]
    rw [e]
    clear e
    have h2 : ¬ a < b := by omega
    go_enter Try.func53, Try.ntmps53
    go_wp2
    go_ret
    exact ⟨rfl, rfl⟩

theorem ints_any (a b : Int) (w : World) : Calls Try.prog 59 #[.int .i64 a, .int .i64 b] w fun e w' => e = .returned (.int .i64 (cmpI a b)) ∧ w = w' := by
  rcases Int.lt_trichotomy a b with h | h | h
  · have e : cmpI a b = -1 := by simp [cmpI, h]
    rw [e]
    clear e
    go_enter Try.func59, Try.ntmps59
    go_wp2
    go_ret
    exact ⟨rfl, rfl⟩
  · subst h
    rw [cmpI_self]
    go_enter Try.func59, Try.ntmps59
    go_wp2
    go_ret
    exact ⟨rfl, rfl⟩
  · have e : cmpI a b = 1 := by unfold cmpI; rw [if_neg (by omega), if_pos h]
    rw [e]
    clear e
    have h2 : ¬ a < b := by omega
    go_enter Try.func59, Try.ntmps59
    go_wp2
    go_ret
    exact ⟨rfl, rfl⟩

theorem bless_ne {a b : List UInt8} (h : Op.bytesLess a b = true) : (a == b) = false := by
  rw [beq_eq_false_iff_ne]; intro e; subst e; rw [bless_irr] at h; cases h

theorem cmps_any (a b : ByteArray) (w : World) : Calls Try.prog 96 #[.string a, .string b] w fun e w' => e = .returned (.int .i64 (cmpB (bts a) (bts b))) ∧ w = w' := by
  cases h : Op.bytesLess a.toList b.toList
  · cases k : Op.bytesLess b.toList a.toList
    · have e := bless_tri _ _ h k
      have e2 := bts_inj e
      subst e2
      rw [(TO.bytes.zero _ _ trivial trivial).2 rfl]
      clear e k
      go_enter Try.func96, Try.ntmps96
      go_wp2
      go_ret
      exact ⟨rfl, rfl⟩
    · have e : cmpB (bts a) (bts b) = 1 := by simp [cmpB, h, k]
      rw [e]
      have hne : (a.toList == b.toList) = false := by have := bless_ne k; rw [beq_eq_false_iff_ne] at this ⊢; exact fun e => this e.symm
      have hne2 : ¬ a.toList = b.toList := by simpa using hne
      clear e k
      go_enter Try.func96, Try.ntmps96
      go_wp2
      go_ret
      exact ⟨rfl, rfl⟩
  · have e : cmpB (bts a) (bts b) = -1 := by simp [cmpB, h]
    rw [e]
    clear e
    go_enter Try.func96, Try.ntmps96
    go_wp2
    go_ret
    exact ⟨rfl, rfl⟩

theorem texts_any (a b : ByteArray) (w : World) : Calls Try.prog 101 #[.string a, .string b] w fun e w' => e = .returned (.int .i64 (cmpB (bts a) (bts b))) ∧ w = w' := by
  cases h : Op.bytesLess a.toList b.toList
  · cases k : Op.bytesLess b.toList a.toList
    · have e := bless_tri _ _ h k
      have e2 := bts_inj e
      subst e2
      rw [(TO.bytes.zero _ _ trivial trivial).2 rfl]
      clear e k
      go_enter Try.func101, Try.ntmps101
      go_wp2
      go_ret
      exact ⟨rfl, rfl⟩
    · have e : cmpB (bts a) (bts b) = 1 := by simp [cmpB, h, k]
      rw [e]
      have hne : (a.toList == b.toList) = false := by have := bless_ne k; rw [beq_eq_false_iff_ne] at this ⊢; exact fun e => this e.symm
      have hne2 : ¬ a.toList = b.toList := by simpa using hne
      clear e k
      go_enter Try.func101, Try.ntmps101
      go_wp2
      go_ret
      exact ⟨rfl, rfl⟩
  · have e : cmpB (bts a) (bts b) = -1 := by simp [cmpB, h]
    rw [e]
    clear e
    go_enter Try.func101, Try.ntmps101
    go_wp2
    go_ret
    exact ⟨rfl, rfl⟩

/-- a number has come back; memory has grown at most -/
def IntPost (w : World) (n : Int) (e : Ending) (w' : World) : Prop := e = .returned (.int .i64 n) ∧ Below w.heap.size w w'

set_option maxHeartbeats 1000000 in
theorem tag_any (a b : ByteArray) (w : World) (ha : a.size ≤ 9223372036854775807) (hb : b.size ≤ 9223372036854775807) : Calls Try.prog 80 #[.string a, .string b] w (IntPost w (cmpTag (bts a) (bts b))) := by
  cases h1 : numericL (bts a) <;> cases h2 : numericL (bts b)
  · have e : cmpTag (bts a) (bts b) = cmpB (bts a) (bts b) := by simp [cmpTag, h1, h2]
    rw [e]
    clear e
    go_enter Try.func80, Try.ntmps80
    go_wp2_with (first | (go_at_call_of 94 a; refine (numeric_any a _ ha).mono ?_; rintro e w' ⟨rfl, rfl⟩) | (go_at_call_of 94 b; refine (numeric_any b _ hb).mono ?_; rintro e w' ⟨rfl, rfl⟩) | (go_at_call 96; refine (cmps_any _ _ _).mono ?_; rintro e w' ⟨rfl, rfl⟩))
    go_ret
    exact ⟨rfl, Below.refl _ _⟩
  · have e : cmpTag (bts a) (bts b) = 1 := by simp [cmpTag, h1, h2]
    rw [e]
    clear e
    go_enter Try.func80, Try.ntmps80
    go_wp2_with (first | (go_at_call_of 94 a; refine (numeric_any a _ ha).mono ?_; rintro e w' ⟨rfl, rfl⟩) | (go_at_call_of 94 b; refine (numeric_any b _ hb).mono ?_; rintro e w' ⟨rfl, rfl⟩))
    go_ret
    exact ⟨rfl, Below.refl _ _⟩
  · have e : cmpTag (bts a) (bts b) = -1 := by simp [cmpTag, h1, h2]
    rw [e]
    clear e
    go_enter Try.func80, Try.ntmps80
    go_wp2_with (first | (go_at_call_of 94 a; refine (numeric_any a _ ha).mono ?_; rintro e w' ⟨rfl, rfl⟩) | (go_at_call_of 94 b; refine (numeric_any b _ hb).mono ?_; rintro e w' ⟨rfl, rfl⟩))
    go_ret
    exact ⟨rfl, Below.refl _ _⟩
  · have e : cmpTag (bts a) (bts b) = cmpI (numberL (bts a)).1 (numberL (bts b)).1 := by simp [cmpTag, h1, h2]
    rw [e]
    clear e
    go_enter Try.func80, Try.ntmps80
    go_wp2_with (first | (go_at_call_of 94 a; refine (numeric_any a _ ha).mono ?_; rintro e w' ⟨rfl, rfl⟩) | (go_at_call_of 94 b; refine (numeric_any b _ hb).mono ?_; rintro e w' ⟨rfl, rfl⟩))
    refine (number_any a _).mono ?_
    rintro e w1 ⟨rfl, hb1⟩
    go_wp2_with fail
    refine (number_any b _).mono ?_
    rintro e w2 ⟨rfl, hb2⟩
    go_wp2_with (go_at_call 53; refine (cmpi_any _ _ _).mono ?_; rintro e w' ⟨rfl, rfl⟩)
    go_ret
    exact ⟨rfl, below_tr hb1 hb2⟩

set_option maxHeartbeats 1000000 in
theorem one_any (a b : ByteArray) (w : World) (ha : a.size ≤ 9223372036854775807) (hb : b.size ≤ 9223372036854775807) : Calls Try.prog 97 #[.string a, .string b] w (IntPost w (cmpTag (bts a) (bts b))) := by
  cases h1 : numericL (bts a) <;> cases h2 : numericL (bts b)
  · have e : cmpTag (bts a) (bts b) = cmpB (bts a) (bts b) := by simp [cmpTag, h1, h2]
    rw [e]
    clear e
    go_enter Try.func97, Try.ntmps97
    go_wp2_with (first | (go_at_call_of 88 a; refine (rnumeric_any a _ ha).mono ?_; rintro e w' ⟨rfl, rfl⟩) | (go_at_call_of 88 b; refine (rnumeric_any b _ hb).mono ?_; rintro e w' ⟨rfl, rfl⟩) | (go_at_call 101; refine (texts_any _ _ _).mono ?_; rintro e w' ⟨rfl, rfl⟩))
    go_ret
    exact ⟨rfl, Below.refl _ _⟩
  · have e : cmpTag (bts a) (bts b) = 1 := by simp [cmpTag, h1, h2]
    rw [e]
    clear e
    go_enter Try.func97, Try.ntmps97
    go_wp2_with (first | (go_at_call_of 88 a; refine (rnumeric_any a _ ha).mono ?_; rintro e w' ⟨rfl, rfl⟩) | (go_at_call_of 88 b; refine (rnumeric_any b _ hb).mono ?_; rintro e w' ⟨rfl, rfl⟩))
    go_ret
    exact ⟨rfl, Below.refl _ _⟩
  · have e : cmpTag (bts a) (bts b) = -1 := by simp [cmpTag, h1, h2]
    rw [e]
    clear e
    go_enter Try.func97, Try.ntmps97
    go_wp2_with (first | (go_at_call_of 88 a; refine (rnumeric_any a _ ha).mono ?_; rintro e w' ⟨rfl, rfl⟩) | (go_at_call_of 88 b; refine (rnumeric_any b _ hb).mono ?_; rintro e w' ⟨rfl, rfl⟩))
    go_ret
    exact ⟨rfl, Below.refl _ _⟩
  · have e : cmpTag (bts a) (bts b) = cmpI (numberL (bts a)).1 (numberL (bts b)).1 := by simp [cmpTag, h1, h2]
    rw [e]
    clear e
    go_enter Try.func97, Try.ntmps97
    go_wp2_with (first | (go_at_call_of 88 a; refine (rnumeric_any a _ ha).mono ?_; rintro e w' ⟨rfl, rfl⟩) | (go_at_call_of 88 b; refine (rnumeric_any b _ hb).mono ?_; rintro e w' ⟨rfl, rfl⟩))
    refine (rnumber_any a _).mono ?_
    rintro e w1 ⟨rfl, hb1⟩
    go_wp2_with fail
    refine (rnumber_any b _).mono ?_
    rintro e w2 ⟨rfl, hb2⟩
    go_wp2_with (go_at_call 59; refine (ints_any _ _ _).mono ?_; rintro e w' ⟨rfl, rfl⟩)
    go_ret
    exact ⟨rfl, below_tr hb1 hb2⟩
end Go.Proofs.Ytodicnjoimoiiaa
