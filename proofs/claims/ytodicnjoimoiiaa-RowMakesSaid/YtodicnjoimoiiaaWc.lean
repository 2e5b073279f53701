/- The walks of the reference's Number and of the two functions that look at a row of tags. -/
import Derived.Test.YtodicnjoimoiiaaWb
namespace Go.Proofs.Ytodicnjoimoiiaa
open Go.RowKit Go.Lib
set_option linter.unusedVariables false
set_option linter.unusedSimpArgs false

theorem numL_fold : ∀ (l : List UInt8) (a : Int), l.foldl (fun n c => 10 * n + ((c.toNat : Int) - 48)) a = a * 10 ^ l.length + numL l
  | [], a => by simp [numL]
  | c :: l, a => by
    have h1 := numL_fold l (10 * a + ((c.toNat : Int) - 48))
    have h2 := numL_fold l (10 * 0 + ((c.toNat : Int) - 48))
    have h3 : numL (c :: l) = (10 * 0 + ((c.toNat : Int) - 48)) * 10 ^ l.length + numL l := by
      show List.foldl _ 0 (c :: l) = _
      rw [List.foldl_cons]; exact h2
    rw [List.foldl_cons, h1, h3, List.length_cons, Int.pow_succ]
    rw [Int.add_mul, Int.add_mul]
    have : 10 * a * 10 ^ l.length = a * (10 ^ l.length * 10) := by rw [Int.mul_comm 10 a, Int.mul_assoc, Int.mul_comm 10]
    omega
theorem ten_pow_le (a : Nat) : ∀ d : Nat, (10 : Int) ^ a ≤ 10 ^ (a + d)
  | 0 => Int.le_refl _
  | d + 1 => by
    have h := ten_pow_le a d
    have h0 : (0 : Int) ≤ 10 ^ (a + d) := Int.le_of_lt (Int.pow_pos (by omega))
    rw [← Nat.add_assoc, Int.pow_succ]
    omega
theorem ten_pow_mono {a b : Nat} (h : a ≤ b) : (10 : Int) ^ a ≤ 10 ^ b := by
  have := ten_pow_le a (b - a)
  rwa [show a + (b - a) = b from by omega] at this
theorem numL_cons (c : UInt8) (l : List UInt8) : numL (c :: l) = ((c.toNat : Int) - 48) * 10 ^ l.length + numL l := by
  have := numL_fold l (10 * 0 + ((c.toNat : Int) - 48))
  rw [numL, List.foldl_cons, this]; simp
theorem numL_big {s : ByteArray} (h4 : 4 < s.size) (hz : ¬ s[0].toNat = 48) (ha : (bts s).all isDig = true) : 9999 < numL (bts s) := by
  have hl := bts_len s
  have hg := bts_get s 0 (by omega)
  cases hb : bts s with
  | nil => rw [hb] at hl; simp at hl; omega
  | cons c r =>
    have hc0 : c = s[0] := by rw [← hg]; simp [hb]
    rw [hb, List.all_cons, Bool.and_eq_true] at ha
    have hr := numL_bounds r.length r rfl ha.2
    have hd := ha.1
    simp only [isDig, decide_eq_true_eq] at hd
    rw [hb, List.length_cons] at hl
    rw [numL_cons]
    have h1 : (1 : Int) ≤ (c.toNat : Int) - 48 := by rw [hc0] at hd ⊢; omega
    have h2 : (10 : Int) ^ 4 ≤ 10 ^ r.length := ten_pow_mono (by omega)
    have h3 : 1 * (10 : Int) ^ r.length ≤ ((c.toNat : Int) - 48) * 10 ^ r.length := Int.mul_le_mul_of_nonneg_right h1 (by omega)
    omega
theorem bad_rlong {s : ByteArray} (h : s.size < 1 ∨ 9 < s.size) : badNum (bts s) = true := by
  rcases h with h | h
  · have : (bts s).isEmpty = true := bts_empty.2 (by omega)
    rw [badNum, this]; rfl
  · exact bad_long (by omega)
theorem numL_take_small (s : ByteArray) (k : Nat) (hk : k ≤ s.size) (h9 : s.size ≤ 9) (ha : ((bts s).take k).all isDig = true) : 0 ≤ numL ((bts s).take k) ∧ numL ((bts s).take k) < 1000000000 := by
  have hl := bts_len s
  have h := numL_bounds k _ (by rw [List.length_take]; omega) ha
  have h2 : (10 : Int) ^ k ≤ 10 ^ 9 := ten_pow_mono (by omega)
  omega
theorem rnum_end {w : World} {s : ByteArray} {z : Int} (h0 : 0 < s.size) (hz : s.size ≤ 1 ∨ ¬ s[0].toNat = 48) (hzk : z = numL ((bts s).take s.size)) (ha : ((bts s).take s.size).all isDig = true) :
    (9999 < z → Num2 w (numberL (bts s)) (.returned (.tuple #[.int .i64 0, .bool false])) w) ∧ (¬ 9999 < z → Num2 w (numberL (bts s)) (.returned (.tuple #[.int .i64 z, .bool true])) w) := by
  rw [bts_take_all] at hzk ha
  by_cases h4 : s.size ≤ 4
  · have hb := numL_take_bounds s s.size (Nat.le_refl _) h4 (by rw [bts_take_all]; exact ha)
    rw [bts_take_all] at hb
    refine ⟨fun h => by omega, fun _ => ?_⟩
    refine ⟨?_, Below.refl _ _⟩
    rw [numberL_good (not_bad h0 h4 hz ha), hzk]
  · refine ⟨fun _ => num2_bad (bad_long (by omega)) (Below.refl _ _), fun h => ?_⟩
    have := numL_big (s := s) (by omega) (by omega) ha
    omega

set_option maxRecDepth 100000 in
set_option maxHeartbeats 1000000 in
theorem rnumber_any (s : ByteArray) (w : World) : Calls Try.prog 87 #[.string s] w (Num2 w (numberL (bts s))) := by
  by_cases h0 : s.size < 1 ∨ 9 < s.size
  · have HB := hid (bad_rlong h0)
    rcases h0 with h0 | h0
    · go_enter Try.func87, Try.ntmps87
      go_wp2_with fail
      go_ret2
      exact num2_bad HB.out (Below.refl _ _)
    · have h1 : decide ((s.size : Int) < 1) = false := by simp; omega
      have h2 : decide ((9 : Int) < (s.size : Int)) = true := by simp; omega
      go_enter Try.func87, Try.ntmps87
      go_wp2_with fail
      go_ret2
      exact num2_bad HB.out (Below.refl _ _)
  · have hlo : 0 < s.size := by omega
    have hhi : s.size ≤ 9 := by omega
    clear h0
    have h1 : decide ((s.size : Int) < 1) = false := by simp; omega
    have h2 : decide ((9 : Int) < (s.size : Int)) = false := by simp; omega
    by_cases hz : 1 < s.size ∧ s[0].toNat = 48
    · have h3 : decide ((1 : Int) < (s.size : Int)) = true := by simp; omega
      have hs0 : ((s[0].toNat : Int) == 48) = true := by simp; omega
      have HB := hid (bad_zero hz.1 hz.2)
      clear hz
      go_enter Try.func87, Try.ntmps87
      go_wp2_with fail
      go_ret2
      exact num2_bad HB.out (Below.refl _ _)
    · have HZ := hid (show s.size ≤ 1 ∨ ¬ s[0].toNat = 48 from by omega)
      have hcase : decide ((1 : Int) < (s.size : Int)) = false ∨ (decide ((1 : Int) < (s.size : Int)) = true ∧ ((s[0].toNat : Int) == 48) = false) := by
        by_cases h : 1 < s.size
        · exact .inr ⟨by simp; omega, by rw [beq_eq_false_iff_ne]; omega⟩
        · exact .inl (by simp; omega)
      clear hz
      rcases hcase with h3 | ⟨h3, hs0⟩
      all_goals
        go_enter Try.func87, Try.ntmps87
        go_wp2_with fail
        clear h1 h2 h3
        go_loop [4, 5] (fun n i => ∃ (k : Nat) (z : Int), i = .int .i64 k ∧ n = .int .i64 z ∧ k ≤ s.size ∧ z = numL ((bts s).take k) ∧ ((bts s).take k).all isDig = true) (fun _ i => s.size - (intOf i).toNat)
        case atStart => exact ⟨0, 0, rfl, rfl, Nat.zero_le _, rfl, rfl⟩
        case round =>
          obtain ⟨k, z, rfl, rfl, hk, hzk, ha⟩ := hrel
          have hb := numL_take_small s k hk hhi ha
          rw [← hzk] at hb
          obtain ⟨hb1, hb2⟩ := hb
          have HK := hid hzk
          have HA := hid ha
          clear hzk ha
          by_cases hlt : k < s.size
          · by_cases hd : isDig s[k] = true
            · have hdd : 48 ≤ s[k].toNat ∧ s[k].toNat ≤ 57 := by simpa [isDig] using hd
              obtain ⟨d1, d2⟩ := hdd
              have HD := hid hd
              go_wp2_with (go_at_call 98; refine (digit_any _ _).mono ?_; rintro e w' ⟨rfl, rfl⟩)
              go_round
              case rel => exact ⟨k + 1, _, by go_num, rfl, by omega, by have := HK.out; rw [bts_take s k hlt, numL_snoc, ← this, Int.mul_comm], bts_all_take s k hlt HA.out HD.out⟩
              case measure => simp [intOf]; omega
            · have hdf : isDig s[k] = false := by simpa using hd
              have HB := hid (bad_char hlt hdf)
              clear hd
              go_wp2_with (go_at_call 98; refine (digit_any _ _).mono ?_; rintro e w' ⟨rfl, rfl⟩)
              go_ret2
              exact num2_bad HB.out (Below.refl _ _)
          · obtain rfl : k = s.size := by omega
            have HE := hid (rnum_end (w := w) hlo HZ.out HK.out HA.out)
            go_wp2_with fail
            · go_ret2
              exact HE.out.1 (by assumption)
            · go_ret2
              exact HE.out.2 (by omega)
end Go.Proofs.Ytodicnjoimoiiaa
