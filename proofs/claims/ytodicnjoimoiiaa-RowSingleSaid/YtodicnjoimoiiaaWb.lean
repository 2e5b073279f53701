/- The walks of ident.Number and its like: a range over a text. -/
import Derived.Test.YtodicnjoimoiiaaWa
namespace Go.Proofs.Ytodicnjoimoiiaa
open Go.RowKit Go.Lib
set_option linter.unusedVariables false
set_option linter.unusedSimpArgs false

/-- a number and whether it is one have come back; memory has grown at most -/
def Num2 (w : World) (r : Int × Bool) (e : Ending) (w' : World) : Prop := e = .returned (.tuple #[.int .i64 r.1, .bool r.2]) ∧ Below w.heap.size w w'
theorem numberL_bad {l : List UInt8} (h : badNum l = true) : numberL l = (0, false) := by rw [numberL, if_pos h]
theorem numberL_good {l : List UInt8} (h : badNum l = false) : numberL l = (numL l, true) := by rw [numberL, if_neg (by rw [h]; simp)]
theorem num2_bad {w w' : World} {s : ByteArray} (h : badNum (bts s) = true) (hb : Below w.heap.size w w') : Num2 w (numberL (bts s)) (.returned (.tuple #[.int .i64 0, .bool false])) w' := by
  rw [numberL_bad h]; exact ⟨rfl, hb⟩
theorem bts_head {s : ByteArray} (h : 0 < s.size) : (bts s).head? = some s[0] := by
  rw [List.head?_eq_getElem?, List.getElem?_eq_getElem (by rw [bts_len]; exact h), bts_get s 0 h]
theorem bad_long {s : ByteArray} (h : 4 < s.size) : badNum (bts s) = true := by simp [badNum, bts_len, h]
theorem bad_zero {s : ByteArray} (h : 1 < s.size) (h0 : s[0].toNat = 48) : badNum (bts s) = true := by
  have : s[0] = 48 := UInt8.toNat_inj.1 h0
  rw [badNum, bts_head (by omega), this]; simp [bts_len, h]
theorem bad_char {s : ByteArray} {k : Nat} (h : k < s.size) (h0 : isDig s[k] = false) : badNum (bts s) = true := by
  rw [badNum, bts_all_false s k h h0]; simp
theorem not_bad {s : ByteArray} (h0 : 0 < s.size) (h4 : s.size ≤ 4) (hz : s.size ≤ 1 ∨ ¬ s[0].toNat = 48) (ha : (bts s).all isDig = true) : badNum (bts s) = false := by
  have hl := bts_len s
  rw [badNum, bts_head h0, ha, hl]
  have e1 : (bts s).isEmpty = false := by rw [Bool.eq_false_iff]; intro e; rw [bts_empty] at e; omega
  have e2 : decide (4 < s.size) = false := by simp; omega
  rw [e1, e2]
  rcases hz with hz | hz
  · have : decide (1 < s.size) = false := by simp; omega
    rw [this]; simp
  · have : (some s[0] == some (48 : UInt8)) = false := by
      rw [beq_eq_false_iff_ne]
      intro e
      injection e with e
      exact hz (by rw [e]; rfl)
    rw [this]; simp

def NumRel (w : World) (s : ByteArray) (n : Int) (wr : World) : Prop := ∃ k : Nat, k ≤ s.size ∧ n = numL ((bts s).take k) ∧ ((bts s).take k).all isDig = true ∧ wr = w.iter s k
theorem numRel_start (w : World) (s : ByteArray) : NumRel w s 0 (w.iter s 0) := ⟨0, Nat.zero_le _, rfl, rfl, rfl⟩
theorem numL_take_bounds (s : ByteArray) (k : Nat) (hk : k ≤ s.size) (h4 : s.size ≤ 4) (ha : ((bts s).take k).all isDig = true) : 0 ≤ numL ((bts s).take k) ∧ numL ((bts s).take k) ≤ 9999 := by
  have h := numL_bounds k _ (by rw [List.length_take, bts_len]; omega) ha
  rcases (show k = 0 ∨ k = 1 ∨ k = 2 ∨ k = 3 ∨ k = 4 from by omega) with rfl | rfl | rfl | rfl | rfl <;> omega
theorem below_iter (w : World) (s : ByteArray) (k : Nat) : Below w.heap.size w (w.iter s k) := (Below.refl _ _).alloc (Nat.le_refl _) _

theorem ne_of_size {s : ByteArray} (h0 : 0 < s.size) : s.toList.isEmpty = false ∧ ¬ s.toList = [] := by
  have hne : ¬ s.toList = [] := by intro e; have := bts_len s; rw [bts, e] at this; simp at this; omega
  exact ⟨by simpa using hne, hne⟩

theorem numRel_step {w : World} {s : ByteArray} {k : Nat} (hk : k < s.size) (ha : ((bts s).take k).all isDig = true) (hd : isDig s[k] = true) :
    NumRel w s (10 * numL ((bts s).take k) + ((s[k].toNat : Int) - 48)) (w.iter s (k + 1)) :=
  ⟨k + 1, by omega, by rw [bts_take s k hk, numL_snoc], bts_all_take s k hk ha hd, rfl⟩

theorem decode_nondig (s : ByteArray) (k : Nat) (h : k < s.size) (hd : isDig s[k] = false) : (Utf8.decode s k).1 < 48 ∨ 57 < (Utf8.decode s k).1 := by
  simp only [isDig, decide_eq_false_iff_not] at hd
  by_cases ha : s[k].toNat < 128
  · rw [decode_ascii s k h ha]; simp only; omega
  · have := (decode_high s k h (by omega)).1; omega

set_option maxRecDepth 100000 in
set_option maxHeartbeats 800000 in
theorem number_go (s : ByteArray) (w : World) (h0 : 0 < s.size) (h4 : s.size ≤ 4) (hz : s.size ≤ 1 ∨ ¬ s[0].toNat = 48) : Calls Try.prog 95 #[.string s] w (Num2 w (numberL (bts s))) := by
  obtain ⟨he, hne⟩ := ne_of_size h0
  have hd4 : decide ((4 : Int) < (s.size : Int)) = false := by simp; omega
  have HZ := hid hz
  have hcase : (((s[0].toNat : Int) == 48) = true ∧ decide ((1 : Int) < (s.size : Int)) = false) ∨ ((s[0].toNat : Int) == 48) = false := by
    by_cases h : s[0].toNat = 48
    · exact .inl ⟨by simp [h], by simp; omega⟩
    · exact .inr (by rw [beq_eq_false_iff_ne]; omega)
  clear hz
  rcases hcase with ⟨hs0, hd1⟩ | hs0
  all_goals
    go_enter Try.func95, Try.ntmps95
    go_wp2_with fail
    clear hs0
    go_loopw [4] (fun n wr => ∃ z : Int, n = .int .i64 z ∧ NumRel w s z wr) (fun _ wr => s.size - wr.iterPos w.heap.size)
    case atStart => exact ⟨0, rfl, numRel_start w s⟩
    case round =>
      obtain ⟨z, rfl, k, hk, hzk, ha, rfl⟩ := hrel
      have hb := numL_take_bounds s k hk h4 ha
      rw [← hzk] at hb
      obtain ⟨hb1, hb2⟩ := hb
      have HK := hid hzk
      have HA := hid ha
      clear hzk ha
      by_cases hlt : k < s.size
      · by_cases hd : isDig s[k] = true
        · have hdd : 48 ≤ s[k].toNat ∧ s[k].toNat ≤ 57 := by simpa [isDig] using hd
          have HD := hid hd
          clear hd
          obtain ⟨d1, d2⟩ := hdd
          have hnx := fun ty => run_next_ascii (P := Try.prog) w s k ty hlt (by omega)
          generalize hc : s[k].toNat = c at *
          have HC := hid hc
          clear hc
          go_wp2
          go_roundw
          case rel => exact ⟨_, rfl, by have := numRel_step (w := w) hlt HA.out HD.out; rw [← HK.out, HC.out] at this; exact this⟩
          case measure => simp; omega
        · have hdf : isDig s[k] = false := by simpa using hd
          have hnx := fun ty => run_next_any (P := Try.prog) w s k ty hlt
          have hdc := decode_nondig s k hlt hdf
          have HB := hid (bad_char hlt hdf)
          clear hd hdf
          generalize (Utf8.decode s k).1 = c at *
          generalize (Utf8.decode s k).2 = q at *
          rcases hdc with hdc | hdc
          all_goals
            go_wp2
            go_ret2
            exact num2_bad HB.out (below_iter _ _ _)
      · obtain rfl : k = s.size := by omega
        have hnx := fun ty => run_next_end (P := Try.prog) w s s.size ty (by omega)
        have HF := hid (not_bad h0 h4 HZ.out (by have := HA.out; rwa [bts_take_all] at this))
        go_wp2
        go_ret2
        have := HK.out
        rw [bts_take_all] at this
        refine ⟨?_, below_iter _ _ _⟩
        rw [numberL_good HF.out, this]
        have hb3 : decide (z ≤ 9999) = true := by simpa using hb2
        simp_all

theorem number_any (s : ByteArray) (w : World) : Calls Try.prog 95 #[.string s] w (Num2 w (numberL (bts s))) := by
  by_cases h0 : 0 < s.size
  · by_cases h4 : s.size ≤ 4
    · by_cases hz : s.size ≤ 1 ∨ ¬ s[0].toNat = 48
      · exact number_go s w h0 h4 hz
      · obtain ⟨he, hne⟩ := ne_of_size h0
        have hd4 : decide ((4 : Int) < (s.size : Int)) = false := by simp; omega
        have hd1 : decide ((1 : Int) < (s.size : Int)) = true := by simp; omega
        have hs0 : ((s[0].toNat : Int) == 48) = true := by simp; omega
        have HB := hid (bad_zero (s := s) (by omega) (by omega))
        clear hz
        go_enter Try.func95, Try.ntmps95
        go_wp2_with fail
        go_ret2
        exact num2_bad HB.out (Below.refl _ _)
    · obtain ⟨he, hne⟩ := ne_of_size h0
      have hd4 : decide ((4 : Int) < (s.size : Int)) = true := by simp; omega
      have HB := hid (bad_long (s := s) (by omega))
      go_enter Try.func95, Try.ntmps95
      go_wp2_with fail
      go_ret2
      exact num2_bad HB.out (Below.refl _ _)
  · have he : s.toList = [] := by
      apply List.eq_nil_of_length_eq_zero
      have := bts_len s
      simp only [bts] at this
      omega
    have HB := hid (show badNum (bts s) = true by rw [bts, he]; rfl)
    go_enter Try.func95, Try.ntmps95
    go_wp2_with fail
    go_ret2
    exact num2_bad HB.out (Below.refl _ _)

/-! ### The reference's own -/
theorem digit_any (c : UInt8) (w : World) : Calls Try.prog 98 #[.int .u8 c.toNat] w fun e w' => e = .returned (.bool (isDig c)) ∧ w = w' := by
  have hd : isDig c = (decide ((48 : Int) ≤ (c.toNat : Int)) && decide ((c.toNat : Int) ≤ 57)) := by
    rw [isDig, ← Bool.decide_and]
    exact decide_eq_decide.2 (by omega)
  rw [hd]
  clear hd
  by_cases h0 : (48 : Int) ≤ c.toNat
  · go_enter Try.func98, Try.ntmps98
    go_wp2
    go_ret
    exact ⟨by simp [h0], rfl⟩
  · have hd : decide ((48 : Int) ≤ (c.toNat : Int)) = false := by simpa using h0
    go_enter Try.func98, Try.ntmps98
    go_wp2
    go_ret
    exact ⟨by simp [h0], rfl⟩

set_option maxRecDepth 100000 in
set_option maxHeartbeats 400000 in
theorem rnumeric_any (s : ByteArray) (w : World) (hs : s.size ≤ 9223372036854775807) : Calls Try.prog 88 #[.string s] w fun e w' => e = .returned (.bool (numericL (bts s))) ∧ w = w' := by
  go_enter Try.func88, Try.ntmps88
  go_wp2
  go_loop [3] (fun k => ∃ n : Nat, n ≤ s.size ∧ k = .int .i64 n ∧ ((bts s).take n).all isDig = true) (fun k => s.size - (intOf k).toNat)
  case atStart => exact ⟨0, Nat.zero_le _, rfl, rfl⟩
  case round =>
    obtain ⟨n, hn, rfl, hall⟩ := hrel
    have HA := hid hall
    clear hall
    go_wp2
    · go_ret
      have hl : n < s.size := by assumption
      refine ⟨?_, rfl⟩
      rw [numericL, bts_all_false s n hl (by simp [isDig]; omega)]; rfl
    · go_round
      case rel => exact ⟨n + 1, by omega, by go_num, bts_all_take s n (by assumption) HA.out (by simp [isDig]; omega)⟩
      case measure => simp [intOf]; omega
    · go_ret
      have hl : n < s.size := by assumption
      refine ⟨?_, rfl⟩
      rw [numericL, bts_all_false s n hl (by simp [isDig]; omega)]; rfl
    · go_ret
      have he : n = s.size := by omega
      subst he
      have h := HA.out
      rw [bts_take_all] at h
      refine ⟨?_, rfl⟩
      rw [numericL, h]
      have : (!(bts s).isEmpty) = decide (0 < s.size) := by
        by_cases h0 : 0 < s.size
        · rw [(ne_of_size h0).1]; simp [h0]
        · have : (bts s).isEmpty = true := bts_empty.2 (by omega)
          rw [this]; simp [h0]
      rw [this]; rfl

set_option maxRecDepth 100000 in
set_option maxHeartbeats 400000 in
theorem rsplit_any (s : ByteArray) (b : UInt8) (w : World) (hs : s.size ≤ 4398046511104) : Calls Try.prog 85 #[.string s, .int .u8 b.toNat] w (Parts w (splitL b [] (bts s))) := by
  have hM : maxLen = 9223372036854775807 := rfl
  go_enter Try.func85, Try.ntmps85
  go_wp2
  go_loopw [5, 6, 7] (fun l fr i wr => ∃ (k f : Nat), i = .int .i64 k ∧ fr = .int .i64 f ∧ SplitRel w s b l f k wr) (fun _ _ i _ => s.size - (intOf i).toNat)
  case atStart => exact ⟨0, 0, rfl, rfl, splitRel_start _ _ _⟩
  case round =>
    obtain ⟨k, f, rfl, rfl, ps, hk, hf, hp, hown, hS, hb⟩ := hrel
    have HS := hid hS
    clear hS
    have hsz := hb.size
    go_wp2_with (first | (at_builtin; refine wpList_app1 EKstrs rfl (.tmp 19) (.tmp 24) rfl [.string (s.extract f k)] hown hb rfl rfl rfl ?_ (by omega) (by omega) (Nat.le_refl _) hsz ?_) | (at_builtin; refine wpList_app1 EKstrs rfl (.tmp 28) (.tmp 32) rfl [.string (s.extract f s.size)] hown hb rfl rfl rfl ?_ (by omega) (by omega) (Nat.le_refl _) hsz ?_))
    · simp [Value.oneCell']
    · intro v' w' h2 hb2 hs2
      have hc : ((s[k].toNat : Int) == (b.toNat : Int)) = true := by assumption
      have R := hid (splitRel_cut (by assumption) hf hp HS.out hc h2 hb2)
      clear hown h2 hc
      go_wp2
      go_roundw
      case rel => exact ⟨k + 1, k + 1, by go_num, by go_num, R.out⟩
      case measure => simp [intOf]; omega
    · have hc : ((s[k].toNat : Int) == (b.toNat : Int)) = false := by assumption
      go_roundw
      case rel => exact ⟨k + 1, f, by go_num, rfl, splitRel_on (by assumption) hf hp HS.out hc hown hb⟩
      case measure => simp [intOf]; omega
    · simp [Value.oneCell']
    · intro v' w' h2 hb2 hs2
      have hke : k = s.size := by omega
      subst hke
      have R := hid (splitRel_end HS.out h2 hb2)
      clear hown h2
      go_wp2
      go_ret
      exact R.out

theorem tag_long {s : ByteArray} (h : s.size < 1 ∨ 8 < s.size) : tagOk (bts s) = false := by
  have hl := bts_len s
  rw [tagOk]
  rcases h with h | h
  · have : (bts s).isEmpty = true := bts_empty.2 (by omega)
    rw [this]; rfl
  · have : decide ((bts s).length ≤ 8) = false := by simp; omega
    rw [this]; simp
theorem tag_char {s : ByteArray} {k : Nat} (h : k < s.size) (h0 : tagCh s[k] = false) : tagOk (bts s) = false := by
  rw [tagOk, bts_all_false s k h h0]; simp
theorem tag_good {s : ByteArray} (h0 : 0 < s.size) (h8 : s.size ≤ 8) (ha : ((bts s).take s.size).all tagCh = true) : tagOk (bts s) = true := by
  rw [bts_take_all] at ha
  rw [tagOk, ha, (ne_of_size h0).1, bts_len]
  simp [h8]
theorem tagCh_yes {c : UInt8} (h : tagCh c = true) : c.toNat = 45 ∨ (48 ≤ c.toNat ∧ c.toNat ≤ 57) ∨ (97 ≤ c.toNat ∧ c.toNat ≤ 122) := by
  simp only [tagCh, decide_eq_true_eq] at h; omega
theorem tagCh_no {c : UInt8} (h : tagCh c = false) : c.toNat < 45 ∨ (45 < c.toNat ∧ c.toNat < 48) ∨ (57 < c.toNat ∧ c.toNat < 97) ∨ 122 < c.toNat := by
  simp only [tagCh, decide_eq_false_iff_not] at h; omega

set_option maxRecDepth 100000 in
set_option maxHeartbeats 1000000 in
theorem rtag_any (s : ByteArray) (w : World) (hs : s.size ≤ 9223372036854775807) : Calls Try.prog 86 #[.string s] w fun e w' => e = .returned (.bool (tagOk (bts s))) ∧ w = w' := by
  by_cases h0 : s.size < 1 ∨ 8 < s.size
  · rw [tag_long h0]
    rcases h0 with h0 | h0
    · go_enter Try.func86, Try.ntmps86
      go_wp2
      go_ret
      exact ⟨rfl, rfl⟩
    · have h1 : decide ((s.size : Int) < 1) = false := by simp; omega
      go_enter Try.func86, Try.ntmps86
      go_wp2
      go_ret
      exact ⟨rfl, rfl⟩
  · have h1 : decide ((s.size : Int) < 1) = false := by simp; omega
    have h2 : decide ((8 : Int) < (s.size : Int)) = false := by simp; omega
    have hlo : 0 < s.size := by omega
    have hhi : s.size ≤ 8 := by omega
    clear h0
    generalize hr : tagOk (bts s) = r
    have HR := hid hr
    clear hr
    go_enter Try.func86, Try.ntmps86
    go_wp2
    go_loop [3] (fun k => ∃ n : Nat, n ≤ s.size ∧ k = .int .i64 n ∧ ((bts s).take n).all tagCh = true) (fun k => s.size - (intOf k).toNat)
    case atStart => exact ⟨0, Nat.zero_le _, rfl, rfl⟩
    case round =>
      obtain ⟨n, hn, rfl, hall⟩ := hrel
      have HA := hid hall
      clear hall h1 h2
      by_cases hlt : n < s.size
      · by_cases hd : tagCh s[n] = true
        · have HD := hid hd
          rcases tagCh_yes hd with hc | ⟨hc1, hc2⟩ | ⟨hc1, hc2⟩
          · clear hd
            have hc1 : (s[n].toNat : Int) < 48 := by omega
            have hc2 : ((s[n].toNat : Int) != 45) = false := by simp [hc]
            clear hc
            go_wp2
            go_round
            case rel => exact ⟨n + 1, by omega, by go_num, bts_all_take s n hlt HA.out HD.out⟩
            case measure => simp [intOf]; omega
          all_goals
            clear hd
            go_wp2
            go_round
            case rel => exact ⟨n + 1, by omega, by go_num, bts_all_take s n hlt HA.out HD.out⟩
            case measure => simp [intOf]; omega
        · have hdf : tagCh s[n] = false := by simpa using hd
          have hc := tagCh_no hdf
          have hc45 : ((s[n].toNat : Int) != 45) = true := by rw [bne_iff_ne]; omega
          have HD := hid hdf
          clear hd hdf
          rcases hc with c1 | ⟨c1, c2⟩ | ⟨c1, c2⟩ | c1
          all_goals
            go_wp2
            go_ret
            exact ⟨by rw [← HR.out, tag_char hlt HD.out]; rfl, rfl⟩
      · obtain rfl : n = s.size := by omega
        go_wp2
        go_ret
        exact ⟨by rw [← HR.out, tag_good hlo hhi HA.out]; rfl, rfl⟩
end Go.Proofs.Ytodicnjoimoiiaa
