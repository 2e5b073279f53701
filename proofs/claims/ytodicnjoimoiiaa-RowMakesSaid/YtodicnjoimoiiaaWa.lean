/- The walks of the small functions on bytes. -/
import Derived.Test.YtodicnjoimoiiaaKit
namespace Go.Proofs.Ytodicnjoimoiiaa
open Go.RowKit Go.Lib
set_option linter.unusedVariables false
set_option linter.unusedSimpArgs false

theorem fits_any (n : Int) (w : World) : Calls Try.prog 82 #[.int .i64 n] w fun e w' => e = .returned (.bool (decide (0 ≤ n ∧ n ≤ 9999))) ∧ w = w' := by
  by_cases h0 : 0 ≤ n
  · by_cases h1 : n ≤ 9999
    · go_enter Try.func82, Try.ntmps82
      go_wp2
      go_ret
      exact ⟨by simp [h0, h1], rfl⟩
    · have hd : decide (n ≤ 9999) = false := by simpa using h1
      go_enter Try.func82, Try.ntmps82
      go_wp2
      go_ret
      exact ⟨by simp [h1], rfl⟩
  · have hd : decide (0 ≤ n) = false := by simpa using h0
    go_enter Try.func82, Try.ntmps82
    go_wp2
    go_ret
    exact ⟨by simp [h0], rfl⟩

set_option maxRecDepth 100000 in
set_option maxHeartbeats 400000 in
theorem numeric_any (s : ByteArray) (w : World) (hs : s.size ≤ 9223372036854775807) : Calls Try.prog 94 #[.string s] w fun e w' => e = .returned (.bool (numericL (bts s))) ∧ w = w' := by
  go_enter Try.func94, Try.ntmps94
  go_wp2
  go_loop [2, 3, 6, 11, 12, 13, 14, 15, 16, 17, 18] (fun a i k u1 u2 u3 u4 u5 u6 u7 u8 => ∃ n : Nat, n ≤ s.size ∧ k = .int .i64 n ∧ ((bts s).take n).all isDig = true) (fun _ _ k _ _ _ _ _ _ _ _ => s.size - (intOf k).toNat)
  case atStart => exact ⟨0, Nat.zero_le _, rfl, rfl⟩
  case round =>
    obtain ⟨n, hn, rfl, hall⟩ := hrel
    have HA := hid hall
    clear hall
    go_wp2
    · go_ret
      have hl : n < s.size := by assumption
      refine ⟨?_, rfl⟩
      rw [numericL, bts_all_false s n hl (by simp [isDig]; omega)]; rfl
    · go_round
      case rel => exact ⟨n + 1, by omega, by go_num, bts_all_take s n (by assumption) HA.out (by simp [isDig]; omega)⟩
      case measure => simp [intOf]; omega
    · go_ret
      have hl : n < s.size := by assumption
      refine ⟨?_, rfl⟩
      rw [numericL, bts_all_false s n hl (by simp [isDig]; omega)]; rfl
    · go_ret
      have he : n = s.size := by omega
      subst he
      have h := HA.out
      rw [bts_take_all] at h
      refine ⟨?_, rfl⟩
      rw [numericL, h]; rfl

/-- what a call that parts a text has left: a slice of its own that holds the parts -/
def Parts (w : World) (ls : List (List UInt8)) (e : Ending) (w' : World) : Prop :=
  ∃ g cap, e = .returned (.slice (some ⟨g, 0, none⟩) ls.length cap) ∧ w.heap.size ≤ g ∧ g < w'.heap.size ∧ ls.length ≤ cap ∧ (∀ j, j < ls.length → w'.cell? ⟨g, j, none⟩ = some (strV (ls.getD j []))) ∧ Below w.heap.size w w'

theorem parts_mk {w w' : World} {v : Value} {ls : List (List UInt8)} (h : w'.ownsRow w.heap.size 9 1 v ls.length (ls.map strV)) (hp : 0 < ls.length) (hb : Below w.heap.size w w') : Parts w ls (.returned v) w' := by
  obtain ⟨g, cap, rfl, hg, hlt, hc, hcell⟩ := own_form h hp
  refine ⟨g, cap, rfl, hg, hlt, hc, fun j hj => ?_, hb⟩
  rw [hcell j (by omega)]
  simp [hj]

theorem int_beq {a b : Int} (h : (a == b) = true) : a = b := by simpa using h
theorem int_bne {a b : Int} (h : (a == b) = false) : ¬ a = b := by simpa using h
theorem u8_of_beq {a b : UInt8} (h : ((a.toNat : Int) == (b.toNat : Int)) = true) : a = b := UInt8.toNat_inj.1 (by have := int_beq h; omega)
theorem u8_of_bne {a b : UInt8} (h : ((a.toNat : Int) == (b.toNat : Int)) = false) : ¬ a = b := fun e => int_bne h (by rw [e])

def SplitRel (w : World) (s : ByteArray) (b : UInt8) (l : Value) (f k : Nat) (wr : World) : Prop :=
  ∃ ps : List (List UInt8), k ≤ s.size ∧ f ≤ k ∧ ps.length ≤ k ∧ wr.ownsRow w.heap.size 9 1 l ps.length (ps.map strV) ∧
    splitL b [] (bts s) = ps ++ splitL b (((bts s).take k).drop f) ((bts s).drop k) ∧ Below w.heap.size w wr

theorem splitRel_start (w : World) (s : ByteArray) (b : UInt8) : SplitRel w s b (.slice none 0 0) 0 0 w :=
  ⟨[], Nat.zero_le _, Nat.le_refl _, Nat.zero_le _, World.ownsRow_nil _ _ _ _, by simp, Below.refl _ _⟩
theorem splitRel_cut {w w' : World} {s : ByteArray} {b : UInt8} {v' : Value} {f k : Nat} {ps : List (List UInt8)} (hlt : k < s.size) (hf : f ≤ k) (hp : ps.length ≤ k)
    (HS : splitL b [] (bts s) = ps ++ splitL b (((bts s).take k).drop f) ((bts s).drop k)) (hc : ((s[k].toNat : Int) == (b.toNat : Int)) = true)
    (h2 : w'.ownsRow w.heap.size 9 1 v' (ps.length + 1) (ps.map strV ++ [.string (s.extract f k)])) (hb : Below w.heap.size w w') : SplitRel w s b v' (k + 1) (k + 1) w' := by
  refine ⟨ps ++ [((bts s).take k).drop f], by omega, Nat.le_refl _, by simp; omega, ?_, ?_, hb⟩
  · rw [strV_extract, ← take_drop_comm] at h2
    simpa using h2
  · rw [HS, splitL_step b s k f hlt hf, if_pos (u8_of_beq hc)]
    have : ((bts s).take (k + 1)).drop (k + 1) = [] := List.drop_eq_nil_of_le (by rw [List.length_take]; omega)
    rw [this]
    simp
theorem splitRel_on {w wr : World} {s : ByteArray} {b : UInt8} {l : Value} {f k : Nat} {ps : List (List UInt8)} (hlt : k < s.size) (hf : f ≤ k) (hp : ps.length ≤ k)
    (HS : splitL b [] (bts s) = ps ++ splitL b (((bts s).take k).drop f) ((bts s).drop k)) (hc : ((s[k].toNat : Int) == (b.toNat : Int)) = false)
    (h2 : wr.ownsRow w.heap.size 9 1 l ps.length (ps.map strV)) (hb : Below w.heap.size w wr) : SplitRel w s b l f (k + 1) wr := by
  refine ⟨ps, by omega, by omega, by omega, h2, ?_, hb⟩
  rw [HS, splitL_step b s k f hlt hf, if_neg (u8_of_bne hc)]
theorem splitRel_end {w w' : World} {s : ByteArray} {b : UInt8} {v' : Value} {f : Nat} {ps : List (List UInt8)}
    (HS : splitL b [] (bts s) = ps ++ splitL b (((bts s).take s.size).drop f) ((bts s).drop s.size))
    (h2 : w'.ownsRow w.heap.size 9 1 v' (ps.length + 1) (ps.map strV ++ [.string (s.extract f s.size)])) (hb : Below w.heap.size w w') : Parts w (splitL b [] (bts s)) (.returned v') w' := by
  have e : (bts s).drop s.size = [] := List.drop_eq_nil_of_le (by rw [bts_len]; omega)
  rw [e] at HS
  rw [HS]
  refine parts_mk ?_ (by simp [splitL]) hb
  rw [strV_extract, ← take_drop_comm] at h2
  simpa [splitL] using h2

set_option maxRecDepth 100000 in
set_option maxHeartbeats 400000 in
theorem split_any (s : ByteArray) (b : UInt8) (w : World) (hs : s.size ≤ 4398046511104) : Calls Try.prog 79 #[.string s, .int .u8 b.toNat] w (Parts w (splitL b [] (bts s))) := by
  have hM : maxLen = 9223372036854775807 := rfl
  go_enter Try.func79, Try.ntmps79
  go_wp2
  go_loopw [5, 6, 10] (fun l fr i wr => ∃ (k f : Nat), i = .int .i64 k ∧ fr = .int .i64 f ∧ SplitRel w s b l f k wr) (fun _ _ i _ => s.size - (intOf i).toNat)
  case atStart => exact ⟨0, 0, rfl, rfl, splitRel_start _ _ _⟩
  case round =>
    obtain ⟨k, f, rfl, rfl, ps, hk, hf, hp, hown, hS, hb⟩ := hrel
    have HS := hid hS
    clear hS
    have hsz := hb.size
    go_wp2_with (first | (at_builtin; refine wpList_app1 EKstrs rfl (.tmp 18) (.tmp 23) rfl [.string (s.extract f k)] hown hb rfl rfl rfl ?_ (by omega) (by omega) (Nat.le_refl _) hsz ?_) | (at_builtin; refine wpList_app1 EKstrs rfl (.tmp 28) (.tmp 32) rfl [.string (s.extract f s.size)] hown hb rfl rfl rfl ?_ (by omega) (by omega) (Nat.le_refl _) hsz ?_))
    · simp [Value.oneCell']
    · intro v' w' h2 hb2 hs2
      have hc : ((s[k].toNat : Int) == (b.toNat : Int)) = true := by assumption
      have R := hid (splitRel_cut (by assumption) hf hp HS.out hc h2 hb2)
      clear hown h2 hc
      go_wp2
      go_roundw
      case rel => exact ⟨k + 1, k + 1, by go_num, by go_num, R.out⟩
      case measure => simp [intOf]; omega
    · have hc : ((s[k].toNat : Int) == (b.toNat : Int)) = false := by assumption
      go_roundw
      case rel => exact ⟨k + 1, f, by go_num, rfl, splitRel_on (by assumption) hf hp HS.out hc hown hb⟩
      case measure => simp [intOf]; omega
    · simp [Value.oneCell']
    · intro v' w' h2 hb2 hs2
      have hke : k = s.size := by omega
      subst hke
      have R := hid (splitRel_end HS.out h2 hb2)
      clear hown h2
      go_wp2
      go_ret
      exact R.out
end Go.Proofs.Ytodicnjoimoiiaa
