import Derived.Test.YtplmlahpmnjneaaGreatDoorMDk
namespace Go.Proofs.YtplmlahpmnjneaaGreatDoor
open Go.RowKit Go.Lib
open Rw
set_option linter.unusedVariables false
set_option linter.unusedSimpArgs false
def barEnd : List UInt8 → Bool
  | [] => false
  | n :: _ => n != 124
def wideB : List UInt8 → List UInt8
  | [] => []
  | b :: t => (if b = 44 then [32] else []) ++ (b :: ((if b = 44 ∨ (b = 124 ∧ barEnd t = true) then [32, 32] else []) ++ wideB t))
theorem wideB_plain {l : List UInt8} (h1 : 44 ∉ l) (h2 : 124 ∉ l) (t : List UInt8) : wideB (l ++ t) = l ++ wideB t := by
  induction l with
  | nil => rfl
  | cons b l ih =>
    have n1 : b ≠ 44 := fun e => h1 (by rw [e]; simp)
    have n2 : b ≠ 124 := fun e => h2 (by rw [e]; simp)
    have i := ih (fun h => h1 (List.mem_cons_of_mem _ h)) (fun h => h2 (List.mem_cons_of_mem _ h))
    simp only [List.cons_append, wideB, if_neg n1, i]
    rw [if_neg (by intro h; rcases h with h | h; exact n1 h; exact n2 h.1)]
    rfl
theorem wideB_comma (t : List UInt8) : wideB (44 :: 32 :: t) = 32 :: 44 :: 32 :: 32 :: 32 :: wideB t := by simp [wideB]
theorem wideB_bars (t : List UInt8) : wideB (32 :: 124 :: 124 :: 32 :: t) = 32 :: 124 :: 124 :: 32 :: 32 :: 32 :: wideB t := by simp [wideB, barEnd]
theorem wideB_comps : ∀ (a : List CompL) (t : List UInt8), wideB (compsW [] sp1 a ++ t) = compsW sp1 sp3 a ++ wideB t
  | [], t => rfl
  | [c], t => wideB_plain (printX_no (.inr (.inl rfl)) c) (printX_no (.inr (.inr rfl)) c) t
  | c :: d :: a, t => by
    have ih := wideB_comps (d :: a) t
    have e1 : compsW [] sp1 (c :: d :: a) = printX c ++ (44 :: 32 :: compsW [] sp1 (d :: a)) := by simp [compsW, joinS, sp1]
    have e2 : compsW sp1 sp3 (c :: d :: a) = printX c ++ (32 :: 44 :: 32 :: 32 :: 32 :: compsW sp1 sp3 (d :: a)) := by simp [compsW, joinS, sp1, sp3]
    rw [e1, e2, List.append_assoc, wideB_plain (printX_no (.inr (.inl rfl)) c) (printX_no (.inr (.inr rfl)) c), List.cons_append, List.cons_append, wideB_comma, ih]
    simp
theorem wideB_range : ∀ (r : List (List CompL)) (t : List UInt8), wideB (textW [] sp1 sp1 sp1 r ++ t) = textW sp1 sp3 sp1 sp3 r ++ wideB t
  | [], t => rfl
  | [a], t => wideB_comps a t
  | a :: b :: r, t => by
    have ih := wideB_range (b :: r) t
    have e1 : textW [] sp1 sp1 sp1 (a :: b :: r) = compsW [] sp1 a ++ (32 :: 124 :: 124 :: 32 :: textW [] sp1 sp1 sp1 (b :: r)) := by simp [textW, joinS, sp1]
    have e2 : textW sp1 sp3 sp1 sp3 (a :: b :: r) = compsW sp1 sp3 a ++ (32 :: 124 :: 124 :: 32 :: 32 :: 32 :: textW sp1 sp3 sp1 sp3 (b :: r)) := by simp [textW, joinS, sp1, sp3]
    rw [e1, e2, List.append_assoc, wideB_comps, List.cons_append, List.cons_append, List.cons_append, List.cons_append, wideB_bars, ih]
    simp
theorem wideB_print {r : List (List CompL)} (h : mayG r = true) : wideB (printG r) = textW sp1 sp3 sp1 sp3 r := by
  have := wideB_range r []
  rw [List.append_nil, ← rangeT_text] at this
  rw [printG, if_pos h, this]
  exact List.append_nil _
theorem parse_wide {r : List (List CompL)} (h : mayG r = true) : parseG (wideB (printG r)) = if 96 < (wideB (printG r)).length then ([], 3) else (r, 0) := by
  rw [wideB_print h]
  split
  · rename_i hl
    exact parseG_long hl
  · rename_i hl
    exact parseG_text sp1_ok sp3_ok sp1_ok sp3_ok h (by omega)
theorem print_len96 {r : List (List CompL)} (h : mayG r = true) : (printG r).length ≤ 96 := by
  rw [printG, if_pos h]; exact (mayG_few h).2
structure WideB (s wide : ByteArray) (k : Nat) : Prop where
  eq : bts wide ++ wideB ((bts s).drop k) = wideB (bts s)
  len : wide.size ≤ 4 * k
theorem WideB.start (s : ByteArray) : WideB s ⟨#[]⟩ 0 := ⟨by rw [bts_e]; rfl, Nat.zero_le _⟩
theorem drop_one {s : ByteArray} {k : Nat} (h : k < s.size) : (bts s).drop k = s[k] :: (bts s).drop (k + 1) := by
  have e := List.drop_eq_getElem_cons (l := bts s) (i := k) (by rw [bts_len]; exact h)
  rwa [bts_get s k h] at e
theorem WideB.comma {s wide wide' : ByteArray} {k : Nat} (h : WideB s wide k) (hk : k < s.size) (hb : s[k] = 44) (he : bts wide' = bts wide ++ [32, s[k], 32, 32]) : WideB s wide' (k + 1) := by
  refine ⟨?_, ?_⟩
  · rw [← h.eq, drop_one hk, hb, he, hb]
    simp [wideB]
  · have := h.len
    have e : (bts wide').length = (bts wide).length + 4 := by rw [he]; simp
    rw [bts_len, bts_len] at e
    omega
theorem WideB.bar {s wide wide' : ByteArray} {k : Nat} (h : WideB s wide k) (hk : k + 1 < s.size) (hb : s[k] = 124) (hn : s[k + 1] ≠ 124) (he : bts wide' = bts wide ++ [s[k], 32, 32]) : WideB s wide' (k + 1) := by
  refine ⟨?_, ?_⟩
  · rw [← h.eq, drop_one (Nat.lt_of_succ_lt hk), hb, he, hb]
    have e2 : barEnd ((bts s).drop (k + 1)) = true := by
      rw [drop_one hk]; simpa [barEnd] using hn
    simp [wideB, e2]
  · have := h.len
    have e : (bts wide').length = (bts wide).length + 3 := by rw [he]; simp
    rw [bts_len, bts_len] at e
    omega
theorem WideB.one {s wide wide' : ByteArray} {k : Nat} (h : WideB s wide k) (hk : k < s.size) (hb : s[k] ≠ 44) (hn : s[k] = 124 → ∀ h : k + 1 < s.size, s[k + 1] = 124) (he : bts wide' = bts wide ++ [s[k]]) : WideB s wide' (k + 1) := by
  refine ⟨?_, ?_⟩
  · rw [← h.eq, drop_one hk, he]
    have e2 : ¬ (s[k] = 44 ∨ (s[k] = 124 ∧ barEnd ((bts s).drop (k + 1)) = true)) := by
      rintro (e | ⟨e, e2⟩)
      · exact hb e
      · by_cases hl : k + 1 < s.size
        · rw [drop_one hl, hn e hl] at e2
          simp [barEnd] at e2
        · have : (bts s).drop (k + 1) = [] := List.drop_eq_nil_of_le (by rw [bts_len]; omega)
          rw [this] at e2
          simp [barEnd] at e2
    simp only [wideB, if_neg hb, if_neg e2]
    simp
  · have := h.len
    have e : (bts wide').length = (bts wide).length + 1 := by rw [he]; simp
    rw [bts_len, bts_len] at e
    omega
theorem WideB.last {s wide : ByteArray} {k : Nat} (h : WideB s wide k) (hk : s.size ≤ k) : bts wide = wideB (bts s) := by
  have e : (bts s).drop k = [] := List.drop_eq_nil_of_le (by rw [bts_len]; exact hk)
  rw [← h.eq, e]
  exact (List.append_nil _).symm
theorem bts_one {s : ByteArray} {k : Nat} (h : k < s.size) : bts (s.extract k (k + 1)) = [s[k]] := by
  rw [bts_extract, drop_one h]
  have : k + 1 - k = 1 := by omega
  rw [this]; rfl
end Go.Proofs.YtplmlahpmnjneaaGreatDoor
