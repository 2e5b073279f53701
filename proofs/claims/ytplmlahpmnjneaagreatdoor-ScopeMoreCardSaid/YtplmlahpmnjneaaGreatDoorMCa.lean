import Derived.Test.YtplmlahpmnjneaaGreatDoorMTa
import Derived.Test.YtplmlahpmnjneaaGreatDoorMSetR
import Derived.Test.YtplmlahpmnjneaaGreatDoorMSe
import Derived.Lib.TrimByte
import Derived.Lib.IndexMore
namespace Go.Proofs.YtplmlahpmnjneaaGreatDoor
open Go.RowKit Go.Lib
open Rw
set_option linter.unusedVariables false
set_option linter.unusedSimpArgs false
structure CompL where
  op : Int
  parts : Int
  v : Ver
abbrev CompL.cells (c : CompL) : List Value := [.int .i64 c.op, .int .i64 c.parts, .int .i64 c.v.maj, .int .i64 c.v.min, .int .i64 c.v.pat, .string c.v.pre, .string c.v.bld]
abbrev CompL.val (c : CompL) : Value := .agg #[.int .i64 c.op, .int .i64 c.parts, .int .i64 c.v.maj, .int .i64 c.v.min, .int .i64 c.v.pat, .string c.v.pre, .string c.v.bld]
def CompL.fit (c : CompL) : Prop := c.v.fit
def zeroX : CompL := ⟨0, 0, zeroV⟩
def manyX (op parts : Int) : Bool := if op = 9 then decide (0 ≤ parts ∧ parts ≤ 2) else decide (1 ≤ parts ∧ parts ≤ 3)
def mayX (c : CompL) : Bool := decide (1 ≤ c.op ∧ c.op ≤ 9) && mayV c.v && (bts c.v.bld).isEmpty && manyX c.op c.parts && (decide (3 ≤ c.parts) || (bts c.v.pre).isEmpty) &&
  (decide (0 < c.parts) || decide (c.v.maj = 0)) && (decide (1 < c.parts) || decide (c.v.min = 0)) && (decide (2 < c.parts) || decide (c.v.pat = 0))
structure MayX (c : CompL) : Prop where
  op : 1 ≤ c.op ∧ c.op ≤ 9
  v : mayV c.v = true
  bld : bts c.v.bld = []
  many : (c.op = 9 ∧ 0 ≤ c.parts ∧ c.parts ≤ 2) ∨ (c.op ≠ 9 ∧ 1 ≤ c.parts ∧ c.parts ≤ 3)
  pre : c.parts < 3 → bts c.v.pre = []
  maj : c.parts < 1 → c.v.maj = 0
  min : c.parts < 2 → c.v.min = 0
  pat : c.parts < 3 → c.v.pat = 0
theorem manyX_iff {op parts : Int} : manyX op parts = true ↔ (op = 9 ∧ 0 ≤ parts ∧ parts ≤ 2) ∨ (op ≠ 9 ∧ 1 ≤ parts ∧ parts ≤ 3) := by
  unfold manyX
  split <;> simp_all
theorem mayX_iff {c : CompL} : mayX c = true ↔ MayX c := by
  constructor
  · intro h
    simp only [mayX, Bool.and_eq_true, Bool.or_eq_true, decide_eq_true_eq, List.isEmpty_iff] at h
    obtain ⟨⟨⟨⟨⟨⟨⟨h1, h2⟩, h3⟩, h4⟩, h5⟩, h6⟩, h7⟩, h8⟩ := h
    exact ⟨h1, h2, h3, manyX_iff.1 h4, fun e => h5.resolve_left (by omega), fun e => h6.resolve_left (by omega), fun e => h7.resolve_left (by omega), fun e => h8.resolve_left (by omega)⟩
  · rintro ⟨h1, h2, h3, h4, h5, h6, h7, h8⟩
    simp only [mayX, Bool.and_eq_true, Bool.or_eq_true, decide_eq_true_eq, List.isEmpty_iff]
    refine ⟨⟨⟨⟨⟨⟨⟨h1, h2⟩, h3⟩, manyX_iff.2 h4⟩, ?_⟩, ?_⟩, ?_⟩, ?_⟩
    · by_cases e : 3 ≤ c.parts
      · exact .inl e
      · exact .inr (h5 (by omega))
    · by_cases e : 0 < c.parts
      · exact .inl e
      · exact .inr (h6 (by omega))
    · by_cases e : 1 < c.parts
      · exact .inl e
      · exact .inr (h7 (by omega))
    · by_cases e : 2 < c.parts
      · exact .inl e
      · exact .inr (h8 (by omega))
def signT (op : Int) : List UInt8 := if op = 1 then [61] else if op = 2 then [33, 61] else if op = 3 then [60] else if op = 4 then [60, 61] else if op = 5 then [62] else if op = 6 then [62, 61] else if op = 7 then [94] else if op = 8 then [126] else []
def toldX (c : CompL) : List (List UInt8) := [numT c.v.maj, numT c.v.min, numT c.v.pat].take c.parts.toNat
def textX (c : CompL) : List UInt8 := if c.op = 9 then joinS [46] (toldX c ++ [[42]]) else signT c.op ++ (joinS [46] (toldX c) ++ preT c.v)
def printX (c : CompL) : List UInt8 := if mayX c then textX c else []
def opsX : List Int := [2, 4, 6, 1, 3, 5, 7, 8]
def findX (s : List UInt8) : List Int → Int × List UInt8
  | [] => (9, s)
  | op :: r => if Lib.hasPrefix s (signT op) then (op, s.drop (signT op).length) else findX s r
def numsX : List (List UInt8) → Option (Int × Int × Int)
  | [] => some (0, 0, 0)
  | [a] => if (numberL a).2 then some ((numberL a).1, 0, 0) else none
  | [a, b] => if (numberL a).2 && (numberL b).2 then some ((numberL a).1, (numberL b).1, 0) else none
  | [a, b, c] => if (numberL a).2 && ((numberL b).2 && (numberL c).2) then some ((numberL a).1, (numberL b).1, (numberL c).1) else none
  | _ => none
def makeX (op : Int) (l : List (List UInt8)) (pre : List UInt8) : Option CompL := match numsX l with
  | none => none
  | some n => some ⟨op, l.length, ⟨n.1, n.2.1, n.2.2, strB pre, strB []⟩⟩
def bodyX (op : Int) (rest : List UInt8) : Option CompL := makeX op (if op = 9 then (splitP (beforeL 45 rest)).dropLast else splitP (beforeL 45 rest)) (afterL 45 rest)
def readX (s : List UInt8) : Option CompL := if (findX s opsX).1 = 9 ∧ (splitP (beforeL 45 (findX s opsX).2)).getLast? ≠ some [42] then none else
  match bodyX (findX s opsX).1 (findX s opsX).2 with
  | none => none
  | some c => if mayX c && decide (printX c = s) then some c else none
def parseX (s : List UInt8) : Option CompL := match readX s with
  | some c => some c
  | none => readX (94 :: s)
def rsplitX (s : List UInt8) : Int × List UInt8 := if (findX s opsX).1 = 9 then (if s.getLast? = some 42 then (9, s) else (7, s)) else findX s opsX
def rreadX (s : List UInt8) : Option CompL := match bodyX (rsplitX s).1 (rsplitX s).2 with
  | none => none
  | some c => if mayX c && (decide (printX c = s) || decide (printX c = 94 :: s)) then some c else none
theorem before_pre {x : List UInt8} (h : (45 : UInt8) ∉ x) (v : Ver) : beforeL 45 (x ++ preT v) = x ∧ afterL 45 (x ++ preT v) = bts v.pre := by
  unfold preT
  split
  · rename_i e
    rw [List.append_nil]
    have := before_none h
    exact ⟨this.1, by rw [this.2, List.isEmpty_iff.1 e]⟩
  · exact before_at h
theorem told_mem {c : CompL} {w : List UInt8} (h : w ∈ toldX c) : ∃ n : Int, w = numT n := by
  have := List.mem_of_mem_take h
  simp only [List.mem_cons, List.not_mem_nil, or_false] at this
  rcases this with h | h | h
  · exact ⟨_, h⟩
  · exact ⟨_, h⟩
  · exact ⟨_, h⟩
theorem parts_case {c : CompL} (h : MayX c) : c.parts = 0 ∨ c.parts = 1 ∨ c.parts = 2 ∨ c.parts = 3 := by have := h.many; omega
theorem told_0 {c : CompL} (h : c.parts = 0) : toldX c = [] := by rw [toldX, h]; rfl
theorem told_1 {c : CompL} (h : c.parts = 1) : toldX c = [numT c.v.maj] := by rw [toldX, h]; rfl
theorem told_2 {c : CompL} (h : c.parts = 2) : toldX c = [numT c.v.maj, numT c.v.min] := by rw [toldX, h]; rfl
theorem told_3 {c : CompL} (h : c.parts = 3) : toldX c = [numT c.v.maj, numT c.v.min, numT c.v.pat] := by rw [toldX, h]; rfl
theorem told_len {c : CompL} (h : MayX c) : ((toldX c).length : Int) = c.parts := by
  rcases parts_case h with e | e | e | e
  · rw [told_0 e, e]; rfl
  · rw [told_1 e, e]; rfl
  · rw [told_2 e, e]; rfl
  · rw [told_3 e, e]; rfl
theorem told_ne {c : CompL} (h : MayX c) (h9 : c.op ≠ 9) : toldX c ≠ [] := by
  intro e
  have h1 := told_len h
  rw [e] at h1
  have := h.many
  simp at h1
  omega
theorem told_nums {c : CompL} (h : MayX c) : numsX (toldX c) = some (c.v.maj, c.v.min, c.v.pat) := by
  obtain ⟨f1, f2, f3, -, -⟩ := mayV_parts h.v
  rcases parts_case h with e | e | e | e
  · rw [told_0 e, h.maj (by omega), h.min (by omega), h.pat (by omega)]; rfl
  · rw [told_1 e, h.min (by omega), h.pat (by omega)]; simp only [numsX, numT_ok f1, if_true]
  · rw [told_2 e, h.pat (by omega)]; simp only [numsX, numT_ok f1, numT_ok f2, Bool.and_self, if_true]
  · rw [told_3 e]; simp only [numsX, numT_ok f1, numT_ok f2, numT_ok f3, Bool.and_self, if_true]
theorem told_make {c : CompL} (h : MayX c) : makeX c.op (toldX c) (bts c.v.pre) = some c := by
  rw [makeX, told_nums h]
  simp only [told_len h, strB_bts]
  have : strB [] = c.v.bld := by rw [← h.bld, strB_bts]
  rw [this]
theorem joinS_no {b : UInt8} : ∀ {ws : List (List UInt8)}, b ≠ 46 → (∀ w ∈ ws, b ∉ w) → b ∉ joinS [46] ws
  | [], _, _ => by simp [joinS]
  | [w], _, h => by simpa [joinS] using h
  | w :: u :: r, hb, h => by
    have e : joinS [46] (w :: u :: r) = w ++ 46 :: joinS [46] (u :: r) := by rw [joinS]; simp
    rw [e, List.mem_append, List.mem_cons, not_or, not_or]
    exact ⟨h w (by simp), hb, joinS_no hb (fun x hx => h x (List.mem_cons_of_mem _ hx))⟩
theorem told_no {b : UInt8} (hb : b.toNat < 48 ∨ 57 < b.toNat) (c : CompL) : ∀ w ∈ toldX c, b ∉ w := by
  intro w hw
  obtain ⟨n, rfl⟩ := told_mem hw
  exact dig_no hb n
theorem told_split {c : CompL} (h : MayX c) (h9 : c.op ≠ 9) : splitP (joinS [46] (toldX c)) = toldX c := splitL_join (told_ne h h9) (told_no (by decide) c)
theorem told_split9 (c : CompL) : splitP (joinS [46] (toldX c ++ [[42]])) = toldX c ++ [[42]] := by
  refine splitL_join (by simp) (fun w hw => ?_)
  rcases List.mem_append.1 hw with h | h
  · exact told_no (by decide) c w h
  · simp only [List.mem_singleton] at h; subst h; decide
theorem told_no45 (c : CompL) : (45 : UInt8) ∉ joinS [46] (toldX c) := joinS_no (by decide) (told_no (by decide) c)
theorem told_no45b (c : CompL) : (45 : UInt8) ∉ joinS [46] (toldX c ++ [[42]]) := by
  refine joinS_no (by decide) (fun w hw => ?_)
  rcases List.mem_append.1 hw with h | h
  · exact told_no (by decide) c w h
  · simp only [List.mem_singleton] at h; subst h; decide
theorem body_back {c : CompL} (h : MayX c) (h9 : c.op ≠ 9) : bodyX c.op (joinS [46] (toldX c) ++ preT c.v) = some c := by
  obtain ⟨e1, e2⟩ := before_pre (told_no45 c) c.v
  rw [bodyX, e1, e2, if_neg h9, told_split h h9, told_make h]
theorem body_back9 {c : CompL} (h : MayX c) (h9 : c.op = 9) : bodyX 9 (joinS [46] (toldX c ++ [[42]])) = some c := by
  obtain ⟨e1, e2⟩ := before_none (told_no45b c)
  have hp : bts c.v.pre = [] := h.pre (by have := h.many; omega)
  have := told_make h
  rw [hp, h9] at this
  rw [bodyX, e1, e2, if_pos rfl, told_split9, List.dropLast_concat, this]
theorem numT_cons (n : Int) : ∃ d r, numT n = d :: r ∧ isDig d = true := by
  have h1 := dec_ne n.toNat
  have h2 := dec_dig n.toNat
  rw [numT]
  cases e : decDigits n.toNat with
  | nil => exact absurd e h1
  | cons d r => rw [e] at h2; simp at h2; exact ⟨d, r, rfl, h2.1⟩
theorem joinS_head {d : UInt8} {r : List UInt8} : ∀ (ws : List (List UInt8)), ∃ q, joinS [46] ((d :: r) :: ws) = d :: q
  | [] => ⟨r, rfl⟩
  | u :: t => ⟨r ++ 46 :: joinS [46] (u :: t), by rw [joinS]; simp⟩
def plainB (d : UInt8) : Prop := d ≠ 33 ∧ d ≠ 60 ∧ d ≠ 61 ∧ d ≠ 62 ∧ d ≠ 94 ∧ d ≠ 126
theorem dig_plain {d : UInt8} (h : isDig d = true) : plainB d := by
  simp only [isDig, decide_eq_true_eq] at h
  refine ⟨?_, ?_, ?_, ?_, ?_, ?_⟩ <;> (intro e; subst e; revert h; decide)
theorem told_head {c : CompL} (h : MayX c) (h9 : c.op ≠ 9) : ∃ d q, joinS [46] (toldX c) = d :: q ∧ plainB d := by
  cases e : toldX c with
  | nil => exact absurd e (told_ne h h9)
  | cons w ws =>
    obtain ⟨n, rfl⟩ := told_mem (c := c) (w := w) (by rw [e]; simp)
    obtain ⟨d, r, e1, hd⟩ := numT_cons n
    rw [e1]
    obtain ⟨q, hq⟩ := joinS_head (d := d) (r := r) ws
    exact ⟨d, q, hq, dig_plain hd⟩
theorem told_head9 (c : CompL) : ∃ d q, joinS [46] (toldX c ++ [[42]]) = d :: q ∧ plainB d := by
  cases e : toldX c with
  | nil => exact ⟨42, [], rfl, by unfold plainB; decide⟩
  | cons w ws =>
    obtain ⟨n, rfl⟩ := told_mem (c := c) (w := w) (by rw [e]; simp)
    obtain ⟨d, r, e1, hd⟩ := numT_cons n
    rw [e1]
    obtain ⟨q, hq⟩ := joinS_head (d := d) (r := r) (ws ++ [[42]])
    exact ⟨d, q, hq, dig_plain hd⟩
theorem find_none {d : UInt8} {q : List UInt8} (h : plainB d) : findX (d :: q) opsX = (9, d :: q) := by
  obtain ⟨h1, h2, h3, h4, h5, h6⟩ := h
  simp [findX, opsX, signT, Lib.hasPrefix, List.isPrefixOf, h1.symm, h2.symm, h3.symm, h4.symm, h5.symm, h6.symm]
theorem find_sign {d : UInt8} {q : List UInt8} (h : plainB d) {op : Int} (ho : 1 ≤ op ∧ op ≤ 8) : findX (signT op ++ d :: q) opsX = (op, d :: q) := by
  obtain ⟨h1, h2, h3, h4, h5, h6⟩ := h
  rcases (show op = 1 ∨ op = 2 ∨ op = 3 ∨ op = 4 ∨ op = 5 ∨ op = 6 ∨ op = 7 ∨ op = 8 by omega) with e | e | e | e | e | e | e | e <;> subst e <;>
    simp [findX, opsX, signT, Lib.hasPrefix, List.isPrefixOf, h1.symm, h2.symm, h3.symm, h4.symm, h5.symm, h6.symm]
theorem find_back {c : CompL} (h : MayX c) (h9 : c.op ≠ 9) : findX (textX c) opsX = (c.op, joinS [46] (toldX c) ++ preT c.v) := by
  obtain ⟨d, q, e, hd⟩ := told_head h h9
  rw [textX, if_neg h9, e, List.cons_append]
  exact find_sign hd (by have := h.op; omega)
theorem find_back9 {c : CompL} (h9 : c.op = 9) : findX (textX c) opsX = (9, joinS [46] (toldX c ++ [[42]])) := by
  obtain ⟨d, q, e, hd⟩ := told_head9 c
  rw [textX, if_pos h9, e]
  exact find_none hd
theorem printX_may {c : CompL} (h : MayX c) : printX c = textX c := by rw [printX, mayX_iff.2 h, if_pos rfl]
theorem last_star (c : CompL) : (joinS [46] (toldX c ++ [[42]])).getLast? = some 42 := by
  by_cases h : toldX c = []
  · rw [h]; rfl
  · rw [joinS_cat 46 h (by simp), joinS]
    simp
theorem readX_back {c : CompL} (h : MayX c) : readX (printX c) = some c := by
  rw [printX_may h, readX]
  by_cases h9 : c.op = 9
  · have hb := (before_none (told_no45b c)).1
    rw [find_back9 h9]
    simp only
    rw [hb, told_split9, if_neg (by simp), body_back9 h h9]
    simp only
    rw [mayX_iff.2 h, printX_may h, if_pos (by simp)]
  · rw [find_back h h9]
    simp only
    rw [if_neg (by intro e; exact h9 e.1), body_back h h9]
    simp only
    rw [mayX_iff.2 h, printX_may h, if_pos (by simp)]
theorem readX_sound {s : List UInt8} {c : CompL} (h : readX s = some c) : MayX c ∧ printX c = s := by
  unfold readX at h
  split at h
  · cases h
  · split at h
    · cases h
    · split at h
      · rename_i hc
        simp only [Bool.and_eq_true, decide_eq_true_eq] at hc
        injection h with h
        subst h
        exact ⟨mayX_iff.1 hc.1, hc.2⟩
      · cases h
theorem rreadX_sound {s : List UInt8} {c : CompL} (h : rreadX s = some c) : MayX c ∧ (printX c = s ∨ printX c = 94 :: s) := by
  unfold rreadX at h
  split at h
  · cases h
  · split at h
    · rename_i hc
      simp only [Bool.and_eq_true, Bool.or_eq_true, decide_eq_true_eq] at hc
      injection h with h
      subst h
      exact ⟨mayX_iff.1 hc.1, hc.2⟩
    · cases h
theorem rreadX_back {c : CompL} (h : MayX c) : rreadX (printX c) = some c := by
  rw [rreadX]
  by_cases h9 : c.op = 9
  · have e : rsplitX (printX c) = (9, joinS [46] (toldX c ++ [[42]])) := by
      rw [rsplitX, printX_may h, find_back9 h9, if_pos rfl, textX, if_pos h9, last_star, if_pos rfl]
    rw [e]
    simp only
    rw [body_back9 h h9]
    simp only
    rw [mayX_iff.2 h, if_pos (by simp)]
  · have e : rsplitX (printX c) = (c.op, joinS [46] (toldX c) ++ preT c.v) := by
      rw [rsplitX, printX_may h, find_back h h9, if_neg h9]
    rw [e]
    simp only
    rw [body_back h h9]
    simp only
    rw [mayX_iff.2 h, if_pos (by simp)]
theorem pre_no42 {v : Ver} (h : mayV v = true) : (42 : UInt8) ∉ preT v := by
  obtain ⟨-, -, -, hp, -⟩ := mayV_parts h
  unfold preT
  split
  · simp
  · rw [List.mem_cons, not_or]
    exact ⟨by decide, fun e => not_tag (b := 42) (by decide) (pre_mem hp e)⟩
theorem told_last {c : CompL} (h : MayX c) : (joinS [46] (toldX c) ++ preT c.v).getLast? ≠ some 42 := by
  intro e
  have := List.mem_of_getLast? e
  rw [List.mem_append] at this
  rcases this with k | k
  · exact joinS_no (by decide) (told_no (by decide) c) k
  · exact pre_no42 h.v k
theorem sign_94 {c : CompL} (h : MayX c) {s : List UInt8} (e : textX c = 94 :: s) : c.op = 7 ∧ s = joinS [46] (toldX c) ++ preT c.v := by
  by_cases h9 : c.op = 9
  · obtain ⟨d, q, e1, hd⟩ := told_head9 c
    rw [textX, if_pos h9, e1] at e
    injection e with e2 e3
    exact absurd e2 hd.2.2.2.2.1
  · rw [textX, if_neg h9] at e
    have ho := h.op
    rcases (show c.op = 1 ∨ c.op = 2 ∨ c.op = 3 ∨ c.op = 4 ∨ c.op = 5 ∨ c.op = 6 ∨ c.op = 7 ∨ c.op = 8 by omega) with k | k | k | k | k | k | k | k <;> rw [k] at e <;> simp [signT] at e
    exact ⟨k, e.symm⟩
theorem rreadX_caret {c : CompL} (h : MayX c) {s : List UInt8} (e : printX c = 94 :: s) : rreadX s = some c := by
  have e0 := e
  rw [printX_may h] at e
  obtain ⟨h7, rfl⟩ := sign_94 h e
  obtain ⟨d, q, e1, hd⟩ := told_head h (by omega)
  have ef : findX (joinS [46] (toldX c) ++ preT c.v) opsX = (9, joinS [46] (toldX c) ++ preT c.v) := by
    rw [e1, List.cons_append]; exact find_none hd
  have es : rsplitX (joinS [46] (toldX c) ++ preT c.v) = (7, joinS [46] (toldX c) ++ preT c.v) := by
    rw [rsplitX, ef, if_pos rfl, if_neg (told_last h)]
  have hb := body_back h (by omega)
  rw [h7] at hb
  rw [rreadX, es]
  simp only
  rw [hb]
  simp only
  rw [mayX_iff.2 h, if_pos (by simp [e0])]
theorem parseX_sound {s : List UInt8} {c : CompL} (h : parseX s = some c) : MayX c ∧ (printX c = s ∨ printX c = 94 :: s) := by
  unfold parseX at h
  split at h
  · rename_i d hd
    injection h with h
    subst h
    have := readX_sound hd
    exact ⟨this.1, .inl this.2⟩
  · have := readX_sound h
    exact ⟨this.1, .inr this.2⟩
theorem parseX_back {c : CompL} (h : MayX c) : parseX (printX c) = some c := by rw [parseX, readX_back h]
theorem rreadX_eq (s : List UInt8) : rreadX s = parseX s := by
  cases h : rreadX s with
  | some c =>
    obtain ⟨h1, h2⟩ := rreadX_sound h
    rcases h2 with e | e
    · rw [← e, parseX_back h1]
    · have hn : readX s = none := by
        cases k : readX s with
        | none => rfl
        | some d =>
          obtain ⟨d1, d2⟩ := readX_sound k
          have := rreadX_back d1
          rw [d2, h] at this
          injection this with this
          subst this
          rw [d2] at e
          have := congrArg List.length e
          simp at this
      rw [parseX, hn, ← e, readX_back h1]
  | none =>
    cases k : parseX s with
    | none => rfl
    | some d =>
      obtain ⟨d1, d2⟩ := parseX_sound k
      rcases d2 with e | e
      · have := rreadX_back d1
        rw [e, h] at this
        cases this
      · rw [rreadX_caret d1 e] at h
        cases h
theorem numT_len {n : Int} (h : fitsI n = true) : (numT n).length ≤ 4 := by
  simp only [fitsI, decide_eq_true_eq] at h
  exact dec_len (by omega)
theorem readX_fit {s : List UInt8} {c : CompL} (h : parseX s = some c) (hs : s.length ≤ 4398046511000) : c.fit := by
  obtain ⟨h1, h2⟩ := parseX_sound h
  have hl : (printX c).length ≤ 4398046511001 := by
    rcases h2 with e | e
    · rw [e]; omega
    · rw [e, List.length_cons]; omega
  refine ⟨?_, by rw [← bts_len, h1.bld]; simp⟩
  rw [← bts_len]
  by_cases h9 : c.op = 9
  · rw [h1.pre (by have := h1.many; omega)]; simp
  · rw [printX_may h1, textX, if_neg h9] at hl
    simp only [List.length_append] at hl
    have : (bts c.v.pre).length ≤ (preT c.v).length := by
      unfold preT
      split
      · rename_i e; rw [List.isEmpty_iff.1 e]; simp
      · simp
    omega
end Go.Proofs.YtplmlahpmnjneaaGreatDoor
namespace Go.Proofs.YtplmlahpmnjneaaGreatDoor
open Go.RowKit Go.Lib
open Rw
set_option linter.unusedVariables false
set_option linter.unusedSimpArgs false
def highN (v : Ver) : Nat → CutL
  | 0 => lastC
  | n + 1 => if (bumpL v n).2 then ⟨0, (bumpL v n).1, false⟩ else highN v n
def turnsX (c : CompL) : Nat := if c.v.maj ≠ 0 then 0 else if c.v.min ≠ 0 then 1 else if c.v.pat ≠ 0 then 2 else (c.parts - 1).toNat
def lowX (c : CompL) : CutL := ⟨0, c.v, false⟩
def behindX (c : CompL) : CutL := if c.parts < 3 then highN c.v c.parts.toNat else ⟨0, c.v, true⟩
def spanX (c : CompL) : SpanL :=
  if c.op = 1 ∨ c.op = 2 then ⟨lowX c, behindX c⟩ else if c.op = 3 then ⟨firstC, lowX c⟩ else if c.op = 4 then ⟨firstC, behindX c⟩ else if c.op = 5 then ⟨behindX c, lastC⟩ else if c.op = 6 then ⟨lowX c, lastC⟩ else
  if c.op = 7 then ⟨lowX c, highN c.v (turnsX c + 1)⟩ else if c.op = 8 then ⟨lowX c, highN c.v (min (c.parts - 1) 1 + 1).toNat⟩ else if c.parts = 0 then ⟨firstC, lastC⟩ else ⟨lowX c, highN c.v c.parts.toNat⟩
def rowX (s : SpanL) : List SpanL := if cmpC s.fr s.til < 0 then [s] else []
def regionX (c : CompL) : List SpanL := if mayX c then (if c.op = 2 then rnotL (rowX (spanX c)) else rowX (spanX c)) else []
def zeroB : ByteArray := ⟨#[48]⟩
def leastX (v : Ver) : Ver := ⟨v.maj, v.min, v.pat, zeroB, ⟨#[]⟩⟩
def zoneS (c : CompL) : SpanL := ⟨⟨0, leastX c.v, false⟩, ⟨0, relV c.v, false⟩⟩
def zoneX (c : CompL) : List SpanL := if mayX c && !(bts c.v.pre).isEmpty then [zoneS c] else []
def relA (l : List CompL) : List SpanL := l.foldl (fun o c => randL o (regionX c)) wholeL
def zoneA (l : List CompL) : List SpanL := l.foldl (fun o c => rorL o (zoneX c)) []
def altS (l : List CompL) : List SpanL × List SpanL := (smakeL (relA l) (randL (relA l) (zoneA l))).1
def orG (l : List (List SpanL × List SpanL)) : List SpanL × List SpanL := l.foldl (fun o s => orS o.1 o.2 s.1 s.2) ([], [])
theorem cmpC_self0 (a : CutL) : cmpC a a = 0 := by
  cases h : mayC a
  · rw [cmpC, if_pos (.inl h)]
  · exact cmpC_self a h
theorem growTo_half (c : List CutL) (p : CutL → CutL → Bool) : ∀ k, 2 * (growTo c p k).length ≤ k + 1 ∧ ((∀ s, (growTo c p k).getLast? = some s → cmpC s.til (nthC c k) ≠ 0) → 2 * (growTo c p k).length ≤ k)
  | 0 => by simp [growTo]
  | k + 1 => by
    obtain ⟨h1, h2⟩ := growTo_half c p k
    unfold growTo
    split
    · rcases List.eq_nil_or_concat (growTo c p k) with e | ⟨m, q, e⟩
      · rw [e]
        refine ⟨by simp [growR], fun h => ?_⟩
        exact absurd (cmpC_self0 _) (h ⟨nthC c k, nthC c (k + 1)⟩ (by simp [growR]))
      · rw [List.concat_eq_append] at e
        rw [e] at h1 h2 ⊢
        by_cases hc : cmpC q.til (nthC c k) = 0
        · rw [growR_eq hc]
          simp only [List.length_append, List.length_singleton] at h1 ⊢
          refine ⟨by omega, fun h => ?_⟩
          exact absurd (cmpC_self0 _) (h ⟨q.fr, nthC c (k + 1)⟩ (by simp))
        · rw [growR_ne hc]
          have := h2 (fun s hs => by simp at hs; subst hs; exact hc)
          simp only [List.length_append, List.length_singleton] at this ⊢
          refine ⟨by omega, fun h => ?_⟩
          exact absurd (cmpC_self0 _) (h ⟨nthC c k, nthC c (k + 1)⟩ (by simp))
    · exact ⟨by omega, fun _ => by omega⟩
theorem growAll_half {l : List SpanL} (p : CutL → CutL → Bool) (hf : fitL l) : (growAll (cutsL l) p).length ≤ 1 + l.length := by
  have h1 := (growTo_half (cutsL l) p ((cutsL l).length - 1)).1
  have h2 := (cutsL_good hf).2
  rw [growAll]; omega
theorem randL_len {a b : List SpanL} (ha : fitL a) (hb : fitL b) : (randL a b).length ≤ 1 + (a.length + b.length) := by
  rw [randL]
  split
  · have := growAll_half (bothIn a b) (fitL_app ha hb)
    rwa [List.length_append] at this
  · simp
theorem rmakeL_len {a : List SpanL} (ha : fitL a) : (rmakeL a).1.length ≤ 1 + a.length := by
  rw [rmakeL]
  split
  · exact growAll_half _ ha
  · simp
theorem rorL_len {a b : List SpanL} (ha : fitL a) (hb : fitL b) : (rorL a b).length ≤ 1 + (a.length + b.length) := by
  rw [rorL]
  split
  · have := rmakeL_len (fitL_app ha hb)
    rwa [List.length_append] at this
  · simp
theorem rnotL_len {a : List SpanL} (ha : fitL a) : (rnotL a).length ≤ 1 + a.length := by
  rw [rnotL]
  split
  · exact growAll_half _ ha
  · simp
theorem fit_nil0 : fitL [] := fun i hi => by simp at hi
theorem fit_one {s : SpanL} (h : s.fit) : fitL [s] := fun i hi => by
  have : i = 0 := by simp at hi; omega
  subst this; exact h
theorem rowX_good {s : SpanL} (h : s.fit) : fitL (rowX s) ∧ (rowX s).length ≤ 1 := by
  unfold rowX
  split
  · exact ⟨fit_one h, by simp⟩
  · exact ⟨fit_nil0, by simp⟩
theorem verfit_rel (a b c : Int) : (⟨a, b, c, ⟨#[]⟩, ⟨#[]⟩⟩ : Ver).fit := ⟨Nat.zero_le _, Nat.zero_le _⟩
theorem lastC_fit0 : lastC.fit := verfit_rel 0 0 0
theorem firstC_fit0 : firstC.fit := verfit_rel 0 0 0
theorem bumpL_fit (v : Ver) (p : Int) : (bumpL v p).1.fit := by
  unfold bumpL
  split
  · unfold bumpV
    split
    · exact verfit_rel _ _ _
    · split <;> exact verfit_rel _ _ _
  · exact verfit_rel 0 0 0
theorem highN_fit (v : Ver) : ∀ n, (highN v n).fit
  | 0 => lastC_fit0
  | n + 1 => by
    unfold highN
    split
    · exact bumpL_fit v n
    · exact highN_fit v n
theorem behindX_fit {c : CompL} (h : c.fit) : (behindX c).fit := by
  unfold behindX
  split
  · exact highN_fit _ _
  · exact h
theorem spanX_fit {c : CompL} (h : c.fit) : (spanX c).fit := by
  have h1 : (lowX c).fit := h
  have h2 := behindX_fit h
  have h3 := lastC_fit0
  have h4 := firstC_fit0
  unfold spanX
  repeat' split
  all_goals first
    | exact ⟨h1, h2⟩ | exact ⟨h4, h1⟩ | exact ⟨h4, h2⟩ | exact ⟨h2, h3⟩ | exact ⟨h1, h3⟩ | exact ⟨h4, h3⟩ | exact ⟨h1, highN_fit _ _⟩
theorem regionX_good {c : CompL} (h : c.fit) : fitL (regionX c) ∧ (regionX c).length ≤ 2 := by
  have h1 := rowX_good (spanX_fit h)
  unfold regionX
  split
  · split
    · have h2 := rnotL_good h1.1
      have h3 := rnotL_len h1.1
      exact ⟨h2.1, by omega⟩
    · exact ⟨h1.1, by omega⟩
  · exact ⟨fit_nil0, by simp⟩
theorem zoneX_good (c : CompL) : fitL (zoneX c) ∧ (zoneX c).length ≤ 1 := by
  unfold zoneX
  split
  · exact ⟨fit_one ⟨⟨(show (1 : Nat) ≤ 4398046511104 by decide), Nat.zero_le _⟩, verfit_rel _ _ _⟩, by simp⟩
  · exact ⟨fit_nil0, by simp⟩
theorem whole_fit0 : fitL wholeL := fit_one ⟨firstC_fit0, lastC_fit0⟩
theorem relA_from : ∀ (l : List CompL) (o : List SpanL), fitL o → (∀ c ∈ l, c.fit) → fitL (l.foldl (fun o c => randL o (regionX c)) o) ∧ (l.foldl (fun o c => randL o (regionX c)) o).length ≤ o.length + 3 * l.length
  | [], o, ho, _ => ⟨ho, by simp⟩
  | c :: l, o, ho, h => by
    have h1 := regionX_good (h c (by simp))
    have h2 := randL_good ho h1.1
    have h3 := randL_len ho h1.1
    have h4 := relA_from l _ h2.1 (fun x hx => h x (List.mem_cons_of_mem _ hx))
    rw [List.foldl_cons]
    exact ⟨h4.1, by simp only [List.length_cons]; omega⟩
theorem zoneA_from : ∀ (l : List CompL) (o : List SpanL), fitL o → fitL (l.foldl (fun o c => rorL o (zoneX c)) o) ∧ (l.foldl (fun o c => rorL o (zoneX c)) o).length ≤ o.length + 2 * l.length
  | [], o, ho => ⟨ho, by simp⟩
  | c :: l, o, ho => by
    have h1 := zoneX_good c
    have h2 := rorL_good ho h1.1
    have h3 := rorL_len ho h1.1
    have h4 := zoneA_from l _ h2.1
    rw [List.foldl_cons]
    exact ⟨h4.1, by simp only [List.length_cons]; omega⟩
theorem relA_good {l : List CompL} (h : ∀ c ∈ l, c.fit) : fitL (relA l) ∧ (relA l).length ≤ 1 + 3 * l.length := relA_from l wholeL whole_fit0 h
theorem zoneA_good (l : List CompL) : fitL (zoneA l) ∧ (zoneA l).length ≤ 2 * l.length := by
  have := zoneA_from l [] fit_nil0
  simpa [zoneA] using this
theorem altS_good {l : List CompL} (h : ∀ c ∈ l, c.fit) : fitL (altS l).1 ∧ fitL (altS l).2 ∧ (altS l).1.length ≤ 3 + 6 * l.length ∧ (altS l).2.length ≤ 2 + 5 * l.length := by
  have h1 := relA_good h
  have h2 := zoneA_good l
  have h3 := randL_good h1.1 h2.1
  have h4 := randL_len h1.1 h2.1
  have h5 := smake_good h1.1 h3.1
  exact ⟨h5.1, h5.2.1, by have := h5.2.2.1; unfold altS; omega, by have := h5.2.2.2; unfold altS; omega⟩
theorem orS_good {l m p q : List SpanL} (hl : fitL l) (hm : fitL m) (hp : fitL p) (hq : fitL q) : fitL (orS l m p q).1 ∧ fitL (orS l m p q).2 ∧ (orS l m p q).1.length ≤ 1 + (l.length + p.length) ∧ (orS l m p q).2.length ≤ 1 + (m.length + q.length) := by
  unfold orS
  split
  · exact ⟨(rorL_good hl hp).1, (rorL_good hm hq).1, rorL_len hl hp, rorL_len hm hq⟩
  · exact ⟨fit_nil0, fit_nil0, by simp, by simp⟩
theorem cmpC_lt_may {a b : CutL} (h : cmpC a b < 0) : lt a b := by
  cases h1 : mayC a
  · rw [cmpC, if_pos (.inl h1)] at h; omega
  · cases h2 : mayC b
    · rw [cmpC, if_pos (.inr h2)] at h; omega
    · exact ⟨h1, h2, h⟩
theorem one_valid {s : SpanL} (h : lt s.fr s.til) : Val [s] := by
  rw [← mayR_val, mayR_iff]
  intro j hj
  have : j = 0 := by simp at hj; omega
  subst this
  refine ⟨?_, fun h => absurd h (Nat.lt_irrefl _)⟩
  show spanMay s = true
  rw [spanMay, h.1, h.2.1]
  simpa using h.2.2
theorem rowX_val (s : SpanL) : Val (rowX s) := by
  unfold rowX
  split
  · rename_i h; exact one_valid (cmpC_lt_may h)
  · exact nil_val
theorem regionX_val (c : CompL) : Val (regionX c) := by
  unfold regionX
  split
  · split
    · exact v_not (rowX_val _)
    · exact rowX_val _
  · exact nil_val
theorem relA_val_from : ∀ (l : List CompL) (o : List SpanL), Val o → Val (l.foldl (fun o c => randL o (regionX c)) o)
  | [], _, h => h
  | c :: l, o, h => relA_val_from l _ (v_and h (regionX_val c))
theorem relA_val (l : List CompL) : Val (relA l) := relA_val_from l wholeL whole_val
end Go.Proofs.YtplmlahpmnjneaaGreatDoor
namespace Go.Proofs.YtplmlahpmnjneaaGreatDoor
open Go.RowKit Go.Lib
open Rw
set_option linter.unusedVariables false
set_option linter.unusedSimpArgs false
theorem splitL_ne (b : UInt8) (cur l : List UInt8) : splitL b cur l ≠ [] := by
  have := (splitL_len b l cur).1
  intro e; rw [e] at this; simp at this
theorem splitL_join_back (b : UInt8) : ∀ (l cur : List UInt8), joinS [b] (splitL b cur l) = cur ++ l
  | [], cur => by simp [splitL, joinS]
  | c :: r, cur => by
    unfold splitL
    split
    · rename_i h
      subst h
      cases hs : splitL c [] r with
      | nil => exact absurd hs (splitL_ne _ _ _)
      | cons q t =>
        have := splitL_join_back c r []
        rw [hs] at this
        simp only [joinS, this]
        simp
    · rw [splitL_join_back b r (cur ++ [c])]; simp
theorem splitL_no (b : UInt8) : ∀ (l cur : List UInt8), b ∉ cur → ∀ p ∈ splitL b cur l, b ∉ p
  | [], cur, h, p, hp => by simp [splitL] at hp; subst hp; exact h
  | c :: r, cur, h, p, hp => by
    unfold splitL at hp
    split at hp
    · rcases List.mem_cons.1 hp with e | e
      · subst e; exact h
      · exact splitL_no b r [] (by simp) p e
    · rename_i hc
      exact splitL_no b r (cur ++ [c]) (by simp [h]; exact fun e => hc e.symm) p hp
theorem split_byte (b : UInt8) (l : List UInt8) : Lib.split l [b] = splitL b [] l := by
  have h := split_join (sep := [b]) (by simp) (splitL_ne b [] l) (fun p hp => good_one (splitL_no b l [] (by simp) p hp))
  rw [splitL_join_back, List.nil_append] at h
  exact h
def altsP : List UInt8 → List UInt8 → List (List UInt8)
  | cur, [] => [cur]
  | cur, [a] => [cur ++ [a]]
  | cur, a :: b :: r => if a = 124 ∧ b = 124 then cur :: altsP [] r else altsP (cur ++ [a]) (b :: r)
theorem altsP_ne : ∀ (l cur : List UInt8), altsP cur l ≠ []
  | [], cur => by simp [altsP]
  | [a], cur => by simp [altsP]
  | a :: b :: r, cur => by
    unfold altsP
    split
    · simp
    · exact altsP_ne (b :: r) _
def Cutting (sep : List UInt8) : List (List UInt8) → Prop
  | [] => False
  | [p] => Lib.index p sep = -1
  | p :: q :: r => Lib.index (p ++ sep ++ joinS sep (q :: r)) sep = p.length ∧ Cutting sep (q :: r)
theorem cutting_count {sep : List UInt8} (hs : sep ≠ []) : ∀ (ps : List (List UInt8)), Cutting sep ps → ∀ fuel, ps.length ≤ fuel → Lib.countFrom sep fuel (joinS sep ps) = ps.length - 1
  | [], h, _, _ => h.elim
  | [p], h, fuel + 1, _ => by
    have h : Lib.index p sep = -1 := h
    rw [joinS, Lib.countFrom, h]; rfl
  | p :: q :: r, h, fuel + 1, hf => by
    have hi := h.1
    rw [joinS, Lib.countFrom, hi]
    have : ((p.length : Int) == -1) = false := by simp
    rw [this, Int.toNat_natCast, drop_mid, cutting_count hs (q :: r) h.2 fuel (by simpa using hf)]
    simp only [List.length_cons, Bool.false_eq_true, if_false]; omega
theorem cutting_splitK {sep : List UInt8} : ∀ (ps : List (List UInt8)), Cutting sep ps → Lib.splitK sep 0 (ps.length - 1) (joinS sep ps) = ps
  | [], h => h.elim
  | [p], _ => rfl
  | p :: q :: r, h => by
    have hi := h.1
    have e : (p :: q :: r).length - 1 = ((q :: r).length - 1) + 1 := by simp
    rw [e, joinS, Lib.splitK, hi]
    have : ((p.length : Int) == -1) = false := by simp
    rw [this, Int.toNat_natCast, drop_mid, Nat.add_zero, cutting_splitK (q :: r) h.2]
    simp only [Bool.false_eq_true, if_false, List.append_assoc, List.take_left]
theorem cutting_split {sep : List UInt8} (hs : sep ≠ []) {ps : List (List UInt8)} (h : Cutting sep ps) : Lib.split (joinS sep ps) sep = ps := by
  unfold Lib.split Lib.count
  rw [cutting_count hs ps h _ (joinS_len hs ps), cutting_splitK ps h]
theorem occ_long {s sub : List UInt8} {j : Nat} (h0 : 0 < sub.length) (h : s.length < j + sub.length) : Lib.occAt s sub j = false := by
  rw [Bool.eq_false_iff]; intro ho
  unfold Lib.occAt at ho
  rw [List.isPrefixOf_iff_prefix] at ho
  have := ho.length_le
  rw [List.length_drop] at this
  omega
theorem alts_cut : ∀ (l cur : List UInt8), (∀ j, j < cur.length → Lib.occAt (cur ++ l) [124, 124] j = false) → Cutting [124, 124] (altsP cur l) ∧ joinS [124, 124] (altsP cur l) = cur ++ l
  | [], cur, h => by
    refine ⟨?_, by simp [altsP, joinS]⟩
    show Lib.index cur [124, 124] = -1
    refine Lib.index_none fun j hj => ?_
    by_cases k : j < cur.length
    · have := h j k; rwa [List.append_nil] at this
    · exact occ_long (by simp) (by simp; omega)
  | [a], cur, h => by
    refine ⟨?_, by simp [altsP, joinS]⟩
    show Lib.index (cur ++ [a]) [124, 124] = -1
    refine Lib.index_none fun j hj => ?_
    by_cases k : j < cur.length
    · exact h j k
    · exact occ_long (by simp) (by simp; omega)
  | a :: b :: r, cur, h => by
    unfold altsP
    split
    · rename_i hc
      obtain ⟨rfl, rfl⟩ := hc
      obtain ⟨h1, h2⟩ := alts_cut r [] (fun j hj => absurd hj (Nat.not_lt_zero _))
      cases hs : altsP [] r with
      | nil => exact absurd hs (altsP_ne _ _)
      | cons q t =>
        rw [hs] at h1 h2
        refine ⟨⟨?_, h1⟩, ?_⟩
        · rw [h2, List.nil_append]
          refine Lib.index_first (by simp only [List.length_append]; omega) (occ_at cur _ r) (fun j hj => ?_)
          have := h j hj
          simpa using this
        · simp only [joinS, h2]; simp
    · rename_i hc
      have := alts_cut (b :: r) (cur ++ [a]) (fun j hj => by
        have e : cur ++ [a] ++ b :: r = cur ++ a :: b :: r := by simp
        rw [e]
        by_cases k : j < cur.length
        · exact h j k
        · have : j = cur.length := by simp at hj; omega
          subst this
          unfold Lib.occAt
          rw [List.drop_left]
          simp only [List.isPrefixOf, Bool.and_true, Bool.and_eq_false_imp, beq_iff_eq]
          intro e1
          rw [Bool.eq_false_iff]
          intro e2
          exact hc ⟨e1.symm, (by simpa using e2 : (124 : UInt8) = b).symm⟩)
      rw [List.append_assoc] at this
      exact this
theorem split_alts (l : List UInt8) : Lib.split l [124, 124] = altsP [] l := by
  obtain ⟨h1, h2⟩ := alts_cut l [] (fun j hj => absurd hj (Nat.not_lt_zero _))
  have h := cutting_split (by simp) h1
  rwa [h2, List.nil_append] at h
theorem trim_left_nil (l : List UInt8) (c : UInt8) : Lib.trimLeftB l c = l.dropWhile (· == c) := rfl
theorem dropWhile_append_ne {p : UInt8 → Bool} : ∀ {l : List UInt8} (m : List UInt8), l.dropWhile p ≠ [] → (l ++ m).dropWhile p = l.dropWhile p ++ m
  | [], _, h => absurd rfl h
  | a :: l, m, h => by
    rw [List.cons_append, List.dropWhile_cons, List.dropWhile_cons] at *
    split
    · rename_i hp; rw [if_pos hp] at h; exact dropWhile_append_ne m h
    · simp
theorem dropWhile_append_all {p : UInt8 → Bool} : ∀ {l : List UInt8} (m : List UInt8), l.dropWhile p = [] → (l ++ m).dropWhile p = m.dropWhile p
  | [], _, _ => rfl
  | a :: l, m, h => by
    rw [List.cons_append, List.dropWhile_cons]
    rw [List.dropWhile_cons] at h
    split
    · rename_i hp; rw [if_pos hp] at h; exact dropWhile_append_all m h
    · rename_i hp; rw [if_neg hp] at h; cases h
theorem trimRight_snoc (l : List UInt8) (a c : UInt8) : Lib.trimRightB (l ++ [a]) c = if a == c then Lib.trimRightB l c else l ++ [a] := by
  unfold Lib.trimRightB
  rw [List.reverse_append, List.reverse_singleton, List.singleton_append, List.dropWhile_cons]
  split
  · rfl
  · simp
theorem trim_swap (c : UInt8) : ∀ (l : List UInt8), Lib.trimRightB (Lib.trimLeftB l c) c = Lib.trimB l c := by
  intro l
  induction hn : l.length generalizing l with
  | zero =>
    have : l = [] := List.eq_nil_of_length_eq_zero hn
    subst this; rfl
  | succ n ih =>
    obtain ⟨m, a, rfl⟩ : ∃ m a, l = m ++ [a] := ⟨l.dropLast, l.getLast (by intro e; rw [e] at hn; simp at hn), (List.dropLast_concat_getLast _).symm⟩
    have hm : m.length = n := by simpa using hn
    have ih := ih m hm
    unfold Lib.trimB at ih ⊢
    rw [trimRight_snoc]
    by_cases hd : Lib.trimLeftB m c = []
    · have e : Lib.trimLeftB (m ++ [a]) c = Lib.trimLeftB [a] c := dropWhile_append_all _ hd
      rw [e]
      by_cases ha : a == c
      · rw [if_pos ha, ← ih, hd]
        simp [Lib.trimLeftB, ha, Lib.trimRightB]
      · rw [if_neg ha, e]
        have : Lib.trimLeftB [a] c = [] ++ [a] := by simp [Lib.trimLeftB, ha]
        rw [this, trimRight_snoc, if_neg ha]
    · have e : Lib.trimLeftB (m ++ [a]) c = Lib.trimLeftB m c ++ [a] := dropWhile_append_ne _ hd
      rw [e, trimRight_snoc]
      by_cases ha : a == c
      · rw [if_pos ha, if_pos ha, ih]
      · rw [if_neg ha, if_neg ha, e]
theorem trimB_no {l : List UInt8} {c : UInt8} (h1 : l.head? ≠ some c) (h2 : l.getLast? ≠ some c) : Lib.trimB l c = l := by
  unfold Lib.trimB
  have e : Lib.trimRightB l c = l := by
    rcases List.eq_nil_or_concat l with rfl | ⟨m, a, rfl⟩
    · rfl
    · rw [List.concat_eq_append] at h2 ⊢
      rw [trimRight_snoc, if_neg]
      intro e
      rw [beq_iff_eq] at e
      subst e; simp at h2
  rw [e]
  cases l with
  | nil => rfl
  | cons a r =>
    unfold Lib.trimLeftB
    rw [List.dropWhile_cons, if_neg]
    intro e
    rw [beq_iff_eq] at e
    subst e; simp at h1
def fewA (a : List CompL) : Bool := decide (1 ≤ a.length ∧ a.length ≤ 6) && a.all mayX
def fewG (r : List (List CompL)) : Bool := decide (1 ≤ r.length ∧ r.length ≤ 6) && r.all fewA
def altT (a : List CompL) : List UInt8 := joinS [44, 32] (a.map printX)
def rangeT (r : List (List CompL)) : List UInt8 := joinS [32, 124, 124, 32] (r.map altT)
def mayG (r : List (List CompL)) : Bool := fewG r && decide ((rangeT r).length ≤ 96)
def printG (r : List (List CompL)) : List UInt8 := if mayG r then rangeT r else []
def setG (r : List (List CompL)) : List SpanL × List SpanL := if mayG r then orG (r.map altS) else ([], [])
def compsP : List (List UInt8) → Option (List CompL)
  | [] => some []
  | x :: r => match parseX (Lib.trimB x 32) with
    | none => none
    | some c => match compsP r with
      | none => none
      | some l => some (c :: l)
def altsC : List (List UInt8) → Option (List (List CompL))
  | [] => some []
  | x :: r => match compsP (splitL 44 [] x) with
    | none => none
    | some c => match altsC r with
      | none => none
      | some l => some (c :: l)
def parseG (s : List UInt8) : List (List CompL) × Int := if 96 < s.length then ([], 3) else match altsC (altsP [] s) with
  | none => ([], 6)
  | some r => if fewG r then (if (rangeT r).length ≤ 96 then (r, 0) else ([], 3)) else ([], 6)
def ofG (s : List UInt8) : (List SpanL × List SpanL) × Int := if (parseG s).2 = 0 then (setG (parseG s).1, 0) else (([], []), (parseG s).2)
end Go.Proofs.YtplmlahpmnjneaaGreatDoor
namespace Go.Proofs.YtplmlahpmnjneaaGreatDoor
open Go.RowKit Go.Lib
open Rw
set_option linter.unusedVariables false
set_option linter.unusedSimpArgs false
theorem altsP_skip {a : UInt8} (h : a ≠ 124) (cur l : List UInt8) : altsP cur (a :: l) = altsP (cur ++ [a]) l := by
  cases l with
  | nil => rfl
  | cons b r => rw [altsP, if_neg (fun e => h e.1)]
theorem altsP_run : ∀ (p cur l : List UInt8), (124 : UInt8) ∉ p → altsP cur (p ++ l) = altsP (cur ++ p) l
  | [], cur, l, _ => by simp
  | a :: p, cur, l, h => by
    simp only [List.mem_cons, not_or] at h
    rw [List.cons_append, altsP_skip (fun e => h.1 e.symm), altsP_run p _ l h.2]; simp
theorem altsP_join : ∀ (ps : List (List UInt8)), ps ≠ [] → (∀ p ∈ ps, (124 : UInt8) ∉ p) → altsP [] (joinS [124, 124] ps) = ps
  | [], h, _ => absurd rfl h
  | [p], _, h => by
    have := altsP_run p [] [] (h p (by simp))
    rw [List.append_nil] at this
    rw [joinS, this]; rfl
  | p :: q :: r, _, h => by
    have e : joinS [124, 124] (p :: q :: r) = p ++ 124 :: 124 :: joinS [124, 124] (q :: r) := by rw [joinS]; simp
    rw [e, altsP_run p [] _ (h p (by simp)), altsP, if_pos ⟨rfl, rfl⟩, altsP_join (q :: r) (by simp) (fun x hx => h x (List.mem_cons_of_mem _ hx))]; rfl
def AllSp (z : List UInt8) : Prop := ∀ b ∈ z, b = 32
theorem sp_no {z : List UInt8} (h : AllSp z) {b : UInt8} (hb : b ≠ 32) : b ∉ z := fun k => hb (h b k)
def padZ (z x y e : List UInt8) : List (List UInt8) → List (List UInt8)
  | [] => []
  | [p] => [z ++ (p ++ e)]
  | p :: q :: r => (z ++ (p ++ x)) :: padZ y x y e (q :: r)
theorem padZ_ne {x y e : List UInt8} : ∀ {z : List UInt8} {ps : List (List UInt8)}, ps ≠ [] → padZ z x y e ps ≠ []
  | _, [], h => absurd rfl h
  | _, [p], _ => by simp [padZ]
  | _, p :: q :: r, _ => by simp [padZ]
theorem padZ_join {sep x y e : List UInt8} : ∀ {z : List UInt8} {ps : List (List UInt8)}, ps ≠ [] → joinS sep (padZ z x y e ps) = z ++ (joinS (x ++ (sep ++ y)) ps ++ e)
  | _, [], h => absurd rfl h
  | _, [p], _ => by simp [padZ, joinS]
  | z, p :: q :: r, _ => by
    have ih := padZ_join (sep := sep) (x := x) (y := y) (e := e) (z := y) (ps := q :: r) (by simp)
    have hne := padZ_ne (x := x) (y := y) (e := e) (z := y) (ps := q :: r) (by simp)
    rw [padZ]
    cases hs : padZ y x y e (q :: r) with
    | nil => exact absurd hs hne
    | cons a t =>
      rw [hs] at ih
      simp only [joinS, ih]
      simp
theorem padZ_mem {x y e : List UInt8} : ∀ {z : List UInt8} {ps : List (List UInt8)} {q : List UInt8}, q ∈ padZ z x y e ps → ∃ a b p, p ∈ ps ∧ q = a ++ (p ++ b) ∧ (a = z ∨ a = y) ∧ (b = x ∨ b = e)
  | _, [], _, h => by simp [padZ] at h
  | z, [p], q, h => by simp [padZ] at h; exact ⟨z, e, p, by simp, h, .inl rfl, .inr rfl⟩
  | z, p :: u :: r, q, h => by
    rw [padZ] at h
    rcases List.mem_cons.1 h with k | k
    · exact ⟨z, x, p, by simp, k, .inl rfl, .inl rfl⟩
    · obtain ⟨a, b, p', h1, h2, h3, h4⟩ := padZ_mem k
      exact ⟨a, b, p', List.mem_cons_of_mem _ h1, h2, .inr (by rcases h3 with h | h <;> exact h), h4⟩
theorem drop_sp {z : List UInt8} (h : AllSp z) (l : List UInt8) : Lib.trimLeftB (z ++ l) 32 = Lib.trimLeftB l 32 := by
  refine dropWhile_append_all l ?_
  induction z with
  | nil => rfl
  | cons a r ih =>
    rw [List.dropWhile_cons, if_pos (by rw [h a (by simp)]; rfl)]
    exact ih (fun b hb => h b (List.mem_cons_of_mem _ hb))
theorem drop_sp_right {z : List UInt8} (h : AllSp z) (l : List UInt8) : Lib.trimRightB (l ++ z) 32 = Lib.trimRightB l 32 := by
  have hr : AllSp z.reverse := fun b hb => h b (List.mem_reverse.1 hb)
  have := drop_sp hr l.reverse
  unfold Lib.trimLeftB at this
  unfold Lib.trimRightB
  rw [List.reverse_append, this]
theorem trim_pad {z x t : List UInt8} (hz : AllSp z) (hx : AllSp x) (ht : (32 : UInt8) ∉ t) : Lib.trimB (z ++ (t ++ x)) 32 = t := by
  have e : Lib.trimLeftB (z ++ (t ++ x)) 32 = Lib.trimLeftB (t ++ x) 32 := drop_sp hz _
  rw [← trim_swap, e, trim_swap]
  unfold Lib.trimB
  rw [drop_sp_right hx]
  refine trimB_no ?_ ?_
  · intro k; exact ht (List.mem_of_head? k)
  · intro k; exact ht (List.mem_of_getLast? k)
theorem printX_no {b : UInt8} (hb : b = 32 ∨ b = 44 ∨ b = 124) (c : CompL) : b ∉ printX c := by
  unfold printX
  split
  · rename_i hm
    have hm := mayX_iff.1 hm
    have hd : b.toNat < 48 ∨ 57 < b.toNat := by rcases hb with e | e | e <;> subst e <;> decide
    have h46 : b ≠ 46 := by rcases hb with e | e | e <;> subst e <;> decide
    have ht := told_no hd c
    unfold textX
    split
    · refine joinS_no h46 (fun w hw => ?_)
      rcases List.mem_append.1 hw with h | h
      · exact ht w h
      · simp only [List.mem_singleton] at h; subst h
        rcases hb with e | e | e <;> subst e <;> decide
    · rw [List.mem_append, List.mem_append, not_or, not_or]
      refine ⟨?_, joinS_no h46 ht, ?_⟩
      · rcases (show c.op = 1 ∨ c.op = 2 ∨ c.op = 3 ∨ c.op = 4 ∨ c.op = 5 ∨ c.op = 6 ∨ c.op = 7 ∨ c.op = 8 ∨ c.op = 9 by have := hm.op; omega) with k | k | k | k | k | k | k | k | k <;> rw [k] <;> rcases hb with e | e | e <;> subst e <;> decide
      · obtain ⟨-, -, -, hp, -⟩ := mayV_parts hm.v
        unfold preT
        split
        · simp
        · rw [List.mem_cons, not_or]
          refine ⟨by rcases hb with e | e | e <;> subst e <;> decide, fun k => ?_⟩
          have := pre_mem hp k
          revert this
          rcases hb with e | e | e <;> subst e <;> decide
  · simp
theorem comps_pad {x y e : List UInt8} (hx : AllSp x) (hy : AllSp y) (he : AllSp e) : ∀ {z : List UInt8} {a : List CompL}, AllSp z → (∀ c ∈ a, MayX c) → compsP (padZ z x y e (a.map printX)) = some a
  | _, [], _, _ => rfl
  | z, [c], hz, h => by
    simp only [List.map_cons, List.map_nil, padZ, compsP]
    rw [trim_pad hz he (printX_no (.inl rfl) c), parseX_back (h c (by simp))]
  | z, c :: d :: r, hz, h => by
    have ih := comps_pad hx hy he (z := y) (a := d :: r) hy (fun x hx => h x (List.mem_cons_of_mem _ hx))
    simp only [List.map_cons, padZ, compsP] at ih ⊢
    rw [trim_pad hz hx (printX_no (.inl rfl) c), parseX_back (h c (by simp))]
    simp only
    rw [ih]
def compsW (i j : List UInt8) (a : List CompL) : List UInt8 := joinS (i ++ ([44] ++ j)) (a.map printX)
def textW (i j k m : List UInt8) (r : List (List CompL)) : List UInt8 := joinS (k ++ ([124, 124] ++ m)) (r.map (compsW i j))
structure FewA (a : List CompL) : Prop where
  ne : a ≠ []
  le : a.length ≤ 6
  may : ∀ c ∈ a, MayX c
theorem fewA_iff {a : List CompL} : fewA a = true ↔ FewA a := by
  rw [fewA, Bool.and_eq_true, decide_eq_true_eq, List.all_eq_true]
  refine ⟨fun ⟨h1, h2⟩ => ⟨fun e => by subst e; simp at h1, h1.2, fun c hc => mayX_iff.1 (h2 c hc)⟩, fun ⟨h1, h2, h3⟩ => ⟨⟨List.length_pos_iff.2 h1, h2⟩, fun c hc => mayX_iff.2 (h3 c hc)⟩⟩
structure FewG (r : List (List CompL)) : Prop where
  ne : r ≠ []
  le : r.length ≤ 6
  may : ∀ a ∈ r, FewA a
theorem fewG_iff {r : List (List CompL)} : fewG r = true ↔ FewG r := by
  rw [fewG, Bool.and_eq_true, decide_eq_true_eq, List.all_eq_true]
  refine ⟨fun ⟨h1, h2⟩ => ⟨fun e => by subst e; simp at h1, h1.2, fun c hc => fewA_iff.1 (h2 c hc)⟩, fun ⟨h1, h2, h3⟩ => ⟨⟨List.length_pos_iff.2 h1, h2⟩, fun c hc => fewA_iff.2 (h3 c hc)⟩⟩
theorem joinG_no {b : UInt8} {sep : List UInt8} (hs : b ∉ sep) : ∀ {ws : List (List UInt8)}, (∀ w ∈ ws, b ∉ w) → b ∉ joinS sep ws
  | [], _ => by simp [joinS]
  | [w], h => by simpa [joinS] using h
  | w :: u :: r, h => by
    have ih := joinG_no hs (ws := u :: r) (fun x hx => h x (List.mem_cons_of_mem _ hx))
    simp only [joinS, List.mem_append, not_or]
    exact ⟨⟨h w (by simp), hs⟩, ih⟩
theorem compsW_no {b : UInt8} (hb : b = 124) {i j : List UInt8} (hi : AllSp i) (hj : AllSp j) (a : List CompL) : b ∉ compsW i j a := by
  subst hb
  refine joinG_no ?_ (fun w hw => ?_)
  · simp only [List.mem_append, not_or]
    exact ⟨sp_no hi (by decide), by decide, sp_no hj (by decide)⟩
  · obtain ⟨c, _, rfl⟩ := List.mem_map.1 hw
    exact printX_no (.inr (.inr rfl)) c
theorem comps_split {i j z e : List UInt8} (hi : AllSp i) (hj : AllSp j) (hz : AllSp z) (he : AllSp e) {a : List CompL} (h : FewA a) : compsP (splitL 44 [] (z ++ (compsW i j a ++ e))) = some a := by
  have hne : a.map printX ≠ [] := by simpa using h.ne
  have e1 : z ++ (compsW i j a ++ e) = joinS [44] (padZ z i j e (a.map printX)) := (padZ_join hne).symm
  rw [e1, splitL_join (padZ_ne hne) (fun w hw => ?_), comps_pad hi hj he hz h.may]
  obtain ⟨p, q, u, hu, rfl, h1, h2⟩ := padZ_mem hw
  obtain ⟨c, _, rfl⟩ := List.mem_map.1 hu
  have k1 : AllSp p := by rcases h1 with rfl | rfl <;> assumption
  have k2 : AllSp q := by rcases h2 with rfl | rfl <;> assumption
  simp only [List.mem_append, not_or]
  exact ⟨sp_no k1 (by decide), printX_no (.inr (.inl rfl)) c, sp_no k2 (by decide)⟩
theorem alts_pad {i j x y e : List UInt8} (hi : AllSp i) (hj : AllSp j) (hx : AllSp x) (hy : AllSp y) (he : AllSp e) : ∀ {z : List UInt8} {r : List (List CompL)}, AllSp z → (∀ a ∈ r, FewA a) → altsC (padZ z x y e (r.map (compsW i j))) = some r
  | _, [], _, _ => rfl
  | z, [a], hz, h => by
    simp only [List.map_cons, List.map_nil, padZ, altsC]
    rw [comps_split hi hj hz he (h a (by simp))]
  | z, a :: b :: r, hz, h => by
    have ih := alts_pad hi hj hx hy he (z := y) (r := b :: r) hy (fun x hx => h x (List.mem_cons_of_mem _ hx))
    simp only [List.map_cons, padZ, altsC] at ih ⊢
    rw [comps_split hi hj hz hx (h a (by simp))]
    simp only
    rw [ih]
theorem sp_nil : AllSp [] := fun b h => by cases h
theorem alts_text {i j k m : List UInt8} (hi : AllSp i) (hj : AllSp j) (hk : AllSp k) (hm : AllSp m) {r : List (List CompL)} (h : FewG r) : altsC (altsP [] (textW i j k m r)) = some r := by
  have hne : r.map (compsW i j) ≠ [] := by simpa using h.ne
  have e1 : textW i j k m r = joinS [124, 124] (padZ [] k m [] (r.map (compsW i j))) := by rw [padZ_join hne, List.nil_append, List.append_nil]; rfl
  rw [e1, altsP_join _ (padZ_ne hne) (fun w hw => ?_), alts_pad hi hj hk hm sp_nil sp_nil h.may]
  obtain ⟨p, q, u, hu, rfl, h1, h2⟩ := padZ_mem hw
  obtain ⟨a, _, rfl⟩ := List.mem_map.1 hu
  have k1 : AllSp p := by rcases h1 with rfl | rfl <;> first | exact sp_nil | assumption
  have k2 : AllSp q := by rcases h2 with rfl | rfl <;> first | exact sp_nil | assumption
  simp only [List.mem_append, not_or]
  exact ⟨sp_no k1 (by decide), compsW_no rfl hi hj a, sp_no k2 (by decide)⟩
def sp1 : List UInt8 := [32]
def sp3 : List UInt8 := [32, 32, 32]
theorem sp1_ok : AllSp sp1 := by intro b hb; simpa [sp1] using hb
theorem sp3_ok : AllSp sp3 := by intro b hb; simpa [sp3] using hb
theorem rangeT_text (r : List (List CompL)) : rangeT r = textW [] sp1 sp1 sp1 r := rfl
theorem mayG_few {r : List (List CompL)} (h : mayG r = true) : FewG r ∧ (rangeT r).length ≤ 96 := by
  rw [mayG, Bool.and_eq_true, decide_eq_true_eq] at h
  exact ⟨fewG_iff.1 h.1, h.2⟩
theorem parseG_text {i j k m : List UInt8} (hi : AllSp i) (hj : AllSp j) (hk : AllSp k) (hm : AllSp m) {r : List (List CompL)} (h : mayG r = true) (hl : (textW i j k m r).length ≤ 96) : parseG (textW i j k m r) = (r, 0) := by
  obtain ⟨h1, h2⟩ := mayG_few h
  rw [parseG, if_neg (by omega), alts_text hi hj hk hm h1]
  simp only
  rw [if_pos (fewG_iff.2 h1), if_pos h2]
theorem parseG_back {r : List (List CompL)} (h : mayG r = true) : parseG (printG r) = (r, 0) := by
  rw [printG, if_pos h, rangeT_text]
  exact parseG_text sp_nil sp1_ok sp1_ok sp1_ok h (by rw [← rangeT_text]; exact (mayG_few h).2)
theorem parseG_sound {s : List UInt8} (h : (parseG s).2 = 0) : mayG (parseG s).1 = true := by
  unfold parseG at h ⊢
  split
  · rename_i h1; rw [if_pos h1] at h; cases h
  · rename_i h1
    rw [if_neg h1] at h
    split
    · rename_i h2; rw [h2] at h; cases h
    · rename_i r h2
      rw [h2] at h
      simp only at h
      split
      · rename_i h3
        rw [if_pos h3] at h
        split
        · rename_i h4
          rw [mayG, h3]
          simpa using h4
        · rename_i h4; rw [if_neg h4] at h; cases h
      · rename_i h3; rw [if_neg h3] at h; cases h
theorem parseG_cases (s : List UInt8) : ((parseG s).2 = 0 ∧ mayG (parseG s).1 = true) ∨ ((parseG s).2 ≠ 0 ∧ parseG s = ([], (parseG s).2) ∧ ((parseG s).2 = 3 ∨ (parseG s).2 = 6)) := by
  by_cases h : (parseG s).2 = 0
  · exact .inl ⟨h, parseG_sound h⟩
  · refine .inr ⟨h, ?_⟩
    unfold parseG at h ⊢
    split
    · exact ⟨rfl, .inl rfl⟩
    · rename_i h1
      rw [if_neg h1] at h
      split
      · exact ⟨rfl, .inr rfl⟩
      · rename_i r h2
        rw [h2] at h
        simp only at h
        split
        · rename_i h3
          rw [if_pos h3] at h
          split
          · rename_i h4; rw [if_pos h4] at h; exact absurd rfl h
          · exact ⟨rfl, .inl rfl⟩
        · exact ⟨rfl, .inr rfl⟩
end Go.Proofs.YtplmlahpmnjneaaGreatDoor
namespace Go.Proofs.YtplmlahpmnjneaaGreatDoor
open Go.RowKit Go.Lib
open Rw
set_option linter.unusedVariables false
set_option linter.unusedSimpArgs false
theorem b48 : bts zeroB = [48] := bts_strB [48]
theorem split48 : splitP [48] = [[48]] := by decide +kernel
theorem least_may {v : Ver} (h : mayV v = true) : mayV (leastX v) = true := by
  obtain ⟨h1, h2, h3, -, -⟩ := mayV_parts h
  have h4 : preOk (bts zeroB) = true := by rw [b48]; decide +kernel
  have h5 : bldOk (bts (⟨#[]⟩ : ByteArray)) = true := bldOk_nil bts_e
  simp only [mayV, leastX, h1, h2, h3, h4, h5, Bool.and_self]
theorem rel_may {v : Ver} (h : mayV v = true) : isRel (relV v) := by
  obtain ⟨h1, h2, h3, -, -⟩ := mayV_parts h
  simp only [fitsI, decide_eq_true_eq] at h1 h2 h3
  exact ⟨rel_ok ⟨h1, h2, h3⟩, bts_e⟩
theorem cmpTag_zero {t : List UInt8} (h : tagOk t = true) (hn : preTag t = true) : cmpTag [48] t ≤ 0 := by
  unfold cmpTag
  have e : numericL [48] = true := by decide +kernel
  rw [e]
  cases hk : numericL t
  · simp
  · simp only [Bool.and_self, if_true]
    have e2 : (numberL [48]).1 = 0 := by decide +kernel
    rw [e2]
    have h0 : 0 ≤ (numberL t).1 := by
      rw [preTag, hk] at hn
      have := (num_back (by simpa using hn)).2
      simp only [fitsI, decide_eq_true_eq] at this
      exact this.1
    unfold cmpI
    split
    · omega
    · rw [if_neg (by omega)]; omega
theorem cmpPre_zero {l : List UInt8} (h : preL l = true) : cmpPre [48] l ≤ 0 := by
  unfold cmpPre
  split
  · omega
  · rw [if_neg (by simp)]
    split
    · omega
    · rw [split48]
      rw [preL, Bool.and_eq_true, tagsL, Bool.and_eq_true, decide_eq_true_eq] at h
      cases hs : splitP l with
      | nil => exact absurd hs (splitL_ne _ _ _)
      | cons t ts =>
        rw [hs] at h
        simp only [List.all_cons, Bool.and_eq_true] at h
        have h1 := cmpTag_zero h.1.2.1 h.2.1
        rw [cmpTags]
        split
        · exact h1
        · cases ts with
          | nil => decide
          | cons u us => simp only [cmpTags, cmpI, List.length_nil, List.length_cons]; split <;> omega
theorem least_le {v u : Ver} (hv : mayV v = true) (hu : mayV u = true) (hp : bts u.pre ≠ []) : cmpV (leastX v) u ≤ 0 ↔ cmpNum v u ≤ 0 := by
  rw [cmpV_ok (least_may hv) hu]
  have e : cmpNum (leastX v) u = cmpNum v u := rfl
  rw [e]
  split
  · rfl
  · rename_i h
    have h0 : cmpNum v u = 0 := by omega
    obtain ⟨-, -, -, k, -⟩ := mayV_parts hu
    rw [preOk, Bool.or_eq_true] at k
    have := cmpPre_zero (k.resolve_left (by simpa using hp))
    rw [show bts (leastX v).pre = [48] from b48]
    omega
theorem zone_mem {c : CompL} {u : Ver} (hc : mayV c.v = true) (hu : mayV u = true) (hp : bts u.pre ≠ []) : (le (zoneS c).fr (befC u) ∧ lt (befC u) (zoneS c).til) ↔ cmpNum c.v u = 0 := by
  have h1 : le (zoneS c).fr (befC u) ↔ cmpNum c.v u ≤ 0 := (bef_le_bef (v := leastX c.v) (least_may hc) hu).trans (least_le hc hu hp)
  have hr := rel_may hc
  have h2 : le (zoneS c).til (befC u) ↔ cmpV (relV c.v) u ≤ 0 := bef_le_bef (v := relV c.v) hr.1 hu
  have h3 : lt (befC u) (zoneS c).til ↔ ¬ le (zoneS c).til (befC u) := ⟨fun k j => k.not_le j, fun k => lt_of_not_le (befC_may hu) (befC_may (v := relV c.v) hr.1) k⟩
  have h4 := cmpV_pre_rel hu hr hp
  have h5 := cmpV_anti hu hr.1
  have h6 : cmpNum u (relV c.v) = cmpNum u c.v := rfl
  have h7 := @cmpNum_gt u c.v
  have h8 := @cmpNum_gt c.v u
  have h9 := @cmpNum_zero u c.v
  have h10 := @cmpNum_zero c.v u
  rw [h1, h3, h2]
  constructor
  · rintro ⟨a, b⟩
    have b1 : cmpV u (relV c.v) < 0 := h5.2 (by omega)
    have b2 : cmpNum u c.v ≤ 0 := by rw [← h6]; exact h4.1 b1
    by_cases e : cmpNum c.v u = 0
    · exact e
    · exfalso
      have k1 : cmpNum c.v u < 0 := by omega
      have := h7.2 k1
      omega
  · intro e
    have e2 : cmpNum u c.v = 0 := h9.2 ⟨(h10.1 e).1.symm, (h10.1 e).2.1.symm, (h10.1 e).2.2.symm⟩
    refine ⟨by omega, ?_⟩
    have : cmpV u (relV c.v) < 0 := h4.2 (by rw [h6]; omega)
    have := h5.1 this
    omega
theorem zone_lt {c : CompL} (hc : mayV c.v = true) : lt (zoneS c).fr (zoneS c).til := by
  have hl := least_may hc
  have hp : bts (leastX c.v).pre ≠ [] := by rw [show bts (leastX c.v).pre = [48] from b48]; simp
  have h := (zone_mem (u := leastX c.v) hc hl hp).2 (cmpNum_zero.2 ⟨rfl, rfl, rfl⟩)
  exact h.2
theorem zoneX_val (c : CompL) : Val (zoneX c) := by
  unfold zoneX
  split
  · rename_i h
    rw [Bool.and_eq_true] at h
    exact one_valid (zone_lt (mayX_iff.1 h.1).v)
  · exact nil_val
theorem zoneA_val_from : ∀ (l : List CompL) (o : List SpanL), Val o → Val (l.foldl (fun o c => rorL o (zoneX c)) o)
  | [], _, h => h
  | c :: l, o, h => zoneA_val_from l _ (v_or h (zoneX_val c))
theorem zoneA_val (l : List CompL) : Val (zoneA l) := zoneA_val_from l [] nil_val
theorem altS_val (l : List CompL) : ValS (altS l).1 (altS l).2 := smake_val (relA_val l) (v_and (relA_val l) (zoneA_val l))
theorem orG_val_from : ∀ (l : List (List SpanL × List SpanL)) (o : List SpanL × List SpanL), ValS o.1 o.2 → (∀ s ∈ l, ValS s.1 s.2) → ValS (l.foldl (fun o s => orS o.1 o.2 s.1 s.2) o).1 (l.foldl (fun o s => orS o.1 o.2 s.1 s.2) o).2
  | [], _, h, _ => h
  | s :: l, o, h, hl => orG_val_from l _ (h.orS (hl s (by simp))) (fun x hx => hl x (List.mem_cons_of_mem _ hx))
theorem orG_val {l : List (List SpanL × List SpanL)} (h : ∀ s ∈ l, ValS s.1 s.2) : ValS (orG l).1 (orG l).2 := orG_val_from l ([], []) ValS.nil h
theorem alts_val (r : List (List CompL)) : ∀ s ∈ r.map altS, ValS s.1 s.2 := fun s hs => by
  obtain ⟨a, _, rfl⟩ := List.mem_map.1 hs
  exact altS_val a
theorem orA_val (r : List (List CompL)) : ValS (orG (r.map altS)).1 (orG (r.map altS)).2 := orG_val (alts_val r)
theorem setG_val (r : List (List CompL)) : ValS (setG r).1 (setG r).2 := by
  unfold setG
  split
  · exact orA_val r
  · exact ValS.nil
theorem relA_has_from {v : Ver} (hv : mayV v = true) : ∀ (l : List CompL) (o : List SpanL), Val o → hasR (l.foldl (fun o c => randL o (regionX c)) o) v = (hasR o v && l.all fun c => hasR (regionX c) v)
  | [], o, _ => by simp
  | c :: l, o, h => by
    rw [List.foldl_cons, relA_has_from hv l _ (v_and h (regionX_val c)), has_and h (regionX_val c) hv, List.all_cons, Bool.and_assoc]
theorem whole_has {v : Ver} (hv : mayV v = true) : hasR wholeL v = true := by
  have := all_has hv
  rw [hasS_val ValS.whole hv, sideS, ite_self] at this
  exact this
theorem relA_has {v : Ver} (hv : mayV v = true) (l : List CompL) : hasR (relA l) v = l.all fun c => hasR (regionX c) v := by
  rw [relA, relA_has_from hv l wholeL whole_val, whole_has hv, Bool.true_and]
theorem zoneA_has_from {v : Ver} (hv : mayV v = true) : ∀ (l : List CompL) (o : List SpanL), Val o → hasR (l.foldl (fun o c => rorL o (zoneX c)) o) v = (hasR o v || l.any fun c => hasR (zoneX c) v)
  | [], o, _ => by simp
  | c :: l, o, h => by
    rw [List.foldl_cons, zoneA_has_from hv l _ (v_or h (zoneX_val c)), has_or h (zoneX_val c) hv, List.any_cons, Bool.or_assoc]
theorem nil_has {v : Ver} (hv : mayV v = true) : hasR [] v = false := by
  rw [Bool.eq_false_iff]
  intro h
  exact mem_nil ((has_iff nil_val hv).1 h)
theorem zoneA_has {v : Ver} (hv : mayV v = true) (l : List CompL) : hasR (zoneA l) v = l.any fun c => hasR (zoneX c) v := by
  rw [zoneA, zoneA_has_from hv l [] nil_val, nil_has hv, Bool.false_or]
def aheadX (v : Ver) (c : CompL) : Bool := !(bts c.v.pre).isEmpty && decide (c.v.maj = v.maj) && decide (c.v.min = v.min) && decide (c.v.pat = v.pat)
theorem zoneX_has {v : Ver} (hv : mayV v = true) (hp : bts v.pre ≠ []) {c : CompL} (hc : MayX c) : hasR (zoneX c) v = aheadX v c := by
  have e := mayX_iff.2 hc
  unfold zoneX aheadX
  rw [e, Bool.true_and]
  cases hb : (bts c.v.pre).isEmpty
  · rw [Bool.not_false, if_pos rfl, Bool.true_and]
    have h1 := has_iff (one_valid (zone_lt hc.v)) hv
    rw [one_mem, zone_mem hc.v hv hp, cmpNum_zero] at h1
    rw [Bool.eq_iff_iff, h1]
    simp only [Bool.and_eq_true, decide_eq_true_eq, and_assoc]
  · rw [Bool.not_true, if_neg (by simp), Bool.false_and, nil_has hv]; rfl
theorem altS_has {v : Ver} (hv : mayV v = true) {a : List CompL} (ha : FewA a) : hasS (altS a).1 (altS a).2 v = ((a.all fun c => hasR (regionX c) v) && ((bts v.pre).isEmpty || a.any (aheadX v))) := by
  rw [altS, smake_has (relA_val a) (v_and (relA_val a) (zoneA_val a)) hv]
  cases hp : (bts v.pre).isEmpty
  · rw [if_neg (by simp), has_and (relA_val a) (zoneA_val a) hv, relA_has hv, zoneA_has hv, Bool.false_or]
    congr 1
    have hp' : bts v.pre ≠ [] := by simpa using hp
    have : ∀ l : List CompL, (∀ c ∈ l, MayX c) → (l.any fun c => hasR (zoneX c) v) = l.any (aheadX v) := by
      intro l
      induction l with
      | nil => intro _; rfl
      | cons c l ih => intro h; rw [List.any_cons, List.any_cons, zoneX_has hv hp' (h c (by simp)), ih (fun x hx => h x (List.mem_cons_of_mem _ hx))]
    exact this a ha.may
  · rw [if_pos rfl, relA_has hv, Bool.true_or, Bool.and_true]
theorem orG_has_from {v : Ver} (hv : mayV v = true) : ∀ (l : List (List SpanL × List SpanL)) (o : List SpanL × List SpanL), ValS o.1 o.2 → (∀ s ∈ l, ValS s.1 s.2) →
    hasS (l.foldl (fun o s => orS o.1 o.2 s.1 s.2) o).1 (l.foldl (fun o s => orS o.1 o.2 s.1 s.2) o).2 v = (hasS o.1 o.2 v || l.any fun s => hasS s.1 s.2 v)
  | [], _, _, _ => by simp
  | s :: l, o, h, hl => by
    have hs := hl s (by simp)
    rw [List.foldl_cons, orG_has_from hv l _ (h.orS hs) (fun x hx => hl x (List.mem_cons_of_mem _ hx)), has_orS h hs hv, List.any_cons, Bool.or_assoc]
def inA (v : Ver) (a : List CompL) : Bool := (a.all fun c => hasR (regionX c) v) && ((bts v.pre).isEmpty || a.any (aheadX v))
theorem setG_has {v : Ver} (hv : mayV v = true) {r : List (List CompL)} (h : mayG r = true) : hasS (setG r).1 (setG r).2 v = r.any (inA v) := by
  have hf := (mayG_few h).1
  rw [setG, if_pos h, orG, orG_has_from hv _ _ ValS.nil (alts_val r), none_has, Bool.false_or, List.any_map]
  have : ∀ l : List (List CompL), (∀ a ∈ l, FewA a) → (l.any ((fun s => hasS s.1 s.2 v) ∘ altS)) = l.any (inA v) := by
    intro l
    induction l with
    | nil => intro _; rfl
    | cons a l ih => intro k; rw [List.any_cons, List.any_cons, ih (fun x hx => k x (List.mem_cons_of_mem _ hx))]; congr 1; exact altS_has hv (k a (by simp))
  exact this r hf.may
theorem relA_mem_from {x : CutL} : ∀ (l : List CompL) (o : List SpanL), Val o → (mem (l.foldl (fun o c => randL o (regionX c)) o) x ↔ mem o x ∧ ∀ c ∈ l, mem (regionX c) x)
  | [], o, _ => by simp
  | c :: l, o, h => by
    rw [List.foldl_cons, relA_mem_from l _ (v_and h (regionX_val c)), (and_spec h (regionX_val c)).2 x]
    simp only [List.mem_cons, forall_eq_or_imp, and_assoc]
theorem relA_mem {x : CutL} (l : List CompL) : mem (relA l) x ↔ mem wholeL x ∧ ∀ c ∈ l, mem (regionX c) x := relA_mem_from l wholeL whole_val
theorem zoneA_mem_from {x : CutL} : ∀ (l : List CompL) (o : List SpanL), Val o → (mem (l.foldl (fun o c => rorL o (zoneX c)) o) x ↔ mem o x ∨ ∃ c ∈ l, mem (zoneX c) x)
  | [], o, _ => by simp
  | c :: l, o, h => by
    rw [List.foldl_cons, zoneA_mem_from l _ (v_or h (zoneX_val c)), (or_spec h (zoneX_val c)).2 x]
    simp only [List.mem_cons, exists_eq_or_imp, or_assoc]
theorem zoneA_mem {x : CutL} (l : List CompL) : mem (zoneA l) x ↔ ∃ c ∈ l, mem (zoneX c) x := by
  rw [zoneA, zoneA_mem_from l [] nil_val]
  exact ⟨fun h => h.resolve_left mem_nil, .inr⟩
theorem relA_set {l m : List CompL} (h : ∀ c, c ∈ l ↔ c ∈ m) : relA l = relA m := Val.ext _ _ (relA_val l) (relA_val m) fun x => by
  rw [relA_mem, relA_mem]; simp only [h]
theorem zoneA_set {l m : List CompL} (h : ∀ c, c ∈ l ↔ c ∈ m) : zoneA l = zoneA m := Val.ext _ _ (zoneA_val l) (zoneA_val m) fun x => by
  rw [zoneA_mem, zoneA_mem]; simp only [h]
theorem altS_set {l m : List CompL} (h : ∀ c, c ∈ l ↔ c ∈ m) : altS l = altS m := by unfold altS; rw [relA_set h, zoneA_set h]
theorem orG_mem_from {x : CutL} : ∀ (l : List (List SpanL × List SpanL)) (o : List SpanL × List SpanL), ValS o.1 o.2 → (∀ s ∈ l, ValS s.1 s.2) →
    ((mem (l.foldl (fun o s => orS o.1 o.2 s.1 s.2) o).1 x ↔ mem o.1 x ∨ ∃ s ∈ l, mem s.1 x) ∧ (mem (l.foldl (fun o s => orS o.1 o.2 s.1 s.2) o).2 x ↔ mem o.2 x ∨ ∃ s ∈ l, mem s.2 x))
  | [], _, _, _ => by simp
  | s :: l, o, h, hl => by
    have hs := hl s (by simp)
    have ih := orG_mem_from (x := x) l _ (h.orS hs) (fun y hy => hl y (List.mem_cons_of_mem _ hy))
    rw [List.foldl_cons, ih.1, ih.2, orS_val h hs]
    simp only
    rw [(or_spec h.rel hs.rel).2 x, (or_spec h.pre hs.pre).2 x]
    simp only [List.mem_cons, exists_eq_or_imp, or_assoc, and_self]
theorem orG_mem {x : CutL} {l : List (List SpanL × List SpanL)} (hl : ∀ s ∈ l, ValS s.1 s.2) : (mem (orG l).1 x ↔ ∃ s ∈ l, mem s.1 x) ∧ (mem (orG l).2 x ↔ ∃ s ∈ l, mem s.2 x) := by
  have := orG_mem_from (x := x) l ([], []) ValS.nil hl
  exact ⟨this.1.trans ⟨fun h => h.resolve_left mem_nil, .inr⟩, this.2.trans ⟨fun h => h.resolve_left mem_nil, .inr⟩⟩
theorem orG_set {l m : List (List SpanL × List SpanL)} (hl : ∀ s ∈ l, ValS s.1 s.2) (h : ∀ s, s ∈ l ↔ s ∈ m) : orG l = orG m := by
  have hm : ∀ s ∈ m, ValS s.1 s.2 := fun s hs => hl s ((h s).2 hs)
  have vl := orG_val hl
  have vm := orG_val hm
  refine Prod.ext (Val.ext _ _ vl.rel vm.rel fun x => ?_) (Val.ext _ _ vl.pre vm.pre fun x => ?_)
  · rw [(orG_mem hl).1, (orG_mem hm).1]; simp only [h]
  · rw [(orG_mem hl).2, (orG_mem hm).2]; simp only [h]
theorem orA_set {r t : List (List CompL)} (h : ∀ s, s ∈ r.map altS ↔ s ∈ t.map altS) : orG (r.map altS) = orG (t.map altS) := orG_set (alts_val r) h
theorem orG_append {l m : List (List SpanL × List SpanL)} (hl : ∀ s ∈ l, ValS s.1 s.2) (hm : ∀ s ∈ m, ValS s.1 s.2) : orG (l ++ m) = orS (orG l).1 (orG l).2 (orG m).1 (orG m).2 := by
  have hlm : ∀ s ∈ l ++ m, ValS s.1 s.2 := fun s hs => by
    rcases List.mem_append.1 hs with h | h
    · exact hl s h
    · exact hm s h
  have vl := orG_val hl
  have vm := orG_val hm
  rw [orS_val vl vm]
  refine Prod.ext (Val.ext _ _ (orG_val hlm).rel (v_or vl.rel vm.rel) fun x => ?_) (Val.ext _ _ (orG_val hlm).pre (v_or vl.pre vm.pre) fun x => ?_)
  · rw [(orG_mem hlm).1, (or_spec vl.rel vm.rel).2 x]
    show _ ↔ mem (orG l).1 x ∨ mem (orG m).1 x
    rw [(orG_mem hl).1, (orG_mem hm).1]
    simp only [List.mem_append, or_and_right, exists_or]
  · rw [(orG_mem hlm).2, (or_spec vl.pre vm.pre).2 x]
    show _ ↔ mem (orG l).2 x ∨ mem (orG m).2 x
    rw [(orG_mem hl).2, (orG_mem hm).2]
    simp only [List.mem_append, or_and_right, exists_or]
end Go.Proofs.YtplmlahpmnjneaaGreatDoor
