/- What the reference reads of a text: plain; it is the same. -/
import Derived.Test.YtjceaniffooohaaGreatDoorTb
namespace Go.Proofs.YtjceaniffooohaaGreatDoor
open Go.RowKit Go.Lib
open Rw
set_option linter.unusedVariables false
set_option linter.unusedSimpArgs false

def rcutP (w : List UInt8) (f : Bool) : Option CutL :=
  if !Lib.hasPrefix w [if f then 62 else 60] then none else
  match parseV (Lib.trimPrefix (w.drop 1) [61]) with
  | none => none
  | some v => some ⟨0, v, if Lib.hasPrefix (w.drop 1) [61] then !f else f⟩
theorem rcut_lo {c : CutL} (h : mayC c = true) (h0 : c.en = 0) : rcutP (loT c) true = some c := by
  obtain ⟨hm, -⟩ := cut_mid h h0
  rw [loT, if_pos h0, rcutP]
  have e1 : Lib.hasPrefix (62 :: ((if c.aft then [] else [61]) ++ printV c.v)) [62] = true := rfl
  simp only [if_true, e1, Bool.not_true, Bool.false_eq_true, if_false, List.drop_succ_cons, List.drop_zero]
  obtain ⟨en, v, aft⟩ := c
  simp only at h0 hm
  subst h0
  cases aft
  · have e2 : Lib.hasPrefix ([61] ++ printV v) [61] = true := rfl
    have e3 : Lib.trimPrefix ([61] ++ printV v) [61] = printV v := rfl
    simp only [Bool.false_eq_true, if_false, e2, e3, parseV_print hm, if_true]
  · simp only [if_true, List.nil_append, trim61 hm, pre61 hm, parseV_print hm, Bool.false_eq_true, if_false]
theorem rcut_hi {c : CutL} (h : mayC c = true) (h0 : c.en = 0) : rcutP (hiT c) true = none ∧ rcutP (hiT c) false = some c := by
  obtain ⟨hm, -⟩ := cut_mid h h0
  rw [hiT, if_pos h0]
  refine ⟨rfl, ?_⟩
  rw [rcutP]
  have e1 : Lib.hasPrefix (60 :: ((if c.aft then [61] else []) ++ printV c.v)) [60] = true := rfl
  simp only [Bool.false_eq_true, if_false, e1, Bool.not_true, List.drop_succ_cons, List.drop_zero]
  obtain ⟨en, v, aft⟩ := c
  simp only at h0 hm
  subst h0
  cases aft
  · simp only [Bool.false_eq_true, if_false, List.nil_append, trim61 hm, pre61 hm, parseV_print hm]
  · have e2 : Lib.hasPrefix ([61] ++ printV v) [61] = true := rfl
    have e3 : Lib.trimPrefix ([61] ++ printV v) [61] = printV v := rfl
    simp only [if_true, e2, e3, parseV_print hm, Bool.not_false]
def roneP : List (List UInt8) → Option SpanL
  | [] => none
  | w :: r => if r = [] ∧ w = [42] then some fullS else
    match rcutP w true with
    | some c => match r with
      | [] => some ⟨c, lastC⟩
      | u :: q => match rcutP u false with
        | some d => if q = [] then some ⟨c, d⟩ else none
        | none => none
    | none => match rcutP w false with
      | some d => if r = [] then some ⟨firstC, d⟩ else none
      | none => none
def rrowsW : List (List UInt8) → List (List UInt8) → List SpanL → Option (List SpanL)
  | cur, [], out => if cur = [] then none else match roneP cur with
    | none => none
    | some x => some (out ++ [x])
  | cur, w :: r, out => if w = [111, 114] then (if cur = [] then none else match roneP cur with
    | none => none
    | some x => rrowsW [] r (out ++ [x])) else rrowsW (cur ++ [w]) r out
def rrowP (s : List UInt8) : Option (List SpanL) := if s = [45] then some [] else rrowsW [] (splitL 32 [] s) []
def rpreP (s : List UInt8) : Option (List SpanL) := if s = [] then some [] else rrowP s
def rsetP (s : List UInt8) : Option (List SpanL × List SpanL) :=
  match rrowP (Lib.cut s slB).1 with
  | none => none
  | some l => match rpreP (Lib.cut s slB).2.1 with
    | none => none
    | some m => if s ≠ [] ∧ setT l m = s then some (l, m) else none
theorem rone_back {s : SpanL} (h : lt s.fr s.til) : roneP (spanW s) = some s := by
  obtain ⟨e1, e2⟩ := span_ends h
  unfold spanW
  obtain ⟨f, t⟩ := s
  simp only at e1 e2 ⊢
  by_cases h1 : f.en = 0 <;> by_cases h2 : t.en = 0
  · simp [h1, h2, roneP, rcut_lo h.1 h1, rcut_hi h.2.1 h2]
  · have := e2 h2; subst this
    have h3 : loT f ≠ [42] := by rw [loT, if_pos h1]; intro e; have := congrArg List.head? e; simp at this
    simp [h1, h2, roneP, rcut_lo h.1 h1, h3]
  · have := e1 h1; subst this
    have h3 : hiT t ≠ [42] := by rw [hiT, if_pos h2]; intro e; have := congrArg List.head? e; simp at this
    simp [h1, h2, roneP, rcut_hi h.2.1 h2, h3]
  · have := e1 h1; have k := e2 h2; subst this k
    simp [h1, h2, roneP, fullS]
theorem splitL_join {b : UInt8} : ∀ {ws : List (List UInt8)}, ws ≠ [] → (∀ w ∈ ws, b ∉ w) → splitL b [] (joinS [b] ws) = ws
  | [], h, _ => absurd rfl h
  | [w], _, h => by rw [joinS, splitL_none (h w (by simp))]; rfl
  | w :: u :: r, _, h => by
    have e : joinS [b] (w :: u :: r) = w ++ b :: joinS [b] (u :: r) := by rw [joinS]; simp
    rw [e, splitL_at (h w (by simp)), splitL_join (by simp) (fun x hx => h x (List.mem_cons_of_mem _ hx))]; rfl
theorem joinS_cat (b : UInt8) : ∀ {p q : List (List UInt8)}, p ≠ [] → q ≠ [] → joinS [b] (p ++ q) = joinS [b] p ++ b :: joinS [b] q
  | [], _, h, _ => absurd rfl h
  | [w], [], _, h => absurd rfl h
  | [w], u :: r, _, _ => by simp [joinS]
  | w :: x :: p, q, _, hq => by
    have := joinS_cat b (p := x :: p) (q := q) (by simp) hq
    simp only [List.cons_append, joinS] at this ⊢
    rw [this]; simp
def wordsJ : List SpanL → List (List UInt8)
  | [] => []
  | [s] => spanW s
  | s :: t :: r => spanW s ++ [111, 114] :: wordsJ (t :: r)
theorem wordsJ_ne {l : List SpanL} (h : l ≠ []) : wordsJ l ≠ [] := by
  match l, h with
  | [s], _ => exact spanW_ne s
  | s :: t :: r, _ => simp [wordsJ]
theorem wordsJ_join : ∀ {l : List SpanL}, l ≠ [] → joinS orB (l.map spanT) = joinS [32] (wordsJ l)
  | [], h => absurd rfl h
  | [s], _ => spanT_words s
  | s :: t :: r, _ => by
    have e : joinS orB ((s :: t :: r).map spanT) = spanT s ++ orB ++ joinS orB ((t :: r).map spanT) := rfl
    rw [e, wordsJ_join (l := t :: r) (by simp), wordsJ, joinS_cat 32 (spanW_ne s) (by simp), ← spanT_words]
    cases hw : wordsJ (t :: r) with
    | nil => exact absurd hw (wordsJ_ne (by simp))
    | cons a b => simp [joinS, orB]
theorem wordsJ_mem : ∀ {l : List SpanL} {w : List UInt8}, w ∈ wordsJ l → w = [111, 114] ∨ ∃ s ∈ l, w ∈ spanW s
  | [], _, h => by simp [wordsJ] at h
  | [s], w, h => .inr ⟨s, by simp, h⟩
  | s :: t :: r, w, h => by
    rw [wordsJ, List.mem_append, List.mem_cons] at h
    rcases h with h | h | h
    · exact .inr ⟨s, by simp, h⟩
    · exact .inl h
    · rcases wordsJ_mem h with h | ⟨x, hx, hw⟩
      · exact .inl h
      · exact .inr ⟨x, List.mem_cons_of_mem _ hx, hw⟩
theorem spanW_or {s : SpanL} {w : List UInt8} (hw : w ∈ spanW s) : w ≠ [111, 114] := by
  unfold spanW loT hiT at hw
  intro e
  subst e
  by_cases h1 : s.fr.en = 0 <;> by_cases h2 : s.til.en = 0 <;> simp [h1, h2] at hw
theorem rrowsW_words : ∀ (ws cur rest : List (List UInt8)) (out : List SpanL), (∀ w ∈ ws, w ≠ [111, 114]) → rrowsW cur (ws ++ rest) out = rrowsW (cur ++ ws) rest out
  | [], cur, rest, out, _ => by simp
  | w :: ws, cur, rest, out, h => by
    rw [List.cons_append, rrowsW, if_neg (h w (by simp)), rrowsW_words ws _ _ _ (fun x hx => h x (List.mem_cons_of_mem _ hx))]; simp
theorem rrowsW_back : ∀ {l : List SpanL} (out : List SpanL), l ≠ [] → (∀ s ∈ l, lt s.fr s.til) → rrowsW [] (wordsJ l) out = some (out ++ l)
  | [], _, h, _ => absurd rfl h
  | [s], out, _, h => by
    have := rrowsW_words (spanW s) [] [] out (fun w hw => spanW_or hw)
    rw [List.append_nil] at this
    rw [wordsJ, this, List.nil_append, rrowsW, if_neg (spanW_ne s), rone_back (h s (by simp))]
  | s :: t :: r, out, _, h => by
    rw [wordsJ, rrowsW_words (spanW s) [] _ out (fun w hw => spanW_or hw), List.nil_append, rrowsW, if_pos rfl, if_neg (spanW_ne s), rone_back (h s (by simp))]
    simp only
    rw [rrowsW_back (l := t :: r) _ (by simp) (fun x hx => h x (List.mem_cons_of_mem _ hx))]; simp
theorem rrowP_back {l : List SpanL} (h : ∀ s ∈ l, lt s.fr s.til) : rrowP (rowT l) = some l := by
  by_cases hl : l = []
  · subst hl; rfl
  · rw [rrowP, if_neg (rowT_ne45 h hl), rowT, if_neg (by simpa using hl), wordsJ_join hl, splitL_join (wordsJ_ne hl), rrowsW_back [] hl h]
    · rfl
    · intro w hw k
      rcases wordsJ_mem hw with rfl | ⟨s, hs, hw⟩
      · simp at k
      · exact word_no (b := 32) (by decide) (word_mem (h s hs) hw k)
theorem rowT_ne {l : List SpanL} (h : ∀ s ∈ l, lt s.fr s.til) : rowT l ≠ [] := by
  by_cases hl : l = []
  · subst hl; simp [rowT]
  · obtain ⟨b, r, e, hb⟩ := (joinOr_after h).2 hl
    rw [rowT, if_neg (by simpa using hl), e]; simp
theorem setT_ne {l m : List SpanL} (h : ValS l m) : setT l m ≠ [] := by
  rw [setT, h.ok, if_pos rfl]
  have := rowT_ne h.spans.1
  cases hr : rowT l with
  | nil => exact absurd hr this
  | cons a b => simp
theorem rsetP_back {l m : List SpanL} (h : ValS l m) : rsetP (setT l m) = some (l, m) := by
  obtain ⟨h1, h2⟩ := h.spans
  have hn := setT_ne h
  have e : rrowP (Lib.cut (setT l m) slB).1 = some l ∧ rpreP (Lib.cut (setT l m) slB).2.1 = some m := by
    rw [setT, h.ok, if_pos rfl]
    by_cases hm : m = []
    · subst hm
      rw [List.isEmpty_nil, if_pos rfl, List.append_nil, cut_no (rowT_good h1)]
      exact ⟨rrowP_back h1, rfl⟩
    · rw [if_neg (by simpa using hm), ← List.append_assoc, cut_at (rowT_good h1)]
      exact ⟨rrowP_back h1, by rw [rpreP, if_neg (rowT_ne h2)]; exact rrowP_back h2⟩
  rw [rsetP, e.1]
  simp only [e.2]
  rw [if_pos ⟨hn, trivial⟩]
theorem rsetP_sound {s : List UInt8} {x : List SpanL × List SpanL} (h : rsetP s = some x) : ValS x.1 x.2 ∧ setT x.1 x.2 = s := by
  unfold rsetP at h
  split at h
  · cases h
  · split at h
    · cases h
    · split at h
      · rename_i hc
        injection h with h
        subst h
        refine ⟨?_, hc.2⟩
        have := hc.1
        rw [← hc.2, setT] at this
        split at this
        · rename_i hm; exact mayS_val.1 hm
        · exact absurd rfl this
      · cases h
theorem rsetP_eq (s : List UInt8) : rsetP s = setP s := by
  cases h : rsetP s with
  | some x =>
    obtain ⟨h1, h2⟩ := rsetP_sound h
    rw [← h2, setP_back h1]
  | none =>
    cases k : setP s with
    | none => rfl
    | some x =>
      obtain ⟨h1, h2⟩ := setP_sound k
      rw [← h2, rsetP_back h1] at h
      cases h
/-! ### Sizes -/
theorem printV_len {v : Ver} (h : mayV v = true) : (bts v.pre).length ≤ (printV v).length ∧ (bts v.bld).length ≤ (printV v).length := by
  rw [printV, if_pos h]
  simp only [List.length_append]
  have h1 : (bts v.pre).length ≤ (preT v).length := by
    unfold preT
    split
    · rename_i e; rw [List.isEmpty_iff.1 e]; simp
    · simp
  have h2 : (bts v.bld).length ≤ (bldT v).length := by
    unfold bldT
    split
    · rename_i e; rw [List.isEmpty_iff.1 e]; simp
    · simp
  omega
theorem parseV_fit {l : List UInt8} {v : Ver} (h : parseV l = some v) (hl : l.length ≤ 4398046511104) : v.fit := by
  obtain ⟨h1, h2⟩ := parseV_sound h
  have := printV_len h1
  rw [h2, bts_len, bts_len] at this
  exact ⟨by omega, by omega⟩
end Go.Proofs.YtjceaniffooohaaGreatDoor
