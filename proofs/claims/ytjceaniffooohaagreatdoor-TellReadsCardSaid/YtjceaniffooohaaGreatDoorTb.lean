/- Texts of spans, rows and sets: plain. -/
import Derived.Test.YtjceaniffooohaaGreatDoorTa
import Derived.Test.YtjceaniffooohaaGreatDoorSd
namespace Go.Proofs.YtjceaniffooohaaGreatDoor
open Go.RowKit Go.Lib
open Rw
set_option linter.unusedVariables false
set_option linter.unusedSimpArgs false

/-! ### Parting a text at a text -/
theorem occ_get {s sub : List UInt8} {i k : Nat} (h : Lib.occAt s sub i = true) (hk : k < sub.length) : s[i + k]? = sub[k]? := by
  unfold Lib.occAt at h
  rw [List.isPrefixOf_iff_prefix] at h
  obtain ⟨u, hu⟩ := h
  rw [← List.getElem?_drop, ← hu, List.getElem?_append_left hk]
/-- a piece in which sep can't begin -/
def Good (sep p : List UInt8) : Prop := (∀ r j, j < p.length → Lib.occAt (p ++ sep ++ r) sep j = false) ∧ ∀ j, j ≤ p.length → Lib.occAt p sep j = false
theorem good_one {a : UInt8} {p : List UInt8} (h : a ∉ p) : Good [a] p := by
  refine ⟨fun r j hj => ?_, fun j hj => ?_⟩
  · rw [Bool.eq_false_iff]; intro ho
    have := occ_get (k := 0) ho (by simp)
    rw [Nat.add_zero, List.append_assoc, List.getElem?_append_left hj] at this
    exact h (List.mem_of_getElem? (by simpa using this))
  · rw [Bool.eq_false_iff]; intro ho
    have := occ_get (k := 0) ho (by simp)
    rw [Nat.add_zero] at this
    exact h (List.mem_of_getElem? (by simpa using this))
/-- behind a never comes b -/
def NoPair (a b : UInt8) (p : List UInt8) : Prop := ∀ j : Nat, p[j]? = some a → p[j + 1]? ≠ some b
theorem good_two {a b : UInt8} {t p : List UInt8} (hab : a ≠ b) (h : NoPair a b p) : Good (a :: b :: t) p := by
  refine ⟨fun r j hj => ?_, fun j hj => ?_⟩
  · rw [Bool.eq_false_iff]; intro ho
    have h0 := occ_get (k := 0) ho (by simp)
    have h1 := occ_get (k := 1) ho (by simp)
    rw [Nat.add_zero, List.append_assoc, List.getElem?_append_left hj] at h0
    by_cases h2 : j + 1 < p.length
    · rw [List.append_assoc, List.getElem?_append_left h2] at h1
      exact h j (by simpa using h0) (by simpa using h1)
    · rw [List.append_assoc, List.getElem?_append_right (by omega)] at h1
      have : j + 1 - p.length = 0 := by omega
      rw [this] at h1
      simp at h1
      exact hab h1
  · rw [Bool.eq_false_iff]; intro ho
    have h0 := occ_get (k := 0) ho (by simp)
    have h1 := occ_get (k := 1) ho (by simp)
    rw [Nat.add_zero] at h0
    exact h j (by simpa using h0) (by simpa using h1)
theorem occ_at (p sep r : List UInt8) : Lib.occAt (p ++ sep ++ r) sep p.length = true := by
  unfold Lib.occAt
  rw [List.isPrefixOf_iff_prefix, List.append_assoc, List.drop_left]
  exact ⟨r, rfl⟩
theorem index_at {sep p : List UInt8} (h : Good sep p) (r : List UInt8) : Lib.index (p ++ sep ++ r) sep = p.length :=
  Lib.index_first (by simp only [List.length_append]; omega) (occ_at p sep r) (fun j hj => h.1 r j hj)
theorem index_no {sep p : List UInt8} (h : Good sep p) : Lib.index p sep = -1 := Lib.index_none h.2
def joinS (sep : List UInt8) : List (List UInt8) → List UInt8
  | [] => []
  | [p] => p
  | p :: q :: r => p ++ sep ++ joinS sep (q :: r)
theorem drop_mid (p sep r : List UInt8) : (p ++ sep ++ r).drop (p.length + sep.length) = r := by
  rw [← List.length_append, List.drop_left]
theorem count_join {sep : List UInt8} (hs : sep ≠ []) : ∀ (ps : List (List UInt8)), ps ≠ [] → (∀ p ∈ ps, Good sep p) → ∀ fuel, ps.length ≤ fuel → Lib.countFrom sep fuel (joinS sep ps) = ps.length - 1
  | [], h, _, _, _ => absurd rfl h
  | [p], _, hg, fuel + 1, _ => by
    rw [joinS, Lib.countFrom, index_no (hg p (by simp))]; rfl
  | p :: q :: r, _, hg, fuel + 1, hf => by
    have hi : Lib.index (p ++ sep ++ joinS sep (q :: r)) sep = p.length := index_at (hg p (by simp)) _
    rw [joinS, Lib.countFrom, hi]
    have : ((p.length : Int) == -1) = false := by simp
    rw [this, Int.toNat_natCast, drop_mid, count_join hs (q :: r) (by simp) (fun x hx => hg x (List.mem_cons_of_mem _ hx)) fuel (by simpa using hf)]
    simp only [List.length_cons, Bool.false_eq_true, if_false]; omega
theorem splitK_join {sep : List UInt8} : ∀ (ps : List (List UInt8)), ps ≠ [] → (∀ p ∈ ps, Good sep p) → Lib.splitK sep 0 (ps.length - 1) (joinS sep ps) = ps
  | [], h, _ => absurd rfl h
  | [p], _, _ => rfl
  | p :: q :: r, _, hg => by
    have hi : Lib.index (p ++ sep ++ joinS sep (q :: r)) sep = p.length := index_at (hg p (by simp)) _
    have e : (p :: q :: r).length - 1 = ((q :: r).length - 1) + 1 := by simp
    rw [e, joinS, Lib.splitK, hi]
    have : ((p.length : Int) == -1) = false := by simp
    rw [this, Int.toNat_natCast, drop_mid, Nat.add_zero, splitK_join (q :: r) (by simp) (fun x hx => hg x (List.mem_cons_of_mem _ hx))]
    simp only [Bool.false_eq_true, if_false, List.append_assoc, List.take_left]
theorem joinS_len {sep : List UInt8} (hs : sep ≠ []) : ∀ (ps : List (List UInt8)), ps.length ≤ (joinS sep ps).length + 1
  | [] => by simp
  | [p] => by simp
  | p :: q :: r => by
    have := joinS_len hs (q :: r)
    have h0 : 0 < sep.length := List.length_pos_iff.2 hs
    simp only [joinS, List.length_append, List.length_cons] at this ⊢
    omega
theorem split_join {sep : List UInt8} (hs : sep ≠ []) {ps : List (List UInt8)} (hp : ps ≠ []) (hg : ∀ p ∈ ps, Good sep p) : Lib.split (joinS sep ps) sep = ps := by
  unfold Lib.split Lib.count
  rw [count_join hs ps hp hg _ (joinS_len hs ps), splitK_join ps hp hg]
theorem cut_at {sep p : List UInt8} (h : Good sep p) (r : List UInt8) : Lib.cut (p ++ sep ++ r) sep = (p, r, true) := by
  unfold Lib.cut
  rw [index_at h, if_pos (by omega), Int.toNat_natCast, drop_mid, List.append_assoc, List.take_left]
theorem cut_no {sep p : List UInt8} (h : Good sep p) : Lib.cut p sep = (p, [], false) := by
  unfold Lib.cut
  rw [index_no h, if_neg (by omega)]
/-! ### The texts -/
def loT (c : CutL) : List UInt8 := if c.en = 0 then 62 :: ((if c.aft then [] else [61]) ++ printV c.v) else []
def hiT (c : CutL) : List UInt8 := if c.en = 0 then 60 :: ((if c.aft then [61] else []) ++ printV c.v) else []
def spanT (s : SpanL) : List UInt8 := if s.fr.en ≠ 0 ∧ s.til.en ≠ 0 then [42] else loT s.fr ++ ((if s.fr.en = 0 ∧ s.til.en = 0 then [32] else []) ++ hiT s.til)
def orB : List UInt8 := [32, 111, 114, 32]
def slB : List UInt8 := [32, 47, 32]
def rowT (l : List SpanL) : List UInt8 := if l.isEmpty then [45] else joinS orB (l.map spanT)
def setT (l m : List SpanL) : List UInt8 := if mayS l m then rowT l ++ (if m.isEmpty then [] else slB ++ rowT m) else []
/-! ### What tell.Parse reads -/
def fullS : SpanL := ⟨firstC, lastC⟩
def wordP (a : SpanL) (w : List UInt8) : Option SpanL :=
  if w = [42] then some a else
  if !Lib.hasPrefix w [62] && !Lib.hasPrefix w [60] then none else
  match parseV (Lib.trimPrefix (w.drop 1) [61]) with
  | none => none
  | some v => some (if Lib.hasPrefix w [62] then ⟨⟨0, v, !Lib.hasPrefix (w.drop 1) [61]⟩, a.til⟩ else ⟨a.fr, ⟨0, v, Lib.hasPrefix (w.drop 1) [61]⟩⟩)
def wordsP (a : SpanL) : List (List UInt8) → Option SpanL
  | [] => some a
  | w :: r => match wordP a w with
    | none => none
    | some b => wordsP b r
def spanP (x : List UInt8) : Option SpanL := wordsP fullS (Lib.split x [32])
def spansP : List (List UInt8) → Option (List SpanL)
  | [] => some []
  | x :: r => match spanP x with
    | none => none
    | some s => match spansP r with
      | none => none
      | some l => some (s :: l)
def rowP (s : List UInt8) : Option (List SpanL) := if s = [45] then some [] else spansP (Lib.split s orB)
/-- the two rows that a text tells, before they are looked at -/
def rawP (s : List UInt8) : Option (List SpanL × List SpanL) :=
  match rowP (Lib.cut s slB).1 with
  | none => none
  | some l => if (Lib.cut s slB).2.2 then (match rowP (Lib.cut s slB).2.1 with | none => none | some m => some (l, m)) else some (l, [])
def setP (s : List UInt8) : Option (List SpanL × List SpanL) :=
  match rawP s with
  | none => none
  | some x => if mayS x.1 x.2 && decide (setT x.1 x.2 = s) then some x else none
/-! ### A printed text is read back -/
theorem eqVer_eq {a b : Ver} (h : eqVer a b = true) : a = b := by
  simp only [eqVer, Bool.and_eq_true, beq_iff_eq] at h
  exact ver_ext h.1.1.1.1 h.1.1.1.2 h.1.1.2 h.1.2 h.2
theorem cut_end {c : CutL} (h : mayC c = true) (h0 : c.en ≠ 0) : c = firstC ∨ c = lastC := by
  rw [mayC, if_neg h0] at h
  simp only [Bool.and_eq_true, Bool.or_eq_true, decide_eq_true_eq, Bool.not_eq_true'] at h
  obtain ⟨⟨h1, h2⟩, h3⟩ := h
  obtain ⟨e, v, a⟩ := c
  simp only at h1 h2 h3
  have := eqVer_eq h2
  subst this h3
  rcases h1 with h1 | h1
  · subst h1; exact .inl rfl
  · subst h1; exact .inr rfl
theorem cut_mid {c : CutL} (h : mayC c = true) (h0 : c.en = 0) : mayV c.v = true ∧ bts c.v.bld = [] := by
  rw [mayC_zero h0, Bool.and_eq_true] at h
  exact ⟨h.1, List.isEmpty_iff.1 h.2⟩
theorem span_ends {s : SpanL} (h : lt s.fr s.til) : (s.fr.en ≠ 0 → s.fr = firstC) ∧ (s.til.en ≠ 0 → s.til = lastC) := by
  obtain ⟨h1, h2, h3⟩ := h
  rw [cmpC_of h1 h2] at h3
  refine ⟨fun h0 => ?_, fun h0 => ?_⟩
  · rcases cut_end h1 h0 with e | e
    · exact e
    · rw [e] at h3
      rw [if_pos (.inl (by decide))] at h3
      by_cases h4 : s.til.en = 0
      · rw [h4] at h3; exact absurd h3 (by decide)
      · rcases cut_end h2 h4 with e2 | e2 <;> rw [e2] at h3 <;> exact absurd h3 (by decide)
  · rcases cut_end h2 h0 with e | e
    · rw [e] at h3
      rw [if_pos (.inr (by decide))] at h3
      by_cases h4 : s.fr.en = 0
      · rw [h4] at h3; exact absurd h3 (by decide)
      · rcases cut_end h1 h4 with e2 | e2 <;> rw [e2] at h3 <;> exact absurd h3 (by decide)
    · exact e
/-- the bytes of a version's text -/
def verCh (b : UInt8) : Prop := b.toNat = 43 ∨ b.toNat = 45 ∨ b.toNat = 46 ∨ tagCh b = true ∨ isDig b = true
theorem print_mem {v : Ver} (h : mayV v = true) {b : UInt8} (hb : b ∈ printV v) : verCh b := by
  obtain ⟨-, -, -, hp, hd⟩ := mayV_parts h
  have hn : ∀ n : Int, b ∈ numT n → verCh b := fun n k => .inr (.inr (.inr (.inr (List.all_eq_true.1 (dec_dig n.toNat) b k))))
  have ht : (b.toNat = 46 ∨ tagCh b = true) → verCh b := fun k => k.elim (fun k => .inr (.inr (.inl k))) (fun k => .inr (.inr (.inr (.inl k))))
  rw [printV, if_pos h] at hb
  simp only [numsT, List.mem_append, List.mem_cons] at hb
  rcases hb with (k | k | k | k | k) | k | k
  · exact hn _ k
  · subst k; exact .inr (.inr (.inl rfl))
  · exact hn _ k
  · subst k; exact .inr (.inr (.inl rfl))
  · exact hn _ k
  · unfold preT at k
    split at k
    · cases k
    · rcases List.mem_cons.1 k with k | k
      · subst k; exact .inr (.inl rfl)
      · exact ht (pre_mem hp k)
  · unfold bldT at k
    split at k
    · cases k
    · rcases List.mem_cons.1 k with k | k
      · subst k; exact .inl rfl
      · exact ht (bld_mem hd k)
theorem ver_not {b : UInt8} (h : b.toNat = 32 ∨ b.toNat = 42 ∨ b.toNat = 47 ∨ b.toNat = 60 ∨ b.toNat = 61 ∨ b.toNat = 62) : ¬ verCh b := by
  simp only [verCh, tagCh, isDig, decide_eq_true_eq]; omega
theorem print_no {v : Ver} (h : mayV v = true) {b : UInt8} (hb : b.toNat = 32 ∨ b.toNat = 42 ∨ b.toNat = 47 ∨ b.toNat = 60 ∨ b.toNat = 61 ∨ b.toNat = 62) : b ∉ printV v := fun k => ver_not hb (print_mem h k)
theorem print_ne {v : Ver} (h : mayV v = true) : printV v ≠ [] := by
  rw [printV, if_pos h, numsT, numT]
  have := dec_ne v.maj.toNat
  cases hd : decDigits v.maj.toNat with
  | nil => exact absurd hd this
  | cons c r => simp
theorem pre61 {v : Ver} (h : mayV v = true) : Lib.hasPrefix (printV v) [61] = false := by
  have h1 := print_no h (b := 61) (by decide)
  cases hd : printV v with
  | nil => rfl
  | cons c r =>
    rw [hd] at h1
    have : ((61 : UInt8) == c) = false := by
      rw [beq_eq_false_iff_ne]
      exact fun e => h1 (by rw [e]; simp)
    simp [Lib.hasPrefix, List.isPrefixOf, this]
theorem trim61 {v : Ver} (h : mayV v = true) : Lib.trimPrefix (printV v) [61] = printV v := by rw [Lib.trimPrefix, pre61 h]; rfl
theorem word_lo {a : SpanL} {c : CutL} (h : mayC c = true) (h0 : c.en = 0) : wordP a (loT c) = some ⟨c, a.til⟩ := by
  obtain ⟨hm, -⟩ := cut_mid h h0
  rw [loT, if_pos h0, wordP, if_neg (by intro e; have := congrArg List.head? e; simp at this)]
  have e1 : Lib.hasPrefix (62 :: ((if c.aft then [] else [61]) ++ printV c.v)) [62] = true := rfl
  rw [e1]
  simp only [Bool.not_true, Bool.false_and, Bool.false_eq_true, if_false, if_true, List.drop_succ_cons, List.drop_zero]
  obtain ⟨en, v, aft⟩ := c
  simp only at h0 hm
  subst h0
  cases aft
  · have e2 : Lib.hasPrefix ([61] ++ printV v) [61] = true := rfl
    have e3 : Lib.trimPrefix ([61] ++ printV v) [61] = printV v := rfl
    simp only [Bool.false_eq_true, if_false, e2, e3, parseV_print hm, Bool.not_true]
  · simp only [if_true, List.nil_append, trim61 hm, pre61 hm, parseV_print hm, Bool.not_false]
theorem word_hi {a : SpanL} {c : CutL} (h : mayC c = true) (h0 : c.en = 0) : wordP a (hiT c) = some ⟨a.fr, c⟩ := by
  obtain ⟨hm, -⟩ := cut_mid h h0
  rw [hiT, if_pos h0, wordP, if_neg (by intro e; have := congrArg List.head? e; simp at this)]
  have e1 : Lib.hasPrefix (60 :: ((if c.aft then [61] else []) ++ printV c.v)) [60] = true := rfl
  have e0 : Lib.hasPrefix (60 :: ((if c.aft then [61] else []) ++ printV c.v)) [62] = false := rfl
  rw [e1, e0]
  simp only [Bool.not_true, Bool.and_false, Bool.false_eq_true, if_false, List.drop_succ_cons, List.drop_zero]
  obtain ⟨en, v, aft⟩ := c
  simp only at h0 hm
  subst h0
  cases aft
  · simp only [Bool.false_eq_true, if_false, List.nil_append, trim61 hm, pre61 hm, parseV_print hm]
  · have e2 : Lib.hasPrefix ([61] ++ printV v) [61] = true := rfl
    have e3 : Lib.trimPrefix ([61] ++ printV v) [61] = printV v := rfl
    simp only [if_true, e2, e3, parseV_print hm]
/-- the words of a span's text -/
def spanW (s : SpanL) : List (List UInt8) := if s.fr.en ≠ 0 ∧ s.til.en ≠ 0 then [[42]] else (if s.fr.en = 0 then [loT s.fr] else []) ++ (if s.til.en = 0 then [hiT s.til] else [])
theorem spanW_ne (s : SpanL) : spanW s ≠ [] := by
  unfold spanW
  by_cases h1 : s.fr.en = 0 <;> by_cases h2 : s.til.en = 0 <;> simp [h1, h2]
theorem spanT_words (s : SpanL) : spanT s = joinS [32] (spanW s) := by
  unfold spanT spanW
  by_cases h1 : s.fr.en = 0 <;> by_cases h2 : s.til.en = 0 <;> simp [h1, h2, joinS, loT, hiT]
/-- the bytes of a word -/
def wordCh (b : UInt8) : Prop := b.toNat = 42 ∨ b.toNat = 60 ∨ b.toNat = 61 ∨ b.toNat = 62 ∨ verCh b
theorem lo_mem {c : CutL} (h : mayC c = true) {b : UInt8} (hb : b ∈ loT c) : wordCh b := by
  unfold loT at hb
  split at hb
  · rename_i h0
    obtain ⟨hm, -⟩ := cut_mid h h0
    rcases List.mem_cons.1 hb with k | k
    · subst k; exact .inr (.inr (.inr (.inl rfl)))
    · rcases List.mem_append.1 k with k | k
      · split at k
        · cases k
        · simp at k; subst k; exact .inr (.inr (.inl rfl))
      · exact .inr (.inr (.inr (.inr (print_mem hm k))))
  · cases hb
theorem hi_mem {c : CutL} (h : mayC c = true) {b : UInt8} (hb : b ∈ hiT c) : wordCh b := by
  unfold hiT at hb
  split at hb
  · rename_i h0
    obtain ⟨hm, -⟩ := cut_mid h h0
    rcases List.mem_cons.1 hb with k | k
    · subst k; exact .inr (.inl rfl)
    · rcases List.mem_append.1 k with k | k
      · split at k
        · simp at k; subst k; exact .inr (.inr (.inl rfl))
        · cases k
      · exact .inr (.inr (.inr (.inr (print_mem hm k))))
  · cases hb
theorem word_mem {s : SpanL} (h : lt s.fr s.til) {w : List UInt8} (hw : w ∈ spanW s) {b : UInt8} (hb : b ∈ w) : wordCh b := by
  unfold spanW at hw
  split at hw
  · simp at hw; subst hw; simp at hb; subst hb; exact .inl rfl
  · rcases List.mem_append.1 hw with k | k
    · split at k
      · simp at k; subst k; exact lo_mem h.1 hb
      · cases k
    · split at k
      · simp at k; subst k; exact hi_mem h.2.1 hb
      · cases k
theorem word_no {b : UInt8} (h : b.toNat = 32 ∨ b.toNat = 47) : ¬ wordCh b := by
  rintro (k | k | k | k | k)
  · omega
  · omega
  · omega
  · omega
  · exact ver_not (by omega) k
theorem spanP_back {s : SpanL} (h : lt s.fr s.til) : spanP (spanT s) = some s := by
  have hs : Lib.split (spanT s) [32] = spanW s := by
    rw [spanT_words]
    exact split_join (by simp) (spanW_ne s) (fun p hp => good_one (fun k => word_no (b := 32) (by decide) (word_mem h hp k)))
  rw [spanP, hs]
  obtain ⟨e1, e2⟩ := span_ends h
  unfold spanW
  obtain ⟨f, t⟩ := s
  simp only at e1 e2 ⊢
  by_cases h1 : f.en = 0 <;> by_cases h2 : t.en = 0
  · simp [h1, h2, wordsP, word_lo h.1 h1, word_hi h.2.1 h2]
  · have := e2 h2; subst this
    simp [h1, h2, wordsP, word_lo h.1 h1, fullS]
  · have := e1 h1; subst this
    simp [h1, h2, wordsP, word_hi h.2.1 h2, fullS]
  · have := e1 h1; have k := e2 h2; subst this k
    simp [h1, h2, wordsP, wordP, fullS]
theorem spansP_back : ∀ {l : List SpanL}, (∀ s ∈ l, lt s.fr s.til) → spansP (l.map spanT) = some l
  | [], _ => rfl
  | s :: l, h => by
    rw [List.map_cons, spansP, spanP_back (h s (by simp))]
    simp only [spansP_back (fun x hx => h x (List.mem_cons_of_mem _ hx))]
/-- behind a blank stands one of these -/
def After32 (q : UInt8 → Prop) (p : List UInt8) : Prop := ∀ j : Nat, p[j]? = some 32 → ∃ b, p[j + 1]? = some b ∧ q b
theorem After32.pair {q : UInt8 → Prop} {p : List UInt8} (h : After32 q p) {b : UInt8} (hb : ¬ q b) : NoPair 32 b p := fun j hj k => by
  obtain ⟨c, hc, hq⟩ := h j hj
  rw [hc] at k
  injection k with k
  exact hb (k ▸ hq)
theorem After32.append {q : UInt8 → Prop} {p r : List UInt8} (h : After32 q p) (k : After32 q r) : After32 q (p ++ r) := fun j hj => by
  by_cases hlt : j < p.length
  · rw [List.getElem?_append_left hlt] at hj
    obtain ⟨b, hb, hq⟩ := h j hj
    have : j + 1 < p.length := by
      rcases Nat.lt_or_ge (j + 1) p.length with h1 | h1
      · exact h1
      · rw [List.getElem?_eq_none h1] at hb; cases hb
    exact ⟨b, by rw [List.getElem?_append_left this]; exact hb, hq⟩
  · rw [List.getElem?_append_right (by omega)] at hj
    obtain ⟨b, hb, hq⟩ := k _ hj
    refine ⟨b, ?_, hq⟩
    rw [List.getElem?_append_right (by omega)]
    rw [← hb]; congr 1; omega
theorem After32.none {q : UInt8 → Prop} {p : List UInt8} (h : 32 ∉ p) : After32 q p := fun j hj => absurd (List.mem_of_getElem? hj) h
theorem After32.mid {q : UInt8 → Prop} {b : UInt8} {r : List UInt8} (hb : q b) (hr : After32 q (b :: r)) : After32 q (32 :: b :: r) := fun j hj => by
  cases j with
  | zero => exact ⟨b, rfl, hb⟩
  | succ j => exact hr j hj
theorem After32.mono {q q' : UInt8 → Prop} {p : List UInt8} (h : After32 q p) (hq : ∀ b, q b → q' b) : After32 q' p := fun j hj => let ⟨b, h1, h2⟩ := h j hj; ⟨b, h1, hq b h2⟩
theorem spanT_after {s : SpanL} (h : lt s.fr s.til) : After32 (fun b => b = 60) (spanT s) := by
  have h1 : (32 : UInt8) ∉ loT s.fr := fun k => word_no (b := 32) (by decide) (lo_mem h.1 k)
  have h2 : (32 : UInt8) ∉ hiT s.til := fun k => word_no (b := 32) (by decide) (hi_mem h.2.1 k)
  unfold spanT
  split
  · exact .none (by simp)
  · refine (After32.none h1).append ?_
    split
    · rename_i h0
      have h3 := h2
      unfold hiT at h3 ⊢
      rw [if_pos h0.2] at h3 ⊢
      exact .mid rfl (.none h3)
    · exact .none h2
theorem spanT_head (s : SpanL) : ∃ b r, spanT s = b :: r ∧ (b.toNat = 42 ∨ b.toNat = 60 ∨ b.toNat = 62) := by
  unfold spanT
  by_cases h1 : s.fr.en = 0 <;> by_cases h2 : s.til.en = 0 <;> simp [h1, h2, loT, hiT]
/-- what may stand behind a blank in a row's text -/
def rowCh (b : UInt8) : Prop := b.toNat = 42 ∨ b.toNat = 60 ∨ b.toNat = 62 ∨ b.toNat = 111
theorem joinOr_after : ∀ {l : List SpanL}, (∀ s ∈ l, lt s.fr s.til) → After32 rowCh (joinS orB (l.map spanT)) ∧ (l ≠ [] → ∃ b r, joinS orB (l.map spanT) = b :: r ∧ (b.toNat = 42 ∨ b.toNat = 60 ∨ b.toNat = 62))
  | [], _ => ⟨.none (by simp [joinS]), fun h => absurd rfl h⟩
  | [s], h => ⟨(spanT_after (h s (by simp))).mono (fun b hb => by subst hb; exact .inr (.inl rfl)), fun _ => spanT_head s⟩
  | s :: t :: l, h => by
    obtain ⟨h1, h2⟩ := joinOr_after (l := t :: l) (fun x hx => h x (List.mem_cons_of_mem _ hx))
    obtain ⟨b, r, e, hb⟩ := h2 (by simp)
    obtain ⟨b0, r0, e0, hb0⟩ := spanT_head s
    have hs := (spanT_after (h s (by simp))).mono (q' := rowCh) (fun b hb => by subst hb; exact .inr (.inl rfl))
    have hj : joinS orB ((s :: t :: l).map spanT) = spanT s ++ orB ++ joinS orB ((t :: l).map spanT) := rfl
    refine ⟨?_, fun _ => ⟨b0, r0 ++ orB ++ joinS orB ((t :: l).map spanT), by rw [hj, e0]; rfl, hb0⟩⟩
    rw [hj, List.append_assoc]
    refine hs.append ?_
    rw [e, orB]
    rw [e] at h1
    refine .mid (.inr (.inr (.inr rfl))) ?_
    refine (After32.none (p := [111, 114]) (by simp)).append (r := 32 :: b :: r) ?_
    exact .mid (by rcases hb with k | k | k; exact .inl k; exact .inr (.inl k); exact .inr (.inr (.inl k))) h1
theorem rowT_ne45 {l : List SpanL} (h : ∀ s ∈ l, lt s.fr s.til) (hl : l ≠ []) : rowT l ≠ [45] := by
  obtain ⟨b, r, e, hb⟩ := (joinOr_after h).2 hl
  rw [rowT, if_neg (by simpa using hl), e]
  intro k
  injection k with k
  subst k
  simp at hb
theorem rowP_back {l : List SpanL} (h : ∀ s ∈ l, lt s.fr s.til) : rowP (rowT l) = some l := by
  by_cases hl : l = []
  · subst hl; rfl
  · rw [rowP, if_neg (rowT_ne45 h hl), rowT, if_neg (by simpa using hl)]
    rw [split_join (by simp [orB]) (by simpa using hl) (fun p hp => ?_), spansP_back h]
    obtain ⟨s, hs, rfl⟩ := List.mem_map.1 hp
    exact good_two (by decide) ((spanT_after (h s hs)).pair (by decide))
theorem rowT_good {l : List SpanL} (h : ∀ s ∈ l, lt s.fr s.til) : Good slB (rowT l) := by
  refine good_two (by decide) (After32.pair (q := rowCh) ?_ (by simp [rowCh]))
  unfold rowT
  split
  · exact .none (by simp)
  · exact (joinOr_after h).1
theorem ValS.spans {l m : List SpanL} (h : ValS l m) : (∀ s ∈ l, lt s.fr s.til) ∧ ∀ s ∈ m, lt s.fr s.til := ⟨fun s hs => h.rel.span s hs, fun s hs => h.pre.span s hs⟩
theorem rawP_back {l m : List SpanL} (h : ValS l m) : rawP (setT l m) = some (l, m) := by
  obtain ⟨h1, h2⟩ := h.spans
  rw [setT, h.ok, if_pos rfl, rawP]
  by_cases hm : m = []
  · subst hm
    rw [List.isEmpty_nil, if_pos rfl, List.append_nil, cut_no (rowT_good h1), rowP_back h1]; rfl
  · rw [if_neg (by simpa using hm), ← List.append_assoc, cut_at (rowT_good h1), rowP_back h1]
    simp only [if_true, rowP_back h2]
theorem setP_back {l m : List SpanL} (h : ValS l m) : setP (setT l m) = some (l, m) := by
  rw [setP, rawP_back h]
  simp [h.ok]
theorem setP_sound {s : List UInt8} {x : List SpanL × List SpanL} (h : setP s = some x) : ValS x.1 x.2 ∧ setT x.1 x.2 = s := by
  unfold setP at h
  split at h
  · cases h
  · split at h
    · rename_i hc
      injection h with h
      subst h
      simp only [Bool.and_eq_true, decide_eq_true_eq] at hc
      exact ⟨mayS_val.1 hc.1, hc.2⟩
    · cases h
theorem setP_iff {s : List UInt8} {l m : List SpanL} : setP s = some (l, m) ↔ ValS l m ∧ setT l m = s :=
  ⟨fun h => setP_sound h, fun ⟨h1, h2⟩ => by rw [← h2]; exact setP_back h1⟩
theorem setT_inj {l m p q : List SpanL} (h : ValS l m) (k : ValS p q) (e : setT l m = setT p q) : l = p ∧ m = q := by
  have h1 := setP_back h
  rw [e, setP_back k] at h1
  injection h1 with h1
  injection h1 with h2 h3
  exact ⟨h2.symm, h3.symm⟩
end Go.Proofs.YtjceaniffooohaaGreatDoor
