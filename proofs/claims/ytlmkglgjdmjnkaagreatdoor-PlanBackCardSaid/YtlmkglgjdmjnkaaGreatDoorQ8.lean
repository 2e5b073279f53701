/- Parts 8 of the proofs. -/
import Derived.Test.YtlmkglgjdmjnkaaGreatDoorQ7
import Derived.Laws.IdiomCopy
namespace Go.Proofs.YtlmkglgjdmjnkaaGreatDoor
open Go.RowKit Go.Lib
set_option linter.unusedVariables false
set_option linter.unusedSimpArgs false
def bothIn (a b : List SpanL) (f t : CutL) : Bool := inR a f t && inR b f t
def randL (a b : List SpanL) : List SpanL := if mayR a && mayR b then growAll (cutsL (a ++ b)) (bothIn a b) else []
def rorL (a b : List SpanL) : List SpanL := if mayR a && mayR b then (rmakeL (a ++ b)).1 else []
theorem mayC_cases {c : CutL} (h : mayC c = true) : (c.en = 0 ∧ mayV c.v = true ∧ bts c.v.bld = []) ∨ ((c.en = -1 ∨ c.en = 1) ∧ c.v = zeroV ∧ c.aft = false) := by
  unfold mayC at h
  split at h
  · rename_i h0
    rw [Bool.and_eq_true, List.isEmpty_iff] at h
    exact .inl ⟨h0, h.1, h.2⟩
  · simp only [Bool.and_eq_true, Bool.or_eq_true, decide_eq_true_eq, eqVer_iff, Bool.not_eq_true'] at h
    exact .inr ⟨h.1.1, h.1.2, h.2⟩
theorem ver_ext {a b : Ver} (h1 : a.maj = b.maj) (h2 : a.min = b.min) (h3 : a.pat = b.pat) (h4 : bts a.pre = bts b.pre) (h5 : bts a.bld = bts b.bld) : a = b := by
  have k4 := bts_inj h4
  have k5 := bts_inj h5
  clear h4 h5
  cases a; cases b
  simp only at h1 h2 h3 k4 k5
  subst h1; subst h2; subst h3; subst k4; subst k5; rfl
theorem bts_e : bts ⟨#[]⟩ = [] := by rw [bts, bts_data]
theorem cut_ext {a b : CutL} (h1 : a.en = b.en) (h2 : a.v = b.v) (h3 : a.aft = b.aft) : a = b := by
  cases a; cases b; simp only at h1 h2 h3; subst h1; subst h2; subst h3; rfl
theorem cmpV_self {a : Ver} (h : mayV a = true) : cmpV a a = 0 := (cmpV_zero h h).2 ⟨rfl, rfl, rfl, rfl⟩
theorem cmpV_zero' {a b : Ver} (ha : mayV a = true) (hb : mayV b = true) : cmpV a b = 0 ↔ cmpV b a = 0 := by
  rw [cmpV_zero ha hb, cmpV_zero hb ha]
  constructor <;> (rintro ⟨h1, h2, h3, h4⟩; exact ⟨h1.symm, h2.symm, h3.symm, h4.symm⟩)
theorem cmpC_ne {a b : CutL} (h1 : mayC a = true) (h2 : mayC b = true) (h : a.en ≠ 0 ∨ b.en ≠ 0) : cmpC a b = cmpI a.en b.en := by rw [cmpC_of h1 h2, if_pos h]
def cmpA (a b : CutL) : Int := if cmpV a.v b.v ≠ 0 then cmpV a.v b.v else if a.aft = b.aft then 0 else if b.aft then -1 else 1
theorem cmpC_in {a b : CutL} (h1 : mayC a = true) (h2 : mayC b = true) (ha : a.en = 0) (hb : b.en = 0) : cmpC a b = cmpA a b := by rw [cmpC_of h1 h2, if_neg (by omega)]; rfl
theorem cmpA_lt {a b : CutL} : cmpA a b < 0 ↔ cmpV a.v b.v < 0 ∨ (cmpV a.v b.v = 0 ∧ a.aft = false ∧ b.aft = true) := by
  unfold cmpA
  split
  · constructor
    · exact .inl
    · rintro (h | h)
      · exact h
      · omega
  · rename_i h
    have h0 : cmpV a.v b.v = 0 := by omega
    rw [h0]
    cases a.aft <;> cases b.aft <;> simp
theorem cmpA_gt {a b : CutL} : 0 < cmpA a b ↔ 0 < cmpV a.v b.v ∨ (cmpV a.v b.v = 0 ∧ a.aft = true ∧ b.aft = false) := by
  unfold cmpA
  split
  · constructor
    · exact .inl
    · rintro (h | h)
      · exact h
      · omega
  · rename_i h
    have h0 : cmpV a.v b.v = 0 := by omega
    rw [h0]
    cases a.aft <;> cases b.aft <;> simp
theorem cmpA_zero {a b : CutL} : cmpA a b = 0 ↔ cmpV a.v b.v = 0 ∧ a.aft = b.aft := by
  unfold cmpA
  split
  · constructor
    · intro h; omega
    · rintro ⟨h, _⟩; omega
  · rename_i h
    have h0 : cmpV a.v b.v = 0 := by omega
    rw [h0]
    cases a.aft <;> cases b.aft <;> simp
theorem cmpC_self (a : CutL) (h : mayC a = true) : cmpC a a = 0 := by
  rcases mayC_cases h with ⟨h0, h1, h2⟩ | ⟨h0, h1, h2⟩
  · rw [cmpC_in h h h0 h0, cmpA_zero]; exact ⟨cmpV_self h1, rfl⟩
  · rw [cmpC_ne h h (by omega)]; exact cmpI_self _
theorem cmpC_eq (a b : CutL) (h : mayC a = true) (k : mayC b = true) (e : cmpC a b = 0) : a = b := by
  rcases mayC_cases h with ⟨h0, h1, h2⟩ | ⟨h0, h1, h2⟩
  · rcases mayC_cases k with ⟨k0, k1, k2⟩ | ⟨k0, k1, k2⟩
    · rw [cmpC_in h k h0 k0, cmpA_zero, cmpV_zero h1 k1] at e
      exact cut_ext (by omega) (ver_ext e.1.1 e.1.2.1 e.1.2.2.1 e.1.2.2.2 (by rw [h2, k2])) e.2
    · rw [cmpC_ne h k (by omega), cmpI_zero] at e; omega
  · rw [cmpC_ne h k (by omega), cmpI_zero] at e
    rcases mayC_cases k with ⟨k0, k1, k2⟩ | ⟨k0, k1, k2⟩
    · omega
    · exact cut_ext e (by rw [h1, k1]) (by rw [h2, k2])
theorem cmpC_flip {a b : CutL} (h : mayC a = true) (k : mayC b = true) : cmpC a b < 0 ↔ 0 < cmpC b a := by
  by_cases e : a.en ≠ 0 ∨ b.en ≠ 0
  · rw [cmpC_ne h k e, cmpC_ne k h (by omega), cmpI_lt, cmpI_gt]
  · have ha : a.en = 0 := by omega
    have hb : b.en = 0 := by omega
    rcases mayC_cases h with ⟨h0, h1, h2⟩ | ⟨h0, h1, h2⟩
    · rcases mayC_cases k with ⟨k0, k1, k2⟩ | ⟨k0, k1, k2⟩
      · rw [cmpC_in h k ha hb, cmpC_in k h hb ha, cmpA_lt, cmpA_gt, cmpV_anti h1 k1, cmpV_zero' h1 k1]
        constructor
        · rintro (q | ⟨q1, q2, q3⟩)
          · exact .inl q
          · exact .inr ⟨q1, q3, q2⟩
        · rintro (q | ⟨q1, q2, q3⟩)
          · exact .inl q
          · exact .inr ⟨q1, q3, q2⟩
      · omega
    · omega
theorem cmpC_anti' (a b : CutL) (h : mayC a = true) (k : mayC b = true) (e : 0 < cmpC a b) : cmpC b a < 0 := (cmpC_flip k h).2 e
theorem cmpV_ok {a b : Ver} (ha : mayV a = true) (hb : mayV b = true) : cmpV a b = if cmpNum a b ≠ 0 then cmpNum a b else cmpPre (bts a.pre) (bts b.pre) := by unfold cmpV; rw [if_neg (by simp [ha, hb])]
theorem cmpV_eq_left {a b c : Ver} (ha : mayV a = true) (hb : mayV b = true) (hc : mayV c = true) (h : cmpV a b = 0) : cmpV a c = cmpV b c := by
  obtain ⟨h1, h2, h3, h4⟩ := (cmpV_zero ha hb).1 h
  rw [cmpV_ok ha hc, cmpV_ok hb hc, h4, show cmpNum a c = cmpNum b c by simp only [cmpNum, h1, h2, h3]]
theorem cmpV_eq_right {a b c : Ver} (ha : mayV a = true) (hb : mayV b = true) (hc : mayV c = true) (h : cmpV a b = 0) : cmpV c a = cmpV c b := by
  obtain ⟨h1, h2, h3, h4⟩ := (cmpV_zero ha hb).1 h
  rw [cmpV_ok hc ha, cmpV_ok hc hb, h4, show cmpNum c a = cmpNum c b by simp only [cmpNum, h1, h2, h3]]
theorem cmpC_tran (a b c : CutL) (h : mayC a = true) (k : mayC b = true) (m : mayC c = true) (e : cmpC a b < 0) (f : cmpC b c < 0) : cmpC a c < 0 := by
  by_cases z : a.en = 0 ∧ b.en = 0 ∧ c.en = 0
  · obtain ⟨za, zb, zc⟩ := z
    rcases mayC_cases h with ⟨_, h1, _⟩ | ⟨h0, _, _⟩
    · rcases mayC_cases k with ⟨_, k1, _⟩ | ⟨k0, _, _⟩
      · rcases mayC_cases m with ⟨_, m1, _⟩ | ⟨m0, _, _⟩
        · rw [cmpC_in h k za zb, cmpA_lt] at e
          rw [cmpC_in k m zb zc, cmpA_lt] at f
          rw [cmpC_in h m za zc, cmpA_lt]
          rcases e with e | ⟨e1, e2, e3⟩
          · rcases f with f | ⟨f1, f2, f3⟩
            · exact .inl (cmpV_tran h1 k1 m1 e f)
            · exact .inl (by rw [← cmpV_eq_right k1 m1 h1 f1]; exact e)
          · rcases f with f | ⟨f1, f2, f3⟩
            · exact .inl (by rw [cmpV_eq_left h1 k1 m1 e1]; exact f)
            · exact .inr ⟨by rw [cmpV_eq_left h1 k1 m1 e1]; exact f1, e2, f3⟩
        · omega
      · omega
    · omega
  · have bd : ∀ {x : CutL}, mayC x = true → x.en = 0 ∨ x.en = -1 ∨ x.en = 1 := fun hx => by
      rcases mayC_cases hx with ⟨q, _⟩ | ⟨q, _⟩
      · exact .inl q
      · exact .inr q
    have ba := bd h
    have bb := bd k
    have bc := bd m
    by_cases z1 : a.en = 0 ∧ b.en = 0
    · rw [cmpC_ne k m (by omega), cmpI_lt] at f
      rw [cmpC_ne h m (by omega), cmpI_lt]; omega
    · rw [cmpC_ne h k (by omega), cmpI_lt] at e
      by_cases z2 : b.en = 0 ∧ c.en = 0
      · rw [cmpC_ne h m (by omega), cmpI_lt]; omega
      · rw [cmpC_ne k m (by omega), cmpI_lt] at f
        rw [cmpC_ne h m (by omega), cmpI_lt]; omega
theorem first_may : mayC firstC = true := by rw [mayC_end (.inl rfl), show firstC.v = zeroV from rfl, eqVer_iff.2 rfl]; rfl
theorem last_may : mayC lastC = true := by rw [mayC_end (.inr rfl), show lastC.v = zeroV from rfl, eqVer_iff.2 rfl]; rfl
theorem cmpC_first (a : CutL) (h : mayC a = true) : cmpC firstC a ≤ 0 := by
  rw [cmpC_ne first_may h (by simp [firstC])]
  have h1 := @cmpI_gt firstC.en a.en
  have : firstC.en = -1 := rfl
  rcases mayC_cases h with ⟨q, _⟩ | ⟨q, _⟩ <;> omega
theorem cmpC_last (a : CutL) (h : mayC a = true) : cmpC a lastC ≤ 0 := by
  rw [cmpC_ne h last_may (by simp [lastC])]
  have h1 := @cmpI_gt a.en lastC.en
  have : lastC.en = 1 := rfl
  rcases mayC_cases h with ⟨q, _⟩ | ⟨q, _⟩ <;> omega
theorem cmpC_ends : cmpC firstC lastC < 0 := by
  rw [cmpC_ne first_may last_may (by simp [firstC]), cmpI_lt]; decide
def bareV (v : Ver) : Ver := ⟨v.maj, v.min, v.pat, v.pre, ⟨#[]⟩⟩
namespace Rw
def lt (a b : CutL) : Prop := mayC a = true ∧ mayC b = true ∧ cmpC a b < 0
def le (a b : CutL) : Prop := mayC a = true ∧ mayC b = true ∧ cmpC a b ≤ 0
section
variable {a b c d : CutL}
theorem lt.okl (h : lt a b) : mayC a = true := h.1
theorem lt.okr (h : lt a b) : mayC b = true := h.2.1
theorem le.okl (h : le a b) : mayC a = true := h.1
theorem le.okr (h : le a b) : mayC b = true := h.2.1
theorem le.rfl' (h : mayC a = true) : le a a := ⟨h, h, by rw [cmpC_self a h]; omega⟩
theorem lt.le' (h : lt a b) : le a b := ⟨h.1, h.2.1, by have := h.2.2; omega⟩
theorem lt.tr (h : lt a b) (k : lt b c) : lt a c := ⟨h.1, k.2.1, cmpC_tran a b c h.1 h.2.1 k.2.1 h.2.2 k.2.2⟩
theorem le.cases (h : le a b) : lt a b ∨ a = b := by
  by_cases e : cmpC a b = 0
  · exact .inr (cmpC_eq a b h.1 h.2.1 e)
  · exact .inl ⟨h.1, h.2.1, by have := h.2.2; omega⟩
theorem le.tr_lt (h : le a b) (k : lt b c) : lt a c := by
  rcases h.cases with h | rfl
  · exact h.tr k
  · exact k
theorem lt.tr_le (h : lt a b) (k : le b c) : lt a c := by
  rcases k.cases with k | rfl
  · exact h.tr k
  · exact h
theorem le.tr (h : le a b) (k : le b c) : le a c := by
  rcases h.cases with h | rfl
  · exact (h.tr_le k).le'
  · exact k
theorem lt.irr (h : lt a a) : False := by have := cmpC_self a h.1; have := h.2.2; omega
theorem lt.not_le (h : lt a b) (k : le b a) : False := (h.tr_le k).irr
theorem le.anti (h : le a b) (k : le b a) : a = b := by
  rcases h.cases with h | h
  · exact (h.not_le k).elim
  · exact h
theorem total (ha : mayC a = true) (hb : mayC b = true) : lt a b ∨ le b a := by
  by_cases h : cmpC a b < 0
  · exact .inl ⟨ha, hb, h⟩
  · refine .inr ⟨hb, ha, ?_⟩
    by_cases e : cmpC a b = 0
    · have := cmpC_eq a b ha hb e; subst this; rw [cmpC_self a ha]; omega
    · have := cmpC_anti' a b ha hb (by omega); omega
theorem lt_of_not_le (ha : mayC a = true) (hb : mayC b = true) (h : ¬ le b a) : lt a b := (total ha hb).resolve_right h
theorem le_of_not_lt (ha : mayC a = true) (hb : mayC b = true) (h : ¬ lt a b) : le b a := (total ha hb).resolve_left h
theorem eq_iff (ha : mayC a = true) (hb : mayC b = true) : cmpC a b = 0 ↔ a = b := ⟨cmpC_eq a b ha hb, fun h => h ▸ cmpC_self a ha⟩
end
section
def mayB : CutL → List (SpanL) → Bool
  | _, [] => true
  | p, s :: l => spanMay s && decide (cmpC p s.fr < 0) && mayB s.til l
def may : List (SpanL) → Bool
  | [] => true
  | s :: l => spanMay s && mayB s.til l
def mem (l : List (SpanL)) (c : CutL) : Prop := ∃ s, s ∈ l ∧ le s.fr c ∧ lt c s.til
def Val : List (SpanL) → Prop
  | [] => True
  | s :: l => lt s.fr s.til ∧ (∀ t, t ∈ l → lt s.til t.fr) ∧ Val l
end
section
theorem spanMay_iff {s : SpanL} : spanMay s = true ↔ lt s.fr s.til := by
  simp [spanMay, lt, and_assoc]
theorem mayB_val : ∀ (l : List (SpanL)) (p : CutL), mayC p = true → (mayB p l = true ↔ (∀ t, t ∈ l → lt p t.fr) ∧ Val l)
  | [], p, _ => by simp [mayB, Val]
  | s :: l, p, hp => by
    simp only [mayB, Bool.and_eq_true, decide_eq_true_eq, spanMay_iff, Val, List.mem_cons]
    constructor
    · rintro ⟨⟨hs, hps⟩, h⟩
      obtain ⟨h1, h2⟩ := (mayB_val l s.til hs.okr).1 h
      have h0 : lt p s.fr := ⟨hp, hs.okl, hps⟩
      refine ⟨fun t ht => ?_, hs, h1, h2⟩
      rcases ht with rfl | ht
      · exact h0
      · exact (h0.tr hs).tr (h1 t ht)
    · rintro ⟨h0, hs, h1, h2⟩
      exact ⟨⟨hs, (h0 s (.inl rfl)).2.2⟩, (mayB_val l s.til hs.okr).2 ⟨h1, h2⟩⟩
theorem may_val : ∀ (l : List (SpanL)), may l = true ↔ Val l
  | [] => by simp [may, Val]
  | s :: l => by
    simp only [may, Val, Bool.and_eq_true, spanMay_iff]
    constructor
    · rintro ⟨hs, h⟩
      exact ⟨hs, (mayB_val l s.til hs.okr).1 h⟩
    · rintro ⟨hs, h⟩
      exact ⟨hs, (mayB_val l s.til hs.okr).2 h⟩
theorem mem_nil {c : CutL} : ¬ mem [] c := by rintro ⟨s, h, _⟩; cases h
theorem mem_cons {s : SpanL} {l : List (SpanL)} {c : CutL} : mem (s :: l) c ↔ (le s.fr c ∧ lt c s.til) ∨ mem l c := by
  constructor
  · rintro ⟨t, ht, h⟩
    rcases List.mem_cons.1 ht with rfl | ht
    · exact .inl h
    · exact .inr ⟨t, ht, h⟩
  · rintro (h | ⟨t, ht, h⟩)
    · exact ⟨s, List.mem_cons_self .., h⟩
    · exact ⟨t, List.mem_cons_of_mem _ ht, h⟩
theorem mem_append {l m : List (SpanL)} {c : CutL} : mem (l ++ m) c ↔ mem l c ∨ mem m c := by
  induction l with
  | nil => simp [mem_nil]
  | cons s l ih => rw [List.cons_append, mem_cons, mem_cons, ih, or_assoc]
theorem Val.ext : ∀ (l m : List (SpanL)), Val l → Val m → (∀ c, mem l c ↔ mem m c) → l = m
  | [], [], _, _, _ => rfl
  | [], y :: m, _, hm, h => (mem_nil ((h y.fr).2 (mem_cons.2 (.inl ⟨le.rfl' hm.1.okl, hm.1⟩)))).elim
  | x :: l, [], hl, _, h => (mem_nil ((h x.fr).1 (mem_cons.2 (.inl ⟨le.rfl' hl.1.okl, hl.1⟩)))).elim
  | x :: l, y :: m, hl, hm, h => by
    have low : ∀ (z : SpanL) (k : List (SpanL)), Val (z :: k) → ∀ c, mem (z :: k) c → le z.fr c := by
      intro z k hv c hc
      rcases mem_cons.1 hc with hc | ⟨t, ht, hc, _⟩
      · exact hc.1
      · exact (hv.1.tr (hv.2.1 t ht)).le'.tr hc
    have off : ∀ (z : SpanL) (k : List (SpanL)), Val (z :: k) → ¬ mem (z :: k) z.til := by
      intro z k hv hc
      rcases mem_cons.1 hc with hc | ⟨t, ht, hc, _⟩
      · exact hc.2.irr
      · exact (hv.2.1 t ht).not_le hc
    have e1 : x.fr = y.fr := by
      refine le.anti ?_ ?_
      · exact low x l hl _ ((h y.fr).2 (mem_cons.2 (.inl ⟨le.rfl' hm.1.okl, hm.1⟩)))
      · exact low y m hm _ ((h x.fr).1 (mem_cons.2 (.inl ⟨le.rfl' hl.1.okl, hl.1⟩)))
    have e2 : x.til = y.til := by
      refine le.anti ?_ ?_
      · refine le_of_not_lt hm.1.okr hl.1.okr (fun k => ?_)
        exact off y m hm ((h y.til).1 (mem_cons.2 (.inl ⟨by rw [e1]; exact hm.1.le', k⟩)))
      · refine le_of_not_lt hl.1.okr hm.1.okr (fun k => ?_)
        exact off x l hl ((h x.til).2 (mem_cons.2 (.inl ⟨by rw [← e1]; exact hl.1.le', k⟩)))
    obtain ⟨xf, xt⟩ := x
    obtain ⟨yf, yt⟩ := y
    cases e1
    cases e2
    refine congrArg _ (Val.ext l m hl.2.2 hm.2.2 fun c => ?_)
    constructor
    · rintro ⟨t, ht, h1, h2⟩
      rcases mem_cons.1 ((h c).1 (mem_cons.2 (.inr ⟨t, ht, h1, h2⟩))) with k | k
      · exact (((hl.2.1 t ht).tr_le h1).not_le k.2.le').elim
      · exact k
    · rintro ⟨t, ht, h1, h2⟩
      rcases mem_cons.1 ((h c).2 (mem_cons.2 (.inr ⟨t, ht, h1, h2⟩))) with k | k
      · exact (((hm.2.1 t ht).tr_le h1).not_le k.2.le').elim
      · exact k
theorem Val.snoc : ∀ (l : List (SpanL)) (s : SpanL), Val l → lt s.fr s.til → (∀ t, t ∈ l → lt t.til s.fr) → Val (l ++ [s])
  | [], s, _, hs, _ => ⟨hs, fun _ h => (List.not_mem_nil h).elim, True.intro⟩
  | t :: l, s, hl, hs, h => by
    refine ⟨hl.1, fun u hu => ?_, Val.snoc l s hl.2.2 hs fun u hu => h u (List.mem_cons_of_mem _ hu)⟩
    rcases List.mem_append.1 hu with hu | hu
    · exact hl.2.1 u hu
    · rw [List.mem_singleton] at hu; subst hu; exact h t (List.mem_cons_self ..)
theorem Val.of_snoc : ∀ (l : List (SpanL)) (s : SpanL), Val (l ++ [s]) → Val l ∧ lt s.fr s.til ∧ ∀ t, t ∈ l → lt t.til s.fr
  | [], s, h => ⟨True.intro, h.1, fun _ h => (List.not_mem_nil h).elim⟩
  | t :: l, s, h => by
    obtain ⟨h1, h2, h3⟩ := Val.of_snoc l s h.2.2
    refine ⟨⟨h.1, fun u hu => h.2.1 u (List.mem_append_left _ hu), h1⟩, h2, fun u hu => ?_⟩
    rcases List.mem_cons.1 hu with rfl | hu
    · exact h.2.1 s (by simp)
    · exact h3 u hu
section
end
end
theorem may_cons {s : SpanL} {l : List SpanL} : may (s :: l) = true ↔ spanMay s = true ∧ may l = true ∧ (0 < l.length → cmpC s.til (nth l 0).fr < 0) := by
  cases l with
  | nil => simp [may, mayB]
  | cons t l =>
    simp only [may, mayB, Bool.and_eq_true, decide_eq_true_eq, List.length_cons]
    constructor
    · rintro ⟨h1, ⟨h2, h3⟩, h4⟩
      exact ⟨h1, ⟨h2, h4⟩, fun _ => h3⟩
    · rintro ⟨h1, ⟨h2, h4⟩, h3⟩
      exact ⟨h1, ⟨h2, h3 (by omega)⟩, h4⟩
theorem nth_succ {s : SpanL} {l : List SpanL} {j : Nat} : nth (s :: l) (j + 1) = nth l j := by simp [nth]
theorem may_to : ∀ l : List SpanL, mayTo l l.length ↔ may l = true
  | [] => by simp [mayTo, may]
  | s :: l => by
    rw [may_cons, ← may_to l]
    constructor
    · intro h
      refine ⟨(h 0 (by simp)).1, fun j hj => ?_, fun h0 => ?_⟩
      · have := h (j + 1) (by simpa using hj)
        rw [nth_succ] at this
        refine ⟨this.1, fun h0 => ?_⟩
        obtain ⟨i, rfl⟩ : ∃ i, j = i + 1 := ⟨j - 1, by omega⟩
        have h2 := this.2 (by omega)
        rwa [Nat.add_sub_cancel, nth_succ] at h2
      · have h2 := (h 1 (by simpa using h0)).2 (by omega)
        rwa [nth_succ] at h2
    · rintro ⟨h1, h2, h3⟩ j hj
      cases j with
      | zero => exact ⟨h1, fun h => by omega⟩
      | succ j =>
        have hj' : j < l.length := by simpa using hj
        rw [nth_succ]
        refine ⟨(h2 j hj').1, fun _ => ?_⟩
        rw [Nat.add_sub_cancel]
        cases j with
        | zero => exact h3 hj'
        | succ i => rw [nth_succ]; exact (h2 (i + 1) hj').2 (by omega)
theorem mayR_val {l : List SpanL} : mayR l = true ↔ Val l := by rw [mayR_iff, may_to, may_val]
theorem Val.span : ∀ {l : List SpanL}, Val l → ∀ s, s ∈ l → lt s.fr s.til
  | s :: l, h, t, ht => by
    rcases List.mem_cons.1 ht with rfl | ht
    · exact h.1
    · exact Val.span h.2.2 t ht
def inU (x : CutL) : Prop := le firstC x ∧ lt x lastC
theorem first_le {x : CutL} (h : mayC x = true) : le firstC x := ⟨first_may, h, cmpC_first x h⟩
theorem le_last {x : CutL} (h : mayC x = true) : le x lastC := ⟨h, last_may, cmpC_last x h⟩
theorem mem.inU {l : List SpanL} {x : CutL} (h : mem l x) : inU x := by
  obtain ⟨s, _, h1, h2⟩ := h
  exact ⟨first_le h1.okr, h2.tr_le (le_last h2.okr)⟩
def VF (l : List SpanL) (P : CutL → Prop) : Prop := Val l ∧ ∀ x, mem l x ↔ P x
theorem VF.ext {l m : List SpanL} {P : CutL → Prop} (h : VF l P) (k : VF m P) : l = m := Val.ext l m h.1 k.1 fun x => (h.2 x).trans (k.2 x).symm
theorem VF.congr {l : List SpanL} {P Q : CutL → Prop} (h : VF l P) (k : ∀ x, P x ↔ Q x) : VF l Q := ⟨h.1, fun x => (h.2 x).trans (k x)⟩
theorem VF.self {l : List SpanL} (h : Val l) : VF l (mem l) := ⟨h, fun _ => Iff.rfl⟩
theorem VF.nil : VF [] (fun _ => False) := ⟨True.intro, fun _ => ⟨mem_nil, False.elim⟩⟩
def Rise (l : List CutL) : Prop := l.Pairwise lt ∧ ∀ c, c ∈ l → mayC c = true
theorem putL_rise : ∀ (l : List CutL) (c : CutL), Rise l → mayC c = true → Rise (putL l c) ∧ ∀ x, x ∈ putL l c ↔ x = c ∨ x ∈ l
  | [], c, _, hc => by
    refine ⟨⟨by simp [putL], fun x hx => ?_⟩, fun x => by simp [putL]⟩
    simp [putL] at hx; rw [hx]; exact hc
  | y :: l, c, h, hc => by
    obtain ⟨hp, hm⟩ := h
    rw [List.pairwise_cons] at hp
    have hy := hm y (List.mem_cons_self ..)
    obtain ⟨⟨g1, g2⟩, g3⟩ := putL_rise l c ⟨hp.2, fun x hx => hm x (List.mem_cons_of_mem _ hx)⟩ hc
    unfold putL
    split
    · rename_i h1
      have h1' : lt y c := ⟨hy, hc, h1⟩
      refine ⟨⟨List.pairwise_cons.2 ⟨fun x hx => ?_, g1⟩, fun x hx => ?_⟩, fun x => ?_⟩
      · rcases (g3 x).1 hx with rfl | hx
        · exact h1'
        · exact hp.1 x hx
      · rcases List.mem_cons.1 hx with rfl | hx
        · exact hy
        · exact g2 x hx
      · rw [List.mem_cons, g3, List.mem_cons]
        constructor
        · rintro (h | h | h)
          · exact .inr (.inl h)
          · exact .inl h
          · exact .inr (.inr h)
        · rintro (h | h | h)
          · exact .inr (.inl h)
          · exact .inl h
          · exact .inr (.inr h)
    · rename_i h1
      split
      · rename_i h2
        obtain rfl := (eq_iff hy hc).1 h2
        refine ⟨⟨List.pairwise_cons.2 hp, hm⟩, fun x => ⟨fun h => .inr h, ?_⟩⟩
        rintro (rfl | h)
        · exact List.mem_cons_self ..
        · exact h
      · rename_i h2
        have h3 : lt c y := by
          rcases total hc hy with k | k
          · exact k
          · rcases k.cases with k | k
            · exact (h1 k.2.2).elim
            · subst k; exact (h2 (cmpC_self y hy)).elim
        refine ⟨⟨List.pairwise_cons.2 ⟨fun x hx => ?_, List.pairwise_cons.2 hp⟩, fun x hx => ?_⟩, fun x => List.mem_cons⟩
        · rcases List.mem_cons.1 hx with rfl | hx
          · exact h3
          · exact h3.tr (hp.1 x hx)
        · rcases List.mem_cons.1 hx with rfl | hx
          · exact hc
          · exact hm x hx
theorem cuts_rise : ∀ (l : List SpanL) (o : List CutL), (∀ s, s ∈ l → lt s.fr s.til) → Rise o → Rise (l.foldl cutStep o) ∧ ∀ x, x ∈ l.foldl cutStep o ↔ x ∈ o ∨ ∃ s, s ∈ l ∧ (x = s.fr ∨ x = s.til)
  | [], o, _, h => ⟨h, fun x => by simp⟩
  | s :: l, o, hl, h => by
    have hs := hl s (List.mem_cons_self ..)
    obtain ⟨a1, a2⟩ := putL_rise o s.fr h hs.okl
    obtain ⟨b1, b2⟩ := putL_rise _ s.til a1 hs.okr
    obtain ⟨c1, c2⟩ := cuts_rise l (cutStep o s) (fun t ht => hl t (List.mem_cons_of_mem _ ht)) b1
    refine ⟨c1, fun x => ?_⟩
    rw [List.foldl_cons, c2, cutStep, b2, a2]
    constructor
    · rintro ((h | h | h) | ⟨t, ht, h⟩)
      · exact .inr ⟨s, List.mem_cons_self .., .inr h⟩
      · exact .inr ⟨s, List.mem_cons_self .., .inl h⟩
      · exact .inl h
      · exact .inr ⟨t, List.mem_cons_of_mem _ ht, h⟩
    · rintro (h | ⟨t, ht, h⟩)
      · exact .inl (.inr (.inr h))
      · rcases List.mem_cons.1 ht with rfl | ht
        · rcases h with h | h
          · exact .inl (.inr (.inl h))
          · exact .inl (.inl h)
        · exact .inr ⟨t, ht, h⟩
theorem ends_rise : Rise [firstC, lastC] := by
  refine ⟨by simpa using ⟨first_may, last_may, cmpC_ends⟩, fun c hc => ?_⟩
  simp at hc
  rcases hc with rfl | rfl
  · exact first_may
  · exact last_may
theorem cutsL_rise {l : List SpanL} (hl : ∀ s, s ∈ l → lt s.fr s.til) : Rise (cutsL l) ∧ ∀ x, x ∈ cutsL l ↔ (x = firstC ∨ x = lastC) ∨ ∃ s, s ∈ l ∧ (x = s.fr ∨ x = s.til) := by
  obtain ⟨h1, h2⟩ := cuts_rise l _ hl ends_rise
  exact ⟨h1, fun x => by rw [cutsL, h2]; simp⟩
theorem Rise.at_ {c : List CutL} (h : Rise c) {i : Nat} (hi : i < c.length) : mayC (nthC c i) = true := by rw [nthC_lt hi]; exact h.2 _ (List.getElem_mem _)
theorem Rise.lt_ {c : List CutL} (h : Rise c) {i j : Nat} (hij : i < j) (hj : j < c.length) : lt (nthC c i) (nthC c j) := by
  rw [nthC_lt hj, nthC_lt (by omega : i < c.length)]
  exact List.pairwise_iff_getElem.1 h.1 i j (by omega) hj hij
theorem Rise.le_ {c : List CutL} (h : Rise c) {i j : Nat} (hij : i ≤ j) (hj : j < c.length) : le (nthC c i) (nthC c j) := by
  rcases Nat.lt_or_ge i j with k | k
  · exact (h.lt_ k hj).le'
  · obtain rfl : i = j := by omega
    exact le.rfl' (h.at_ hj)
theorem Rise.idx {c : List CutL} (h : Rise c) {i j : Nat} (hi : i < c.length) (k : lt (nthC c i) (nthC c j)) : i < j := by
  rcases Nat.lt_or_ge i j with k' | k'
  · exact k'
  · exact (k.not_le (h.le_ k' hi)).elim
theorem mem_idx {c : List CutL} {x : CutL} (h : x ∈ c) : ∃ i, i < c.length ∧ nthC c i = x := by
  obtain ⟨i, hi, rfl⟩ := List.getElem_of_mem h
  exact ⟨i, hi, nthC_lt hi⟩
theorem Rise.stretch {c : List CutL} (h : Rise c) {x : CutL} : ∀ (n : Nat), n < c.length → le (nthC c 0) x → lt x (nthC c n) → ∃ i, i + 1 < c.length ∧ le (nthC c i) x ∧ lt x (nthC c (i + 1))
  | 0, _, h0, h1 => (h1.not_le h0).elim
  | n + 1, hn, h0, h1 => by
    rcases total h1.okl (h.at_ (by omega : n < c.length)) with k | k
    · exact Rise.stretch h n (by omega) h0 k
    · exact ⟨n, hn, k, h1⟩
theorem Rise.span {c : List CutL} (h : Rise c) (hf : firstC ∈ c) (hl : lastC ∈ c) {x : CutL} (hx : inU x) : ∃ i, i + 1 < c.length ∧ le (nthC c i) x ∧ lt x (nthC c (i + 1)) := by
  obtain ⟨i, hi, e⟩ := mem_idx hf
  obtain ⟨j, hj, e2⟩ := mem_idx hl
  refine h.stretch j hj ?_ (by rw [e2]; exact hx.2)
  exact ((h.le_ (Nat.zero_le i) hi).tr (by rw [e]; exact hx.1))
theorem growR_good {l : List SpanL} {f t : CutL} (hv : Val l) (hft : lt f t) (hl : ∀ s, s ∈ l → le s.til f) :
    Val (growR l f t) ∧ (∀ s, s ∈ growR l f t → le s.til t) ∧ ∀ x, mem (growR l f t) x ↔ mem l x ∨ (le f x ∧ lt x t) := by
  rcases List.eq_nil_or_concat l with rfl | ⟨m, q, rfl⟩
  · refine ⟨by simp [growR_nil, Val, hft], fun s hs => ?_, fun x => ?_⟩
    · simp [growR_nil] at hs; subst hs; exact le.rfl' hft.okr
    · simp [growR_nil, mem_cons, mem_nil]
  · simp only [List.concat_eq_append] at hv hl ⊢
    obtain ⟨v1, v2, v3⟩ := Val.of_snoc m q hv
    have hq := hl q (by simp)
    by_cases hc : cmpC q.til f = 0
    · rw [growR_eq hc]
      have e := (eq_iff v2.okr hft.okl).1 hc
      have hqt : lt q.fr t := by rw [← e] at hft; exact v2.tr hft
      refine ⟨Val.snoc m _ v1 hqt v3, fun s hs => ?_, fun x => ?_⟩
      · rcases List.mem_append.1 hs with hs | hs
        · exact (hl s (List.mem_append_left _ hs)).tr hft.le'
        · rw [List.mem_singleton] at hs; subst hs; exact le.rfl' hft.okr
      · rw [mem_append, mem_append, mem_cons, mem_cons]
        simp only [mem_nil, or_false]
        constructor
        · rintro (h | ⟨h1, h2⟩)
          · exact .inl (.inl h)
          · rcases total h1.okr hft.okl with k | k
            · exact .inl (.inr ⟨h1, by rw [e]; exact k⟩)
            · exact .inr ⟨k, h2⟩
        · rintro ((h | ⟨h1, h2⟩) | ⟨h1, h2⟩)
          · exact .inl h
          · exact .inr ⟨h1, (by rw [e] at h2; exact h2.tr hft)⟩
          · exact .inr ⟨by rw [← e] at h1; exact v2.le'.tr h1, h2⟩
    · rw [growR_ne hc]
      have hq' : lt q.til f := by
        rcases hq.cases with k | k
        · exact k
        · exact (hc ((eq_iff v2.okr hft.okl).2 k)).elim
      refine ⟨Val.snoc _ _ hv hft fun s hs => ?_, fun s hs => ?_, fun x => ?_⟩
      · rcases List.mem_append.1 hs with hs | hs
        · exact (v3 s hs).tr_le (v2.le'.tr hq)
        · rw [List.mem_singleton] at hs; subst hs; exact hq'
      · rcases List.mem_append.1 hs with hs | hs
        · exact (hl s hs).tr hft.le'
        · rw [List.mem_singleton] at hs; subst hs; exact le.rfl' hft.okr
      · rw [mem_append, mem_cons]
        simp only [mem_nil, or_false]
theorem growTo_good {c : List CutL} (hc : Rise c) (p : CutL → CutL → Bool) : ∀ k, k < c.length →
    Val (growTo c p k) ∧ (∀ s, s ∈ growTo c p k → le s.til (nthC c k)) ∧ ∀ x, mem (growTo c p k) x ↔ ∃ i, i < k ∧ le (nthC c i) x ∧ lt x (nthC c (i + 1)) ∧ p (nthC c i) (nthC c (i + 1)) = true
  | 0, _ => ⟨True.intro, (fun s hs => (List.not_mem_nil hs).elim), fun x => ⟨fun h => (mem_nil h).elim, fun ⟨i, h, _⟩ => by omega⟩⟩
  | k + 1, hk => by
    obtain ⟨h1, h2, h3⟩ := growTo_good hc p k (by omega)
    have hft := hc.lt_ (Nat.lt_succ_self k) hk
    unfold growTo
    split
    · rename_i hp
      obtain ⟨g1, g2, g3⟩ := growR_good h1 hft h2
      refine ⟨g1, g2, fun x => ?_⟩
      rw [g3, h3]
      constructor
      · rintro (⟨i, hi, h⟩ | ⟨ha, hb⟩)
        · exact ⟨i, by omega, h⟩
        · exact ⟨k, by omega, ha, hb, hp⟩
      · rintro ⟨i, hi, h⟩
        rcases Nat.lt_or_ge i k with hik | hik
        · exact .inl ⟨i, hik, h⟩
        · obtain rfl : i = k := by omega
          exact .inr ⟨h.1, h.2.1⟩
    · rename_i hp
      refine ⟨h1, fun s hs => (h2 s hs).tr hft.le', fun x => ?_⟩
      rw [h3]
      constructor
      · rintro ⟨i, hi, h⟩
        exact ⟨i, by omega, h⟩
      · rintro ⟨i, hi, h⟩
        rcases Nat.lt_or_ge i k with hik | hik
        · exact ⟨i, hik, h⟩
        · obtain rfl : i = k := by omega
          exact (hp h.2.2).elim
theorem growAll_good {c : List CutL} (hc : Rise c) (h0 : 0 < c.length) (p : CutL → CutL → Bool) : VF (growAll c p) (fun x => ∃ i, i + 1 < c.length ∧ le (nthC c i) x ∧ lt x (nthC c (i + 1)) ∧ p (nthC c i) (nthC c (i + 1)) = true) := by
  obtain ⟨h1, _, h3⟩ := growTo_good hc p (c.length - 1) (by omega)
  refine ⟨h1, fun x => (h3 x).trans ?_⟩
  constructor
  · rintro ⟨i, hi, h⟩; exact ⟨i, by omega, h⟩
  · rintro ⟨i, hi, h⟩; exact ⟨i, by omega, h⟩
theorem inR_iff {l : List SpanL} {c : List CutL} (hc : Rise c) (hl : ∀ s, s ∈ l → lt s.fr s.til ∧ s.fr ∈ c ∧ s.til ∈ c) {i : Nat} {x : CutL} (hi : i + 1 < c.length) (h1 : le (nthC c i) x) (h2 : lt x (nthC c (i + 1))) :
    inR l (nthC c i) (nthC c (i + 1)) = true ↔ mem l x := by
  rw [inR, List.any_eq_true]
  constructor
  · rintro ⟨s, hs, h⟩
    rw [inB, Bool.and_eq_true, decide_eq_true_eq, decide_eq_true_eq] at h
    obtain ⟨hls, _, _⟩ := hl s hs
    have k1 : le s.fr (nthC c i) := ⟨hls.okl, h1.okl, h.1⟩
    have k2 : le (nthC c (i + 1)) s.til := ⟨h2.okr, hls.okr, h.2⟩
    exact ⟨s, hs, k1.tr h1, h2.tr_le k2⟩
  · rintro ⟨s, hs, h3, h4⟩
    obtain ⟨_, hf, ht⟩ := hl s hs
    refine ⟨s, hs, ?_⟩
    rw [inB, Bool.and_eq_true, decide_eq_true_eq, decide_eq_true_eq]
    obtain ⟨j, hj, ej⟩ := mem_idx hf
    obtain ⟨k, hk, ek⟩ := mem_idx ht
    rw [← ej] at h3 ⊢
    rw [← ek] at h4 ⊢
    have a1 := hc.idx hj (h3.tr_lt h2)
    have a2 := hc.idx (by omega : i < c.length) (h1.tr_lt h4)
    exact ⟨(hc.le_ (by omega : j ≤ i) (by omega)).2.2, (hc.le_ (by omega : i + 1 ≤ k) hk).2.2⟩
theorem cuts_pos {c : List CutL} (h : firstC ∈ c) : 0 < c.length := List.length_pos_of_mem h
theorem make_all {l : List SpanL} (hl : ∀ s, s ∈ l → lt s.fr s.til) : VF (growAll (cutsL l) (inR l)) (mem l) := by
  obtain ⟨h1, h2⟩ := cutsL_rise hl
  have hf : firstC ∈ cutsL l := (h2 _).2 (.inl (.inl rfl))
  have ht : lastC ∈ cutsL l := (h2 _).2 (.inl (.inr rfl))
  have hm : ∀ s, s ∈ l → lt s.fr s.til ∧ s.fr ∈ cutsL l ∧ s.til ∈ cutsL l := fun s hs => ⟨hl s hs, (h2 _).2 (.inr ⟨s, hs, .inl rfl⟩), (h2 _).2 (.inr ⟨s, hs, .inr rfl⟩)⟩
  refine (growAll_good h1 (cuts_pos hf) _).congr fun x => ?_
  constructor
  · rintro ⟨i, hi, ha, hb, hc⟩
    exact (inR_iff h1 hm hi ha hb).1 hc
  · intro h
    obtain ⟨i, hi, ha, hb⟩ := h1.span hf ht h.inU
    exact ⟨i, hi, ha, hb, (inR_iff h1 hm hi ha hb).2 h⟩
theorem all_may {l : List SpanL} : l.all spanMay = true ↔ ∀ s, s ∈ l → lt s.fr s.til := by
  rw [List.all_eq_true]
  exact ⟨fun h s hs => spanMay_iff.1 (h s hs), fun h s hs => spanMay_iff.2 (h s hs)⟩
theorem make_spec {l : List SpanL} (hl : ∀ s, s ∈ l → lt s.fr s.til) : (rmakeL l).2 = true ∧ VF (rmakeL l).1 (mem l) := by
  rw [rmakeL, if_pos (all_may.2 hl)]
  exact ⟨rfl, make_all hl⟩
theorem app_span {a b : List SpanL} (ha : Val a) (hb : Val b) : ∀ s, s ∈ a ++ b → lt s.fr s.til := fun s hs => by
  rcases List.mem_append.1 hs with hs | hs
  · exact ha.span s hs
  · exact hb.span s hs
theorem or_spec {a b : List SpanL} (ha : Val a) (hb : Val b) : VF (rorL a b) (fun x => mem a x ∨ mem b x) := by
  rw [rorL, mayR_val.2 ha, mayR_val.2 hb, Bool.and_self, if_pos rfl]
  exact (make_spec (app_span ha hb)).2.congr fun x => mem_append
theorem not_spec {l : List SpanL} (h : Val l) : VF (rnotL l) (fun x => inU x ∧ ¬ mem l x) := by
  rw [rnotL, mayR_val.2 h, if_pos rfl]
  have hl := h.span
  obtain ⟨h1, h2⟩ := cutsL_rise hl
  have hf : firstC ∈ cutsL l := (h2 _).2 (.inl (.inl rfl))
  have ht : lastC ∈ cutsL l := (h2 _).2 (.inl (.inr rfl))
  have hm : ∀ s, s ∈ l → lt s.fr s.til ∧ s.fr ∈ cutsL l ∧ s.til ∈ cutsL l := fun s hs => ⟨hl s hs, (h2 _).2 (.inr ⟨s, hs, .inl rfl⟩), (h2 _).2 (.inr ⟨s, hs, .inr rfl⟩)⟩
  refine (growAll_good h1 (cuts_pos hf) _).congr fun x => ?_
  constructor
  · rintro ⟨i, hi, ha, hb, hc⟩
    refine ⟨⟨first_le ha.okr, hb.tr_le (le_last hb.okr)⟩, fun hm' => ?_⟩
    rw [notIn, (inR_iff h1 hm hi ha hb).2 hm'] at hc; cases hc
  · rintro ⟨hu, hn⟩
    obtain ⟨i, hi, ha, hb⟩ := h1.span hf ht hu
    refine ⟨i, hi, ha, hb, ?_⟩
    rw [notIn, Bool.not_eq_true', Bool.eq_false_iff]
    exact fun k => hn ((inR_iff h1 hm hi ha hb).1 k)
theorem and_spec {a b : List SpanL} (ha : Val a) (hb : Val b) : VF (randL a b) (fun x => mem a x ∧ mem b x) := by
  rw [randL, mayR_val.2 ha, mayR_val.2 hb, Bool.and_self, if_pos rfl]
  obtain ⟨h1, h2⟩ := cutsL_rise (app_span ha hb)
  have hf : firstC ∈ cutsL (a ++ b) := (h2 _).2 (.inl (.inl rfl))
  have ht : lastC ∈ cutsL (a ++ b) := (h2 _).2 (.inl (.inr rfl))
  have hma : ∀ s, s ∈ a → lt s.fr s.til ∧ s.fr ∈ cutsL (a ++ b) ∧ s.til ∈ cutsL (a ++ b) := fun s hs => ⟨ha.span s hs, (h2 _).2 (.inr ⟨s, List.mem_append_left _ hs, .inl rfl⟩), (h2 _).2 (.inr ⟨s, List.mem_append_left _ hs, .inr rfl⟩)⟩
  have hmb : ∀ s, s ∈ b → lt s.fr s.til ∧ s.fr ∈ cutsL (a ++ b) ∧ s.til ∈ cutsL (a ++ b) := fun s hs => ⟨hb.span s hs, (h2 _).2 (.inr ⟨s, List.mem_append_right _ hs, .inl rfl⟩), (h2 _).2 (.inr ⟨s, List.mem_append_right _ hs, .inr rfl⟩)⟩
  refine (growAll_good h1 (cuts_pos hf) _).congr fun x => ?_
  constructor
  · rintro ⟨i, hi, hx, hy, hc⟩
    rw [bothIn, Bool.and_eq_true] at hc
    exact ⟨(inR_iff h1 hma hi hx hy).1 hc.1, (inR_iff h1 hmb hi hx hy).1 hc.2⟩
  · rintro ⟨k1, k2⟩
    obtain ⟨i, hi, hx, hy⟩ := h1.span hf ht k1.inU
    refine ⟨i, hi, hx, hy, ?_⟩
    rw [bothIn, (inR_iff h1 hma hi hx hy).2 k1, (inR_iff h1 hmb hi hx hy).2 k2]; rfl
structure AndInv (a b o : List SpanL) (i k : Nat) : Prop where
  val : Val o
  cov : ∀ x, mem a x ∧ mem b x ↔ mem o x ∨ (mem (a.drop i) x ∧ mem (b.drop k) x)
  low : ∀ s, s ∈ o → (∀ t, t ∈ a.drop i → lt s.til t.fr) ∨ (∀ t, t ∈ b.drop k → lt s.til t.fr)
theorem AndInv.start (a b : List SpanL) : AndInv a b [] 0 0 := ⟨True.intro, fun x => by simp [mem_nil], fun s hs => (List.not_mem_nil hs).elim⟩
theorem Val.drop : ∀ {l : List SpanL} (i : Nat), Val l → Val (l.drop i)
  | [], i, _ => by simp [Val]
  | s :: l, 0, h => h
  | s :: l, i + 1, h => Val.drop i h.2.2
theorem drop_nth {l : List SpanL} {i : Nat} (h : i < l.length) : l.drop i = nth l i :: l.drop (i + 1) := by
  rw [nth_lt h]; exact List.drop_eq_getElem_cons h
theorem AndInv.done {a b o : List SpanL} {i k : Nat} (h : AndInv a b o i k) (ha : Val a) (hb : Val b) (hi : a.length ≤ i ∨ b.length ≤ k) : o = randL a b := by
  refine VF.ext (P := fun x => mem a x ∧ mem b x) ⟨h.val, fun x => ?_⟩ (and_spec ha hb)
  show mem o x ↔ mem a x ∧ mem b x
  rw [h.cov]
  have : ¬ (mem (a.drop i) x ∧ mem (b.drop k) x) := by
    rintro ⟨h1, h2⟩
    rcases hi with hi | hi
    · rw [List.drop_eq_nil_of_le hi] at h1; exact mem_nil h1
    · rw [List.drop_eq_nil_of_le hi] at h2; exact mem_nil h2
  exact ⟨.inl, fun h => h.resolve_right this⟩
def addIf (o : List SpanL) (f t : CutL) : List SpanL := if cmpC f t < 0 then o ++ [⟨f, t⟩] else o
theorem addIf_mem {o : List SpanL} {f t x : CutL} : mem (addIf o f t) x ↔ mem o x ∨ (le f x ∧ lt x t) := by
  unfold addIf
  split
  · rw [mem_append, mem_cons]; simp [mem_nil]
  · rename_i h
    refine ⟨.inl, fun k => k.resolve_right ?_⟩
    rintro ⟨k1, k2⟩
    exact h (k1.tr_lt k2).2.2
theorem addIf_val {o : List SpanL} {f t : CutL} (hv : Val o) (hf : mayC f = true) (ht : mayC t = true) (hl : ∀ s, s ∈ o → lt s.til f) : Val (addIf o f t) := by
  unfold addIf
  split
  · rename_i h
    exact Val.snoc _ _ hv ⟨hf, ht, h⟩ hl
  · exact hv
theorem addIf_low {o : List SpanL} {f t : CutL} {Q : SpanL → Prop} (h : ∀ s, s ∈ o → Q s) (k : Q ⟨f, t⟩) : ∀ s, s ∈ addIf o f t → Q s := by
  unfold addIf
  split
  · intro s hs
    rcases List.mem_append.1 hs with hs | hs
    · exact h s hs
    · rw [List.mem_singleton] at hs; subst hs; exact k
  · exact h
theorem AndInv.swap {a b o : List SpanL} {i k : Nat} (h : AndInv a b o i k) : AndInv b a o k i := ⟨h.val, fun x => by rw [and_comm, h.cov, and_comm (a := mem (a.drop i) x)], fun s hs => (h.low s hs).symm⟩
structure NotInv (a o : List SpanL) (k : Nat) (fr : CutL) : Prop where
  val : Val o
  ok : mayC fr = true
  cov : ∀ x, mem o x ↔ (inU x ∧ lt x fr ∧ ¬ mem (a.take k) x)
  low : ∀ s, s ∈ o → lt s.til fr
  nxt : ∀ t, t ∈ a.drop k → le fr t.fr
  prv : ∀ x, mem (a.take k) x → lt x fr
theorem NotInv.start {a : List SpanL} (ha : Val a) : NotInv a [] 0 firstC := by
  refine ⟨True.intro, first_may, fun x => ⟨fun h => (mem_nil h).elim, ?_⟩, fun s hs => (List.not_mem_nil hs).elim, fun t ht => first_le (ha.span t ht).okl, fun x h => (mem_nil (by simpa using h)).elim⟩
  rintro ⟨h1, h2, _⟩
  exact (h2.not_le h1.1).elim
theorem take_nth {l : List SpanL} {i : Nat} (h : i < l.length) : l.take (i + 1) = l.take i ++ [nth l i] := by
  rw [nth_lt h]; exact List.take_succ_eq_append_getElem h
theorem NotInv.step {a o : List SpanL} {k : Nat} {fr : CutL} (h : NotInv a o k fr) (ha : Val a) (hk : k < a.length) :
    NotInv a (addIf o fr (nth a k).fr) (k + 1) (nth a k).til := by
  have va := ha.drop k
  rw [drop_nth hk] at va
  have hn := h.nxt (nth a k) (by rw [drop_nth hk]; exact List.mem_cons_self ..)
  refine ⟨addIf_val h.val h.ok va.1.okl h.low, va.1.okr, fun x => ?_, addIf_low (fun s hs => ?_) va.1, fun t ht => (va.2.1 t ht).le', fun x hx => ?_⟩
  · rw [addIf_mem, h.cov, take_nth hk, mem_append, mem_cons]
    simp only [mem_nil, or_false, not_or]
    constructor
    · rintro (⟨h1, h2, h3⟩ | ⟨h1, h2⟩)
      · have : lt x (nth a k).fr := h2.tr_le hn
        exact ⟨h1, this.tr va.1, h3, fun k => this.not_le k.1⟩
      · refine ⟨⟨first_le h1.okr, h2.tr_le (le_last h2.okr)⟩, h2.tr va.1, fun k => (h.prv x k).not_le h1, fun k => h2.not_le k.1⟩
    · rintro ⟨h1, h2, h3, h4⟩
      rcases total h2.okl h.ok with l | l
      · exact .inl ⟨h1, l, h3⟩
      · exact .inr ⟨l, lt_of_not_le h2.okl va.1.okl fun m => h4 ⟨m, h2⟩⟩
  · exact (h.low s hs).tr_le (hn.tr va.1.le')
  · rw [take_nth hk, mem_append, mem_cons] at hx
    simp only [mem_nil, or_false] at hx
    rcases hx with hx | hx
    · exact (h.prv x hx).tr_le (hn.tr va.1.le')
    · exact hx.2
theorem NotInv.done {a o : List SpanL} {fr : CutL} (h : NotInv a o a.length fr) (ha : Val a) : addIf o fr lastC = rnotL a := by
  refine VF.ext (P := fun x => inU x ∧ ¬ mem a x) ⟨addIf_val h.val h.ok last_may h.low, fun x => ?_⟩ (not_spec ha)
  rw [addIf_mem, h.cov, List.take_length]
  constructor
  · rintro (⟨h1, _, h3⟩ | ⟨h1, h2⟩)
    · exact ⟨h1, h3⟩
    · refine ⟨⟨first_le h1.okr, h2⟩, fun k => ?_⟩
      exact (h.prv x (by rw [List.take_length]; exact k)).not_le h1
  · rintro ⟨h1, h2⟩
    rcases total h1.1.okr h.ok with l | l
    · exact .inl ⟨h1, l, h2⟩
    · exact .inr ⟨l, h1.2⟩
end Rw
end Go.Proofs.YtlmkglgjdmjnkaaGreatDoor
namespace Go.Proofs.YtlmkglgjdmjnkaaGreatDoor
open Go.RowKit Go.Lib
set_option linter.unusedVariables false
set_option linter.unusedSimpArgs false
namespace Rw
variable {a b c : List SpanL}
theorem v_not (ha : Val a) : Val (rnotL a) := (not_spec ha).1
theorem v_and (ha : Val a) (hb : Val b) : Val (randL a b) := (and_spec ha hb).1
theorem v_or (ha : Val a) (hb : Val b) : Val (rorL a b) := (or_spec ha hb).1
theorem m_not (ha : Val a) (x : CutL) : mem (rnotL a) x ↔ inU x ∧ ¬ mem a x := (not_spec ha).2 x
theorem not_not (ha : Val a) : rnotL (rnotL a) = a := Val.ext _ _ (v_not (v_not ha)) ha fun x => by
  rw [m_not (v_not ha), m_not ha]
  by_cases h : mem a x
  · have := h.inU; simp [h, this]
  · by_cases k : inU x <;> simp [h, k]
variable {v : Ver}
end Rw
end Go.Proofs.YtlmkglgjdmjnkaaGreatDoor
namespace Go.Proofs.YtlmkglgjdmjnkaaGreatDoor
open Go.RowKit Go.Lib
set_option linter.unusedVariables false
set_option linter.unusedSimpArgs false
theorem oneS (l : List SpanL) : ∀ u ∈ cellsL l, u.oneCell' = true := by
  intro u hu
  simp only [cellsL, List.mem_flatMap] at hu
  obtain ⟨s, _, hu⟩ := hu
  simp at hu
  rcases hu with rfl | rfl | rfl | rfl | rfl | rfl | rfl | rfl | rfl | rfl | rfl | rfl | rfl | rfl <;> rfl
theorem Spans.src {w : World} {A : Option Addr} {l : List SpanL} (h : Spans w A l) : SrcOf w A l.length 14 (cellsL l) := by
  refine ⟨cellsL_len l, ?_, ?_⟩
  · rintro rfl
    rcases h with rfl | ⟨b, off, e, _⟩
    · rfl
    · cases e
  · rintro ad rfl j u hj
    have hjl : j < l.length * 14 := by
      rcases Nat.lt_or_ge j (l.length * 14) with h' | h'
      · exact h'
      · rw [List.getElem?_eq_none (by rw [cellsL_len]; exact h')] at hj; cases hj
    rcases h with rfl | ⟨b, off, e, hlt, hc⟩
    · simp at hjl
    · injection e with e; subst e
      have ej : j / 14 * 14 + j % 14 = j := by omega
      rw [← ej, cellsL_get _ _ _ (by omega) (Nat.mod_lt _ (by omega))] at hj
      have := hc (j / 14) (by omega) (j % 14) u hj
      rw [addr_add, ← ej]
      rw [← this]
      congr 2
      omega
theorem OwnS.cat {w : World} {base : Nat} {v : Value} {l m : List SpanL} (h : w.ownsRow base 133 14 v (l.length + m.length) (cellsL l ++ cellsL m)) : OwnS w base v (l ++ m) := by
  rw [OwnS, List.length_append, cellsL_append]; exact h
theorem nth_app {a b : List SpanL} {i : Nat} (h : i < (a ++ b).length) : nth (a ++ b) i = if i < a.length then nth a i else nth b (i - a.length) := by
  simp only [nth, List.getD_eq_getElem?_getD]
  split
  · rw [List.getElem?_append_left (by assumption)]
  · rw [List.getElem?_append_right (by omega)]
theorem fitL.app {a b : List SpanL} (ha : fitL a) (hb : fitL b) : fitL (a ++ b) := by
  intro i hi
  rw [nth_app hi]
  rw [List.length_append] at hi
  split
  · exact ha i (by assumption)
  · exact hb _ (by omega)
end Go.Proofs.YtlmkglgjdmjnkaaGreatDoor
namespace Go.Proofs.YtlmkglgjdmjnkaaGreatDoor
open Go.RowKit Go.Lib
set_option linter.unusedVariables false
set_option linter.unusedSimpArgs false
theorem fitL_app {a b : List SpanL} (ha : fitL a) (hb : fitL b) : fitL (a ++ b) := ha.app hb
set_option maxRecDepth 100000 in
set_option maxHeartbeats 1000000 in
theorem rror_no (base : Nat) (A B : Option Addr) (cap cap2 : Nat) (a b : List SpanL) (w : World) (ha : Spans w A a) (hb : Spans w B b) (hfa : fitL a) (hfb : fitL b) (hln : a.length + b.length ≤ 40000) (hbase : base ≤ w.heap.size) (hno : (mayR a && mayR b) = false) : Calls Tryz.prog 138 #[.slice A a.length cap, .slice B b.length cap2] w (RowPost w base []) := by
  have hma := hid (rrowmay_any A cap a w ha hfa (by omega))
  have HB := hid hb
  have hmb := hid (fun w' (h : Spans w' B b) => rrowmay_any B cap2 b w' h hfb (by omega))
  clear ha hb hfa hfb
  cases hmay : mayR a
  · rw [hmay] at hma
    generalize a.length = n at *
    generalize b.length = p at *
    clear hno
    go_enter Tryz.func138, Tryz.ntmps138
    go_wp2_with fail
    refine hma.out.mono ?_
    rintro _ w1 ⟨rfl, hb1⟩
    go_wp2_with fail
    go_ret
    exact ⟨_, rfl, OwnS.nil _ _, hb1.mono hbase, hb1.size⟩
  · rw [hmay] at hma hno
    have hbm : mayR b = false := by simpa using hno
    rw [hbm] at hmb
    generalize a.length = n at *
    generalize b.length = p at *
    clear hno hbm
    go_enter Tryz.func138, Tryz.ntmps138
    go_wp2_with fail
    refine hma.out.mono ?_
    rintro _ w1 ⟨rfl, hb1⟩
    go_wp2_with fail
    refine (hmb.out _ (HB.out.below hb1)).mono ?_
    rintro _ w2 ⟨rfl, hb2⟩
    have hb02 := below_tr hb1 hb2
    go_wp2_with fail
    go_ret
    exact ⟨_, rfl, OwnS.nil _ _, hb02.mono hbase, hb02.size⟩
set_option maxRecDepth 100000 in
set_option maxHeartbeats 1000000 in
theorem ror_yes (base : Nat) (A B : Option Addr) (cap cap2 : Nat) (a b : List SpanL) (w : World) (ha : Spans w A a) (hb : Spans w B b) (hfa : fitL a) (hfb : fitL b) (hln : a.length + b.length ≤ 40000) (hbase : base ≤ w.heap.size) (hmay : mayR a = true ∧ mayR b = true) : Calls Tryz.prog 138 #[.slice A a.length cap, .slice B b.length cap2] w (RowPost w base (rmakeL (a ++ b)).1) := by
  have HA := hid ha
  have HB := hid hb
  have HFA := hid hfa
  have HFB := hid hfb
  have hma := hid (rrowmay_any A cap a w ha hfa (by omega))
  have hmb := hid (fun w' (h : Spans w' B b) => rrowmay_any B cap2 b w' h hfb (by omega))
  rw [hmay.1] at hma
  rw [hmay.2] at hmb
  have HSA := hid (fun w' (h : Spans w' A a) => h.src)
  have HSB2 := hid (fun w' (h : Spans w' B b) => h.src)
  have HCAT := hid (fun (w' : World) (base : Nat) (v : Value) (h : w'.ownsRow base 133 14 v (a.length + b.length) (cellsL a ++ cellsL b)) => (OwnS.cat h).spans)
  have hmk := hid (fun w' A' c' (h : Spans w' A' (a ++ b)) (hw : base ≤ w'.heap.size) => rmake_any base A' c' (a ++ b) w' h (fitL_app hfa hfb) (by rw [List.length_append]; exact hln) hw)
  generalize rmakeL (a ++ b) = r at *
  clear ha hb hfa hfb hmay
  generalize hn : a.length = n at *
  generalize hp : b.length = p at *
  have HN := hid hn
  have HP := hid hp
  clear hn hp
  have hM : maxLen = 9223372036854775807 := rfl
  go_enter Tryz.func138, Tryz.ntmps138
  go_wp2_with fail
  refine hma.out.mono ?_
  rintro _ w1 ⟨rfl, hb1⟩
  go_wp2_with fail
  refine (hmb.out _ (HB.out.below hb1)).mono ?_
  rintro _ w2 ⟨rfl, hb2⟩
  have hb02 := below_tr hb1 hb2
  clear hma hmb hb1 hb2
  go_wp2_with (first
    | (at_builtin; refine wpList_appx EKspans rfl (.const (.slice none 0 0)) (.tmp 16) rfl rfl (World.ownsRow_nil w2 w2.heap.size _ _) rfl (HSA.out _ (HA.out.below hb02)) (oneS a) (by omega) (by omega) (Nat.le_refl _) ?_; intro v3 w3 h3 hb3 _; have hb03 := below_tr hb02 hb3; have hz3 := hb3.size; simp only [Nat.zero_add, List.nil_append] at h3)
    | (at_builtin; refine wpList_appx EKspans rfl (.tmp 17) (.tmp 18) rfl rfl h3 rfl (HSB2.out _ (HB.out.below hb03)) (oneS b) (by omega) (by omega) hz3 ?_; intro v4 w4 h4 hb4 _))
  have hb24 := hb3.trans hb4
  obtain ⟨A4, c4, rfl, h5⟩ := HCAT.out _ _ _ h4
  have hb04 := below_tr hb02 hb24
  clear h3 h4 hb3 hb4 hb24 hb03 hb02 hz3 HCAT HSA HSB2
  go_wp2_with fail
  refine (hmk.out _ _ _ h5 (Nat.le_trans hbase hb04.size)).mono ?_
  rintro _ w5 ⟨v5, rfl, h6, h7, h8⟩
  have hb05 := (hb04.mono hbase).trans h7
  go_wp2_with fail
  go_ret
  exact ⟨_, rfl, h6, hb05, hb05.size⟩
end Go.Proofs.YtlmkglgjdmjnkaaGreatDoor
namespace Go.Proofs.YtlmkglgjdmjnkaaGreatDoor
open Go.RowKit Go.Lib
set_option linter.unusedVariables false
set_option linter.unusedSimpArgs false
theorem Below.setCells {B g : Nat} {a : World} (hg : B ≤ g) : ∀ (vs : List Value) (o : Nat) {w : World}, Below B a w → Below B a (w.setCells g o vs)
  | [], _, _, h => h
  | v :: vs, o, _, h => Below.setCells hg vs (o + 1) (h.setCell (p := ⟨g, o, none⟩) hg v)
theorem setCells_size (g : Nat) : ∀ (vs : List Value) (o : Nat) (w : World), (w.setCells g o vs).heap.size = w.heap.size
  | [], _, _ => rfl
  | v :: vs, o, w => by rw [World.setCells, setCells_size g vs (o + 1)]; simp [World.setCell]
theorem setCells_block (g k : Nat) (hk : k ≠ g) : ∀ (vs : List Value) (o : Nat) (w : World), (w.setCells g o vs).heap[k]? = w.heap[k]?
  | [], _, _ => rfl
  | v :: vs, o, w => by rw [World.setCells, setCells_block g k hk vs (o + 1)]; exact Go.RowKit.Below.heap_setCell w ⟨g, o, none⟩ v k hk
theorem grown_tr {a b c : World} {row : Option Nat} (h : a.grownBy b row) (k : b.grownBy c row) : a.grownBy c row :=
  ⟨k.os.trans h.os, k.tape.trans h.tape, k.output.trans h.output, Nat.le_trans h.size k.size, fun i hi hr => (k.block i (Nat.lt_of_lt_of_le hi h.size) hr).trans (h.block i hi hr)⟩
theorem Box.set {w : World} {g o : Nat} {cs vs : List Value} (h : Box w g cs) (ho : o + vs.length ≤ cs.length) : Box (w.setCells g o vs) g (cs.take o ++ vs ++ cs.drop (o + vs.length)) := by
  refine ⟨by rw [setCells_size]; exact h.1, fun j u hj => ?_⟩
  have hcell : ∀ j, j < cs.length → ∃ u, w.cell? ⟨g, j, none⟩ = some u := fun j hj => ⟨cs[j], h.2 j _ (List.getElem?_eq_getElem hj)⟩
  rcases Nat.lt_or_ge j o with h1 | h1
  · rw [World.cell?_setCells_out g vs o w ⟨g, j, none⟩ (fun _ _ => .inl h1)]
    rw [List.append_assoc, List.getElem?_append_left (by rw [List.length_take]; omega), List.getElem?_take_of_lt h1] at hj
    exact h.2 j u hj
  · have hl : (cs.take o).length = o := by rw [List.length_take]; omega
    rcases Nat.lt_or_ge j (o + vs.length) with h2 | h2
    · rw [List.getElem?_append_left (by rw [List.length_append]; omega), List.getElem?_append_right (by omega), hl] at hj
      obtain ⟨i, rfl⟩ : ∃ i, j = o + i := ⟨j - o, by omega⟩
      rw [Nat.add_sub_cancel_left] at hj
      have hi : i < vs.length := by omega
      rw [List.getElem?_eq_getElem hi] at hj
      injection hj with hj
      rw [← hj]
      exact World.cell?_setCells_in g vs o w (fun q hq => by obtain ⟨u, hu⟩ := hcell (o + q) (by omega); rw [hu]; rfl) i hi
    · rw [World.cell?_setCells_out g vs o w ⟨g, j, none⟩ (fun _ _ => .inr h2)]
      rw [List.getElem?_append_right (by rw [List.length_append]; omega), List.length_append, hl, List.getElem?_drop] at hj
      have : o + vs.length + (j - (o + vs.length)) = j := by omega
      rw [this] at hj
      exact h.2 j u hj
theorem Box.set7 {w : World} {g : Nat} {c : CutL} (d : CutL) (h : Box w g c.cells) : Box (w.setCells g 0 d.cells) g d.cells := h.set (o := 0) (vs := d.cells) (by simp)
theorem Box.block {w w' : World} {g : Nat} {cs : List Value} (h : Box w g cs) (hs : w.heap.size ≤ w'.heap.size) (hb : w'.heap[g]? = w.heap[g]?) : Box w' g cs :=
  ⟨Nat.lt_of_lt_of_le h.1 hs, fun j u hj => (World.cell?_of_block (a := ⟨g, j, none⟩) hb).trans (h.2 j u hj)⟩
theorem Box.setOther {w : World} {g k o : Nat} {cs vs : List Value} (h : Box w g cs) (hk : g ≠ k) : Box (w.setCells k o vs) g cs := h.block (Nat.le_of_eq (setCells_size k vs o w).symm) (setCells_block k g hk vs o w)
theorem Box.grown {w w' : World} {g : Nat} {cs : List Value} {row : Option Nat} (h : Box w g cs) (hg : w.grownBy w' row) (hne : some g ≠ row) : Box w' g cs := h.block hg.size (hg.block g h.1 hne)
def Soft (w : World) (g : Nat) : Prop := ∀ j, w.frozen? ⟨g, j, none⟩ = false
theorem Soft.new (w : World) (cs : Array Value) (t : TypeId) : Soft (w.alloc (.cells cs t)) w.heap.size := fun j => by
  have h : (w.alloc (.cells cs t)).heap[w.heap.size]? = some (.cells cs t) := by
    show (w.heap.push _)[w.heap.size]? = _
    simp
  simp only [World.frozen?, h]
  simp
theorem Soft.below {w w' : World} {g : Nat} (h : Soft w g) (hg : g < w.heap.size) (hb : Below w.heap.size w w') : Soft w' g := fun j => (hb.frozen (p := ⟨g, j, none⟩) hg).trans (h j)
theorem Soft.set {w : World} {g k o : Nat} {vs : List Value} (h : Soft w g) : Soft (w.setCells k o vs) g := fun j => (World.frozen?_setCells k vs o w _).trans (h j)
theorem Soft.grown {w w' : World} {g : Nat} {row : Option Nat} (h : Soft w g) (hg : w.grownBy w' row) (hlt : g < w.heap.size) (hne : some g ≠ row) : Soft w' g := fun j => (World.frozen?_of_block (a := ⟨g, j, none⟩) (hg.block g hlt hne)).trans (h j)
section
variable {P : Program} {w : World} {base size n bytes : Nat} {t e : TypeId} {v : Value} {xs : List Value}
end
end Go.Proofs.YtlmkglgjdmjnkaaGreatDoor
