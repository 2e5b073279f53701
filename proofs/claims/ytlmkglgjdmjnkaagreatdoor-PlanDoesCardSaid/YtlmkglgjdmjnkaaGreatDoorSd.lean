/- Sets of versions, in plain: rows of right cuts that agree on releases are one; what each function's result has. No program in sight. -/
import Derived.Test.YtlmkglgjdmjnkaaGreatDoorSc
import Derived.Test.YtlmkglgjdmjnkaaGreatDoorBe
import Derived.Test.YtlmkglgjdmjnkaaGreatDoorSa
namespace Go.Proofs.YtlmkglgjdmjnkaaGreatDoor
open Go.RowKit Go.Lib
set_option linter.unusedVariables false
set_option linter.unusedSimpArgs false

/-! ### a row's value at its own cuts tells the row -/
namespace Rw
theorem top_cut : ∀ (cs : List CutL) (c : CutL), (∀ d, d ∈ cs → ¬ le d c) ∨ ∃ p, p ∈ cs ∧ le p c ∧ ∀ d, d ∈ cs → le d c → le d p
  | [], c => .inl (fun d h => by cases h)
  | e :: cs, c => by
    have ih := top_cut cs c
    by_cases k : le e c
    · right
      rcases ih with n | ⟨p, hp, h1, h2⟩
      · refine ⟨e, List.mem_cons_self .., k, fun d hd hdc => ?_⟩
        rcases List.mem_cons.1 hd with rfl | hd
        · exact le.rfl' k.okl
        · exact (n d hd hdc).elim
      · rcases total (a := e) (b := p) k.okl h1.okl with a | a
        · refine ⟨p, List.mem_cons_of_mem _ hp, h1, fun d hd hdc => ?_⟩
          rcases List.mem_cons.1 hd with rfl | hd
          · exact a.le'
          · exact h2 d hd hdc
        · refine ⟨e, List.mem_cons_self .., k, fun d hd hdc => ?_⟩
          rcases List.mem_cons.1 hd with rfl | hd
          · exact le.rfl' k.okl
          · exact (h2 d hd hdc).tr a
    · rcases ih with n | ⟨p, hp, h1, h2⟩
      · exact .inl fun d hd hdc => by
          rcases List.mem_cons.1 hd with rfl | hd
          · exact k hdc
          · exact n d hd hdc
      · exact .inr ⟨p, List.mem_cons_of_mem _ hp, h1, fun d hd hdc => by
          rcases List.mem_cons.1 hd with rfl | hd
          · exact (k hdc).elim
          · exact h2 d hd hdc⟩
def cutsOf (l : List SpanL) : List CutL := l.map (fun s => s.fr) ++ l.map (fun s => s.til)
theorem cutsOf_fr {l : List SpanL} {s : SpanL} (h : s ∈ l) : s.fr ∈ cutsOf l := List.mem_append.2 (.inl (List.mem_map.2 ⟨s, h, rfl⟩))
theorem cutsOf_til {l : List SpanL} {s : SpanL} (h : s ∈ l) : s.til ∈ cutsOf l := List.mem_append.2 (.inr (List.mem_map.2 ⟨s, h, rfl⟩))
theorem mem_cutsOf {l : List SpanL} {x : CutL} : x ∈ cutsOf l ↔ ∃ s, s ∈ l ∧ (x = s.fr ∨ x = s.til) := by
  rw [cutsOf, List.mem_append, List.mem_map, List.mem_map]
  constructor
  · rintro (⟨s, h, rfl⟩ | ⟨s, h, rfl⟩)
    · exact ⟨s, h, .inl rfl⟩
    · exact ⟨s, h, .inr rfl⟩
  · rintro ⟨s, h, rfl | rfl⟩
    · exact .inl ⟨s, h, rfl⟩
    · exact .inr ⟨s, h, rfl⟩
theorem cutsOf_may {l : List SpanL} (hl : Val l) {x : CutL} (h : x ∈ cutsOf l) : mayC x = true := by
  obtain ⟨s, hs, rfl | rfl⟩ := mem_cutsOf.1 h
  · exact (hl.span s hs).okl
  · exact (hl.span s hs).okr
theorem mem_move {l : List SpanL} {c p : CutL} (hl : Val l) (hp : le p c) (h : ∀ d, d ∈ cutsOf l → le d c → le d p) : mem l c ↔ mem l p := by
  constructor
  · rintro ⟨s, hs, h1, h2⟩
    exact ⟨s, hs, h _ (cutsOf_fr hs) h1, hp.tr_lt h2⟩
  · rintro ⟨s, hs, h1, h2⟩
    refine ⟨s, hs, h1.tr hp, ?_⟩
    refine lt_of_not_le hp.okr h2.okr fun k => h2.not_le (h _ (cutsOf_til hs) k)
theorem ext_at {l m : List SpanL} (hl : Val l) (hm : Val m) (h : ∀ c, (c ∈ cutsOf l ∨ c ∈ cutsOf m) → (mem l c ↔ mem m c)) : l = m := Val.ext l m hl hm fun c => by
  rcases top_cut (cutsOf l ++ cutsOf m) c with n | ⟨p, hp, h1, h2⟩
  · constructor
    · rintro ⟨s, hs, a, _⟩
      exact (n _ (List.mem_append.2 (.inl (cutsOf_fr hs))) a).elim
    · rintro ⟨s, hs, a, _⟩
      exact (n _ (List.mem_append.2 (.inr (cutsOf_fr hs))) a).elim
  · rw [mem_move hl h1 fun d hd => h2 d (List.mem_append.2 (.inl hd)), mem_move hm h1 fun d hd => h2 d (List.mem_append.2 (.inr hd))]
    exact h p (List.mem_append.1 hp)

/-! ### rows of right cuts -/
def RelR (l : List SpanL) : Prop := ∀ s, s ∈ l → rightC s.fr = true ∧ rightC s.til = true
theorem RelR.nil : RelR [] := fun s h => by cases h
theorem RelR.cut {l : List SpanL} (h : RelR l) {c : CutL} (hc : c ∈ cutsOf l) : rightC c = true := by
  obtain ⟨s, hs, rfl | rfl⟩ := mem_cutsOf.1 hc
  · exact (h s hs).1
  · exact (h s hs).2
theorem right_cases {c : CutL} (h : mayC c = true) (hr : rightC c = true) : c = firstC ∨ c = lastC ∨ (c = befC c.v ∧ isRel c.v ∧ bts c.v.bld = [] ∧ leastV c.v = false ∧ c.en = 0) := by
  rcases mayC_cases h with ⟨h0, hv, hb⟩ | ⟨h0, h1, h2⟩
  · right; right
    simp only [rightC, h0, ne_eq, not_true_eq_false, decide_false, Bool.false_or, Bool.and_eq_true, Bool.not_eq_true', List.isEmpty_iff] at hr
    refine ⟨cut_ext h0 ?_ hr.1.1, ⟨hv, hr.1.2⟩, hb, hr.2, h0⟩
    exact (ver_ext rfl rfl rfl rfl (by rw [hb]; exact bts_e.symm))
  · rcases h0 with h0 | h0
    · exact .inl (cut_ext h0 h1 h2)
    · exact .inr (.inl (cut_ext h0 h1 h2))
theorem zero_isRel : isRel zeroV := ⟨rel_ok ⟨by omega, by omega, by omega⟩, bts_e⟩
theorem bef_le_bef {v w : Ver} (hv : mayV v = true) (hw : mayV w = true) : le (befC v) (befC w) ↔ cmpV v w ≤ 0 := by
  rw [le_bef (befC_may hv) rfl hw, show (befC v).v = bareV v from rfl, show (befC v).aft = false from rfl]
  have e : cmpV (bareV v) w = cmpV v w := by
    rw [cmpV_ok (bare_may hv) hw, cmpV_ok hv hw]; rfl
  rw [e]
  constructor
  · rintro (h | h) <;> omega
  · intro h
    by_cases k : cmpV v w = 0
    · exact .inr ⟨k, rfl⟩
    · exact .inl (by omega)
theorem right_zero {c : CutL} (h : mayC c = true) (hr : rightC c = true) : le c firstC ↔ le c (befC zeroV) := by
  have hf : le firstC (befC zeroV) := first_le (befC_may zero_isRel.1)
  refine ⟨fun k => k.tr hf, fun k => ?_⟩
  rcases right_cases h hr with e | e | ⟨e, hv, hb, hl, _⟩
  · rw [e]; exact le.rfl' first_may
  · rw [e] at k
    exact ((bef_inU zero_isRel.1 (bef_ne _)).2.not_le k).elim
  · rw [e, bef_le_bef hv.1 zero_isRel.1, cmpV_rel hv.1 zero_isRel hv.2] at k
    have hb := nums hv.1
    have h1 := @cmpNum_lt c.v zeroV
    have h2 := @cmpNum_zero c.v zeroV
    rw [Bool.eq_false_iff, Ne, least_iff] at hl
    have z1 : zeroV.maj = 0 := rfl
    have z2 : zeroV.min = 0 := rfl
    have z3 : zeroV.pat = 0 := rfl
    omega
theorem first_zero {l : List SpanL} (hl : Val l) (hr : RelR l) : mem l firstC ↔ mem l (befC zeroV) := by
  have hf : le firstC (befC zeroV) := first_le (befC_may zero_isRel.1)
  exact (mem_move hl hf fun d hd => (right_zero (cutsOf_may hl hd) (hr.cut hd)).2).symm
theorem not_mem_last (l : List SpanL) : ¬ mem l lastC := by
  rintro ⟨s, _, _, h⟩
  exact h.not_le (le_last h.okr)
theorem rel_ext_at {l m : List SpanL} (hl : Val l) (hm : Val m) (rl : RelR l) (rm : RelR m) (h0 : mem l (befC zeroV) ↔ mem m (befC zeroV))
    (h : ∀ c, (c ∈ cutsOf l ∨ c ∈ cutsOf m) → c.en = 0 → isRel c.v → (mem l (befC c.v) ↔ mem m (befC c.v))) : l = m := ext_at hl hm fun c hc => by
  have hmay : mayC c = true ∧ rightC c = true := by
    rcases hc with hc | hc
    · exact ⟨cutsOf_may hl hc, rl.cut hc⟩
    · exact ⟨cutsOf_may hm hc, rm.cut hc⟩
  rcases right_cases hmay.1 hmay.2 with e | e | ⟨e, hv, _, _, h1⟩
  · rw [e, first_zero hl rl, first_zero hm rm]; exact h0
  · rw [e]; exact ⟨fun k => (not_mem_last _ k).elim, fun k => (not_mem_last _ k).elim⟩
  · rw [e]; exact h c hc h1 hv
theorem rel_ext {l m : List SpanL} (hl : Val l) (hm : Val m) (rl : RelR l) (rm : RelR m) (h : ∀ w, isRel w → (mem l (befC w) ↔ mem m (befC w))) : l = m :=
  rel_ext_at hl hm rl rm (h _ zero_isRel) fun c _ _ hv => h _ hv

/-! ### results of right cuts -/
theorem growR_cuts {P : CutL → Prop} {l : List SpanL} {f t : CutL} (hl : ∀ s, s ∈ l → P s.fr ∧ P s.til) (hf : P f) (ht : P t) : ∀ s, s ∈ growR l f t → P s.fr ∧ P s.til := by
  intro s hs
  rcases List.eq_nil_or_concat l with rfl | ⟨m, q, rfl⟩
  · simp only [growR, List.getLast?_nil, List.mem_singleton] at hs
    subst hs; exact ⟨hf, ht⟩
  · rw [List.concat_eq_append] at hl hs
    simp only [growR, List.getLast?_append, List.getLast?_singleton, Option.some_or, List.dropLast_concat] at hs
    split at hs
    · rcases List.mem_append.1 hs with hs | hs
      · exact hl s (List.mem_append.2 (.inl hs))
      · rw [List.mem_singleton] at hs; subst hs
        exact ⟨(hl q (by simp)).1, ht⟩
    · rcases List.mem_append.1 hs with hs | hs
      · exact hl s hs
      · rw [List.mem_singleton] at hs; subst hs
        exact ⟨hf, ht⟩
theorem growTo_cuts {P : CutL → Prop} {c : List CutL} (hc : ∀ x, x ∈ c → P x) (p : CutL → CutL → Bool) : ∀ k, k < c.length → ∀ s, s ∈ growTo c p k → P s.fr ∧ P s.til
  | 0, _ => fun s h => by cases h
  | k + 1, hk => fun s hs => by
    have ih := growTo_cuts hc p k (by omega)
    unfold growTo at hs
    split at hs
    · exact growR_cuts ih (hc _ (by rw [nthC_lt (by omega)]; exact List.getElem_mem _)) (hc _ (by rw [nthC_lt hk]; exact List.getElem_mem _)) s hs
    · exact ih s hs
theorem cuts_right {l : List SpanL} (hl : ∀ s, s ∈ l → lt s.fr s.til) (hr : RelR l) (p : CutL → CutL → Bool) : RelR (growAll (cutsL l) p) := by
  have h := (cutsL_rise hl).2
  have h0 : 0 < (cutsL l).length := cuts_pos ((h firstC).2 (.inl (.inl rfl)))
  refine growTo_cuts (P := fun x => rightC x = true) (fun x hx => ?_) p _ (by omega)
  rcases (h x).1 hx with (rfl | rfl) | ⟨s, hs, rfl | rfl⟩
  · rfl
  · rfl
  · exact (hr s hs).1
  · exact (hr s hs).2
variable {a b : List SpanL}
theorem RelR.app (ha : RelR a) (hb : RelR b) : RelR (a ++ b) := fun s hs => by
  rcases List.mem_append.1 hs with h | h
  · exact ha s h
  · exact hb s h
theorem r_make (hl : ∀ s, s ∈ a → lt s.fr s.til) (ha : RelR a) : RelR (rmakeL a).1 := by
  rw [rmakeL, if_pos (all_may.2 hl)]
  exact cuts_right hl ha _
theorem r_or (ha : Val a) (hb : Val b) (ra : RelR a) (rb : RelR b) : RelR (rorL a b) := by
  rw [rorL, if_pos (by rw [mayR_val.2 ha, mayR_val.2 hb]; rfl)]
  exact r_make (app_span ha hb) (ra.app rb)
theorem r_and (ha : Val a) (hb : Val b) (ra : RelR a) (rb : RelR b) : RelR (randL a b) := by
  rw [randL, if_pos (by rw [mayR_val.2 ha, mayR_val.2 hb]; rfl)]
  exact cuts_right (app_span ha hb) (ra.app rb) _
theorem r_not (ha : Val a) (ra : RelR a) : RelR (rnotL a) := by
  rw [rnotL, if_pos (mayR_val.2 ha)]
  exact cuts_right ha.span ra _
/-! ### more laws of rows -/
theorem minus_or (ha : Val a) (hb : Val b) : rorL (randL a (rnotL b)) (randL a b) = a := Val.ext _ _ (v_or (v_and ha (v_not hb)) (v_and ha hb)) ha fun x => by
  rw [m_or (v_and ha (v_not hb)) (v_and ha hb), m_and ha (v_not hb), m_and ha hb, m_not hb]
  by_cases h : mem a x
  · have := h.inU
    by_cases k : mem b x <;> simp [h, k, this]
  · simp [h]
theorem and_nil_iff (ha : Val a) (hb : Val b) : randL a b = [] ↔ ∀ x, ¬ (mem a x ∧ mem b x) := by
  rw [nil_iff (v_and ha hb)]
  constructor
  · intro h x k; exact h x ((m_and ha hb x).2 k)
  · intro h x k; exact h x ((m_and ha hb x).1 k)
theorem minus_apart (ha : Val a) (hb : Val b) : randL (randL a (rnotL b)) b = [] := (and_nil_iff (v_and ha (v_not hb)) hb).2 fun x k => by
  rw [m_and ha (v_not hb), m_not hb] at k
  exact k.1.2.2 k.2
theorem not_apart (ha : Val a) : randL a (rnotL a) = [] := (and_nil_iff ha (v_not ha)).2 fun x k => ((m_not ha x).1 k.2).2 k.1
theorem within_minus (ha : Val a) (hb : Val b) : withinR a b = sameR (randL a (rnotL b)) [] := by
  rw [within_not ha hb, Bool.eq_iff_iff, sameR_iff, beq_iff_eq]
  constructor
  · intro h; exact List.eq_nil_of_length_eq_zero (by omega)
  · intro h; rw [h]; rfl
theorem apart_within (ha : Val a) (hb : Val b) : sameR (randL a b) [] = withinR a (rnotL b) := by
  rw [Bool.eq_iff_iff, sameR_iff, and_nil_iff ha hb, within_iff ha (v_not hb)]
  constructor
  · intro h x k; exact (m_not hb x).2 ⟨k.inU, fun j => h x ⟨k, j⟩⟩
  · intro h x k; exact ((m_not hb x).1 (h x k.1)).2 k.2
theorem de_morgan2 (ha : Val a) (hb : Val b) : rnotL (randL a b) = rorL (rnotL a) (rnotL b) := Val.ext _ _ (v_not (v_and ha hb)) (v_or (v_not ha) (v_not hb)) fun x => by
  rw [m_not (v_and ha hb), m_and ha hb, m_or (v_not ha) (v_not hb), m_not ha, m_not hb]
  by_cases h : mem a x <;> by_cases h2 : mem b x <;> by_cases k : inU x <;> simp [h, h2, k]
theorem whole_lt : lt firstC lastC := ⟨first_may, last_may, cmpC_ends⟩
theorem whole_val : Val wholeL := by
  have := Val.snoc [] ⟨firstC, lastC⟩ True.intro whole_lt (fun t h => by cases h)
  exact this
theorem whole_mem (x : CutL) : mem wholeL x ↔ inU x := by
  rw [wholeL, mem_cons]
  constructor
  · rintro (h | h)
    · exact h
    · exact (mem_nil h).elim
  · exact .inl
theorem whole_right : RelR wholeL := fun s hs => by
  rw [wholeL, List.mem_singleton] at hs; subst hs; exact ⟨rfl, rfl⟩
theorem and_whole (ha : Val a) : randL a wholeL = a := Val.ext _ _ (v_and ha whole_val) ha fun x => by
  rw [m_and ha whole_val, whole_mem]
  exact ⟨fun h => h.1, fun h => ⟨h, h.inU⟩⟩
theorem nil_val : Val [] := True.intro
theorem or_nil (ha : Val a) : rorL a [] = a := Val.ext _ _ (v_or ha nil_val) ha fun x => by
  rw [m_or ha nil_val]
  exact ⟨fun h => h.resolve_right mem_nil, .inl⟩
theorem and_nil (ha : Val a) : randL a [] = [] := (and_nil_iff ha nil_val).2 fun x k => mem_nil k.2
theorem nil_and (ha : Val a) : randL [] a = [] := (and_nil_iff nil_val ha).2 fun x k => mem_nil k.1
theorem not_whole : rnotL wholeL = [] := (nil_iff (v_not whole_val)).2 fun x k => by
  rw [m_not whole_val, whole_mem] at k
  exact k.2 k.1
theorem not_nil : rnotL [] = wholeL := Val.ext _ _ (v_not nil_val) whole_val fun x => by
  rw [m_not nil_val, whole_mem]
  exact ⟨fun h => h.1, fun h => ⟨h, mem_nil⟩⟩
theorem nil_within (ha : Val a) : withinR [] a = true := (within_iff nil_val ha).2 fun x k => (mem_nil k).elim
theorem within_whole (ha : Val a) : withinR a wholeL = true := (within_iff ha whole_val).2 fun x k => (whole_mem x).2 k.inU
theorem make_self (ha : Val a) : (rmakeL a).1 = a := Val.ext _ _ (make_spec ha.span).2.1 ha (make_spec ha.span).2.2
end Rw
open Rw
set_option linter.unusedVariables false
set_option linter.unusedSimpArgs false

/-! ### sets -/
structure ValS (l m : List SpanL) : Prop where
  rel : Val l
  right : RelR l
  pre : Val m
theorem settledR_right {l : List SpanL} (h : Val l) : settledR l = true ↔ RelR l := by
  rw [settledR, List.all_eq_true]
  constructor
  · intro k s hs
    have := k s hs
    rw [settledS, Bool.and_eq_true, settled_right (h.span s hs).okl, settled_right (h.span s hs).okr] at this
    exact this
  · intro k s hs
    rw [settledS, Bool.and_eq_true, settled_right (h.span s hs).okl, settled_right (h.span s hs).okr]
    exact k s hs
theorem mayS_val {l m : List SpanL} : mayS l m = true ↔ ValS l m := by
  rw [mayS, Bool.and_eq_true, Bool.and_eq_true, mayR_val, mayR_val]
  constructor
  · rintro ⟨⟨h1, h2⟩, h3⟩; exact ⟨h2, (settledR_right h2).1 h1, h3⟩
  · rintro ⟨h1, h2, h3⟩; exact ⟨⟨(settledR_right h1).2 h2, h1⟩, h3⟩
theorem ValS.ok {l m : List SpanL} (h : ValS l m) : mayS l m = true := mayS_val.2 h
theorem ValS.nil : ValS [] [] := ⟨nil_val, RelR.nil, nil_val⟩
theorem ValS.whole : ValS wholeL wholeL := ⟨whole_val, whole_right, whole_val⟩
variable {l m p q : List SpanL}
theorem notS_val (h : ValS l m) : notS l m = (rnotL l, rnotL m) := by rw [notS, h.ok]; rfl
theorem andS_val (h : ValS l m) (k : ValS p q) : andS l m p q = (randL l p, randL m q) := by rw [andS, h.ok, k.ok]; rfl
theorem orS_val (h : ValS l m) (k : ValS p q) : orS l m p q = (rorL l p, rorL m q) := by rw [orS, h.ok, k.ok]; rfl
theorem minusS_val (h : ValS l m) (k : ValS p q) : minusS l m p q = (randL l (rnotL p), randL m (rnotL q)) := by rw [minusS, h.ok, k.ok]; rfl
theorem withinS_val (h : ValS l m) (k : ValS p q) : withinS l m p q = (withinR l p && withinR m q) := by rw [withinS, h.ok, k.ok]; rfl
theorem apartS_val (h : ValS l m) (k : ValS p q) : apartS l m p q = (sameR (randL l p) [] && sameR (randL m q) []) := by rw [apartS, andS_val h k, h.ok, k.ok]; rfl
theorem ValS.not (h : ValS l m) : ValS (rnotL l) (rnotL m) := ⟨v_not h.rel, r_not h.rel h.right, v_not h.pre⟩
theorem ValS.and (h : ValS l m) (k : ValS p q) : ValS (randL l p) (randL m q) := ⟨v_and h.rel k.rel, r_and h.rel k.rel h.right k.right, v_and h.pre k.pre⟩
theorem ValS.or (h : ValS l m) (k : ValS p q) : ValS (rorL l p) (rorL m q) := ⟨v_or h.rel k.rel, r_or h.rel k.rel h.right k.right, v_or h.pre k.pre⟩
theorem ValS.minus (h : ValS l m) (k : ValS p q) : ValS (randL l (rnotL p)) (randL m (rnotL q)) := h.and k.not
theorem ValS.notS (h : ValS l m) : ValS (notS l m).1 (notS l m).2 := by rw [notS_val h]; exact h.not
theorem ValS.andS (h : ValS l m) (k : ValS p q) : ValS (andS l m p q).1 (andS l m p q).2 := by rw [andS_val h k]; exact h.and k
theorem ValS.orS (h : ValS l m) (k : ValS p q) : ValS (orS l m p q).1 (orS l m p q).2 := by rw [orS_val h k]; exact h.or k
theorem ValS.minusS (h : ValS l m) (k : ValS p q) : ValS (minusS l m p q).1 (minusS l m p q).2 := by rw [minusS_val h k]; exact h.minus k
/-- the row that a version is sought in -/
def sideS (l m : List SpanL) (v : Ver) : List SpanL := if (bts v.pre).isEmpty then l else m
theorem hasS_val (h : ValS l m) {v : Ver} (hv : mayV v = true) : hasS l m v = hasR (sideS l m v) v := by
  rw [hasS, h.ok, hv, sideS]
  cases (bts v.pre).isEmpty <;> rfl
theorem side_val (h : ValS l m) (v : Ver) : Val (sideS l m v) := by unfold sideS; split; exact h.rel; exact h.pre
theorem hasS_mem (h : ValS l m) {v : Ver} (hv : mayV v = true) : hasS l m v = true ↔ mem (sideS l m v) (befC v) := by rw [hasS_val h hv, has_iff (side_val h v) hv]
theorem has_notS (h : ValS l m) {v : Ver} (hv : mayV v = true) : hasS (notS l m).1 (notS l m).2 v = !hasS l m v := by
  rw [notS_val h, hasS_val h.not hv, hasS_val h hv, sideS, sideS]
  split
  · exact has_not h.rel hv
  · exact has_not h.pre hv
theorem has_andS (h : ValS l m) (k : ValS p q) {v : Ver} (hv : mayV v = true) : hasS (andS l m p q).1 (andS l m p q).2 v = (hasS l m v && hasS p q v) := by
  rw [andS_val h k, hasS_val (h.and k) hv, hasS_val h hv, hasS_val k hv, sideS, sideS, sideS]
  split
  · exact has_and h.rel k.rel hv
  · exact has_and h.pre k.pre hv
theorem has_orS (h : ValS l m) (k : ValS p q) {v : Ver} (hv : mayV v = true) : hasS (orS l m p q).1 (orS l m p q).2 v = (hasS l m v || hasS p q v) := by
  rw [orS_val h k, hasS_val (h.or k) hv, hasS_val h hv, hasS_val k hv, sideS, sideS, sideS]
  split
  · exact has_or h.rel k.rel hv
  · exact has_or h.pre k.pre hv
theorem has_minusS (h : ValS l m) (k : ValS p q) {v : Ver} (hv : mayV v = true) : hasS (minusS l m p q).1 (minusS l m p q).2 v = (hasS l m v && !hasS p q v) := by
  rw [minusS_val h k, hasS_val (h.minus k) hv, hasS_val h hv, hasS_val k hv, sideS, sideS, sideS]
  split
  · rw [has_and h.rel (v_not k.rel) hv, has_not k.rel hv]
  · rw [has_and h.pre (v_not k.pre) hv, has_not k.pre hv]
theorem within_has (h : ValS l m) (k : ValS p q) {v : Ver} (hv : mayV v = true) (hw : withinS l m p q = true) (hh : hasS l m v = true) : hasS p q v = true := by
  rw [withinS_val h k, Bool.and_eq_true, Rw.within_iff h.rel k.rel, Rw.within_iff h.pre k.pre] at hw
  rw [hasS_mem h hv, sideS] at hh
  rw [hasS_mem k hv, sideS]
  split at hh
  · rename_i e; rw [if_pos e]; exact hw.1 _ hh
  · rename_i e; rw [if_neg e]; exact hw.2 _ hh
theorem apart_has (h : ValS l m) (k : ValS p q) {v : Ver} (hv : mayV v = true) (hw : apartS l m p q = true) : (hasS l m v && hasS p q v) = false := by
  rw [← has_andS h k hv, andS_val h k]
  rw [apartS_val h k, Bool.and_eq_true, sameR_iff, sameR_iff] at hw
  rw [hw.1, hw.2, Bool.eq_false_iff]
  intro j
  rw [hasS_mem ValS.nil hv, sideS] at j
  split at j <;> exact mem_nil j
theorem all_has {v : Ver} (hv : mayV v = true) : hasS wholeL wholeL v = true := by
  rw [hasS_mem ValS.whole hv, sideS, ite_self, whole_mem]
  exact bef_inU hv (bef_ne v)
theorem none_has {v : Ver} : hasS [] [] v = false := by
  rw [Bool.eq_false_iff]
  intro j
  by_cases hv : mayV v = true
  · rw [hasS_mem ValS.nil hv, sideS] at j
    split at j <;> exact mem_nil j
  · rw [hasS] at j
    simp [hv] at j
theorem sameS_iff : sameS l m p q = true ↔ l = p ∧ m = q := by rw [sameS, Bool.and_eq_true, sameR_iff, sameR_iff]
theorem sameS_self : sameS l m l m = true := sameS_iff.2 ⟨rfl, rfl⟩

/-! ### Exact -/
def onlyS (v : Ver) : SpanL := ⟨⟨0, bareV v, false⟩, ⟨0, bareV v, true⟩⟩
theorem aft_may {v : Ver} (h : mayV v = true) : mayC ⟨0, bareV v, true⟩ = true := by
  rw [mayC_zero rfl, bare_may h, show bts (bareV v).bld = [] from bts_e]; rfl
theorem onlyS_lt {v : Ver} (h : mayV v = true) : lt (onlyS v).fr (onlyS v).til := ⟨befC_may h, aft_may h, by
  rw [show (onlyS v).fr = ⟨0, bareV v, false⟩ from rfl, show (onlyS v).til = ⟨0, bareV v, true⟩ from rfl, cmpC_in (show mayC ⟨0, bareV v, false⟩ = true from befC_may h) (aft_may h) rfl rfl, cmpA_lt]
  exact .inr ⟨cmpV_self (bare_may h), rfl, rfl⟩⟩
theorem bare_left {v w : Ver} (hv : mayV v = true) (hw : mayV w = true) : cmpV (bareV v) w = cmpV v w := by
  rw [cmpV_ok (bare_may hv) hw, cmpV_ok hv hw]; rfl
theorem one_has {v w : Ver} (hv : mayV v = true) (hw : mayV w = true) : (le (onlyS v).fr (befC w) ∧ lt (befC w) (onlyS v).til) ↔ cmpV v w = 0 := by
  have h1 := le_bef (c := (onlyS v).fr) (befC_may hv) rfl hw
  have h2 := le_bef (c := (onlyS v).til) (aft_may hv) rfl hw
  rw [show (onlyS v).fr.v = bareV v from rfl, bare_left hv hw, show (onlyS v).fr.aft = false from rfl] at h1
  rw [show (onlyS v).til.v = bareV v from rfl, bare_left hv hw, show (onlyS v).til.aft = true from rfl] at h2
  have h3 : lt (befC w) (onlyS v).til ↔ ¬ le (onlyS v).til (befC w) := ⟨fun k j => k.not_le j, fun k => lt_of_not_le (befC_may hw) (aft_may hv) k⟩
  rw [h3, h1, h2]
  constructor
  · rintro ⟨h | h, k⟩
    · exact (k (.inl h)).elim
    · exact h.1
  · intro h
    exact ⟨.inr ⟨h, rfl⟩, fun k => by
      rcases k with k | k
      · omega
      · exact absurd k.2 (by simp)⟩
theorem exact_rel {v : Ver} (hv : mayV v = true) (hp : bts v.pre = []) : exactS v = ([⟨turnedL (onlyS v).fr, turnedL (onlyS v).til⟩], []) := by
  rw [exactS, if_neg (by simp [hv]), if_pos (by simp [hp])]
  have e1 : turnedL (onlyS v).fr = aheadR v := by
    rw [turnedL, if_neg (by simp [onlyS])]; rfl
  have e2 : turnedL (onlyS v).til = uptoL (relV v) := by
    rw [turnedL, if_neg (by simp [onlyS]), if_pos (by simp [onlyS, bareV, hp])]; rfl
  rw [e1, e2]
theorem exact_pre {v : Ver} (hv : mayV v = true) (hp : bts v.pre ≠ []) : exactS v = ([], [onlyS v]) := by
  rw [exactS, if_neg (by simp [hv]), if_neg (by simp [hp])]; rfl
theorem turned_in {c : CutL} {w : Ver} (hc : mayC c = true) (hw : isRel w) : lt (befC w) (turnedL c) ↔ lt (befC w) c := by
  have h1 : lt (befC w) (turnedL c) ↔ ¬ le (turnedL c) (befC w) := ⟨fun k j => k.not_le j, fun k => lt_of_not_le (befC_may hw.1) (turned_may hc).1 k⟩
  have h2 : lt (befC w) c ↔ ¬ le c (befC w) := ⟨fun k j => k.not_le j, fun k => lt_of_not_le (befC_may hw.1) hc k⟩
  rw [h1, h2, turned_le hc hw]
theorem one_mem {s : SpanL} {x : CutL} : mem [s] x ↔ le s.fr x ∧ lt x s.til := by
  rw [mem_cons]
  exact ⟨fun h => h.resolve_right mem_nil, .inl⟩
theorem turned_one {v w : Ver} (hv : mayV v = true) (hw : isRel w) : mem [⟨turnedL (onlyS v).fr, turnedL (onlyS v).til⟩] (befC w) ↔ cmpV v w = 0 := by
  rw [one_mem]
  exact (and_congr (turned_le (befC_may hv) hw) (turned_in (aft_may hv) hw)).trans (one_has hv hw.1)
theorem one_val {s : SpanL} (h : lt s.fr s.til) : Val [s] := Val.snoc [] s True.intro h (fun t h => by cases h)
theorem exact_lt {v : Ver} (hv : mayV v = true) (hp : bts v.pre = []) : lt (turnedL (onlyS v).fr) (turnedL (onlyS v).til) := by
  have hr : isRel v := ⟨hv, hp⟩
  have h := (one_has hv hv).2 (cmpV_self hv)
  exact ((turned_le (befC_may hv) hr).2 h.1).tr_lt ((turned_in (aft_may hv) hr).2 h.2)
theorem exact_val {v : Ver} (hv : mayV v = true) : ValS (exactS v).1 (exactS v).2 := by
  by_cases hp : bts v.pre = []
  · rw [exact_rel hv hp]
    refine ⟨one_val (exact_lt hv hp), fun s hs => ?_, nil_val⟩
    rw [List.mem_singleton] at hs; subst hs
    exact ⟨(turned_may (befC_may hv)).2, (turned_may (aft_may hv)).2⟩
  · rw [exact_pre hv hp]
    exact ⟨nil_val, RelR.nil, one_val (onlyS_lt hv)⟩
theorem pre_of_zero {v w : Ver} (hv : mayV v = true) (hw : mayV w = true) (h : cmpV v w = 0) : bts v.pre = bts w.pre := ((cmpV_zero hv hw).1 h).2.2.2
theorem exact_has {v w : Ver} (hv : mayV v = true) (hw : mayV w = true) : hasS (exactS v).1 (exactS v).2 w = (cmpV v w == 0) := by
  rw [Bool.eq_iff_iff, hasS_mem (exact_val hv) hw, beq_iff_eq, sideS]
  by_cases hp : bts v.pre = []
  · rw [exact_rel hv hp]
    by_cases hq : bts w.pre = []
    · have hr : isRel w := ⟨hw, hq⟩
      rw [if_pos (by simp [hq])]
      exact turned_one hv hr
    · rw [if_neg (by simp [hq])]
      exact ⟨fun k => (mem_nil k).elim, fun k => absurd ((pre_of_zero hv hw k).symm.trans hp) hq⟩
  · rw [exact_pre hv hp]
    by_cases hq : bts w.pre = []
    · rw [if_pos (by simp [hq])]
      exact ⟨fun k => (mem_nil k).elim, fun k => absurd ((pre_of_zero hv hw k).trans hq) hp⟩
    · rw [if_neg (by simp [hq]), one_mem]
      exact one_has hv hw
theorem exact_congr {v w : Ver} (hv : mayV v = true) (hw : mayV w = true) (h : cmpV v w = 0) : exactS v = exactS w := by
  obtain ⟨h1, h2, h3, h4⟩ := (cmpV_zero hv hw).1 h
  have e : bareV v = bareV w := ver_ext h1 h2 h3 h4 rfl
  have eo : onlyS v = onlyS w := by rw [onlyS, e]; rfl
  by_cases hp : bts v.pre = []
  · rw [exact_rel hv hp, exact_rel hw (h4 ▸ hp), eo]
  · rw [exact_pre hv hp, exact_pre hw (h4 ▸ hp), eo]
theorem exact_same {v w : Ver} (hv : mayV v = true) (hw : mayV w = true) : sameS (exactS v).1 (exactS v).2 (exactS w).1 (exactS w).2 = (cmpV v w == 0) := by
  rw [Bool.eq_iff_iff, sameS_iff, beq_iff_eq]
  constructor
  · rintro ⟨h1, h2⟩
    have := exact_has hw hw
    rw [cmpV_self hw, ← h1, ← h2, exact_has hv hw] at this
    simpa using this
  · intro h; rw [exact_congr hv hw h]; exact ⟨rfl, rfl⟩
theorem exact_apart {v w : Ver} (hv : mayV v = true) (hw : mayV w = true) : apartS (exactS v).1 (exactS v).2 (exactS w).1 (exactS w).2 = !(cmpV v w == 0) := by
  have hA := exact_val hv
  have hB := exact_val hw
  by_cases h : cmpV v w = 0
  · rw [h]
    have e : (!((0 : Int) == 0)) = false := rfl
    rw [e, Bool.eq_false_iff]
    intro k
    have := apart_has hA hB hw k
    rw [exact_has hv hw, exact_has hw hw, cmpV_self hw, h] at this
    cases this
  · have e : (!(cmpV v w == 0)) = true := by simp [h]
    rw [e, apartS_val hA hB, Bool.and_eq_true, sameR_iff, sameR_iff]
    by_cases hp : bts v.pre = []
    · rw [exact_rel hv hp] at hA ⊢
      by_cases hq : bts w.pre = []
      · rw [exact_rel hw hq] at hB ⊢
        refine ⟨?_, and_nil nil_val⟩
        refine rel_ext (v_and hA.rel hB.rel) nil_val (r_and hA.rel hB.rel hA.right hB.right) RelR.nil fun u hu => ?_
        rw [m_and hA.rel hB.rel]
        constructor
        · rintro ⟨a, b⟩
          have a := (turned_one hv hu).1 a
          have b := (turned_one hw hu).1 b
          rw [← cmpV_eq_right hw hu.1 hv b] at a
          exact (h a).elim
        · exact fun k => (mem_nil k).elim
      · rw [exact_pre hw hq] at hB ⊢
        exact ⟨and_nil hA.rel, nil_and hB.pre⟩
    · rw [exact_pre hv hp] at hA ⊢
      by_cases hq : bts w.pre = []
      · rw [exact_rel hw hq] at hB ⊢
        exact ⟨nil_and hB.rel, and_nil hA.pre⟩
      · rw [exact_pre hw hq] at hB ⊢
        refine ⟨and_nil nil_val, (and_nil_iff hA.pre hB.pre).2 fun x k => ?_⟩
        rw [one_mem, one_mem] at k
        have key : ∀ {a b : Ver}, mayV a = true → mayV b = true → cmpV a b < 0 → le (onlyS a).til (onlyS b).fr := fun ha hb j =>
          (le_bef (aft_may ha) rfl hb).2 (.inl (by show cmpV (bareV _) _ < 0; rw [bare_left ha hb]; exact j))
        rcases Int.lt_or_gt_of_ne h with j | j
        · exact k.1.2.not_le ((key hv hw j).tr k.2.1)
        · have : cmpV w v < 0 := (cmpV_anti hw hv).2 j
          exact k.2.2.not_le ((key hw hv this).tr k.1.1)

/-! ### laws of sets -/
theorem ends_and (h : ValS l m) : sameS (andS l m wholeL wholeL).1 (andS l m wholeL wholeL).2 l m = true := by rw [andS_val h ValS.whole, and_whole h.rel, and_whole h.pre]; exact sameS_self
theorem ends_or (h : ValS l m) : sameS (orS l m [] []).1 (orS l m [] []).2 l m = true := by rw [orS_val h ValS.nil, or_nil h.rel, or_nil h.pre]; exact sameS_self
theorem ends_not : notS wholeL wholeL = ([], []) := by rw [notS_val ValS.whole, not_whole]
theorem ends_not2 : notS [] [] = (wholeL, wholeL) := by rw [notS_val ValS.nil, not_nil]
theorem ends_none (h : ValS l m) : withinS [] [] l m = true := by rw [withinS_val ValS.nil h, nil_within h.rel, nil_within h.pre]; rfl
theorem ends_all (h : ValS l m) : withinS l m wholeL wholeL = true := by rw [withinS_val h ValS.whole, within_whole h.rel, within_whole h.pre]; rfl
theorem ends_apart (h : ValS l m) : apartS l m [] [] = true := by rw [apartS_val h ValS.nil, and_nil h.rel, and_nil h.pre]; rfl
theorem apart_not (h : ValS l m) : apartS l m (notS l m).1 (notS l m).2 = true := by rw [notS_val h, apartS_val h h.not, not_apart h.rel, not_apart h.pre]; rfl
theorem less_or (h : ValS l m) (k : ValS p q) : orS (minusS l m p q).1 (minusS l m p q).2 (andS l m p q).1 (andS l m p q).2 = (l, m) := by rw [minusS_val h k, andS_val h k, orS_val (h.minus k) (h.and k), minus_or h.rel k.rel, minus_or h.pre k.pre]
theorem less_apart (h : ValS l m) (k : ValS p q) : apartS (minusS l m p q).1 (minusS l m p q).2 p q = true := by rw [minusS_val h k, apartS_val (h.minus k) k, minus_apart h.rel k.rel, minus_apart h.pre k.pre]; rfl
theorem less_within (h : ValS l m) (k : ValS p q) : withinS (minusS l m p q).1 (minusS l m p q).2 l m = true := by rw [minusS_val h k, withinS_val (h.minus k) h, within_and h.rel (v_not k.rel), within_and h.pre (v_not k.pre)]; rfl
theorem within_less (h : ValS l m) (k : ValS p q) : withinS l m p q = sameS (minusS l m p q).1 (minusS l m p q).2 [] [] := by rw [minusS_val h k, withinS_val h k, within_minus h.rel k.rel, within_minus h.pre k.pre]; rfl
theorem apart_withinS (h : ValS l m) (k : ValS p q) : apartS l m p q = withinS l m (notS p q).1 (notS p q).2 := by rw [notS_val k, apartS_val h k, withinS_val h k.not, apart_within h.rel k.rel, apart_within h.pre k.pre]
theorem de_morganS (h : ValS l m) (k : ValS p q) : notS (andS l m p q).1 (andS l m p q).2 = orS (notS l m).1 (notS l m).2 (notS p q).1 (notS p q).2 := by
  rw [notS_val h, notS_val k, andS_val h k, notS_val (h.and k), orS_val h.not k.not, de_morgan2 h.rel k.rel, de_morgan2 h.pre k.pre]

theorem within_orS_l {e f : List SpanL} (j : ValS e f) (h : ValS l m) (k : ValS p q) (hw : withinS e f l m = true) : withinS e f (orS l m p q).1 (orS l m p q).2 = true := by
  rw [withinS_val j h, Bool.and_eq_true, Rw.within_iff j.rel h.rel, Rw.within_iff j.pre h.pre] at hw
  rw [orS_val h k, withinS_val j (h.or k), Bool.and_eq_true, Rw.within_iff j.rel (v_or h.rel k.rel), Rw.within_iff j.pre (v_or h.pre k.pre)]
  exact ⟨fun x hx => (m_or h.rel k.rel x).2 (.inl (hw.1 x hx)), fun x hx => (m_or h.pre k.pre x).2 (.inl (hw.2 x hx))⟩
theorem within_orS_r (h : ValS l m) (k : ValS p q) : withinS p q (orS l m p q).1 (orS l m p q).2 = true := by
  rw [orS_val h k, withinS_val k (h.or k), Bool.and_eq_true, Rw.within_iff k.rel (v_or h.rel k.rel), Rw.within_iff k.pre (v_or h.pre k.pre)]
  exact ⟨fun x hx => (m_or h.rel k.rel x).2 (.inr hx), fun x hx => (m_or h.pre k.pre x).2 (.inr hx)⟩

/-! ### Make -/
def turnedS (s : SpanL) : SpanL := ⟨turnedL s.fr, turnedL s.til⟩
def turnedR (l : List SpanL) : List SpanL := (l.map turnedS).filter spanMay
def turnedTo (l : List SpanL) (k : Nat) : List SpanL := turnedR (l.take k)
theorem turnedTo_succ {l : List SpanL} {k : Nat} (h : k < l.length) : turnedTo l (k + 1) = if spanMay (turnedS (nth l k)) then turnedTo l k ++ [turnedS (nth l k)] else turnedTo l k := by
  rw [turnedTo, turnedR, List.take_succ_eq_append_getElem h, List.map_append, List.filter_append, nth_lt h]
  by_cases hh : spanMay (turnedS l[k]) = true
  · rw [if_pos hh]; simp [turnedTo, turnedR, hh]
  · rw [if_neg hh]; simp [turnedTo, turnedR, hh]
theorem turnedTo_all (l : List SpanL) : turnedTo l l.length = turnedR l := by rw [turnedTo, List.take_length]
def smakeL (l m : List SpanL) : (List SpanL × List SpanL) × Bool := if mayR l && mayR m then (((rmakeL (turnedR l)).1, m), true) else (([], []), false)
theorem turned_fit {c : CutL} (h : c.fit) : (turnedL c).fit := by
  have hn : ∀ v : Ver, (nextL v).1.fit := fun v => by
    have hz : zeroV.fit := by simp only [Ver.fit, zeroV]; decide
    have hb : ∀ p, (bumpL v p).1.fit := fun p => by
      unfold bumpL
      split
      · unfold bumpV
        split
        · exact e_fit _ _ _
        · split <;> exact e_fit _ _ _
      · exact hz
    unfold nextL
    split
    · exact hz
    · split
      · exact e_fit _ _ _
      · split
        · exact hb 2
        · split
          · exact hb 1
          · split
            · exact hb 0
            · exact hz
  unfold turnedL
  split
  · exact h
  · split
    · unfold uptoL
      split
      · exact hn _
      · exact lastC_fit
    · unfold aheadR
      split
      · exact firstC_fit
      · exact e_fit _ _ _
theorem turnedS_fit {s : SpanL} (h : s.fit) : (turnedS s).fit := ⟨turned_fit h.1, turned_fit h.2⟩
theorem turnedR_lt (l : List SpanL) : ∀ s, s ∈ turnedR l → lt s.fr s.til := fun s hs => spanMay_iff.1 (List.mem_filter.1 hs).2
theorem turnedR_right (hl : Val l) : RelR (turnedR l) := fun s hs => by
  obtain ⟨t, ht, rfl⟩ := List.mem_map.1 (List.mem_filter.1 hs).1
  exact ⟨(turned_may (hl.span t ht).okl).2, (turned_may (hl.span t ht).okr).2⟩
theorem turnedR_mem (hl : Val l) {w : Ver} (hw : isRel w) : mem (turnedR l) (befC w) ↔ mem l (befC w) := by
  constructor
  · rintro ⟨s, hs, h1, h2⟩
    obtain ⟨t, ht, rfl⟩ := List.mem_map.1 (List.mem_filter.1 hs).1
    have k := hl.span t ht
    exact ⟨t, ht, (turned_le k.okl hw).1 h1, (turned_in k.okr hw).1 h2⟩
  · rintro ⟨t, ht, h1, h2⟩
    have k := hl.span t ht
    have j1 := (turned_le k.okl hw).2 h1
    have j2 := (turned_in k.okr hw).2 h2
    exact ⟨turnedS t, List.mem_filter.2 ⟨List.mem_map.2 ⟨t, ht, rfl⟩, spanMay_iff.2 (j1.tr_lt j2)⟩, j1, j2⟩
theorem smake_yes (hl : Val l) (hm : Val m) : smakeL l m = (((rmakeL (turnedR l)).1, m), true) := by rw [smakeL, mayR_val.2 hl, mayR_val.2 hm]; rfl
theorem smake_val (hl : Val l) (hm : Val m) : ValS (smakeL l m).1.1 (smakeL l m).1.2 := by
  rw [smake_yes hl hm]
  exact ⟨(make_spec (turnedR_lt l)).2.1, r_make (turnedR_lt l) (turnedR_right hl), hm⟩
theorem smake_has (hl : Val l) (hm : Val m) {v : Ver} (hv : mayV v = true) : hasS (smakeL l m).1.1 (smakeL l m).1.2 v = if (bts v.pre).isEmpty then hasR l v else hasR m v := by
  have h := smake_val hl hm
  rw [Bool.eq_iff_iff, hasS_mem h hv, sideS]
  rw [smake_yes hl hm]
  split
  · rename_i hp
    have hr : isRel v := ⟨hv, by simpa using hp⟩
    rw [(make_spec (turnedR_lt l)).2.2, turnedR_mem hl hr, has_iff hl hv]
  · rw [has_iff hm hv]
theorem turnedL_right {c : CutL} (hc : mayC c = true) (hr : rightC c = true) : turnedL c = c := by
  rcases right_cases hc hr with e | e | ⟨e, hv, hb, hl, h0⟩
  · rw [e]; rfl
  · rw [e]; rfl
  · have ha : c.aft = false := by rw [e]; rfl
    rw [turnedL, if_neg (by omega), ha, Bool.false_and, if_neg (by simp), aheadR, hl, if_neg (by simp)]
    exact cut_ext h0.symm (relV_self hv.2 hb) ha.symm
theorem turnedR_self (hl : Val l) (hr : RelR l) : turnedR l = l := by
  have e : l.map turnedS = l := by
    rw [List.map_congr_left (g := id) fun s hs => ?_, List.map_id]
    have k := hl.span s hs
    have r := hr s hs
    rw [turnedS, turnedL_right k.okl r.1, turnedL_right k.okr r.2]; rfl
  rw [turnedR, e, List.filter_eq_self]
  exact fun s hs => spanMay_iff.2 (hl.span s hs)
theorem smake_self (h : ValS l m) : smakeL l m = ((l, m), true) := by rw [smake_yes h.rel h.pre, turnedR_self h.rel h.right, make_self h.rel]
theorem smake_again (hl : Val l) (hm : Val m) : smakeL (smakeL l m).1.1 (smakeL l m).1.2 = ((smakeL l m).1, true) := smake_self (smake_val hl hm)
end Go.Proofs.YtlmkglgjdmjnkaaGreatDoor
/- Sets in memory that may be, and the set's functions at them, in one form for the laws. -/
namespace Go.Proofs.YtlmkglgjdmjnkaaGreatDoor
open Go.RowKit Go.Lib
open Rw
set_option linter.unusedVariables false
set_option linter.unusedSimpArgs false

/-- a set that may be lies in memory: two rows of at most n spans -/
structure SetAt (n : Nat) (w : World) (A : Option Addr) (l : List SpanL) (B : Option Addr) (m : List SpanL) : Prop where
  rel : Spans w A l
  pre : Spans w B m
  frel : fitL l
  fpre : fitL m
  nrel : l.length ≤ n
  npre : m.length ≤ n
  val : ValS l m
theorem SetAt.below {n : Nat} {w w' : World} {A B : Option Addr} {l m : List SpanL} (h : SetAt n w A l B m) (hb : Below w.heap.size w w') : SetAt n w' A l B m := ⟨h.rel.below hb, h.pre.below hb, h.frel, h.fpre, h.nrel, h.npre, h.val⟩
theorem SetAt.set {n : Nat} {w : World} {A B : Option Addr} {l m : List SpanL} {base g o : Nat} {vs : List Value} (h : SetAt n w A l B m) (ha : SpanB w base A l) (hb : SpanB w base B m) (hg : g < base) : SetAt n (w.setCells g o vs) A l B m := ⟨(ha.set hg).1, (hb.set hg).1, h.frel, h.fpre, h.nrel, h.npre, h.val⟩
/-- a set has come back -/
def SetBack (n : Nat) (w : World) (l m : List SpanL) (e : Ending) (w' : World) : Prop := ∃ A c B d, e = .returned (setV A l.length c B m.length d) ∧ SetAt n w' A l B m ∧ SpanB w' w.heap.size A l ∧ SpanB w' w.heap.size B m ∧ Below w.heap.size w w'
theorem SetBack.of {n : Nat} {w : World} {l m : List SpanL} {e : Ending} {w' : World} (h : SetPost w l m e w') (h1 : fitL l) (h2 : fitL m) (h3 : l.length ≤ n) (h4 : m.length ≤ n) (h5 : ValS l m) : SetBack n w l m e w' := by
  obtain ⟨A, c, B, d, he, ha, hb, hw⟩ := h
  exact ⟨A, c, B, d, he, ⟨ha.1, hb.1, h1, h2, h3, h4, h5⟩, ha, hb, hw⟩
theorem fit_nil : fitL [] := fun i hi => by simp at hi
theorem whole_fit : fitL wholeL := fun i hi => by
  have : i = 0 := by simpa [wholeL] using hi
  subst this; exact ⟨firstC_fit, lastC_fit⟩
section
variable {n n2 : Nat} {w : World} {A B C D : Option Addr} {l m p q : List SpanL} {v : Ver}
theorem law_may (c d : Nat) (hg : First w) (h : SetAt n w A l B m) (hn : n ≤ 5000) : Calls Tryz.prog 147 #[setV A l.length c B m.length d] w (BoolPost w true) := by
  have h1 := h.nrel; have h2 := h.npre
  have k := smay_any A B c d l m w hg h.rel h.pre h.frel h.fpre (by omega) (by omega)
  rw [h.val.ok] at k
  exact k
theorem law_has (c d : Nat) (hg : First w) (h : SetAt n w A l B m) (hv : v.fit) (hn : n ≤ 5000) : Calls Tryz.prog 110 #[setV A l.length c B m.length d, v.val] w (BoolPost w (hasS l m v)) := by
  have h1 := h.nrel; have h2 := h.npre
  exact shas_any A B c d l m v w hg h.rel h.pre h.frel h.fpre (by omega) (by omega) hv
theorem bare_fit {v : Ver} (h : v.fit) : (bareV v).fit := by simp only [Ver.fit, bareV] at h ⊢; exact ⟨h.1, by decide⟩
theorem exact_good {v : Ver} (h : v.fit) : (fitL (exactS v).1 ∧ fitL (exactS v).2) ∧ (exactS v).1.length ≤ 1 ∧ (exactS v).2.length ≤ 1 := by
  have one : ∀ s : SpanL, s.fit → fitL [s] := fun s hs i hi => by
    have : i = 0 := by simpa using hi
    subst this; exact hs
  have hb : (⟨0, bareV v, false⟩ : CutL).fit := bare_fit h
  have ht : (⟨0, bareV v, true⟩ : CutL).fit := bare_fit h
  unfold exactS
  split
  · exact ⟨⟨fit_nil, fit_nil⟩, by simp, by simp⟩
  · split
    · rename_i hp
      refine ⟨⟨one _ ⟨?_, ?_⟩, fit_nil⟩, by simp, by simp⟩
      · have := turned_fit hb
        rw [turnedL, if_neg (by simp)] at this
        exact this
      · have := turned_fit ht
        rw [turnedL, if_neg (by simp), if_pos (by simpa [bareV] using hp)] at this
        exact this
    · exact ⟨⟨fit_nil, one _ ⟨hb, ht⟩⟩, by simp, by simp⟩
end
end Go.Proofs.YtlmkglgjdmjnkaaGreatDoor
/- Sets: the walk of linchpinlaw5.awake. -/
namespace Go.Proofs.YtlmkglgjdmjnkaaGreatDoor
open Go.RowKit Go.Lib
open Rw
set_option linter.unusedVariables false
set_option linter.unusedSimpArgs false

/-- a set has come back: its rows' lengths by name -/
def SetBk (N : Nat) (w : World) (l m : List SpanL) (n k : Nat) (e : Ending) (w' : World) : Prop := ∃ A c B d, e = .returned (setV A n c B k d) ∧ SetAt N w' A l B m ∧ SpanB w' w.heap.size A l ∧ SpanB w' w.heap.size B m ∧ Below w.heap.size w w'
theorem SetBack.bk {N : Nat} {w : World} {l m : List SpanL} {n k : Nat} {e : Ending} {w' : World} (hn : l.length = n) (hk : m.length = k) (h : SetBack N w l m e w') : SetBk N w l m n k e w' := by
  obtain ⟨A, c, B, d, he, hs, h1, h2, hb⟩ := h
  exact ⟨A, c, B, d, by rw [he, hn, hk], hs, h1, h2, hb⟩
theorem callBk {P : Program} {f : FuncId} {args : Array Value} {N : Nat} {w : World} {l m : List SpanL} {n k : Nat} (hn : l.length = n) (hk : m.length = k) (h : Calls P f args w (SetBack N w l m)) : Calls P f args w (SetBk N w l m n k) := h.mono fun _ _ h => h.bk hn hk
theorem SetAt.none (w : World) : SetAt 0 w none [] none [] := ⟨.inl rfl, .inl rfl, fit_nil, fit_nil, Nat.le_refl _, Nat.le_refl _, ValS.nil⟩
def aw5V : Ver := ⟨1, 0, 0, ⟨#[]⟩, ⟨#[]⟩⟩
def aw5P : Ver := ⟨1, 0, 0, ⟨#[97]⟩, ⟨#[]⟩⟩
theorem aw5V_may : mayV aw5V = true := by simp only [mayV, aw5V, bts_e, preOk, bldOk, fitsI]; decide
theorem bts_a : bts ⟨#[97]⟩ = [97] := by rw [bts, bts_data]
theorem aw5P_may : mayV aw5P = true := by simp only [mayV, aw5P, bts_e, bts_a, bldOk, fitsI]; decide
theorem aw5V_fit : aw5V.fit := by simp [Ver.fit, aw5V]; decide
theorem aw5P_fit : aw5P.fit := by simp [Ver.fit, aw5P]; decide
theorem aw5_ne : cmpV aw5V aw5P ≠ 0 := fun h => by
  have := ((cmpV_zero aw5V_may aw5P_may).1 h).2.2.2
  rw [show aw5V.pre = ⟨#[]⟩ from rfl, show aw5P.pre = ⟨#[97]⟩ from rfl, bts_e, bts_a] at this
  cases this
theorem aw5_hv : hasS (exactS aw5V).1 (exactS aw5V).2 aw5V = true := by rw [exact_has aw5V_may aw5V_may, cmpV_self aw5V_may]; rfl
theorem aw5_hp : hasS (exactS aw5V).1 (exactS aw5V).2 aw5P = false := by rw [exact_has aw5V_may aw5P_may]; simpa using aw5_ne
theorem aw5_pp : hasS (exactS aw5P).1 (exactS aw5P).2 aw5P = true := by rw [exact_has aw5P_may aw5P_may, cmpV_self aw5P_may]; rfl
theorem aw5_ap : apartS (exactS aw5V).1 (exactS aw5V).2 (exactS aw5P).1 (exactS aw5P).2 = true := by rw [exact_apart aw5V_may aw5P_may]; simpa using aw5_ne

end Go.Proofs.YtlmkglgjdmjnkaaGreatDoor
