/- Versions, compared: plain functions on numbers and bytes, and that they order. No program in sight. -/
import Derived.Test.YtodicnjoimoiiaaWf
namespace Go.Proofs.Ytodicnjoimoiiaa

def cmpI (a b : Int) : Int := if a < b then -1 else if b < a then 1 else 0
def cmpB (a b : List UInt8) : Int := if Op.bytesLess a b then -1 else if Op.bytesLess b a then 1 else 0
def cmpTag (a b : List UInt8) : Int :=
  if numericL a && numericL b then cmpI (numberL a).1 (numberL b).1 else if numericL a then -1 else if numericL b then 1 else cmpB a b
def cmpTags : List (List UInt8) → List (List UInt8) → Int
  | a :: x, b :: y => if cmpTag a b ≠ 0 then cmpTag a b else cmpTags x y
  | x, y => cmpI x.length y.length
def cmpPre (a b : List UInt8) : Int := if a = b then 0 else if a = [] then 1 else if b = [] then -1 else cmpTags (splitP a) (splitP b)
def cmpNum (a b : Ver) : Int := if cmpI a.maj b.maj ≠ 0 then cmpI a.maj b.maj else if cmpI a.min b.min ≠ 0 then cmpI a.min b.min else cmpI a.pat b.pat
def cmpV (a b : Ver) : Int := if mayV a = false ∨ mayV b = false then 0 else if cmpNum a b ≠ 0 then cmpNum a b else cmpPre (bts a.pre) (bts b.pre)

theorem cmpI_self (a : Int) : cmpI a a = 0 := by simp [cmpI]
theorem cmpI_zero {a b : Int} : cmpI a b = 0 ↔ a = b := by unfold cmpI; split <;> (try split) <;> omega
theorem cmpI_lt {a b : Int} : cmpI a b < 0 ↔ a < b := by unfold cmpI; split <;> (try split) <;> omega
theorem cmpI_gt {a b : Int} : 0 < cmpI a b ↔ b < a := by unfold cmpI; split <;> (try split) <;> omega
theorem cmpI_bd (a b : Int) : -1 ≤ cmpI a b ∧ cmpI a b ≤ 1 := by unfold cmpI; split <;> (try split) <;> omega


/-- a comparison that orders the things that are 'ok' -/
structure TO {α : Type} (ok : α → Prop) (cmp : α → α → Int) : Prop where
  zero : ∀ a b, ok a → ok b → (cmp a b = 0 ↔ a = b)
  anti : ∀ a b, ok a → ok b → (cmp a b < 0 ↔ 0 < cmp b a)
  tran : ∀ a b c, ok a → ok b → ok c → cmp a b < 0 → cmp b c < 0 → cmp a c < 0

theorem TO.int : TO (fun _ : Int => True) cmpI :=
  ⟨fun _ _ _ _ => cmpI_zero, fun _ _ _ _ => by rw [cmpI_lt, cmpI_gt], fun _ _ _ _ _ _ => by rw [cmpI_lt, cmpI_lt, cmpI_lt]; omega⟩

theorem bless_irr : ∀ a : List UInt8, Op.bytesLess a a = false
  | [] => rfl
  | a :: x => by simp [Op.bytesLess, bless_irr x]
theorem bless_asym : ∀ a b : List UInt8, Op.bytesLess a b = true → Op.bytesLess b a = false
  | [], [], h => by simp [Op.bytesLess] at h
  | [], _ :: _, _ => rfl
  | _ :: _, [], h => by simp [Op.bytesLess] at h
  | a :: x, b :: y, h => by
    simp only [Op.bytesLess, Bool.or_eq_true, Bool.and_eq_true, decide_eq_true_eq, beq_iff_eq, Bool.or_eq_false_iff, Bool.and_eq_false_iff, decide_eq_false_iff_not, beq_eq_false_iff_ne] at h ⊢
    rw [UInt8.lt_iff_toNat_lt] at *
    rcases h with h | ⟨rfl, h⟩
    · exact ⟨by omega, .inl (fun e => by subst e; omega)⟩
    · exact ⟨by omega, .inr (bless_asym x y h)⟩
theorem bless_tri : ∀ a b : List UInt8, Op.bytesLess a b = false → Op.bytesLess b a = false → a = b
  | [], [], _, _ => rfl
  | [], _ :: _, h, _ => by simp [Op.bytesLess] at h
  | _ :: _, [], _, h => by simp [Op.bytesLess] at h
  | a :: x, b :: y, h, k => by
    simp only [Op.bytesLess, Bool.or_eq_false_iff, Bool.and_eq_false_iff, decide_eq_false_iff_not, beq_eq_false_iff_ne] at h k
    rw [UInt8.lt_iff_toNat_lt] at *
    have e : a = b := UInt8.toNat_inj.1 (by omega)
    subst e
    rw [bless_tri x y (h.2.resolve_left (by simp)) (k.2.resolve_left (by simp))]
theorem bless_tran : ∀ a b c : List UInt8, Op.bytesLess a b = true → Op.bytesLess b c = true → Op.bytesLess a c = true
  | [], _, [], _, h => by cases ‹List UInt8› <;> simp [Op.bytesLess] at h
  | [], _, _ :: _, _, _ => rfl
  | _ :: _, [], _, h, _ => by simp [Op.bytesLess] at h
  | _ :: _, _ :: _, [], _, h => by simp [Op.bytesLess] at h
  | a :: x, b :: y, c :: z, h, k => by
    simp only [Op.bytesLess, Bool.or_eq_true, Bool.and_eq_true, decide_eq_true_eq, beq_iff_eq] at h k ⊢
    simp only [UInt8.lt_iff_toNat_lt] at *
    rcases h with h | ⟨rfl, h⟩
    · rcases k with k | ⟨rfl, k⟩
      · exact .inl (by omega)
      · exact .inl h
    · rcases k with k | ⟨rfl, k⟩
      · exact .inl k
      · exact .inr ⟨rfl, bless_tran x y z h k⟩

theorem cmpB_lt {a b : List UInt8} : cmpB a b < 0 ↔ Op.bytesLess a b = true := by unfold cmpB; split <;> (try split) <;> simp_all
theorem cmpB_gt {a b : List UInt8} : 0 < cmpB a b ↔ Op.bytesLess b a = true := by
  unfold cmpB
  split
  · rename_i h; simp [bless_asym a b h]
  · split <;> simp_all
theorem TO.bytes : TO (fun _ : List UInt8 => True) cmpB := by
  refine ⟨fun a b _ _ => ?_, fun a b _ _ => by rw [cmpB_lt, cmpB_gt], fun a b c _ _ _ h k => cmpB_lt.2 (bless_tran a b c (cmpB_lt.1 h) (cmpB_lt.1 k))⟩
  constructor
  · intro h
    refine bless_tri a b ?_ ?_
    · rw [Bool.eq_false_iff]; intro e; have := cmpB_lt.2 e; omega
    · rw [Bool.eq_false_iff]; intro e; have := cmpB_gt.2 e; omega
  · rintro rfl
    simp [cmpB, bless_irr]

/-- a number tells its text -/
theorem numL_inj_len : ∀ (n : Nat) (a b : List UInt8), a.length = n → b.length = n → a.all isDig = true → b.all isDig = true → numL a = numL b → a = b
  | 0, a, b, ha, hb, _, _, _ => by rw [List.eq_nil_of_length_eq_zero ha, List.eq_nil_of_length_eq_zero hb]
  | n + 1, a, b, ha, hb, da, db, h => by
    obtain ⟨a', c, rfl⟩ : ∃ l' c, a = l' ++ [c] := ⟨a.dropLast, a.getLast (by intro e; subst e; simp at ha), (List.dropLast_concat_getLast _).symm⟩
    obtain ⟨b', d, rfl⟩ : ∃ l' c, b = l' ++ [c] := ⟨b.dropLast, b.getLast (by intro e; subst e; simp at hb), (List.dropLast_concat_getLast _).symm⟩
    rw [List.all_append, Bool.and_eq_true] at da db
    have hc : isDig c = true := by simpa using da.2
    have hd : isDig d = true := by simpa using db.2
    simp only [isDig, decide_eq_true_eq] at hc hd
    rw [numL_snoc, numL_snoc] at h
    have hcd : c = d := UInt8.toNat_inj.1 (by omega)
    subst hcd
    rw [numL_inj_len n a' b' (by simpa using ha) (by simpa using hb) da.1 db.1 (by omega)]
theorem notbad {l : List UInt8} (h : badNum l = false) : 1 ≤ l.length ∧ l.length ≤ 4 ∧ l.all isDig = true ∧ (l.length = 1 ∨ ∃ c r, l = c :: r ∧ c ≠ 48) := by
  simp only [badNum, Bool.or_eq_false_iff, decide_eq_false_iff_not, Bool.and_eq_false_iff, Bool.not_eq_false'] at h
  obtain ⟨⟨⟨h1, h2⟩, h3⟩, h4⟩ := h
  cases l with
  | nil => simp at h1
  | cons c r =>
    refine ⟨by simp, by omega, h4, ?_⟩
    rcases h3 with h3 | h3
    · refine .inr ⟨c, r, rfl, fun e => ?_⟩
      subst e
      simp at h3
    · exact .inl (by simp only [List.length_cons] at h3 ⊢; omega)
theorem numL_lo {l : List UInt8} (h : badNum l = false) (h2 : 1 < l.length) : 10 ^ (l.length - 1) ≤ numL l := by
  obtain ⟨_, _, ha, h1 | ⟨c, r, rfl, hc⟩⟩ := notbad h
  · omega
  · rw [List.all_cons, Bool.and_eq_true] at ha
    have hd := ha.1
    simp only [isDig, decide_eq_true_eq] at hd
    have hr := numL_bounds r.length r rfl ha.2
    have hc' : ¬ c.toNat = 48 := fun e => hc (UInt8.toNat_inj.1 e)
    have h3 : 1 * (10 : Int) ^ r.length ≤ ((c.toNat : Int) - 48) * 10 ^ r.length := Int.mul_le_mul_of_nonneg_right (by omega) (Int.le_of_lt (Int.pow_pos (by omega)))
    rw [numL_cons]
    simp only [List.length_cons, Nat.add_sub_cancel]
    omega
theorem numL_inj {a b : List UInt8} (ha : badNum a = false) (hb : badNum b = false) (h : numL a = numL b) : a = b := by
  obtain ⟨a1, a2, a3, _⟩ := notbad ha
  obtain ⟨b1, b2, b3, _⟩ := notbad hb
  have ba := numL_bounds a.length a rfl a3
  have bb := numL_bounds b.length b rfl b3
  rcases Nat.lt_trichotomy a.length b.length with hl | hl | hl
  · have := numL_lo hb (by omega)
    have := ten_pow_mono (show a.length ≤ b.length - 1 by omega)
    omega
  · exact numL_inj_len _ a b rfl hl.symm a3 b3 h
  · have := numL_lo ha (by omega)
    have := ten_pow_mono (show b.length ≤ a.length - 1 by omega)
    omega

theorem number_ok {l : List UInt8} (h : (numberL l).2 = true) : badNum l = false ∧ (numberL l).1 = numL l := by
  unfold numberL at h ⊢
  cases hb : badNum l
  · simp
  · rw [hb] at h; simp at h

theorem TO.tag : TO (fun t => preTag t = true) cmpTag := by
  have pr : ∀ t, preTag t = true → numericL t = true → badNum t = false ∧ (numberL t).1 = numL t := by
    intro t h hn
    rw [preTag, hn] at h
    exact number_ok (by simpa using h)
  refine ⟨fun a b ha hb => ?_, fun a b ha hb => ?_, fun a b c ha hb hc => ?_⟩
  · unfold cmpTag
    cases hna : numericL a <;> cases hnb : numericL b <;> simp only [Bool.and_true, Bool.and_false, Bool.false_eq_true, if_false, if_true]
    · exact TO.bytes.zero a b trivial trivial
    · constructor
      · intro h; omega
      · rintro rfl; rw [hna] at hnb; cases hnb
    · constructor
      · intro h; omega
      · rintro rfl; rw [hna] at hnb; cases hnb
    · obtain ⟨a1, a2⟩ := pr a ha hna
      obtain ⟨b1, b2⟩ := pr b hb hnb
      rw [cmpI_zero, a2, b2]
      exact ⟨numL_inj a1 b1, fun e => by rw [e]⟩
  · unfold cmpTag
    cases hna : numericL a <;> cases hnb : numericL b <;> simp only [Bool.and_true, Bool.and_false, Bool.false_eq_true, if_false, if_true]
    · exact TO.bytes.anti a b trivial trivial
    · omega
    · omega
    · exact TO.int.anti _ _ trivial trivial
  · unfold cmpTag
    cases hna : numericL a <;> cases hnb : numericL b <;> cases hnc : numericL c <;> simp only [Bool.and_true, Bool.and_false, Bool.false_eq_true, if_false, if_true]
    · exact TO.bytes.tran a b c trivial trivial trivial
    all_goals try (intro h k; omega)
    · exact TO.int.tran _ _ _ trivial trivial trivial

theorem TO.tags : TO (fun ts : List (List UInt8) => ts.all preTag = true) cmpTags := by
  have all1 : ∀ t (ts : List (List UInt8)), (t :: ts).all preTag = true → preTag t = true ∧ ts.all preTag = true := by
    intro t ts h; rw [List.all_cons, Bool.and_eq_true] at h; exact h
  refine ⟨?_, ?_, ?_⟩
  · intro a
    induction a with
    | nil => intro b _ _; cases b <;> simp [cmpTags, cmpI] <;> omega
    | cons a x ih =>
      intro b ha hb
      cases b with
      | nil => simp [cmpTags, cmpI]; omega
      | cons b y =>
        obtain ⟨a1, a2⟩ := all1 _ _ ha
        obtain ⟨b1, b2⟩ := all1 _ _ hb
        have hz := TO.tag.zero a b a1 b1
        unfold cmpTags
        by_cases h : cmpTag a b = 0
        · rw [if_neg (by simp [h]), ih y a2 b2, List.cons.injEq]
          exact ⟨fun e => ⟨hz.1 h, e⟩, fun e => e.2⟩
        · rw [if_pos h, List.cons.injEq]
          exact ⟨fun e => absurd e h, fun e => absurd (hz.2 e.1) h⟩
  · intro a
    induction a with
    | nil => intro b _ _; cases b <;> simp [cmpTags, cmpI] <;> omega
    | cons a x ih =>
      intro b ha hb
      cases b with
      | nil => simp [cmpTags, cmpI]; omega
      | cons b y =>
        obtain ⟨a1, a2⟩ := all1 _ _ ha
        obtain ⟨b1, b2⟩ := all1 _ _ hb
        have h1 := TO.tag.anti a b a1 b1
        have h2 := TO.tag.anti b a b1 a1
        have hz := TO.tag.zero a b a1 b1
        have hz2 := TO.tag.zero b a b1 a1
        unfold cmpTags
        by_cases h : cmpTag a b = 0
        · have h' : cmpTag b a = 0 := hz2.2 (hz.1 h).symm
          rw [if_neg (by simp [h]), if_neg (by simp [h'])]
          exact ih y a2 b2
        · have h' : ¬ cmpTag b a = 0 := fun e => h (hz.2 (hz2.1 e).symm)
          rw [if_pos h, if_pos h']
          exact h1
  · intro a
    induction a with
    | nil =>
      intro b c _ _ _ h k
      cases c with
      | nil => cases b <;> simp [cmpTags, cmpI] at h k <;> omega
      | cons c z => simp [cmpTags, cmpI]
    | cons a x ih =>
      intro b c ha hb hc h k
      cases b with
      | nil => simp [cmpTags, cmpI] at h; omega
      | cons b y =>
        cases c with
        | nil => simp [cmpTags, cmpI] at k; omega
        | cons c z =>
          obtain ⟨a1, a2⟩ := all1 _ _ ha
          obtain ⟨b1, b2⟩ := all1 _ _ hb
          obtain ⟨c1, c2⟩ := all1 _ _ hc
          have t := TO.tag.tran a b c a1 b1 c1
          have zab := TO.tag.zero a b a1 b1
          have zbc := TO.tag.zero b c b1 c1
          have zac := TO.tag.zero a c a1 c1
          unfold cmpTags at h k ⊢
          by_cases h1 : cmpTag a b = 0
          · rw [if_neg (by simp [h1])] at h
            obtain rfl := zab.1 h1
            by_cases k1 : cmpTag a c = 0
            · rw [if_neg (by simp [k1])] at k
              rw [if_neg (by simp [k1])]
              exact ih y z a2 b2 c2 h k
            · rw [if_pos k1] at k
              rw [if_pos k1]; exact k
          · rw [if_pos h1] at h
            by_cases k1 : cmpTag b c = 0
            · obtain rfl := zbc.1 k1
              rw [if_pos h1]; exact h
            · rw [if_pos k1] at k
              have := t h k
              rw [if_pos (by omega)]; exact this

/-- parts tell the text -/
def joinP : List (List UInt8) → List UInt8
  | [] => []
  | [t] => t
  | t :: r => t ++ 46 :: joinP r
theorem joinP_cons (t : List UInt8) {r : List (List UInt8)} (h : r ≠ []) : joinP (t :: r) = t ++ 46 :: joinP r := by
  cases r with
  | nil => exact absurd rfl h
  | cons a b => rfl
theorem join_split : ∀ (l cur : List UInt8), joinP (splitL 46 cur l) = cur ++ l
  | [], cur => by simp [splitL, joinP]
  | c :: r, cur => by
    unfold splitL
    split
    · rename_i h
      subst h
      have hne : splitL 46 [] r ≠ [] := by
        have := (splitL_len 46 r []).1
        intro e; rw [e] at this; simp at this
      rw [joinP_cons _ hne, join_split r []]
      simp
    · rw [join_split r (cur ++ [c])]; simp
theorem splitP_inj {a b : List UInt8} (h : splitP a = splitP b) : a = b := by
  have ha := join_split a []
  have hb := join_split b []
  rw [show splitL 46 [] a = splitP a from rfl] at ha
  rw [show splitL 46 [] b = splitP b from rfl, ← h, ha] at hb
  simpa using hb

theorem preL_all {l : List UInt8} (h : preL l = true) : (splitP l).all preTag = true := by rw [preL, Bool.and_eq_true] at h; exact h.2
theorem preOk_cases {l : List UInt8} (h : preOk l = true) : l = [] ∨ (l ≠ [] ∧ (splitP l).all preTag = true) := by
  cases l with
  | nil => exact .inl rfl
  | cons c r => exact .inr ⟨by simp, preL_all (by simpa [preOk] using h)⟩

theorem TO.pre : TO (fun l : List UInt8 => preOk l = true) cmpPre := by
  refine ⟨fun a b ha hb => ?_, fun a b ha hb => ?_, fun a b c ha hb hc => ?_⟩
  · unfold cmpPre
    by_cases e : a = b
    · simp [e]
    · rw [if_neg e]
      rcases preOk_cases ha with rfl | ⟨na, a1⟩
      · rw [if_pos rfl]; exact ⟨fun h => by omega, fun h => absurd h e⟩
      · rw [if_neg na]
        rcases preOk_cases hb with rfl | ⟨nb, b1⟩
        · rw [if_pos rfl]; exact ⟨fun h => by omega, fun h => absurd h e⟩
        · rw [if_neg nb, TO.tags.zero _ _ a1 b1]
          exact ⟨splitP_inj, fun h => absurd h e⟩
  · unfold cmpPre
    by_cases e : a = b
    · subst e; simp
    · have e' : ¬ b = a := fun h => e h.symm
      rw [if_neg e, if_neg e']
      rcases preOk_cases ha with rfl | ⟨na, a1⟩
      · rcases preOk_cases hb with rfl | ⟨nb, b1⟩
        · exact absurd rfl e
        · rw [if_pos rfl, if_neg nb, if_pos rfl]; omega
      · rcases preOk_cases hb with rfl | ⟨nb, b1⟩
        · rw [if_neg na, if_pos rfl, if_pos rfl]; omega
        · rw [if_neg na, if_neg nb, if_neg nb, if_neg na]
          exact TO.tags.anti _ _ a1 b1
  · intro h k
    unfold cmpPre at h k ⊢
    by_cases e1 : a = b
    · rw [if_pos e1] at h; omega
    by_cases e2 : b = c
    · rw [if_pos e2] at k; omega
    rw [if_neg e1] at h
    rw [if_neg e2] at k
    rcases preOk_cases ha with rfl | ⟨na, a1⟩
    · rw [if_pos rfl] at h; omega
    rcases preOk_cases hb with rfl | ⟨nb, b1⟩
    · rw [if_pos rfl] at k; omega
    rw [if_neg na, if_neg nb] at h
    rw [if_neg nb] at k
    by_cases e3 : a = c
    · subst e3
      rw [if_neg na] at k
      have := (TO.tags.anti _ _ a1 b1).1 h
      omega
    · rw [if_neg e3, if_neg na]
      rcases preOk_cases hc with rfl | ⟨nc, c1⟩
      · rw [if_pos rfl]; omega
      · rw [if_neg nc] at k ⊢
        exact TO.tags.tran _ _ _ a1 b1 c1 h k

/-- versions without a Build -/
def coreOk (v : Ver) : Prop := mayV v = true ∧ bts v.bld = []
theorem mayV_pre {v : Ver} (h : mayV v = true) : preOk (bts v.pre) = true := by
  simp only [mayV, Bool.and_eq_true] at h; exact h.1.2
theorem cmpNum_zero {a b : Ver} : cmpNum a b = 0 ↔ a.maj = b.maj ∧ a.min = b.min ∧ a.pat = b.pat := by
  have h1 := @cmpI_zero a.maj b.maj
  have h2 := @cmpI_zero a.min b.min
  have h3 := @cmpI_zero a.pat b.pat
  unfold cmpNum
  split
  · omega
  · split <;> omega
theorem cmpNum_lt {a b : Ver} : cmpNum a b < 0 ↔ a.maj < b.maj ∨ (a.maj = b.maj ∧ (a.min < b.min ∨ (a.min = b.min ∧ a.pat < b.pat))) := by
  have h1 := @cmpI_zero a.maj b.maj
  have h2 := @cmpI_zero a.min b.min
  have k1 := @cmpI_lt a.maj b.maj
  have k2 := @cmpI_lt a.min b.min
  have k3 := @cmpI_lt a.pat b.pat
  unfold cmpNum
  split
  · omega
  · split <;> omega
theorem cmpNum_gt {a b : Ver} : 0 < cmpNum a b ↔ cmpNum b a < 0 := by
  rw [cmpNum_lt]
  have h1 := @cmpI_zero a.maj b.maj
  have h2 := @cmpI_zero a.min b.min
  have k1 := @cmpI_gt a.maj b.maj
  have k2 := @cmpI_gt a.min b.min
  have k3 := @cmpI_gt a.pat b.pat
  unfold cmpNum
  split
  · omega
  · split <;> omega
/-- versions that compare equal have the same numbers and the same Pre -/
theorem cmpV_zero {a b : Ver} (ha : mayV a = true) (hb : mayV b = true) : cmpV a b = 0 ↔ a.maj = b.maj ∧ a.min = b.min ∧ a.pat = b.pat ∧ bts a.pre = bts b.pre := by
  unfold cmpV
  rw [if_neg (by simp [ha, hb])]
  have hz := @cmpNum_zero a b
  have hp := TO.pre.zero _ _ (mayV_pre ha) (mayV_pre hb)
  split
  · constructor
    · intro h; contradiction
    · rintro ⟨h1, h2, h3, _⟩; exact absurd (hz.2 ⟨h1, h2, h3⟩) ‹_›
  · rename_i h
    have h0 : cmpNum a b = 0 := by omega
    rw [hp]
    have := hz.1 h0
    exact ⟨fun e => ⟨this.1, this.2.1, this.2.2, e⟩, fun e => e.2.2.2⟩
theorem cmpV_anti {a b : Ver} (ha : mayV a = true) (hb : mayV b = true) : cmpV a b < 0 ↔ 0 < cmpV b a := by
  unfold cmpV
  have hab : ¬ (mayV a = false ∨ mayV b = false) := by simp [ha, hb]
  have hba : ¬ (mayV b = false ∨ mayV a = false) := by simp [ha, hb]
  rw [if_neg hab, if_neg hba]
  have g1 := @cmpNum_gt a b
  have g2 := @cmpNum_gt b a
  have hp := TO.pre.anti _ _ (mayV_pre ha) (mayV_pre hb)
  split
  · split <;> omega
  · split <;> omega
theorem cmpNum_tran {a b c : Ver} (h : cmpNum a b < 0) (k : cmpNum b c ≤ 0) : cmpNum a c < 0 := by
  have : cmpNum b c < 0 ∨ cmpNum b c = 0 := by omega
  rw [cmpNum_lt] at h ⊢
  rcases this with k | k
  · rw [cmpNum_lt] at k; omega
  · rw [cmpNum_zero] at k; omega
theorem cmpNum_tran' {a b c : Ver} (h : cmpNum a b = 0) (k : cmpNum b c < 0) : cmpNum a c < 0 := by
  rw [cmpNum_zero] at h; rw [cmpNum_lt] at k ⊢; omega
theorem cmpNum_tran0 {a b c : Ver} (h : cmpNum a b = 0) (k : cmpNum b c = 0) : cmpNum a c = 0 := by
  rw [cmpNum_zero] at *; omega
theorem cmpV_tran {a b c : Ver} (ha : mayV a = true) (hb : mayV b = true) (hc : mayV c = true) (h : cmpV a b < 0) (k : cmpV b c < 0) : cmpV a c < 0 := by
  have hp := TO.pre.tran _ _ _ (mayV_pre ha) (mayV_pre hb) (mayV_pre hc)
  unfold cmpV at h k ⊢
  rw [if_neg (by simp [ha, hb])] at h
  rw [if_neg (by simp [hb, hc])] at k
  rw [if_neg (by simp [ha, hc])]
  by_cases h1 : cmpNum a b = 0
  · rw [if_neg (by simp [h1])] at h
    by_cases k1 : cmpNum b c = 0
    · rw [if_neg (by simp [k1])] at k
      rw [if_neg (by simp [cmpNum_tran0 h1 k1])]
      exact hp h k
    · rw [if_pos k1] at k
      have := cmpNum_tran' h1 k
      rw [if_pos (by omega)]; exact this
  · rw [if_pos h1] at h
    have hle : cmpNum b c ≤ 0 := by
      by_cases k1 : cmpNum b c = 0
      · omega
      · rw [if_pos k1] at k; omega
    have := cmpNum_tran h hle
    rw [if_pos (by omega)]; exact this
end Go.Proofs.Ytodicnjoimoiiaa
