/- Texts of numbers and versions: plain. -/
import Derived.Test.YtjceaniffooohaaGreatDoorBc
import Derived.Lib.ItoaNum
import Derived.Lib.Split
import Derived.Lib.IndexMore
namespace Go.Proofs.YtjceaniffooohaaGreatDoor
open Go.RowKit Go.Lib
set_option linter.unusedVariables false
set_option linter.unusedSimpArgs false

/-! ### Numbers -/
theorem digU (d : Nat) (h : d < 10) : (UInt8.ofNat (48 + d)).toNat = 48 + d := by
  rw [UInt8.toNat_ofNat']; omega
theorem dec_small {u : Nat} (h : u < 10) : decDigits u = [UInt8.ofNat (48 + u)] := by rw [decDigits, dif_pos h]
theorem dec_more {u : Nat} (h : ¬ u < 10) : decDigits u = decDigits (u / 10) ++ [UInt8.ofNat (48 + u % 10)] := by rw [decDigits, dif_neg h]
theorem dec_dig : ∀ (u : Nat), (decDigits u).all isDig = true := by
  intro u
  induction u using Nat.strongRecOn with
  | ind u ih =>
    by_cases h : u < 10
    · rw [dec_small h]; simp only [List.all_cons, List.all_nil, Bool.and_true, isDig, digU u h]; simp; omega
    · rw [dec_more h, List.all_append, ih (u / 10) (by omega)]
      simp only [List.all_cons, List.all_nil, Bool.and_true, Bool.true_and, isDig, digU (u % 10) (by omega)]; simp; omega
theorem dec_num : ∀ (u : Nat), numL (decDigits u) = u := by
  intro u
  induction u using Nat.strongRecOn with
  | ind u ih =>
    by_cases h : u < 10
    · rw [dec_small h]; simp only [numL, List.foldl_cons, List.foldl_nil, digU u h]; omega
    · rw [dec_more h, numL_snoc, ih (u / 10) (by omega), digU (u % 10) (by omega)]; omega
theorem dec_ne (u : Nat) : decDigits u ≠ [] := by
  by_cases h : u < 10
  · rw [dec_small h]; simp
  · rw [dec_more h]; simp
theorem dec_head : ∀ (u : Nat), 0 < u → (decDigits u).head? ≠ some 48 := by
  intro u
  induction u using Nat.strongRecOn with
  | ind u ih =>
    intro h0
    by_cases h : u < 10
    · rw [dec_small h]
      simp only [List.head?_cons, ne_eq, Option.some.injEq]
      intro e
      have := congrArg UInt8.toNat e
      rw [digU u h] at this
      simp at this
      omega
    · rw [dec_more h]
      have := ih (u / 10) (by omega) (by omega)
      have hne := dec_ne (u / 10)
      cases hd : decDigits (u / 10) with
      | nil => exact absurd hd hne
      | cons c r => rw [hd] at this; simpa using this
theorem dec_len {u : Nat} (h : u ≤ 9999) : (decDigits u).length ≤ 4 := by
  by_cases h1 : u < 10
  · rw [dec_small h1]; simp
  · rw [dec_more h1]
    by_cases h2 : u / 10 < 10
    · rw [dec_small h2]; simp
    · rw [dec_more h2]
      by_cases h3 : u / 10 / 10 < 10
      · rw [dec_small h3]; simp
      · rw [dec_more h3, dec_small (by omega)]; simp
theorem num_dec {u : Nat} (h : u ≤ 9999) : numberL (decDigits u) = ((u : Int), true) := by
  have hb : badNum (decDigits u) = false := by
    have h1 := dec_len h
    have h2 := dec_dig u
    have h3 : (decDigits u).isEmpty = false := by
      have := dec_ne u
      cases hd : decDigits u with
      | nil => exact absurd hd this
      | cons c r => rfl
    rw [badNum, h2, h3]
    have h4 : decide (4 < (decDigits u).length) = false := by simpa using h1
    rw [h4]
    by_cases h0 : u = 0
    · subst h0; rw [dec_small (by omega)]; rfl
    · have := dec_head u (by omega)
      have h5 : ((decDigits u).head? == some 48) = false := by simpa using this
      rw [h5]; rfl
  rw [numberL, hb, if_neg (by simp), dec_num]
/-- a number's text -/
def numT (n : Int) : List UInt8 := decDigits n.toNat
theorem numT_itoa {n : Int} (h : 0 ≤ n) : Lib.itoa n = numT n := by rw [Lib.itoa, if_neg (by omega), numT]
theorem numT_ok {n : Int} (h : fitsI n = true) : numberL (numT n) = (n, true) := by
  simp only [fitsI, decide_eq_true_eq] at h
  rw [numT, num_dec (by omega)]
  exact Prod.ext (by simp only; omega) rfl
theorem numL_pos : ∀ {l : List UInt8}, l.all isDig = true → l ≠ [] → l.head? ≠ some 48 → 0 < numL l := by
  intro l
  induction hn : l.length using Nat.strongRecOn generalizing l with
  | ind n ih =>
    intro ha hne hh
    obtain ⟨l', c, rfl⟩ : ∃ l' c, l = l' ++ [c] := ⟨l.dropLast, l.getLast hne, (List.dropLast_concat_getLast _).symm⟩
    rw [List.all_append, Bool.and_eq_true] at ha
    have hc : 48 ≤ c.toNat ∧ c.toNat ≤ 57 := by simpa [isDig] using ha.2
    rw [numL_snoc]
    by_cases hl : l' = []
    · subst hl
      have : c ≠ 48 := by simpa using hh
      have : c.toNat ≠ 48 := fun e => this (UInt8.toNat_inj.1 e)
      simp [numL]; omega
    · have := ih l'.length (by subst hn; simp) rfl ha.1 hl (by
        cases l' with
        | nil => exact absurd rfl hl
        | cons a r => simpa using hh)
      omega
theorem dec_num_back : ∀ {l : List UInt8}, l.all isDig = true → l ≠ [] → (l.head? = some 48 → l.length = 1) → decDigits (numL l).toNat = l := by
  intro l
  induction hn : l.length using Nat.strongRecOn generalizing l with
  | ind n ih =>
    intro ha hne hh
    obtain ⟨l', c, rfl⟩ : ∃ l' c, l = l' ++ [c] := ⟨l.dropLast, l.getLast hne, (List.dropLast_concat_getLast _).symm⟩
    rw [List.all_append, Bool.and_eq_true] at ha
    have hc : 48 ≤ c.toNat ∧ c.toNat ≤ 57 := by simpa [isDig] using ha.2
    have hcc : UInt8.ofNat (48 + (c.toNat - 48)) = c := by
      apply UInt8.toNat_inj.1
      rw [UInt8.toNat_ofNat']; omega
    by_cases hl : l' = []
    · subst hl
      have e : (numL ([] ++ [c])).toNat = c.toNat - 48 := by simp [numL]; omega
      rw [e, dec_small (by omega), hcc]; rfl
    · have hh' : l'.head? ≠ some 48 := by
        intro e
        have : (l' ++ [c]).head? = some 48 := by
          cases l' with
          | nil => exact absurd rfl hl
          | cons a r => simpa using e
        have h0 := hh this
        rw [← hn] at h0
        simp at h0
        exact hl h0
      have hp := numL_pos ha.1 hl hh'
      have hi := ih l'.length (by subst hn; simp) rfl ha.1 hl (fun e => absurd e hh')
      have e1 : (numL (l' ++ [c])).toNat = 10 * (numL l').toNat + (c.toNat - 48) := by rw [numL_snoc]; omega
      rw [e1, dec_more (by omega)]
      have e2 : (10 * (numL l').toNat + (c.toNat - 48)) / 10 = (numL l').toNat := by omega
      have e3 : (10 * (numL l').toNat + (c.toNat - 48)) % 10 = c.toNat - 48 := by omega
      rw [e2, e3, hi, hcc]
theorem num_back {l : List UInt8} (h : (numberL l).2 = true) : numT (numberL l).1 = l ∧ fitsI (numberL l).1 = true := by
  have hb : badNum l = false := by
    cases hb : badNum l
    · rfl
    · rw [numberL, hb, if_pos rfl] at h; cases h
  have e : numberL l = (numL l, true) := by rw [numberL, hb, if_neg (by simp)]
  rw [e]
  simp only [badNum, Bool.or_eq_false_iff, Bool.and_eq_false_imp, Bool.not_eq_false'] at hb
  obtain ⟨⟨⟨h1, h2⟩, h3⟩, h4⟩ := hb
  have hne : l ≠ [] := by intro e; subst e; simp at h1
  have h5 : l.head? = some 48 → l.length = 1 := fun e => by
    have := h3 (by simp [e])
    have : ¬ 1 < l.length := by simpa using this
    have : l.length ≠ 0 := fun e => hne (List.eq_nil_of_length_eq_zero e)
    omega
  refine ⟨dec_num_back h4 hne h5, ?_⟩
  have h6 : ¬ 4 < l.length := by simpa using h2
  have hbd := numL_bounds l.length l rfl h4
  have : (10 : Int) ^ l.length ≤ 10 ^ 4 := by
    rcases (show l.length = 0 ∨ l.length = 1 ∨ l.length = 2 ∨ l.length = 3 ∨ l.length = 4 by omega) with e | e | e | e | e <;> rw [e] <;> decide
  simp only [fitsI, decide_eq_true_eq]
  omega
/-! ### The text ahead of a byte, and behind it -/
def beforeL (b : UInt8) (l : List UInt8) : List UInt8 := l.takeWhile (fun c => c != b)
def afterL (b : UInt8) (l : List UInt8) : List UInt8 := (l.dropWhile (fun c => c != b)).drop 1
theorem before_none {b : UInt8} : ∀ {l : List UInt8}, b ∉ l → beforeL b l = l ∧ afterL b l = []
  | [], _ => ⟨rfl, rfl⟩
  | c :: l, h => by
    have hc : (c != b) = true := by simp only [bne_iff_ne]; intro e; subst e; simp at h
    have := before_none (l := l) (b := b) (by simp at h; exact h.2)
    simp only [beforeL, afterL] at this ⊢
    rw [List.takeWhile_cons, List.dropWhile_cons, if_pos hc, if_pos hc, this.1]
    exact ⟨rfl, this.2⟩
theorem before_at {b : UInt8} : ∀ {l r : List UInt8}, b ∉ l → beforeL b (l ++ b :: r) = l ∧ afterL b (l ++ b :: r) = r
  | [], r, _ => by simp [beforeL, afterL]
  | c :: l, r, h => by
    have hc : (c != b) = true := by simp only [bne_iff_ne]; intro e; subst e; simp at h
    have := before_at (l := l) (r := r) (b := b) (by simp at h; exact h.2)
    simp only [beforeL, afterL, List.cons_append] at this ⊢
    rw [List.takeWhile_cons, List.dropWhile_cons, if_pos hc, if_pos hc, this.1]
    exact ⟨rfl, this.2⟩
theorem split_mem {b : UInt8} : ∀ {l : List UInt8}, b ∈ l → ∃ s t, l = s ++ b :: t ∧ b ∉ s
  | [], h => by cases h
  | c :: l, h => by
    by_cases hc : c = b
    · exact ⟨[], l, by rw [hc]; rfl, by simp⟩
    · have hb : b ∈ l := by
        rcases List.mem_cons.1 h with e | e
        · exact absurd e.symm hc
        · exact e
      obtain ⟨s, t, e, hs⟩ := split_mem hb
      exact ⟨c :: s, t, by rw [e]; rfl, by simp [hs]; exact fun e => hc e.symm⟩
theorem before_or (b : UInt8) (l : List UInt8) : (b ∉ l ∧ beforeL b l = l ∧ afterL b l = []) ∨ (l = beforeL b l ++ b :: afterL b l ∧ b ∉ beforeL b l) := by
  by_cases h : b ∈ l
  · right
    obtain ⟨s, t, rfl, hs⟩ := split_mem h
    obtain ⟨h1, h2⟩ := before_at (r := t) hs
    rw [h1, h2]
    exact ⟨rfl, hs⟩
  · exact .inl ⟨h, before_none h⟩
/-! ### Versions -/
def numsT (v : Ver) : List UInt8 := numT v.maj ++ 46 :: (numT v.min ++ 46 :: numT v.pat)
def preT (v : Ver) : List UInt8 := if (bts v.pre).isEmpty then [] else 45 :: bts v.pre
def bldT (v : Ver) : List UInt8 := if (bts v.bld).isEmpty then [] else 43 :: bts v.bld
def printV (v : Ver) : List UInt8 := if mayV v then numsT v ++ (preT v ++ bldT v) else []
def strB (l : List UInt8) : ByteArray := ⟨l.toArray⟩
theorem bts_strB (l : List UInt8) : bts (strB l) = l := by rw [bts, bts_data, strB]
theorem strB_bts (s : ByteArray) : strB (bts s) = s := bts_inj (bts_strB _)
def partsV (l : List UInt8) : List (List UInt8) := splitP (beforeL 45 (beforeL 43 l))
def threeV (p : List (List UInt8)) (pre bld : List UInt8) : Option Ver :=
  match p with
  | [a, b, c] => if (numberL a).2 && ((numberL b).2 && (numberL c).2) then some ⟨(numberL a).1, (numberL b).1, (numberL c).1, strB pre, strB bld⟩ else none
  | _ => none
/-- what version.Parse reads -/
def parseV (l : List UInt8) : Option Ver :=
  match threeV (partsV l) (afterL 45 (beforeL 43 l)) (afterL 43 l) with
  | some v => if mayV v && decide (printV v = l) then some v else none
  | none => none
theorem parseV_sound {l : List UInt8} {v : Ver} (h : parseV l = some v) : mayV v = true ∧ printV v = l := by
  unfold parseV at h
  split at h
  · split at h
    · rename_i hc
      simp only [Bool.and_eq_true, decide_eq_true_eq] at hc
      injection h with h
      subst h
      exact hc
    · cases h
  · cases h
theorem splitL_none {b : UInt8} : ∀ {l cur : List UInt8}, b ∉ l → splitL b cur l = [cur ++ l]
  | [], cur, _ => by simp [splitL]
  | c :: l, cur, h => by
    simp only [List.mem_cons, not_or] at h
    rw [splitL, if_neg (fun e => h.1 e.symm), splitL_none h.2]; simp
theorem splitL_at {b : UInt8} : ∀ {l cur r : List UInt8}, b ∉ l → splitL b cur (l ++ b :: r) = (cur ++ l) :: splitL b [] r
  | [], cur, r, _ => by simp [splitL]
  | c :: l, cur, r, h => by
    simp only [List.mem_cons, not_or] at h
    rw [List.cons_append, splitL, if_neg (fun e => h.1 e.symm), splitL_at h.2]; simp
theorem dig_no {b : UInt8} (hb : b.toNat < 48 ∨ 57 < b.toNat) (u : Int) : b ∉ numT u := fun h => by
  have := List.all_eq_true.1 (dec_dig u.toNat) b h
  simp only [isDig, decide_eq_true_eq] at this
  omega
/-- the bytes of a row of tags -/
theorem join_mem {b : UInt8} : ∀ {ls : List (List UInt8)}, b ∈ joinP ls → b = 46 ∨ ∃ t ∈ ls, b ∈ t
  | [], h => by simp [joinP] at h
  | [t], h => by simp [joinP] at h; exact .inr ⟨t, by simp, h⟩
  | t :: u :: r, h => by
    simp only [joinP, List.mem_append, List.mem_cons] at h
    rcases h with h | h | h
    · exact .inr ⟨t, by simp, h⟩
    · exact .inl h
    · rcases join_mem h with h | ⟨x, hx, hb⟩
      · exact .inl h
      · exact .inr ⟨x, List.mem_cons_of_mem _ hx, hb⟩
theorem tags_mem {l : List UInt8} (h : tagsL l = true) {b : UInt8} (hb : b ∈ l) : b.toNat = 46 ∨ tagCh b = true := by
  rw [tagsL, Bool.and_eq_true] at h
  have e : joinP (splitP l) = l := by have := join_split l []; simpa [splitP] using this
  rw [← e] at hb
  rcases join_mem hb with h1 | ⟨t, ht, hb⟩
  · left; rw [h1]; rfl
  · right
    have := List.all_eq_true.1 h.2 t ht
    rw [tagOk, Bool.and_eq_true] at this
    exact List.all_eq_true.1 this.2 b hb
theorem pre_mem {l : List UInt8} (h : preOk l = true) {b : UInt8} (hb : b ∈ l) : b.toNat = 46 ∨ tagCh b = true := by
  rw [preOk, Bool.or_eq_true] at h
  rcases h with h | h
  · rw [List.isEmpty_iff] at h; subst h; cases hb
  · rw [preL, Bool.and_eq_true] at h; exact tags_mem h.1 hb
theorem bld_mem {l : List UInt8} (h : bldOk l = true) {b : UInt8} (hb : b ∈ l) : b.toNat = 46 ∨ tagCh b = true := by
  rw [bldOk, Bool.or_eq_true] at h
  rcases h with h | h
  · rw [List.isEmpty_iff] at h; subst h; cases hb
  · exact tags_mem h hb
theorem mayV_parts {v : Ver} (h : mayV v = true) : fitsI v.maj = true ∧ fitsI v.min = true ∧ fitsI v.pat = true ∧ preOk (bts v.pre) = true ∧ bldOk (bts v.bld) = true := by
  simp only [mayV, Bool.and_eq_true] at h
  exact ⟨h.1.1.1.1, h.1.1.1.2, h.1.1.2, h.1.2, h.2⟩
theorem not_tag {b : UInt8} (h : b.toNat = 43 ∨ b.toNat = 32 ∨ b.toNat = 42 ∨ b.toNat = 47 ∨ b.toNat = 60 ∨ b.toNat = 61 ∨ b.toNat = 62) : ¬ (b.toNat = 46 ∨ tagCh b = true) := by
  simp only [tagCh, decide_eq_true_eq]; omega
theorem nums_no {b : UInt8} (hb : b.toNat < 46 ∨ 57 < b.toNat) (v : Ver) : b ∉ numsT v := by
  have h1 := dig_no (b := b) (by omega)
  have h2 : b ≠ 46 := fun e => by subst e; simp at hb
  simp only [numsT, List.mem_append, List.mem_cons, h1, h2, false_or, not_false_eq_true]
theorem pre_of {v : Ver} (h : preT v = []) : bts v.pre = [] := by
  unfold preT at h
  split at h
  · rename_i e; exact List.isEmpty_iff.1 e
  · cases h
/-- the parts of a version's text -/
theorem print_parts {v : Ver} (h : mayV v = true) : beforeL 43 (printV v) = numsT v ++ preT v ∧ afterL 43 (printV v) = bts v.bld ∧ beforeL 45 (numsT v ++ preT v) = numsT v ∧ afterL 45 (numsT v ++ preT v) = bts v.pre ∧ splitP (numsT v) = [numT v.maj, numT v.min, numT v.pat] := by
  obtain ⟨-, -, -, hp, hb⟩ := mayV_parts h
  have n43 : (43 : UInt8) ∉ numsT v ++ preT v := by
    rw [List.mem_append, not_or]
    refine ⟨nums_no (by decide) v, ?_⟩
    unfold preT
    split
    · simp
    · rw [List.mem_cons, not_or]
      exact ⟨by decide, fun e => not_tag (b := 43) (by decide) (pre_mem hp e)⟩
  have n45 : (45 : UInt8) ∉ numsT v := nums_no (by decide) v
  have e43 : beforeL 43 (printV v) = numsT v ++ preT v ∧ afterL 43 (printV v) = bts v.bld := by
    rw [printV, if_pos h, ← List.append_assoc]
    unfold bldT
    split
    · rename_i e
      rw [List.append_nil]
      have := before_none n43
      exact ⟨this.1, by rw [this.2, List.isEmpty_iff.1 e]⟩
    · exact before_at n43
  have e45 : beforeL 45 (numsT v ++ preT v) = numsT v ∧ afterL 45 (numsT v ++ preT v) = bts v.pre := by
    unfold preT
    split
    · rename_i e
      rw [List.append_nil]
      have := before_none n45
      exact ⟨this.1, by rw [this.2, List.isEmpty_iff.1 e]⟩
    · exact before_at n45
  refine ⟨e43.1, e43.2, e45.1, e45.2, ?_⟩
  have d46 := fun n => dig_no (b := 46) (by decide) n
  rw [splitP, numsT, splitL_at (d46 _), splitL_at (d46 _), splitL_none (d46 _)]; rfl
theorem three_print {v : Ver} (h : mayV v = true) : threeV [numT v.maj, numT v.min, numT v.pat] (bts v.pre) (bts v.bld) = some v := by
  obtain ⟨h1, h2, h3, -, -⟩ := mayV_parts h
  simp only [threeV, numT_ok h1, numT_ok h2, numT_ok h3, Bool.and_self, if_true, strB_bts]
theorem parseV_print {v : Ver} (h : mayV v = true) : parseV (printV v) = some v := by
  obtain ⟨e1, e2, e3, e4, e5⟩ := print_parts h
  unfold parseV partsV
  rw [e1, e2, e3, e4, e5, three_print h]
  simp [h]
theorem parseV_iff {l : List UInt8} {v : Ver} : parseV l = some v ↔ mayV v = true ∧ printV v = l :=
  ⟨parseV_sound, fun ⟨h1, h2⟩ => by rw [← h2]; exact parseV_print h1⟩
theorem printV_inj {v u : Ver} (hv : mayV v = true) (hu : mayV u = true) (h : printV v = printV u) : v = u := by
  have h1 := parseV_print hv
  rw [h, parseV_print hu] at h1
  exact (Option.some.inj h1).symm
/-- what the reference's Parse reads -/
def rparseV (l : List UInt8) : Option Ver :=
  match threeV (partsV l) (afterL 45 (beforeL 43 l)) (afterL 43 l) with
  | some v => if (l.contains 43 && (afterL 43 l).isEmpty) || ((beforeL 43 l).contains 45 && (afterL 45 (beforeL 43 l)).isEmpty) then none else if mayV v then some v else none
  | none => none
theorem rparseV_eq (l : List UInt8) : rparseV l = parseV l := by
  unfold rparseV parseV
  split
  · rename_i v hv
    have hcore : mayV v = true → ((l.contains 43 && (afterL 43 l).isEmpty) || ((beforeL 43 l).contains 45 && (afterL 45 (beforeL 43 l)).isEmpty)) = !decide (printV v = l) := by
      intro hm
      unfold threeV at hv
      split at hv
      · rename_i a b c hp
        split at hv
        · rename_i hn
          simp only [Bool.and_eq_true] at hn
          injection hv with hv
          have ha := num_back hn.1
          have hb := num_back hn.2.1
          have hc := num_back hn.2.2
          have hj : joinP (splitP (beforeL 45 (beforeL 43 l))) = beforeL 45 (beforeL 43 l) := by
            have := join_split (beforeL 45 (beforeL 43 l)) []
            simpa [splitP] using this
          rw [partsV] at hp
          rw [hp] at hj
          have hnums : numsT v = beforeL 45 (beforeL 43 l) := by
            rw [← hj, numsT, ← hv]
            simp only [ha.1, hb.1, hc.1, joinP]
          have hpre : bts v.pre = afterL 45 (beforeL 43 l) := by rw [← hv]; exact bts_strB _
          have hbld : bts v.bld = afterL 43 l := by rw [← hv]; exact bts_strB _
          have hpr : printV v = beforeL 45 (beforeL 43 l) ++ ((if (afterL 45 (beforeL 43 l)).isEmpty then [] else 45 :: afterL 45 (beforeL 43 l)) ++ (if (afterL 43 l).isEmpty then [] else 43 :: afterL 43 l)) := by
            rw [printV, if_pos hm, hnums, preT, bldT, hpre, hbld]
          rw [hpr]
          clear hpr hbld hpre hnums hj hp hv hc hb ha hn
          generalize hr : beforeL 43 l = r
          generalize hbb : afterL 43 l = bb
          generalize hq : beforeL 45 r = q
          generalize hpp : afterL 45 r = pp
          have k1 := before_or 43 l
          have k2 := before_or 45 r
          rw [hr, hbb] at k1
          rw [hq, hpp] at k2
          -- the text ahead of '+'
          have hmid : (r.contains 45 && pp.isEmpty) = !decide (q ++ (if pp.isEmpty then [] else 45 :: pp) = r) := by
            rcases k2 with ⟨n1, n2, n3⟩ | ⟨n1, n2⟩
            · subst n3
              have : r.contains 45 = false := by simpa using n1
              rw [this, n2]; simp
            · have hin : r.contains 45 = true := by rw [n1]; simp
              rw [hin]
              cases pp with
              | nil => rw [n1]; simp
              | cons x y => rw [n1]; simp
          rcases k1 with ⟨n1, n2, n3⟩ | ⟨n1, n2⟩
          · subst n3
            have : l.contains 43 = false := by simpa using n1
            rw [this, hmid, n2]; simp
          · have hin : l.contains 43 = true := by rw [n1]; simp
            rw [hin, hmid]
            cases bb with
            | nil =>
              have : ¬ (q ++ ((if pp.isEmpty then [] else 45 :: pp) ++ []) = l) := by
                intro e
                have e2 : (43 : UInt8) ∈ q ++ ((if pp.isEmpty then [] else 45 :: pp) ++ []) := by rw [e, n1]; simp
                rw [List.append_nil, List.mem_append] at e2
                have nr : (43 : UInt8) ∉ r := n2
                rcases k2 with ⟨m1, m2, m3⟩ | ⟨m1, m2⟩
                · subst m3; rw [m2] at e2; simp at e2; exact nr e2
                · rw [m1] at nr
                  simp only [List.mem_append, List.mem_cons, not_or] at nr
                  rcases e2 with e2 | e2
                  · exact nr.1 e2
                  · split at e2
                    · cases e2
                    · rw [List.mem_cons] at e2
                      rcases e2 with e2 | e2
                      · exact nr.2.1 e2
                      · exact nr.2.2 e2
              simp only [List.isEmpty_nil, if_true, this]; simp
            | cons x y =>
              simp only [List.isEmpty_cons, Bool.and_false, Bool.false_or]
              have : (q ++ ((if pp.isEmpty then [] else 45 :: pp) ++ 43 :: x :: y) = l) ↔ (q ++ (if pp.isEmpty then [] else 45 :: pp) = r) := by
                rw [n1, ← List.append_assoc]
                exact ⟨fun e => List.append_cancel_right e, fun e => by rw [e]⟩
              simp only [Bool.false_eq_true, if_false, this]
        · cases hv
      · cases hv
    cases hm : mayV v
    · simp
    · rw [hcore hm]
      simp only [Bool.true_and, if_true]
      cases decide (printV v = l) <;> rfl
  · rfl
end Go.Proofs.YtjceaniffooohaaGreatDoor
