import Derived.Test.YtplmlahpmnjneaaGreatDoorMBc
import Derived.Lib.OthersKept
import Derived.Lib.FrozenHead
import Derived.Lib.UnsafeStr
import Derived.Shelf.RegionOpenPlain
import Derived.Lib.ItoaNum
import Derived.Lib.Split
import Derived.Lib.IndexMore
import Derived.Test.YtplmlahpmnjneaaGreatDoorMPl
import Derived.Test.YtplmlahpmnjneaaGreatDoorShelf
import Derived.Test.YtplmlahpmnjneaaGreatDoorMSa
import Derived.Lib.AppendIntMem
import Derived.Laws.IdiomStrings
import Derived.Handy
import Derived.Test.YtplmlahpmnjneaaGreatDoorMSb
namespace Go.Proofs.YtplmlahpmnjneaaGreatDoor
open Go.RowKit Go.Lib
set_option linter.unusedVariables false
set_option linter.unusedSimpArgs false
section
variable {P : Program} {w : World} {base n : Nat} {v : Value} {xs : List Value}
end
def PageAt (b : Nat) (l : List UInt8) (w : World) : Prop := Lib.IsBuilderF 65 5 b b (Lib.byteCells l) w
structure Wrote (b : Nat) (w w' : World) : Prop where
  below : Below b w w'
  kept : Lib.OthersKept 5 (some b) w w'
theorem Wrote.refl (b : Nat) (w : World) : Wrote b w w := ⟨Below.refl _ _, Lib.OthersKept.refl _ _ _⟩
theorem Wrote.trans {b : Nat} {w w1 w2 : World} (h : Wrote b w w1) (k : Wrote b w1 w2) : Wrote b w w2 := ⟨h.below.trans k.below, h.kept.trans k.kept⟩
end Go.Proofs.YtplmlahpmnjneaaGreatDoor
namespace Go.Proofs.YtplmlahpmnjneaaGreatDoor
open Go.RowKit Go.Lib
set_option linter.unusedVariables false
set_option linter.unusedSimpArgs false
theorem digU (d : Nat) (h : d < 10) : (UInt8.ofNat (48 + d)).toNat = 48 + d := by
  rw [UInt8.toNat_ofNat']; omega
theorem dec_small {u : Nat} (h : u < 10) : decDigits u = [UInt8.ofNat (48 + u)] := by rw [decDigits, dif_pos h]
theorem dec_more {u : Nat} (h : ¬ u < 10) : decDigits u = decDigits (u / 10) ++ [UInt8.ofNat (48 + u % 10)] := by rw [decDigits, dif_neg h]
theorem dec_dig : ∀ (u : Nat), (decDigits u).all isDig = true := by
  intro u
  induction u using Nat.strongRecOn with
  | ind u ih =>
    by_cases h : u < 10
    · rw [dec_small h]; simp only [List.all_cons, List.all_nil, Bool.and_true, isDig, digU u h]; simp; omega
    · rw [dec_more h, List.all_append, ih (u / 10) (by omega)]
      simp only [List.all_cons, List.all_nil, Bool.and_true, Bool.true_and, isDig, digU (u % 10) (by omega)]; simp; omega
theorem dec_num : ∀ (u : Nat), numL (decDigits u) = u := by
  intro u
  induction u using Nat.strongRecOn with
  | ind u ih =>
    by_cases h : u < 10
    · rw [dec_small h]; simp only [numL, List.foldl_cons, List.foldl_nil, digU u h]; omega
    · rw [dec_more h, numL_snoc, ih (u / 10) (by omega), digU (u % 10) (by omega)]; omega
theorem dec_ne (u : Nat) : decDigits u ≠ [] := by
  by_cases h : u < 10
  · rw [dec_small h]; simp
  · rw [dec_more h]; simp
theorem dec_head : ∀ (u : Nat), 0 < u → (decDigits u).head? ≠ some 48 := by
  intro u
  induction u using Nat.strongRecOn with
  | ind u ih =>
    intro h0
    by_cases h : u < 10
    · rw [dec_small h]
      simp only [List.head?_cons, ne_eq, Option.some.injEq]
      intro e
      have := congrArg UInt8.toNat e
      rw [digU u h] at this
      simp at this
      omega
    · rw [dec_more h]
      have := ih (u / 10) (by omega) (by omega)
      have hne := dec_ne (u / 10)
      cases hd : decDigits (u / 10) with
      | nil => exact absurd hd hne
      | cons c r => rw [hd] at this; simpa using this
theorem dec_len {u : Nat} (h : u ≤ 9999) : (decDigits u).length ≤ 4 := by
  by_cases h1 : u < 10
  · rw [dec_small h1]; simp
  · rw [dec_more h1]
    by_cases h2 : u / 10 < 10
    · rw [dec_small h2]; simp
    · rw [dec_more h2]
      by_cases h3 : u / 10 / 10 < 10
      · rw [dec_small h3]; simp
      · rw [dec_more h3, dec_small (by omega)]; simp
theorem num_dec {u : Nat} (h : u ≤ 9999) : numberL (decDigits u) = ((u : Int), true) := by
  have hb : badNum (decDigits u) = false := by
    have h1 := dec_len h
    have h2 := dec_dig u
    have h3 : (decDigits u).isEmpty = false := by
      have := dec_ne u
      cases hd : decDigits u with
      | nil => exact absurd hd this
      | cons c r => rfl
    rw [badNum, h2, h3]
    have h4 : decide (4 < (decDigits u).length) = false := by simpa using h1
    rw [h4]
    by_cases h0 : u = 0
    · subst h0; rw [dec_small (by omega)]; rfl
    · have := dec_head u (by omega)
      have h5 : ((decDigits u).head? == some 48) = false := by simpa using this
      rw [h5]; rfl
  rw [numberL, hb, if_neg (by simp), dec_num]
def numT (n : Int) : List UInt8 := decDigits n.toNat
theorem numT_itoa {n : Int} (h : 0 ≤ n) : Lib.itoa n = numT n := by rw [Lib.itoa, if_neg (by omega), numT]
theorem numT_ok {n : Int} (h : fitsI n = true) : numberL (numT n) = (n, true) := by
  simp only [fitsI, decide_eq_true_eq] at h
  rw [numT, num_dec (by omega)]
  exact Prod.ext (by simp only; omega) rfl
theorem numL_pos : ∀ {l : List UInt8}, l.all isDig = true → l ≠ [] → l.head? ≠ some 48 → 0 < numL l := by
  intro l
  induction hn : l.length using Nat.strongRecOn generalizing l with
  | ind n ih =>
    intro ha hne hh
    obtain ⟨l', c, rfl⟩ : ∃ l' c, l = l' ++ [c] := ⟨l.dropLast, l.getLast hne, (List.dropLast_concat_getLast _).symm⟩
    rw [List.all_append, Bool.and_eq_true] at ha
    have hc : 48 ≤ c.toNat ∧ c.toNat ≤ 57 := by simpa [isDig] using ha.2
    rw [numL_snoc]
    by_cases hl : l' = []
    · subst hl
      have : c ≠ 48 := by simpa using hh
      have : c.toNat ≠ 48 := fun e => this (UInt8.toNat_inj.1 e)
      simp [numL]; omega
    · have := ih l'.length (by subst hn; simp) rfl ha.1 hl (by
        cases l' with
        | nil => exact absurd rfl hl
        | cons a r => simpa using hh)
      omega
theorem dec_num_back : ∀ {l : List UInt8}, l.all isDig = true → l ≠ [] → (l.head? = some 48 → l.length = 1) → decDigits (numL l).toNat = l := by
  intro l
  induction hn : l.length using Nat.strongRecOn generalizing l with
  | ind n ih =>
    intro ha hne hh
    obtain ⟨l', c, rfl⟩ : ∃ l' c, l = l' ++ [c] := ⟨l.dropLast, l.getLast hne, (List.dropLast_concat_getLast _).symm⟩
    rw [List.all_append, Bool.and_eq_true] at ha
    have hc : 48 ≤ c.toNat ∧ c.toNat ≤ 57 := by simpa [isDig] using ha.2
    have hcc : UInt8.ofNat (48 + (c.toNat - 48)) = c := by
      apply UInt8.toNat_inj.1
      rw [UInt8.toNat_ofNat']; omega
    by_cases hl : l' = []
    · subst hl
      have e : (numL ([] ++ [c])).toNat = c.toNat - 48 := by simp [numL]; omega
      rw [e, dec_small (by omega), hcc]; rfl
    · have hh' : l'.head? ≠ some 48 := by
        intro e
        have : (l' ++ [c]).head? = some 48 := by
          cases l' with
          | nil => exact absurd rfl hl
          | cons a r => simpa using e
        have h0 := hh this
        rw [← hn] at h0
        simp at h0
        exact hl h0
      have hp := numL_pos ha.1 hl hh'
      have hi := ih l'.length (by subst hn; simp) rfl ha.1 hl (fun e => absurd e hh')
      have e1 : (numL (l' ++ [c])).toNat = 10 * (numL l').toNat + (c.toNat - 48) := by rw [numL_snoc]; omega
      rw [e1, dec_more (by omega)]
      have e2 : (10 * (numL l').toNat + (c.toNat - 48)) / 10 = (numL l').toNat := by omega
      have e3 : (10 * (numL l').toNat + (c.toNat - 48)) % 10 = c.toNat - 48 := by omega
      rw [e2, e3, hi, hcc]
theorem num_back {l : List UInt8} (h : (numberL l).2 = true) : numT (numberL l).1 = l ∧ fitsI (numberL l).1 = true := by
  have hb : badNum l = false := by
    cases hb : badNum l
    · rfl
    · rw [numberL, hb, if_pos rfl] at h; cases h
  have e : numberL l = (numL l, true) := by rw [numberL, hb, if_neg (by simp)]
  rw [e]
  simp only [badNum, Bool.or_eq_false_iff, Bool.and_eq_false_imp, Bool.not_eq_false'] at hb
  obtain ⟨⟨⟨h1, h2⟩, h3⟩, h4⟩ := hb
  have hne : l ≠ [] := by intro e; subst e; simp at h1
  have h5 : l.head? = some 48 → l.length = 1 := fun e => by
    have := h3 (by simp [e])
    have : ¬ 1 < l.length := by simpa using this
    have : l.length ≠ 0 := fun e => hne (List.eq_nil_of_length_eq_zero e)
    omega
  refine ⟨dec_num_back h4 hne h5, ?_⟩
  have h6 : ¬ 4 < l.length := by simpa using h2
  have hbd := numL_bounds l.length l rfl h4
  have : (10 : Int) ^ l.length ≤ 10 ^ 4 := by
    rcases (show l.length = 0 ∨ l.length = 1 ∨ l.length = 2 ∨ l.length = 3 ∨ l.length = 4 by omega) with e | e | e | e | e <;> rw [e] <;> decide
  simp only [fitsI, decide_eq_true_eq]
  omega
def beforeL (b : UInt8) (l : List UInt8) : List UInt8 := l.takeWhile (fun c => c != b)
def afterL (b : UInt8) (l : List UInt8) : List UInt8 := (l.dropWhile (fun c => c != b)).drop 1
theorem before_none {b : UInt8} : ∀ {l : List UInt8}, b ∉ l → beforeL b l = l ∧ afterL b l = []
  | [], _ => ⟨rfl, rfl⟩
  | c :: l, h => by
    have hc : (c != b) = true := by simp only [bne_iff_ne]; intro e; subst e; simp at h
    have := before_none (l := l) (b := b) (by simp at h; exact h.2)
    simp only [beforeL, afterL] at this ⊢
    rw [List.takeWhile_cons, List.dropWhile_cons, if_pos hc, if_pos hc, this.1]
    exact ⟨rfl, this.2⟩
theorem before_at {b : UInt8} : ∀ {l r : List UInt8}, b ∉ l → beforeL b (l ++ b :: r) = l ∧ afterL b (l ++ b :: r) = r
  | [], r, _ => by simp [beforeL, afterL]
  | c :: l, r, h => by
    have hc : (c != b) = true := by simp only [bne_iff_ne]; intro e; subst e; simp at h
    have := before_at (l := l) (r := r) (b := b) (by simp at h; exact h.2)
    simp only [beforeL, afterL, List.cons_append] at this ⊢
    rw [List.takeWhile_cons, List.dropWhile_cons, if_pos hc, if_pos hc, this.1]
    exact ⟨rfl, this.2⟩
theorem split_mem {b : UInt8} : ∀ {l : List UInt8}, b ∈ l → ∃ s t, l = s ++ b :: t ∧ b ∉ s
  | [], h => by cases h
  | c :: l, h => by
    by_cases hc : c = b
    · exact ⟨[], l, by rw [hc]; rfl, by simp⟩
    · have hb : b ∈ l := by
        rcases List.mem_cons.1 h with e | e
        · exact absurd e.symm hc
        · exact e
      obtain ⟨s, t, e, hs⟩ := split_mem hb
      exact ⟨c :: s, t, by rw [e]; rfl, by simp [hs]; exact fun e => hc e.symm⟩
theorem before_or (b : UInt8) (l : List UInt8) : (b ∉ l ∧ beforeL b l = l ∧ afterL b l = []) ∨ (l = beforeL b l ++ b :: afterL b l ∧ b ∉ beforeL b l) := by
  by_cases h : b ∈ l
  · right
    obtain ⟨s, t, rfl, hs⟩ := split_mem h
    obtain ⟨h1, h2⟩ := before_at (r := t) hs
    rw [h1, h2]
    exact ⟨rfl, hs⟩
  · exact .inl ⟨h, before_none h⟩
def preT (v : Ver) : List UInt8 := if (bts v.pre).isEmpty then [] else 45 :: bts v.pre
def strB (l : List UInt8) : ByteArray := ⟨l.toArray⟩
theorem bts_strB (l : List UInt8) : bts (strB l) = l := by rw [bts, bts_data, strB]
theorem strB_bts (s : ByteArray) : strB (bts s) = s := bts_inj (bts_strB _)
theorem splitL_none {b : UInt8} : ∀ {l cur : List UInt8}, b ∉ l → splitL b cur l = [cur ++ l]
  | [], cur, _ => by simp [splitL]
  | c :: l, cur, h => by
    simp only [List.mem_cons, not_or] at h
    rw [splitL, if_neg (fun e => h.1 e.symm), splitL_none h.2]; simp
theorem splitL_at {b : UInt8} : ∀ {l cur r : List UInt8}, b ∉ l → splitL b cur (l ++ b :: r) = (cur ++ l) :: splitL b [] r
  | [], cur, r, _ => by simp [splitL]
  | c :: l, cur, r, h => by
    simp only [List.mem_cons, not_or] at h
    rw [List.cons_append, splitL, if_neg (fun e => h.1 e.symm), splitL_at h.2]; simp
theorem dig_no {b : UInt8} (hb : b.toNat < 48 ∨ 57 < b.toNat) (u : Int) : b ∉ numT u := fun h => by
  have := List.all_eq_true.1 (dec_dig u.toNat) b h
  simp only [isDig, decide_eq_true_eq] at this
  omega
theorem join_mem {b : UInt8} : ∀ {ls : List (List UInt8)}, b ∈ joinP ls → b = 46 ∨ ∃ t ∈ ls, b ∈ t
  | [], h => by simp [joinP] at h
  | [t], h => by simp [joinP] at h; exact .inr ⟨t, by simp, h⟩
  | t :: u :: r, h => by
    simp only [joinP, List.mem_append, List.mem_cons] at h
    rcases h with h | h | h
    · exact .inr ⟨t, by simp, h⟩
    · exact .inl h
    · rcases join_mem h with h | ⟨x, hx, hb⟩
      · exact .inl h
      · exact .inr ⟨x, List.mem_cons_of_mem _ hx, hb⟩
theorem tags_mem {l : List UInt8} (h : tagsL l = true) {b : UInt8} (hb : b ∈ l) : b.toNat = 46 ∨ tagCh b = true := by
  rw [tagsL, Bool.and_eq_true] at h
  have e : joinP (splitP l) = l := by have := join_split l []; simpa [splitP] using this
  rw [← e] at hb
  rcases join_mem hb with h1 | ⟨t, ht, hb⟩
  · left; rw [h1]; rfl
  · right
    have := List.all_eq_true.1 h.2 t ht
    rw [tagOk, Bool.and_eq_true] at this
    exact List.all_eq_true.1 this.2 b hb
theorem pre_mem {l : List UInt8} (h : preOk l = true) {b : UInt8} (hb : b ∈ l) : b.toNat = 46 ∨ tagCh b = true := by
  rw [preOk, Bool.or_eq_true] at h
  rcases h with h | h
  · rw [List.isEmpty_iff] at h; subst h; cases hb
  · rw [preL, Bool.and_eq_true] at h; exact tags_mem h.1 hb
theorem mayV_parts {v : Ver} (h : mayV v = true) : fitsI v.maj = true ∧ fitsI v.min = true ∧ fitsI v.pat = true ∧ preOk (bts v.pre) = true ∧ bldOk (bts v.bld) = true := by
  simp only [mayV, Bool.and_eq_true] at h
  exact ⟨h.1.1.1.1, h.1.1.1.2, h.1.1.2, h.1.2, h.2⟩
theorem not_tag {b : UInt8} (h : b.toNat = 43 ∨ b.toNat = 32 ∨ b.toNat = 42 ∨ b.toNat = 47 ∨ b.toNat = 60 ∨ b.toNat = 61 ∨ b.toNat = 62) : ¬ (b.toNat = 46 ∨ tagCh b = true) := by
  simp only [tagCh, decide_eq_true_eq]; omega
end Go.Proofs.YtplmlahpmnjneaaGreatDoor
namespace Go.Proofs.YtplmlahpmnjneaaGreatDoor
open Go.RowKit Go.Lib
set_option linter.unusedVariables false
set_option linter.unusedSimpArgs false
def StrPost (w : World) (l : List UInt8) (e : Ending) (w' : World) : Prop := ∃ s : ByteArray, e = .returned (.string s) ∧ bts s = l ∧ Below w.heap.size w w'
theorem bts_append (a b : ByteArray) : bts (a ++ b) = bts a ++ bts b := by
  rw [bts, bts, bts, bts_data, bts_data, bts_data, ByteArray.data_append, Array.toList_append]
theorem bts_lit (l : List UInt8) : bts (⟨l.toArray⟩ : ByteArray) = l := bts_strB l
theorem str_case (s : ByteArray) : (s.toList.isEmpty = false ∧ ¬ s.toList = []) ∨ s.toList = [] := by
  by_cases h : 0 < s.size
  · exact .inl (ne_of_size h)
  · exact .inr (isEmpty_of h)
theorem tab_below {P : Program} {w w' : World} {name : String} {k : IntKind} {zs : List Int} (h : Lib.TabIs P w name k zs) (hb : Below w.heap.size w w') : Lib.TabIs P w' name k zs := by
  unfold Lib.TabIs World.var? at *
  cases hg : P.globalNamed name with
  | none => rw [hg] at h; cases h
  | some g =>
    rw [hg] at h
    simp only [Option.bind_some] at h ⊢
    have hlt : g < w.heap.size := by
      rcases Nat.lt_or_ge g w.heap.size with k | k
      · exact k
      · rw [Array.getElem?_eq_none k] at h; cases h
    rw [hb.block g hlt]; exact h
structure Laid (w : World) : Prop where
  first : First w
  pow : Lib.TabIs Tryz.prog w "internal/strconv.uint64pow10" .u64 Lib.pow10Tab
  maxl : ∃ m : Int, w.cell? ⟨1, 0, none⟩ = some (.int .i64 m)
theorem cell_lt {w : World} {p : Addr} {v : Value} (h : w.cell? p = some v) : p.block < w.heap.size := World.block_lt_of_cell? w p h
theorem Laid.below {w w' : World} (h : Laid w) (hb : Below w.heap.size w w') : Laid w' :=
  ⟨h.first.below hb, tab_below h.pow hb, let ⟨m, hm⟩ := h.maxl; ⟨m, by rw [hb.cell (cell_lt hm)]; exact hm⟩⟩
theorem below_grown (w : World) (k : Nat) (os : Array Obj) : Below w.heap.size w (Sort.grow (w.drewN k) os) := ⟨Lib.below_grow _ w (Nat.le_refl _) k os, by simp [Sort.grow, World.drewN]⟩
theorem digits_any (n : Int) (w : World) (hL : Laid w) (h0 : 0 ≤ n) (h1 : n ≤ 9999) : Calls Tryz.prog 153 #[.int .i64 n] w (StrPost w (numT n)) := by
  have HC := hid (Any.strconv_Itoa Tryz.laysM171 n (by omega) (by omega) w hL.pow)
  have e := numT_itoa h0
  clear hL
  go_enter Tryz.func153, Tryz.ntmps153
  go_wp2_with fail
  refine HC.out.mono ?_
  rintro _ _ ⟨rfl, k, os, rfl⟩
  go_wp2_with fail
  go_ret
  exact ⟨_, rfl, bts_lit _, below_grown _ _ _⟩
theorem digits_fits (n : Int) (w : World) (hL : Laid w) (h : fitsI n = true) : Calls Tryz.prog 153 #[.int .i64 n] w (StrPost w (numT n)) := by
  simp only [fitsI, decide_eq_true_eq] at h
  exact digits_any n w hL h.1 h.2
theorem b45 : bts (⟨#[45]⟩ : ByteArray) = [45] := bts_lit [45]
theorem b43 : bts (⟨#[43]⟩ : ByteArray) = [43] := bts_lit [43]
theorem preT_ne {v : Ver} (h : v.pre.toList.isEmpty = false) : preT v = 45 :: bts v.pre := by rw [preT, if_neg (by rw [bts, h]; simp)]
theorem preT_nil {v : Ver} (h : v.pre.toList = []) : preT v = [] := by rw [preT, if_pos (by rw [bts, h]; rfl)]
end Go.Proofs.YtplmlahpmnjneaaGreatDoor
namespace Go.Proofs.YtplmlahpmnjneaaGreatDoor
open Go.RowKit Go.Lib
set_option linter.unusedVariables false
set_option linter.unusedSimpArgs false
def prefD (m : Nat) : List UInt8 := if m < 10 then [] else decDigits (m / 10)
theorem prefD_next {m : Nat} (h : 9 < m) : prefD m = prefD (m / 10) ++ [UInt8.ofNat (48 + m / 10 % 10)] := by
  rw [prefD, if_neg (by omega), prefD]
  split
  · rename_i h2
    rw [dec_small h2, Nat.mod_eq_of_lt h2]; rfl
  · rename_i h2
    rw [dec_more h2]
theorem prefD_all (m : Nat) : decDigits m = prefD m ++ [UInt8.ofNat (48 + m % 10)] := by
  rw [prefD]
  split
  · rename_i h2
    rw [dec_small h2, Nat.mod_eq_of_lt h2]; rfl
  · rename_i h2
    rw [dec_more h2]
def dgB (n : Nat) : ByteArray := ⟨[UInt8.ofNat (48 + n % 10)].toArray⟩
theorem dgB_bts (n : Nat) : bts (dgB n) = [UInt8.ofNat (48 + n % 10)] := bts_lit _
theorem dgB_size (n : Nat) : (dgB n).size = 1 := by rw [← bts_len, dgB_bts]; rfl
theorem conv_digit (w : World) (n : Nat) : (convert 61 9 (.slice (some ⟨w.heap.size, 0, none⟩) 1 1)).run Tryz.prog (w.alloc (.cells #[.int .u8 (48 + (n : Int) % 10)] 5)) = .ok (.string (dgB n)) (w.alloc (.cells #[.int .u8 (48 + (n : Int) % 10)] 5)) := by
  refine run_convert_bytes_back (P := Tryz.prog) _ 61 9 5 ⟨w.heap.size, 0, none⟩ 1 [UInt8.ofNat (48 + n % 10)] Tryz.underlying61 Tryz.underlying5 Tryz.underlying9 (fun j hj => ?_)
  obtain rfl : j = 0 := by simpa using hj
  have e : (⟨w.heap.size, 0, none⟩ : Addr).add 0 = ⟨w.heap.size, 0, none⟩ := rfl
  rw [e, World.cell?_alloc_at _ _ _ _ rfl]
  simp only [List.getElem_cons_zero, digU (n % 10) (by omega)]
  rfl
def WRel (w : World) (n m : Nat) (s : ByteArray) (wr : World) : Prop := m ≤ n ∧ s.size ≤ n + 1 - m ∧ decDigits n = prefD m ++ bts s ∧ Below w.heap.size w wr
theorem wrel_start (w : World) (n : Nat) : WRel w n n (dgB n) (w.alloc (.cells #[.int .u8 (48 + (n : Int) % 10)] 5)) :=
  ⟨Nat.le_refl _, by rw [dgB_size]; omega, by rw [dgB_bts]; exact prefD_all n, below_new _ _⟩
theorem wrel_next {w wr : World} {n m : Nat} {s : ByteArray} (h : WRel w n m s wr) (hm : 9 < m) (o : Obj) : WRel w n (m / 10) (dgB (m / 10) ++ s) (wr.alloc o) := by
  obtain ⟨h1, h2, h3, h4⟩ := h
  refine ⟨by omega, ?_, ?_, below_tr h4 (below_new _ _)⟩
  · rw [ByteArray.size_append, dgB_size]; omega
  · rw [h3, prefD_next hm, bts_append, dgB_bts]; simp
set_option maxRecDepth 100000 in
set_option maxHeartbeats 1000000 in
theorem wholeN_any (n : Nat) (w : World) (hn : n ≤ 9999) : Calls Tryz.prog 225 #[.int .u64 n] w (StrPost w (decDigits n)) := by
  have hcv := conv_digit
  go_enter Tryz.func225, Tryz.ntmps225
  go_wp2_with fail
  go_loopw [0, 3] (fun k t wr => ∃ (m : Nat) (s : ByteArray), k = .int .u64 m ∧ t = .string s ∧ WRel w n m s wr) (fun k _ _ => (intOf k).toNat)
  case atStart => exact ⟨n, _, rfl, rfl, wrel_start w n⟩
  case round =>
    obtain ⟨m, s, rfl, rfl, hr⟩ := hrel
    have HR := hid hr
    have hm1 := hr.1
    have hs1 := hr.2.1
    clear hr
    by_cases hm : 9 < m
    · have hcv2 : ∀ w : World, (convert 61 9 (.slice (some ⟨w.heap.size, 0, none⟩) 1 1)).run Tryz.prog (w.alloc (.cells #[.int .u8 (48 + (m : Int) / 10 % 10)] 5)) = .ok (.string (dgB (m / 10))) (w.alloc (.cells #[.int .u8 (48 + (m : Int) / 10 % 10)] 5)) := fun w => conv_digit w (m / 10)
      have hd1 := dgB_size (m / 10)
      clear hcv
      go_wp2_with fail
      go_roundw
      case rel => exact ⟨m / 10, _, by go_num, rfl, wrel_next HR.out hm _⟩
      case measure => simp [intOf]; omega
    · go_wp2_with fail
      go_ret
      obtain ⟨h1, h2, h3, h4⟩ := HR.out
      exact ⟨_, rfl, by rw [h3, prefD, if_pos (by omega)]; rfl, h4⟩
theorem rdigits_any (n : Int) (w : World) (h0 : 0 ≤ n) (h1 : n ≤ 9999) : Calls Tryz.prog 201 #[.int .i64 n] w (StrPost w (numT n)) := by
  obtain ⟨k, rfl⟩ := Int.eq_ofNat_of_zero_le h0
  have HC := hid (wholeN_any k w (by omega))
  have e : numT (k : Int) = decDigits k := by rw [numT, Int.toNat_natCast]
  rw [e]
  clear e
  go_enter Tryz.func201, Tryz.ntmps201
  go_wp2_with fail
  refine HC.out.mono ?_
  rintro _ w1 ⟨s, rfl, hs, hb⟩
  go_wp2_with fail
  go_ret
  exact ⟨s, rfl, hs, hb⟩
theorem rdigits_fits (n : Int) (w : World) (h : fitsI n = true) : Calls Tryz.prog 201 #[.int .i64 n] w (StrPost w (numT n)) := by
  simp only [fitsI, decide_eq_true_eq] at h
  exact rdigits_any n w h.1 h.2
end Go.Proofs.YtplmlahpmnjneaaGreatDoor
namespace Go.Proofs.YtplmlahpmnjneaaGreatDoor
open Go.RowKit Go.Lib
set_option linter.unusedVariables false
set_option linter.unusedSimpArgs false
theorem bts_extract (s : ByteArray) (a b : Nat) : bts (s.extract a b) = ((bts s).drop a).take (b - a) := by
  rw [Lib.extract_eq, bts_lit, bts, bts_data]
theorem bts_at (s : ByteArray) (k : Nat) (h : k < s.size) : bts s = (bts s).take k ++ s[k] :: (bts s).drop (k + 1) := by
  have e := List.drop_eq_getElem_cons (l := bts s) (i := k) (by rw [bts_len]; exact h)
  rw [bts_get s k h] at e
  rw [← e, List.take_append_drop]
theorem behind_at {s : ByteArray} {k : Nat} {b : UInt8} (h : k < s.size) (hb : s[k] = b) (hn : b ∉ (bts s).take k) : beforeL b (bts s) = bts (s.extract 0 k) ∧ afterL b (bts s) = bts (s.extract (k + 1) s.size) := by
  have e := bts_at s k h
  rw [hb] at e
  have h1 := before_at (r := (bts s).drop (k + 1)) hn
  rw [← e] at h1
  refine ⟨by rw [h1.1, bts_extract]; simp, ?_⟩
  rw [h1.2, bts_extract, List.take_of_length_le]
  rw [List.length_drop, bts_len]; omega
def Str2 (w : World) (l m : List UInt8) (e : Ending) (w' : World) : Prop := ∃ s t : ByteArray, e = .returned (.tuple #[.string s, .string t]) ∧ bts s = l ∧ bts t = m ∧ ∃ n, w' = w.drewN n
theorem Box.put {w : World} {g j : Nat} {cs : List Value} (h : Box w g cs) (hj : j < cs.length) (v : Value) : Box (w.setCell ⟨g, j, none⟩ v) g (cs.take j ++ [v] ++ cs.drop (j + 1)) := h.set (o := j) (vs := [v]) (by simp only [List.length_singleton]; omega)
theorem Box.putOther {w : World} {g k j : Nat} {cs : List Value} (h : Box w g cs) (hk : g ≠ k) (v : Value) : Box (w.setCell ⟨k, j, none⟩ v) g cs := h.setOther (o := j) (vs := [v]) hk
theorem Box.drewN {w : World} {g : Nat} {cs : List Value} (h : Box w g cs) (n : Nat) : Box (w.drewN n) g cs := h
theorem Box.drew {w : World} {g : Nat} {cs : List Value} (h : Box w g cs) : Box w.drew g cs := h
theorem Soft.put {w : World} {g k j : Nat} (h : Soft w g) (v : Value) : Soft (w.setCell ⟨k, j, none⟩ v) g := h.set (o := j) (vs := [v])
theorem Soft.drewN {w : World} {g : Nat} (h : Soft w g) (n : Nat) : Soft (w.drewN n) g := h
theorem below_drewN {w w1 : World} (h : Below w.heap.size w w1) (n : Nat) : Below w.heap.size w (w1.drewN n) := ⟨⟨h.os, h.tape, h.output, h.size, h.block⟩, Nat.le_trans h.drawn (by simp [World.drewN])⟩
theorem below_put {w w1 : World} (h : Below w.heap.size w w1) {k j : Nat} (hk : w.heap.size ≤ k) (v : Value) : Below w.heap.size w (w1.setCell ⟨k, j, none⟩ v) := h.setCell (p := ⟨k, j, none⟩) hk v
structure Own (B : Nat) (w : World) (g : Nat) (cs : List Value) : Prop where
  box : Box w g cs
  soft : Soft w g
  low : B ≤ g
theorem Own.below {B : Nat} {w w' : World} {g : Nat} {cs : List Value} (h : Own B w g cs) (hb : Below w.heap.size w w') : Own B w' g cs := ⟨h.box.below hb, h.soft.below h.box.1 hb, h.low⟩
theorem Own.put {B : Nat} {w : World} {g j : Nat} {cs : List Value} (h : Own B w g cs) (hj : j < cs.length) (v : Value) : Own B (w.setCell ⟨g, j, none⟩ v) g (cs.take j ++ [v] ++ cs.drop (j + 1)) := ⟨h.box.put hj v, h.soft.put v, h.low⟩
theorem Own.other {B : Nat} {w : World} {g k j : Nat} {cs : List Value} (h : Own B w g cs) (hk : g ≠ k) (v : Value) : Own B (w.setCell ⟨k, j, none⟩ v) g cs := ⟨h.box.putOther hk v, h.soft.put v, h.low⟩
theorem Own.drewN {B : Nat} {w : World} {g : Nat} {cs : List Value} (h : Own B w g cs) (n : Nat) : Own B (w.drewN n) g cs := ⟨h.box, h.soft, h.low⟩
theorem Own.new (w : World) (cs : List Value) (t : TypeId) {B : Nat} (hB : B ≤ w.heap.size) : Own B (w.alloc (.cells cs.toArray t)) w.heap.size cs := ⟨Box.new w cs t, Soft.new w _ t, hB⟩
theorem Own.alloc {B : Nat} {w : World} {g : Nat} {cs : List Value} (h : Own B w g cs) (o : Obj) : Own B (w.alloc o) g cs := h.below (below_new w o)
theorem Own.new2 (w : World) (o : Obj) (cs : List Value) (t : TypeId) {B : Nat} (hB : B ≤ w.heap.size) : Own B ((w.alloc o).alloc (.cells cs.toArray t)) (w.heap.size + 1) cs := by
  have := Own.new (w.alloc o) cs t (B := B) (by rw [World.size_alloc]; omega)
  rwa [World.size_alloc] at this
theorem Own.set5 {B : Nat} {w : World} {g : Nat} {a0 a1 a2 a3 a4 : Value} (h : Own B w g [a0, a1, a2, a3, a4]) (b0 b1 b2 b3 b4 : Value) :
    Own B (((((w.setCell ⟨g, 0, none⟩ b0).setCell ⟨g, 1, none⟩ b1).setCell ⟨g, 2, none⟩ b2).setCell ⟨g, 3, none⟩ b3).setCell ⟨g, 4, none⟩ b4) g [b0, b1, b2, b3, b4] :=
  ⟨h.box.set (o := 0) (vs := [b0, b1, b2, b3, b4]) (by simp), h.soft.set (o := 0) (vs := [b0, b1, b2, b3, b4]), h.low⟩
theorem below_set5 {w w1 : World} (h : Below w.heap.size w w1) {g : Nat} (hg : w.heap.size ≤ g) (b0 b1 b2 b3 b4 : Value) :
    Below w.heap.size w (((((w1.setCell ⟨g, 0, none⟩ b0).setCell ⟨g, 1, none⟩ b1).setCell ⟨g, 2, none⟩ b2).setCell ⟨g, 3, none⟩ b3).setCell ⟨g, 4, none⟩ b4) :=
  below_put (below_put (below_put (below_put (below_put h hg _) hg _) hg _) hg _) hg _
theorem body_name {P : Program} {f : Func} {R : Ending → World → Prop} {e : Exit} {a : Act} {w : World} (h : ∀ w1, w1 = w → bodyPost P f R e a w1) : bodyPost P f R e a w := h w rfl
theorem put_cell {w : World} {g k j o : Nat} (h : g ≠ k) (v : Value) : (w.setCell ⟨k, j, none⟩ v).cell? ⟨g, o, none⟩ = w.cell? ⟨g, o, none⟩ := World.cell?_setCell_other _ _ _ _ (by simp only [ne_eq, Addr.mk.injEq, not_and]; intro e; exact absurd e.symm h)
theorem calls_name {P : Program} {f : FuncId} {args : Array Value} {w : World} {R : Ending → World → Prop} (h : ∀ w1, w1 = w → Calls P f args w1 R) : Calls P f args w R := h w rfl
theorem before_len (b : UInt8) (l : List UInt8) : (beforeL b l).length ≤ l.length ∧ (afterL b l).length ≤ l.length := by
  rcases before_or b l with ⟨_, h2, h3⟩ | ⟨h1, _⟩
  · rw [h2, h3]; simp
  · have := congrArg List.length h1
    simp only [List.length_append, List.length_cons] at this
    omega
end Go.Proofs.YtplmlahpmnjneaaGreatDoor
namespace Go.Proofs.YtplmlahpmnjneaaGreatDoor
open Go.RowKit Go.Lib
open Rw
set_option linter.unusedVariables false
set_option linter.unusedSimpArgs false
theorem occ_get {s sub : List UInt8} {i k : Nat} (h : Lib.occAt s sub i = true) (hk : k < sub.length) : s[i + k]? = sub[k]? := by
  unfold Lib.occAt at h
  rw [List.isPrefixOf_iff_prefix] at h
  obtain ⟨u, hu⟩ := h
  rw [← List.getElem?_drop, ← hu, List.getElem?_append_left hk]
def Good (sep p : List UInt8) : Prop := (∀ r j, j < p.length → Lib.occAt (p ++ sep ++ r) sep j = false) ∧ ∀ j, j ≤ p.length → Lib.occAt p sep j = false
theorem good_one {a : UInt8} {p : List UInt8} (h : a ∉ p) : Good [a] p := by
  refine ⟨fun r j hj => ?_, fun j hj => ?_⟩
  · rw [Bool.eq_false_iff]; intro ho
    have := occ_get (k := 0) ho (by simp)
    rw [Nat.add_zero, List.append_assoc, List.getElem?_append_left hj] at this
    exact h (List.mem_of_getElem? (by simpa using this))
  · rw [Bool.eq_false_iff]; intro ho
    have := occ_get (k := 0) ho (by simp)
    rw [Nat.add_zero] at this
    exact h (List.mem_of_getElem? (by simpa using this))
theorem occ_at (p sep r : List UInt8) : Lib.occAt (p ++ sep ++ r) sep p.length = true := by
  unfold Lib.occAt
  rw [List.isPrefixOf_iff_prefix, List.append_assoc, List.drop_left]
  exact ⟨r, rfl⟩
theorem index_at {sep p : List UInt8} (h : Good sep p) (r : List UInt8) : Lib.index (p ++ sep ++ r) sep = p.length :=
  Lib.index_first (by simp only [List.length_append]; omega) (occ_at p sep r) (fun j hj => h.1 r j hj)
theorem index_no {sep p : List UInt8} (h : Good sep p) : Lib.index p sep = -1 := Lib.index_none h.2
def joinS (sep : List UInt8) : List (List UInt8) → List UInt8
  | [] => []
  | [p] => p
  | p :: q :: r => p ++ sep ++ joinS sep (q :: r)
theorem drop_mid (p sep r : List UInt8) : (p ++ sep ++ r).drop (p.length + sep.length) = r := by
  rw [← List.length_append, List.drop_left]
theorem count_join {sep : List UInt8} (hs : sep ≠ []) : ∀ (ps : List (List UInt8)), ps ≠ [] → (∀ p ∈ ps, Good sep p) → ∀ fuel, ps.length ≤ fuel → Lib.countFrom sep fuel (joinS sep ps) = ps.length - 1
  | [], h, _, _, _ => absurd rfl h
  | [p], _, hg, fuel + 1, _ => by
    rw [joinS, Lib.countFrom, index_no (hg p (by simp))]; rfl
  | p :: q :: r, _, hg, fuel + 1, hf => by
    have hi : Lib.index (p ++ sep ++ joinS sep (q :: r)) sep = p.length := index_at (hg p (by simp)) _
    rw [joinS, Lib.countFrom, hi]
    have : ((p.length : Int) == -1) = false := by simp
    rw [this, Int.toNat_natCast, drop_mid, count_join hs (q :: r) (by simp) (fun x hx => hg x (List.mem_cons_of_mem _ hx)) fuel (by simpa using hf)]
    simp only [List.length_cons, Bool.false_eq_true, if_false]; omega
theorem splitK_join {sep : List UInt8} : ∀ (ps : List (List UInt8)), ps ≠ [] → (∀ p ∈ ps, Good sep p) → Lib.splitK sep 0 (ps.length - 1) (joinS sep ps) = ps
  | [], h, _ => absurd rfl h
  | [p], _, _ => rfl
  | p :: q :: r, _, hg => by
    have hi : Lib.index (p ++ sep ++ joinS sep (q :: r)) sep = p.length := index_at (hg p (by simp)) _
    have e : (p :: q :: r).length - 1 = ((q :: r).length - 1) + 1 := by simp
    rw [e, joinS, Lib.splitK, hi]
    have : ((p.length : Int) == -1) = false := by simp
    rw [this, Int.toNat_natCast, drop_mid, Nat.add_zero, splitK_join (q :: r) (by simp) (fun x hx => hg x (List.mem_cons_of_mem _ hx))]
    simp only [Bool.false_eq_true, if_false, List.append_assoc, List.take_left]
theorem joinS_len {sep : List UInt8} (hs : sep ≠ []) : ∀ (ps : List (List UInt8)), ps.length ≤ (joinS sep ps).length + 1
  | [] => by simp
  | [p] => by simp
  | p :: q :: r => by
    have := joinS_len hs (q :: r)
    have h0 : 0 < sep.length := List.length_pos_iff.2 hs
    simp only [joinS, List.length_append, List.length_cons] at this ⊢
    omega
theorem split_join {sep : List UInt8} (hs : sep ≠ []) {ps : List (List UInt8)} (hp : ps ≠ []) (hg : ∀ p ∈ ps, Good sep p) : Lib.split (joinS sep ps) sep = ps := by
  unfold Lib.split Lib.count
  rw [count_join hs ps hp hg _ (joinS_len hs ps), splitK_join ps hp hg]
def After32 (q : UInt8 → Prop) (p : List UInt8) : Prop := ∀ j : Nat, p[j]? = some 32 → ∃ b, p[j + 1]? = some b ∧ q b
theorem After32.append {q : UInt8 → Prop} {p r : List UInt8} (h : After32 q p) (k : After32 q r) : After32 q (p ++ r) := fun j hj => by
  by_cases hlt : j < p.length
  · rw [List.getElem?_append_left hlt] at hj
    obtain ⟨b, hb, hq⟩ := h j hj
    have : j + 1 < p.length := by
      rcases Nat.lt_or_ge (j + 1) p.length with h1 | h1
      · exact h1
      · rw [List.getElem?_eq_none h1] at hb; cases hb
    exact ⟨b, by rw [List.getElem?_append_left this]; exact hb, hq⟩
  · rw [List.getElem?_append_right (by omega)] at hj
    obtain ⟨b, hb, hq⟩ := k _ hj
    refine ⟨b, ?_, hq⟩
    rw [List.getElem?_append_right (by omega)]
    rw [← hb]; congr 1; omega
theorem After32.none {q : UInt8 → Prop} {p : List UInt8} (h : 32 ∉ p) : After32 q p := fun j hj => absurd (List.mem_of_getElem? hj) h
theorem After32.mono {q q' : UInt8 → Prop} {p : List UInt8} (h : After32 q p) (hq : ∀ b, q b → q' b) : After32 q' p := fun j hj => let ⟨b, h1, h2⟩ := h j hj; ⟨b, h1, hq b h2⟩
theorem ValS.spans {l m : List SpanL} (h : ValS l m) : (∀ s ∈ l, lt s.fr s.til) ∧ ∀ s ∈ m, lt s.fr s.til := ⟨fun s hs => h.rel.span s hs, fun s hs => h.pre.span s hs⟩
end Go.Proofs.YtplmlahpmnjneaaGreatDoor
namespace Go.Proofs.YtplmlahpmnjneaaGreatDoor
open Go.RowKit Go.Lib
open Rw
set_option linter.unusedVariables false
set_option linter.unusedSimpArgs false
theorem splitL_join {b : UInt8} : ∀ {ws : List (List UInt8)}, ws ≠ [] → (∀ w ∈ ws, b ∉ w) → splitL b [] (joinS [b] ws) = ws
  | [], h, _ => absurd rfl h
  | [w], _, h => by rw [joinS, splitL_none (h w (by simp))]; rfl
  | w :: u :: r, _, h => by
    have e : joinS [b] (w :: u :: r) = w ++ b :: joinS [b] (u :: r) := by rw [joinS]; simp
    rw [e, splitL_at (h w (by simp)), splitL_join (by simp) (fun x hx => h x (List.mem_cons_of_mem _ hx))]; rfl
theorem joinS_cat (b : UInt8) : ∀ {p q : List (List UInt8)}, p ≠ [] → q ≠ [] → joinS [b] (p ++ q) = joinS [b] p ++ b :: joinS [b] q
  | [], _, h, _ => absurd rfl h
  | [w], [], _, h => absurd rfl h
  | [w], u :: r, _, _ => by simp [joinS]
  | w :: x :: p, q, _, hq => by
    have := joinS_cat b (p := x :: p) (q := q) (by simp) hq
    simp only [List.cons_append, joinS] at this ⊢
    rw [this]; simp
end Go.Proofs.YtplmlahpmnjneaaGreatDoor
namespace Go.Proofs.YtplmlahpmnjneaaGreatDoor
open Go.RowKit Go.Lib
open Rw
set_option linter.unusedVariables false
set_option linter.unusedSimpArgs false
def BoxT (w : World) (g : Nat) (cs : List Value) (t : TypeId) : Prop := w.heap[g]? = some (.cells cs.toArray t (0, 0))
theorem BoxT.lt {w : World} {g : Nat} {cs : List Value} {t : TypeId} (h : BoxT w g cs t) : g < w.heap.size := by
  rcases Nat.lt_or_ge g w.heap.size with k | k
  · exact k
  · unfold BoxT at h; rw [Array.getElem?_eq_none k] at h; cases h
theorem BoxT.box {w : World} {g : Nat} {cs : List Value} {t : TypeId} (h : BoxT w g cs t) : Box w g cs := ⟨h.lt, fun j u hj => by
  rw [Lib.cell_of_heap h]; simpa using hj⟩
theorem BoxT.new (w : World) (cs : List Value) (t : TypeId) : BoxT (w.alloc (.cells cs.toArray t)) w.heap.size cs t := heap_alloc_new w _
theorem BoxT.below {w w' : World} {g : Nat} {cs : List Value} {t : TypeId} (h : BoxT w g cs t) (hb : Below w.heap.size w w') : BoxT w' g cs t := by
  unfold BoxT; rw [hb.block g h.lt]; exact h
theorem BoxT.wrote {w w' : World} {g b : Nat} {cs : List Value} {t : TypeId} (h : BoxT w g cs t) (hw : Wrote b w w') (hg : g ≠ b) (ht : t ≠ 5) : BoxT w' g cs t :=
  hw.kept g _ h (by intro e; exact hg (Option.some.inj e)) (fun c fz e => by injection e with _ e _; exact ht e)
theorem rowF_below {w w' : World} {base e size n : Nat} {v : Value} {xs : List Value} (h : w.ownsRowF base e size v n xs) (hb : Below w.heap.size w w') : w'.ownsRowF base e size v n xs := by
  obtain ⟨h1, h2⟩ := h
  refine ⟨h1, ?_⟩
  rcases h2 with h2 | ⟨g, cap, cur, fz, hv, hg, hh, r⟩
  · exact .inl h2
  · have hlt : g < w.heap.size := by
      rcases Nat.lt_or_ge g w.heap.size with k | k
      · exact k
      · rw [Array.getElem?_eq_none k] at hh; cases hh
    exact .inr ⟨g, cap, cur, fz, hv, hg, by rw [hb.block g hlt]; exact hh, r⟩
theorem bat_below {T e : TypeId} {B b : Nat} {p : Value} {bs : List Value} {w w' : World} (h : Lib.BuilderAtF T e B b p bs w) (hb : Below w.heap.size w w') : Lib.BuilderAtF T e B b p bs w' := by
  obtain ⟨h1, v, h2, h3, h4⟩ := h
  have hlt : b < w.heap.size := by
    rcases Nat.lt_or_ge b w.heap.size with k | k
    · exact k
    · rw [Array.getElem?_eq_none k] at h2; cases h2
  exact ⟨h1, v, by rw [hb.block b hlt]; exact h2, rowF_below h3 hb, h4⟩
theorem PageAt.below {b : Nat} {l : List UInt8} {w w' : World} (h : PageAt b l w) (hb : Below w.heap.size w w') : PageAt b l w' := h.imp (fun h => bat_below h hb) (fun h => bat_below h hb)
theorem PageAt.lt {b : Nat} {l : List UInt8} {w : World} (h : PageAt b l w) : b < w.heap.size := h.elim (fun h => h.lt) (fun h => h.lt)
theorem Wrote.of {b : Nat} {w w' : World} (h : Below w.heap.size w w') (hb : b ≤ w.heap.size) : Wrote b w w' := by
  refine ⟨h.mono hb, fun k o hk _ _ => ?_⟩
  have hlt : k < w.heap.size := by
    rcases Nat.lt_or_ge k w.heap.size with k' | k'
    · exact k'
    · rw [Array.getElem?_eq_none k'] at hk; cases hk
  rw [h.block k hlt]; exact hk
structure Pg (b : Nat) (w0 : World) (l : List UInt8) (w : World) : Prop where
  page : PageAt b l w
  wrote : Wrote b w0 w
theorem Pg.below {b : Nat} {w0 w w' : World} {l : List UInt8} (h : Pg b w0 l w) (hb : Below w.heap.size w w') : Pg b w0 l w' :=
  ⟨h.page.below hb, h.wrote.trans (Wrote.of hb (Nat.le_of_lt h.page.lt))⟩
structure SpW (b : Nat) (w0 : World) (g : Nat) (s : SpanL) (l : List UInt8) (w : World) : Prop where
  pg : Pg b w0 l w
  box : BoxT w g s.cells 100
theorem SpW.below {b g : Nat} {w0 w w' : World} {s : SpanL} {l : List UInt8} (h : SpW b w0 g s l w) (hb : Below w.heap.size w w') : SpW b w0 g s l w' := ⟨h.pg.below hb, h.box.below hb⟩
theorem b42 : bts (⟨#[42]⟩ : ByteArray) = [42] := bts_lit [42]
theorem b32 : bts (⟨#[32]⟩ : ByteArray) = [32] := bts_lit [32]
end Go.Proofs.YtplmlahpmnjneaaGreatDoor
namespace Go.Proofs.YtplmlahpmnjneaaGreatDoor
open Go.RowKit Go.Lib
open Rw
set_option linter.unusedVariables false
set_option linter.unusedSimpArgs false
end Go.Proofs.YtplmlahpmnjneaaGreatDoor
namespace Go.Proofs.YtplmlahpmnjneaaGreatDoor
open Go.RowKit Go.Lib
open Rw
set_option linter.unusedVariables false
set_option linter.unusedSimpArgs false
theorem splitK_len (sep : List UInt8) : ∀ (k : Nat) (s : List UInt8), ∀ p ∈ Lib.splitK sep 0 k s, p.length ≤ s.length
  | 0, s, p, hp => by simp [Lib.splitK] at hp; subst hp; omega
  | k + 1, s, p, hp => by
    unfold Lib.splitK at hp
    split at hp
    · simp at hp; subst hp; omega
    · rcases List.mem_cons.1 hp with h | h
      · subst h; simp only [List.length_take]; omega
      · have := splitK_len sep k _ p h
        simp only [List.length_drop] at this
        omega
theorem split_at (s sep : ByteArray) (w : World) (hL : Laid w) (hs : s.size < 4294967281) (h1 : 1 ≤ sep.size) :
    Calls Tryz.prog 56 #[.string s, .string sep] w fun e w' => ∃ ps : List ByteArray, ps.map bts = Lib.split (bts s) (bts sep) ∧ (∀ p ∈ ps, p.size ≤ s.size) ∧ 0 < ps.length ∧ ps.length ≤ s.size + 1 ∧
      e = .returned (.slice (some ⟨w.heap.size, 0, none⟩) ps.length ps.length) ∧ w' = w.alloc (.cells (ps.map Value.string).toArray 9) := by
  obtain ⟨m, hm⟩ := hL.maxl
  refine (Any.strings_Split Tryz.lays146 (by kernel_rfl) s sep m w hs hm h1).mono ?_
  rintro e w' ⟨rfl, rfl⟩
  have hlen := Lib.splitB_all sep h1 0 _ s rfl
  have hd := Lib.splitB_data sep 0 (Lib.countB s sep) s
  have he : (Lib.splitB sep 0 (Lib.countB s sep) s).map bts = Lib.split (bts s) (bts sep) := by
    have e1 : ∀ x : ByteArray, bts x = x.data.toList := fun x => by rw [bts, bts_data]
    have e2 : (bts : ByteArray → List UInt8) = fun x => x.data.toList := funext e1
    rw [e2, hd]; rfl
  refine ⟨_, he, fun p hp => ?_, by rw [hlen]; omega, ?_, by rw [hlen], rfl⟩
  · have hp2 : bts p ∈ Lib.split (bts s) (bts sep) := by rw [← he]; exact List.mem_map_of_mem hp
    have := splitK_len _ _ _ _ hp2
    rwa [bts_len, bts_len] at this
  · rw [hlen]
    have := Lib.countB_le sep h1 s.size s (Nat.le_refl _)
    omega
theorem own_other {w : World} {base size n g o : Nat} {e : TypeId} {v : Value} {xs vs : List Value} (h : w.ownsRow base e size v n xs) (hg : v.ownBlock ≠ some g) : (w.setCells g o vs).ownsRow base e size v n xs := by
  obtain ⟨h1, h2⟩ := h
  refine ⟨h1, ?_⟩
  rcases h2 with h2 | ⟨k, cap, cur, hv, hk, hh, r⟩
  · exact .inl h2
  · refine .inr ⟨k, cap, cur, hv, hk, ?_, r⟩
    have hne : k ≠ g := fun e => hg (by rw [hv, ← e]; rfl)
    rw [setCells_block g k hne]; exact hh
theorem spanB_put {w : World} {base k j : Nat} {A : Option Addr} {l : List SpanL} (h : SpanB w base A l) (hk : k < base) (v : Value) : SpanB (w.setCell ⟨k, j, none⟩ v) base A l := by
  refine ⟨?_, h.2⟩
  rcases h.1 with h1 | ⟨b, off, rfl, hlt, hc⟩
  · exact .inl h1
  · have hb := h.2 _ rfl
    simp only at hb
    refine .inr ⟨b, off, rfl, by rw [World.size_setCell]; exact hlt, fun i hi q u hq => ?_⟩
    exact (put_cell (by omega) v).trans (hc i hi q u hq)
theorem bts_tail (s : ByteArray) : bts (s.extract 1 s.size) = (bts s).drop 1 := by
  rw [bts_extract, List.take_of_length_le]
  rw [List.length_drop, bts_len]; omega
structure WdW (base : Nat) (gw : Nat) (ws : List ByteArray) (gy : Nat) (gp : Nat) (ps : List ByteArray) (v : Value) (l : List SpanL) (a : SpanL) (wr : World) : Prop where
  words : Box wr gw (ws.map Value.string)
  parts : Box wr gp (ps.map Value.string)
  box : Own base wr gy a.cells
  out : OwnS wr base v l
  ne1 : gw ≠ gy
  ne2 : gp ≠ gy
  ne3 : v.ownBlock ≠ some gy
theorem WdW.below {base gw gy gp : Nat} {ws ps : List ByteArray} {v : Value} {l : List SpanL} {a : SpanL} {wr w' : World} (h : WdW base gw ws gy gp ps v l a wr) (hb : Below wr.heap.size wr w') : WdW base gw ws gy gp ps v l a w' :=
  ⟨h.words.below hb, h.parts.below hb, h.box.below hb, h.out.below hb, h.ne1, h.ne2, h.ne3⟩
theorem WdW.fr {base gw gy gp : Nat} {ws ps : List ByteArray} {v : Value} {l : List SpanL} {a : SpanL} {wr : World} (c : CutL) (h : WdW base gw ws gy gp ps v l a wr) : WdW base gw ws gy gp ps v l ⟨c, a.til⟩ (wr.setCells gy 0 c.cells) :=
  ⟨h.words.setOther h.ne1, h.parts.setOther h.ne2, ⟨h.box.box.setFr c, h.box.soft.set, h.box.low⟩, own_other h.out h.ne3, h.ne1, h.ne2, h.ne3⟩
theorem WdW.til {base gw gy gp : Nat} {ws ps : List ByteArray} {v : Value} {l : List SpanL} {a : SpanL} {wr : World} (c : CutL) (h : WdW base gw ws gy gp ps v l a wr) : WdW base gw ws gy gp ps v l ⟨a.fr, c⟩ (wr.setCells gy 7 c.cells) :=
  ⟨h.words.setOther h.ne1, h.parts.setOther h.ne2, ⟨h.box.box.setTil c, h.box.soft.set, h.box.low⟩, own_other h.out h.ne3, h.ne1, h.ne2, h.ne3⟩
end Go.Proofs.YtplmlahpmnjneaaGreatDoor
namespace Go.Proofs.YtplmlahpmnjneaaGreatDoor
open Go.RowKit Go.Lib
open Rw
set_option linter.unusedVariables false
set_option linter.unusedSimpArgs false
theorem joinP_len : ∀ (ps : List (List UInt8)), (∀ p ∈ ps, p.length ≤ 8) → (joinP ps).length ≤ 9 * ps.length
  | [], _ => by simp [joinP]
  | [p], h => by have := h p (by simp); simp only [joinP, List.length_cons, List.length_nil]; omega
  | p :: q :: r, h => by
    have h1 := h p (by simp)
    have h2 := joinP_len (q :: r) (fun x hx => h x (List.mem_cons_of_mem _ hx))
    simp only [joinP, List.length_append, List.length_cons] at h2 ⊢
    omega
theorem tags_len {l : List UInt8} (h : tagsL l = true) : l.length ≤ 36 := by
  rw [tagsL, Bool.and_eq_true, decide_eq_true_eq] at h
  have e : joinP (splitP l) = l := by have := join_split l []; simpa [splitP] using this
  have := joinP_len (splitP l) (fun p hp => by
    have := List.all_eq_true.1 h.2 p hp
    rw [tagOk, Bool.and_eq_true, Bool.and_eq_true, decide_eq_true_eq] at this
    exact this.1.2)
  rw [e] at this
  omega
theorem Own.set2 {B : Nat} {w : World} {g : Nat} {a0 a1 : Value} (h : Own B w g [a0, a1]) (b0 b1 : Value) : Own B ((w.setCell ⟨g, 0, none⟩ b0).setCell ⟨g, 1, none⟩ b1) g [b0, b1] :=
  ⟨h.box.set (o := 0) (vs := [b0, b1]) (by simp), h.soft.set (o := 0) (vs := [b0, b1]), h.low⟩
end Go.Proofs.YtplmlahpmnjneaaGreatDoor
namespace Go.Proofs.YtplmlahpmnjneaaGreatDoor
open Go.RowKit Go.Lib
open Rw
set_option linter.unusedVariables false
set_option linter.unusedSimpArgs false
theorem rwhole_any (w : World) : Calls Tryz.prog 78 #[] w (WholePost w) := by
  go_enter Tryz.func78, Tryz.ntmps78
  go_wp2_with (first | (go_at_call 129; refine (first_any _).mono ?_; rintro _ w1 ⟨rfl, hb1⟩) | (go_at_call 130; refine (last_any _).mono ?_; rintro _ w2 ⟨rfl, hb2⟩))
  have hb := below_tr hb1 hb2
  go_ret
  exact ⟨_, _, rfl, ⟨Spans.one (Box.new w2 (SpanL.cells ⟨firstC, lastC⟩) 100), fun ad e => by injection e with e; rw [← e]; exact hb.size⟩, below_tr hb (below_new _ _)⟩
def AllPost (w : World) (e : Ending) (w' : World) : Prop := ∃ A c B d, e = .returned (setV A 1 c B 1 d) ∧ SpanB w' w.heap.size A wholeL ∧ SpanB w' w.heap.size B wholeL ∧ Below w.heap.size w w'
set_option maxHeartbeats 1000000 in
theorem rsall_any (w : World) : Calls Tryz.prog 46 #[] w (AllPost w) := by
  have HB0 := hid (below_new w (.cells [Value.slice none 0 0, .slice none 0 0].toArray 24))
  have HX := hid (Box.new w [Value.slice none 0 0, .slice none 0 0] 24)
  have HS := hid (Soft.new w [Value.slice none 0 0, .slice none 0 0].toArray 24)
  go_enter Tryz.func46, Tryz.ntmps46
  go_wp2_with fail
  refine (rwhole_any _).mono ?_
  rintro _ w1 ⟨A, c, rfl, h1, hb1⟩
  have HX1 := hid (HX.out.below hb1)
  have HS1 := hid (HS.out.below HX.out.1 hb1)
  have HB1 := hid (below_tr HB0.out hb1)
  have H1 := hid h1
  clear h1 hb1
  go_wp2_with fail
  refine (rwhole_any _).mono ?_
  rintro _ w2 ⟨B, d, rfl, h2, hb2⟩
  have HX2 := hid (HX1.out.below hb2)
  have hf : ∀ j, w2.frozen? ⟨w.heap.size, j, none⟩ = false := HS1.out.below HX1.out.1 hb2
  have HB2 := hid (below_tr HB1.out hb2)
  have HA := hid (H1.out.below hb2)
  have HBB := hid h2
  obtain ⟨y0, y1⟩ := HX2.out.get2
  have hlt := HX2.out.1
  clear h2 hb2
  have hg1 := HB0.out.size
  have hg2 := HX.out.1
  have hg3 := HX1.out.1
  go_wp2_with fail
  refine ret2 HX2.out (v := setV A 1 c B 1 d) (fun w3 h3 => ?_) rfl (fun h3 => ⟨A, c, B, d, rfl, (HA.out.set (by omega)).low (by omega), (HBB.out.set (by omega)).low (by omega), HB2.out.trans h3⟩)
  obtain ⟨k0, k1⟩ := h3.get2
  simp [results, Tryz.results46, go_sem, k0, k1]
end Go.Proofs.YtplmlahpmnjneaaGreatDoor
