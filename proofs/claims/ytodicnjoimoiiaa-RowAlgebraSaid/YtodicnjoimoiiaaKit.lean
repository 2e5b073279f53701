/- Small words that all walks of this family use: bytes of a string, worlds that only grew. -/
import Derived.Test.YtodicnjoimoiiaaRows
import Derived.WalkKit
import Derived.WalkSpells
import Derived.WalkLawsBesides
import Derived.Lib.Hide
import Derived.Lib.Strings
import Derived.Deep.QuietTactic
import Derived.BigQuiet
import Derived.Deep.DeepFit
import Derived.Deep.DeepMust
import Derived.Below
import Derived.Laws.AppendOwn
import Derived.Laws.AppendOwnNone
namespace Go.Proofs.Ytodicnjoimoiiaa
open Go.RowKit Go.Lib
set_option linter.unusedVariables false
set_option linter.unusedSimpArgs false

/-- 'Below' of the kit, and no draw is undone -/
structure Below (B : Nat) (w w' : World) : Prop extends Go.RowKit.Below B w w' where
  drawn : w.drawn ≤ w'.drawn
namespace Below
variable {B : Nat} {a w w' c : World}
theorem refl (B : Nat) (w : World) : Below B w w := ⟨.refl B w, Nat.le_refl _⟩
theorem trans (h : Below B a w) (k : Below B w c) : Below B a c := ⟨h.toBelow.trans k.toBelow, Nat.le_trans h.drawn k.drawn⟩
theorem mono {B' : Nat} (h : Below B w w') (hB : B' ≤ B) : Below B' w w' := ⟨h.toBelow.mono hB, h.drawn⟩
theorem drew (h : Below B a w) : Below B a w.drew := ⟨h.toBelow.drew, Nat.le_succ_of_le h.drawn⟩
theorem alloc (h : Below B a w) (hB : B ≤ w.heap.size) (o : Obj) : Below B a (w.alloc o) := ⟨h.toBelow.alloc hB o, h.drawn⟩
theorem setCell (h : Below B a w) {p : Addr} (hp : B ≤ p.block) (u : Value) : Below B a (w.setCell p u) := ⟨h.toBelow.setCell hp u, h.drawn⟩
theorem grown {row : Option Nat} (h : Below B a w) (hg : w.grownBy w' row) (hd : w.drawn ≤ w'.drawn) (hB : B ≤ w.heap.size) (hr : ∀ k, row = some k → B ≤ k) : Below B a w' := ⟨h.toBelow.grown hg hB hr, Nat.le_trans h.drawn hd⟩
theorem cell {p : Addr} (h : Below B w w') (hp : p.block < B) : w'.cell? p = w.cell? p := h.toBelow.cell hp
theorem frozen {p : Addr} (h : Below B w w') (hp : p.block < B) : w'.frozen? p = w.frozen? p := h.toBelow.frozen hp
end Below
theorem bcell {W w1 : World} (hb : Below W.heap.size W w1) : (∀ b o, b < W.heap.size → w1.cell? ⟨b, o, none⟩ = W.cell? ⟨b, o, none⟩) ∧ (∀ b o, b < W.heap.size → w1.frozen? ⟨b, o, none⟩ = W.frozen? ⟨b, o, none⟩) :=
  ⟨fun b o h => hb.cell (p := ⟨b, o, none⟩) h, fun b o h => hb.frozen (p := ⟨b, o, none⟩) h⟩

/-- the bytes of a string, as the walk writes them -/
abbrev bts (s : ByteArray) : List UInt8 := s.toList
theorem bts_data (s : ByteArray) : s.toList = s.data.toList := ByteArray.toList_eq s
theorem bts_len (s : ByteArray) : (bts s).length = s.size := by rw [bts, bts_data]; rfl
theorem bts_get (s : ByteArray) (k : Nat) (h : k < s.size) : (bts s)[k]'(by rw [bts_len]; exact h) = s[k] := by simp only [bts, bts_data]; rfl
theorem bts_mem (s : ByteArray) (k : Nat) (h : k < s.size) : s[k] ∈ bts s := by rw [← bts_get s k h]; exact List.getElem_mem _
theorem bts_take (s : ByteArray) (k : Nat) (h : k < s.size) : (bts s).take (k + 1) = (bts s).take k ++ [s[k]] := by
  rw [List.take_succ_eq_append_getElem (by rw [bts_len]; exact h), bts_get s k h]
theorem bts_all_false {p : UInt8 → Bool} (s : ByteArray) (k : Nat) (h : k < s.size) (hp : p s[k] = false) : (bts s).all p = false := by
  rw [List.all_eq_false]
  exact ⟨s[k], bts_mem s k h, by simp [hp]⟩
theorem bts_all_take {p : UInt8 → Bool} (s : ByteArray) (k : Nat) (h : k < s.size) (ha : ((bts s).take k).all p = true) (hp : p s[k] = true) : ((bts s).take (k + 1)).all p = true := by
  rw [bts_take s k h, List.all_append, ha]; simp [hp]
theorem bts_take_all (s : ByteArray) : (bts s).take s.size = bts s := List.take_of_length_le (by rw [bts_len]; omega)
theorem bts_inj {a b : ByteArray} (h : bts a = bts b) : a = b := by
  simp only [bts, bts_data] at h
  cases a; cases b
  exact congrArg _ (Array.toList_inj.1 h)
theorem bts_empty {s : ByteArray} : (bts s).isEmpty = true ↔ s.size = 0 := by rw [List.isEmpty_iff_length_eq_zero, bts_len]

def isDig (c : UInt8) : Bool := decide (48 ≤ c.toNat ∧ c.toNat ≤ 57)
def numericL (l : List UInt8) : Bool := l.all isDig && !l.isEmpty
/-- a list of bytes as a string value -/
def strV (l : List UInt8) : Value := .string ⟨l.toArray⟩
theorem strV_bts (s : ByteArray) : strV (bts s) = .string s := by rw [strV, bts, bts_data]
theorem strV_extract (s : ByteArray) (a b : Nat) : Value.string (s.extract a b) = strV (((bts s).drop a).take (b - a)) := by rw [strV, bts, bts_data, Lib.extract_eq]

/-- a text parted at a byte: 'cur' is what of the part in hand has been read -/
def splitL (b : UInt8) : List UInt8 → List UInt8 → List (List UInt8)
  | cur, [] => [cur]
  | cur, c :: r => if c = b then cur :: splitL b [] r else splitL b (cur ++ [c]) r
theorem splitL_len (b : UInt8) : ∀ (l cur : List UInt8), 1 ≤ (splitL b cur l).length ∧ (splitL b cur l).length ≤ l.length + 1
  | [], cur => by simp [splitL]
  | c :: r, cur => by
    unfold splitL
    split
    · have := splitL_len b r []; simp only [List.length_cons]; omega
    · have := splitL_len b r (cur ++ [c]); simp only [List.length_cons]; omega
theorem splitL_step (b : UInt8) (s : ByteArray) (k fr : Nat) (h : k < s.size) (hf : fr ≤ k) : splitL b (((bts s).take k).drop fr) ((bts s).drop k) =
    if s[k] = b then ((bts s).take k).drop fr :: splitL b [] ((bts s).drop (k + 1)) else splitL b (((bts s).take (k + 1)).drop fr) ((bts s).drop (k + 1)) := by
  have e := List.drop_eq_getElem_cons (l := bts s) (i := k) (by rw [bts_len]; exact h)
  rw [bts_get s k h] at e
  rw [e, bts_take s k h]
  conv => lhs; unfold splitL
  have : fr ≤ ((bts s).take k).length := by
    have := bts_len s
    rw [List.length_take]
    omega
  rw [List.drop_append_of_le_length this]
theorem take_drop_comm (l : List UInt8) (a b : Nat) : (l.take b).drop a = (l.drop a).take (b - a) := by rw [List.drop_take]

/-- what is known of a slice type t and its element type e: so many cells an element, so many bytes -/
structure EK (P : Program) (t e : TypeId) (size bytes : Nat) : Prop where
  ht : P.underlying t = some (.slice e)
  info : ∃ (i : TypeInfo) (z : Value), P.info? e = some i ∧ i.zero = some z ∧ i.size = size ∧ i.bytes = bytes ∧ z.cells.size = size
  pos : 0 < size

theorem EK.mk' {P : Program} {t e : TypeId} {size bytes : Nat} (z : Value) (ht : P.underlying t = some (.slice e)) (h : (P.info? e).map (fun i => (i.zero, i.size, i.bytes)) = some (some z, size, bytes)) (hz : z.cells.size = size) (hp : 0 < size) : EK P t e size bytes := by
  obtain ⟨i, h1, h2, h3, h4⟩ := info_parts h
  exact ⟨ht, ⟨i, z, h1, h2, h3, h4, hz⟩, hp⟩

section
variable {P : Program} {w w0 w1 w2 : World} {B base size n bytes : Nat} {t e : TypeId} {v : Value} {xs : List Value}

/-- what a call owns stays so behind a callee that lays blocks alone -/
theorem own_below (h : w1.ownsRow base e size v n xs) (hb : Below w1.heap.size w1 w2) : w2.ownsRow base e size v n xs := by
  obtain ⟨h1, h2⟩ := h
  refine ⟨h1, ?_⟩
  rcases h2 with h2 | ⟨g, cap, cur, hv, hg, hh, r⟩
  · exact .inl h2
  · refine .inr ⟨g, cap, cur, hv, hg, ?_, r⟩
    have hlt : g < w1.heap.size := by
      rcases Nat.lt_or_ge g w1.heap.size with h | h
      · exact h
      · rw [Array.getElem?_eq_none h] at hh; cases hh
    rw [hb.block g hlt]; exact hh

theorem below_after (h : Below B w0 w1) (hB : B ≤ w1.heap.size) (k : Below w1.heap.size w1 w2) : Below B w0 w2 := h.trans (k.mono hB)

/-- a slice of the call's own that is not empty: its value, its cells -/
theorem own_form (h : w.ownsRow base e size v n xs) (hn : 0 < n) : ∃ g cap, v = .slice (some ⟨g, 0, none⟩) n cap ∧ base ≤ g ∧ g < w.heap.size ∧ n ≤ cap ∧ ∀ j, j < n * size → w.cell? ⟨g, j, none⟩ = xs[j]? := by
  have h2 := h.2
  rcases h2 with ⟨_, h2⟩ | ⟨g, cap, cur, hv, hg, hh, hle, r⟩
  · omega
  · subst hv
    have hlt : g < w.heap.size := by
      rcases Nat.lt_or_ge g w.heap.size with h | h
      · exact h
      · rw [Array.getElem?_eq_none h] at hh; cases hh
    exact ⟨g, cap, rfl, hg, hlt, hle, fun j hj => h.cellAt j hj⟩

end

/-- a slice value that reads as these cells -/
def SrcOf (w : World) (A : Option Addr) (m size : Nat) (xs : List Value) : Prop := xs.length = m * size ∧ (A = none → m = 0) ∧ ∀ ad, A = some ad → ∀ j u, xs[j]? = some u → w.cell? (ad.add j) = some u

section
variable {P : Program} {w w0 : World} {B base size n bytes : Nat} {t e : TypeId} {v : Value} {xs : List Value}
/-- an append undoes no draw -/
theorem append_drawn (E : EK P t e size bytes) (ty : TypeId) (hown : w.ownsRow base e size v n xs) {ad : Addr} {m c : Nat} {news : List Value} (hl : news.length = m * size) (hc : ∀ j u, news[j]? = some u → w.cell? (ad.add j) = some u) (h1 : ∀ u ∈ news, u.oneCell' = true)
    (h63 : n + m ≤ maxLen) (hb : (n + m) * bytes ≤ 140737488355328) {v' : Value} {w' : World} (hr : (Builtin.append_ #[t, t] ty #[v, .slice (some ad) m c]).run P w = .ok v' w') : w.drawn ≤ w'.drawn := by
  obtain ⟨i, z, hi, hz0, hz1, hz2, hz3⟩ := E.info
  subst hz1
  subst hz2
  have hM : maxLen = 9223372036854775807 := rfl
  rcases hown.2 with ⟨rfl, rfl⟩ | ⟨g, cap, cur, rfl, _, hg, hnc, _, hcs, _⟩
  · rcases Nat.eq_zero_or_pos m with rfl | hm
    · simp [Builtin.append_, run_underlying E.ht, sizeOf, typeInfo, hi, Builtin.lenOf, Builtin.firstCells, loadCells, loadCellsFrom] at hr
      rw [← hr.2]; exact Nat.le_refl _
    · rw [run_append_nil (P := P) w t ty e i z E.ht hi hz0 ad m c news hl hc (by omega) (by omega) (by simp only [Nat.zero_add] at hb; omega)] at hr
      injection hr with _ hr
      rw [← hr]; exact Nat.le_succ _
  · by_cases hroom : n + m ≤ cap
    · have hfit : n * i.size + news.length ≤ cur.size := by rw [hl, hcs, ← Nat.add_mul]; exact Nat.mul_le_mul_right _ hroom
      rw [run_append_room (P := P) w t ty e i E.ht hi g n cap cur hg ad m c news hl hc h1 hroom hfit] at hr
      injection hr with _ hr
      rw [← hr]; exact Nat.le_refl _
    · rw [run_append_grow (P := P) w t ty e i z E.ht hi hz0 ⟨g, 0, none⟩ n cap xs hown.1 (hown.cells (g := g) rfl) ad m c news hl hc (by omega) (by omega) (growslice_fits (by omega) hb)] at hr
      injection hr with _ hr
      rw [← hr]; exact Nat.le_succ _
theorem run_appx (E : EK P t e size bytes) (ty : TypeId) (hown : w.ownsRow base e size v n xs) {A : Option Addr} {m c : Nat} {news : List Value} (hs : SrcOf w A m size news) (h1 : ∀ u ∈ news, u.oneCell' = true)
    (h63 : n + m ≤ maxLen) (hb : (n + m) * bytes ≤ 140737488355328) (hbase : base ≤ w.heap.size) :
    ∃ v' w', (Builtin.append_ #[t, t] ty #[v, .slice A m c]).run P w = .ok v' w' ∧ w'.ownsRow base e size v' (n + m) (xs ++ news) ∧ Below base w w' ∧ w.grownBy w' v.ownBlock := by
  obtain ⟨i, z, hi, hz0, hz1, hz2, hz3⟩ := E.info
  obtain ⟨hl, hnil, hsrc⟩ := hs
  cases A with
  | none =>
    obtain rfl := hnil rfl
    have hn : news = [] := List.eq_nil_of_length_eq_zero (by simpa using hl)
    subst hn
    refine ⟨v, w, ?_, by simpa using hown, Below.refl _ _, World.grownBy.refl w _⟩
    rcases hown.2 with ⟨rfl, rfl⟩ | ⟨g, cap, cur, rfl, _, _, hnc, _⟩
    · simp [Builtin.append_, run_underlying E.ht, sizeOf, typeInfo, hi, Builtin.lenOf, Builtin.firstCells]
    · simp [Builtin.append_, run_underlying E.ht, sizeOf, typeInfo, hi, Builtin.lenOf, Builtin.firstCells, hnc, storeCells]
  | some ad =>
    obtain ⟨v', w', hr, h2, h3, _⟩ := run_append_own (P := P) w base t ty e i z size bytes E.ht hi hz0 hz1 hz2 hz3 E.pos v n xs hown ad m c news hl (hsrc ad rfl) h1 h63 hb hbase
    exact ⟨v', w', hr, h2, (Below.refl _ _).grown h3 (append_drawn E ty hown hl (hsrc ad rfl) h1 h63 hb hr) hbase (fun k hk => (hown.lt k hk).1), h3⟩

theorem wp_appx (E : EK P t e size bytes) {o : Oper} {a : Act} {K : Act → World → Prop} {Q : Exit → Act → World → Prop} (s x : Operand)
    (ho : o.op = .call { callee := .builtin .append, args := #[s, x], argTypes := #[t, t] }) (hs : a.eval s = v) (hown : w.ownsRow base e size v n xs) {A : Option Addr} {m c : Nat} {news : List Value} (hx : a.eval x = .slice A m c)
    (hsrc : SrcOf w A m size news) (h1 : ∀ u ∈ news, u.oneCell' = true) (h63 : n + m ≤ maxLen) (hb : (n + m) * bytes ≤ 140737488355328) (hbase : base ≤ w.heap.size)
    (h : ∀ v' w', w'.ownsRow base e size v' (n + m) (xs ++ news) → Below base w w' → w.grownBy w' v.ownBlock → K (a.put o.dst v') w') : o.wp P a w K Q := by
  obtain ⟨v', w', hrun, h2, h3, h4⟩ := run_appx (P := P) E o.type hown (A := A) (m := m) (c := c) hsrc h1 h63 hb hbase
  unfold Oper.wp execOp
  simp only [ho, resolve, invoke, builtin, Sem.run_bind, Sem.run_pure, Result.andThen_ok, List.map_toArray, List.map_cons, List.map_nil, hs, hx, hrun]
  exact h v' w' h2 h3 h4

theorem wpList_appx (E : EK P t e size bytes) {ops : Array Oper} {rest : List Oper} {o : Oper} {a : Act} {Q : Exit → Act → World → Prop} (hgd : o.guard = none) (s x : Operand)
    (ho : o.op = .call { callee := .builtin .append, args := #[s, x], argTypes := #[t, t] }) (hs : a.eval s = v) (hown : w.ownsRow base e size v n xs) {A : Option Addr} {m c : Nat} {news : List Value} (hx : a.eval x = .slice A m c)
    (hsrc : SrcOf w A m size news) (h1 : ∀ u ∈ news, u.oneCell' = true) (h63 : n + m ≤ maxLen) (hb : (n + m) * bytes ≤ 140737488355328) (hbase : base ≤ w.heap.size)
    (h : ∀ v' w', w'.ownsRow base e size v' (n + m) (xs ++ news) → Below base w w' → w.grownBy w' v.ownBlock → wpList P ops Q rest (a.put o.dst v') w') : wpList P ops Q (o :: rest) a w :=
  wpList_plain hgd fun _ hK => wp_appx E s x ho hs hown hx hsrc h1 h63 hb hbase fun v' w' h2 h3 h4 => hK _ _ (h v' w' h2 h3 h4)

theorem step_appx (E : EK P t e size bytes) {ops : Array Oper} {o : Oper} {a : Act} {K : Act → World → Prop} {Q : Exit → Act → World → Prop} {F : Prop} (hgd : o.guard = none) (s x : Operand)
    (ho : o.op = .call { callee := .builtin .append, args := #[s, x], argTypes := #[t, t] }) (hs : a.eval s = v) (hown : w.ownsRow base e size v n xs) {A : Option Addr} {m c : Nat} {news : List Value} (hx : a.eval x = .slice A m c)
    (hsrc : SrcOf w A m size news) (h1 : ∀ u ∈ news, u.oneCell' = true) (h63 : n + m ≤ maxLen) (hb : (n + m) * bytes ≤ 140737488355328) (hbase : base ≤ w.heap.size)
    (h : ∀ v' w', w'.ownsRow base e size v' (n + m) (xs ++ news) → Below base w w' → w.grownBy w' v.ownBlock → K (a.put o.dst v') w') :
    if Region.wanted o (yielded ops a.tmps) = true then Oper.wp P o a w K Q else F := by
  rw [if_pos (by simp [Region.wanted, hgd])]
  exact wp_appx E s x ho hs hown hx hsrc h1 h63 hb hbase h

/-- 'l = append(l, x)', l a slice of the call's own -/
theorem wpList_app1 (E : EK P t e size bytes) {ops : Array Oper} {rest : List Oper} {o : Oper} {a : Act} {Q : Exit → Act → World → Prop} (hgd : o.guard = none) (s x : Operand)
    (ho : o.op = .call { callee := .builtin .append, args := #[s, x], argTypes := #[t, t] }) (news : List Value)
    (hown : w.ownsRow base e size v n xs) (hb : Below B w0 w) (hs : a.eval s = v) (hx : a.eval x = .slice (some ⟨w.heap.size, 0, none⟩) 1 1) (hl : news.length = size) (h1 : ∀ u ∈ news, u.oneCell' = true)
    (hm : n + 1 ≤ maxLen) (hn : (n + 1) * bytes ≤ 140737488355328) (hB : B ≤ base) (hbase : base ≤ w.heap.size)
    (h : ∀ v' w', w'.ownsRow base e size v' (n + 1) (xs ++ news) → Below B w0 w' → w.heap.size + 1 ≤ w'.heap.size → wpList P ops Q rest (a.put o.dst v') w') :
    wpList P ops Q (o :: rest) a (w.alloc (.cells news.toArray e)) := by
  refine wpList_appx E hgd s x ho hs (hown.alloc _) hx ⟨by omega, (fun k => by cases k), fun ad k j u hj => ?_⟩ h1 hm hn (by simp; omega) ?_
  · injection k with k
    subst k
    have hz : ∀ q : Nat, (Addr.mk w.heap.size 0 none).add q = ⟨w.heap.size, q, none⟩ := by
      intro q
      unfold Addr.add
      split <;> simp_all
    rw [hz, World.cell?_alloc_at _ _ _ _ rfl]
    simpa using hj
  · intro v' w' h2 h3 h4
    have hsz := h4.size
    simp at hsz
    exact h v' w' h2 ((hb.alloc (by omega) _).trans (h3.mono hB)) (by omega)
end

theorem Try.info9 : (Try.prog.info? 9).map (fun i => (i.zero, i.size, i.bytes)) = some (some (.string ⟨#[]⟩), 1, 16) := by kernel_rfl
theorem EKstrs : EK Try.prog 86 9 1 16 := .mk' _ Try.underlying86 Try.info9 rfl (by omega)

/-! ### What the small functions on texts compute -/
/-- a number's digits -/
def numL (l : List UInt8) : Int := l.foldl (fun n c => 10 * n + ((c.toNat : Int) - 48)) 0
theorem numL_snoc (l : List UInt8) (c : UInt8) : numL (l ++ [c]) = 10 * numL l + ((c.toNat : Int) - 48) := by simp [numL, List.foldl_append]
def badNum (l : List UInt8) : Bool := l.isEmpty || decide (4 < l.length) || (l.head? == some 48 && decide (1 < l.length)) || !l.all isDig
def numberL (l : List UInt8) : Int × Bool := if badNum l then (0, false) else (numL l, true)
theorem numL_bounds : ∀ (n : Nat) (l : List UInt8), l.length = n → l.all isDig = true → 0 ≤ numL l ∧ numL l < 10 ^ n
  | 0, l, h, _ => by
    obtain rfl : l = [] := List.eq_nil_of_length_eq_zero h
    simp [numL]
  | n + 1, l, h, ha => by
    obtain ⟨l', c, rfl⟩ : ∃ l' c, l = l' ++ [c] := ⟨l.dropLast, l.getLast (by intro e; subst e; simp at h), (List.dropLast_concat_getLast _).symm⟩
    rw [List.all_append, Bool.and_eq_true] at ha
    have ih := numL_bounds n l' (by simpa using h) ha.1
    have hc : isDig c = true := by simpa using ha.2
    simp only [isDig, decide_eq_true_eq] at hc
    rw [numL_snoc]
    have : (10 : Int) ^ (n + 1) = 10 * 10 ^ n := by rw [Int.pow_succ]; omega
    rw [this]
    have hh : ((c.toNat : Int)) ≤ 57 ∧ (48 : Int) ≤ c.toNat := by omega
    omega
def tagCh (c : UInt8) : Bool := decide (97 ≤ c.toNat ∧ c.toNat ≤ 122 ∨ 48 ≤ c.toNat ∧ c.toNat ≤ 57 ∨ c.toNat = 45)
def tagOk (l : List UInt8) : Bool := !l.isEmpty && decide (l.length ≤ 8) && l.all tagCh
def splitP (l : List UInt8) : List (List UInt8) := splitL 46 [] l
def tagsL (l : List UInt8) : Bool := decide ((splitP l).length ≤ 4) && (splitP l).all tagOk
def preTag (l : List UInt8) : Bool := !numericL l || (numberL l).2
def preL (l : List UInt8) : Bool := tagsL l && (splitP l).all preTag
end Go.Proofs.Ytodicnjoimoiiaa
