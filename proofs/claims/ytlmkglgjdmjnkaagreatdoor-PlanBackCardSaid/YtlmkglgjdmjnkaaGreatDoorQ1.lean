/- Parts 1 of the proofs. -/
import Derived.Test.YtlmkglgjdmjnkaaGreatDoorProg
import Derived.KernelRfl
import Derived.JoinedTies
import GoSem.ClaimJoined
import Derived.WalkKit
import Derived.WalkSpells
import Derived.WalkLawsBesides
import Derived.Lib.Hide
import Derived.Lib.Strings
import Derived.Deep.QuietTactic
import Derived.BigQuiet
import Derived.Deep.DeepFit
import Derived.Deep.DeepMust
import Derived.Below
import Derived.Laws.AppendOwn
import Derived.Laws.AppendOwnNone
import Derived.StillTailTactics
import Derived.Deep.LoopGhost
namespace Go.Proofs.YtlmkglgjdmjnkaaGreatDoor
open Go.RowKit Go.Lib
set_option linter.unusedVariables false
set_option linter.unusedSimpArgs false
structure Below (B : Nat) (w w' : World) : Prop extends Go.RowKit.Below B w w' where
  drawn : w.drawn ≤ w'.drawn
namespace Below
variable {B : Nat} {a w w' c : World}
theorem refl (B : Nat) (w : World) : Below B w w := ⟨.refl B w, Nat.le_refl _⟩
theorem trans (h : Below B a w) (k : Below B w c) : Below B a c := ⟨h.toBelow.trans k.toBelow, Nat.le_trans h.drawn k.drawn⟩
theorem mono {B' : Nat} (h : Below B w w') (hB : B' ≤ B) : Below B' w w' := ⟨h.toBelow.mono hB, h.drawn⟩
theorem drew (h : Below B a w) : Below B a w.drew := ⟨h.toBelow.drew, Nat.le_succ_of_le h.drawn⟩
theorem alloc (h : Below B a w) (hB : B ≤ w.heap.size) (o : Obj) : Below B a (w.alloc o) := ⟨h.toBelow.alloc hB o, h.drawn⟩
theorem setCell (h : Below B a w) {p : Addr} (hp : B ≤ p.block) (u : Value) : Below B a (w.setCell p u) := ⟨h.toBelow.setCell hp u, h.drawn⟩
theorem grown {row : Option Nat} (h : Below B a w) (hg : w.grownBy w' row) (hd : w.drawn ≤ w'.drawn) (hB : B ≤ w.heap.size) (hr : ∀ k, row = some k → B ≤ k) : Below B a w' := ⟨h.toBelow.grown hg hB hr, Nat.le_trans h.drawn hd⟩
theorem cell {p : Addr} (h : Below B w w') (hp : p.block < B) : w'.cell? p = w.cell? p := h.toBelow.cell hp
theorem frozen {p : Addr} (h : Below B w w') (hp : p.block < B) : w'.frozen? p = w.frozen? p := h.toBelow.frozen hp
end Below
theorem bcell {W w1 : World} (hb : Below W.heap.size W w1) : (∀ b o, b < W.heap.size → w1.cell? ⟨b, o, none⟩ = W.cell? ⟨b, o, none⟩) ∧ (∀ b o, b < W.heap.size → w1.frozen? ⟨b, o, none⟩ = W.frozen? ⟨b, o, none⟩) :=
  ⟨fun b o h => hb.cell (p := ⟨b, o, none⟩) h, fun b o h => hb.frozen (p := ⟨b, o, none⟩) h⟩
abbrev bts (s : ByteArray) : List UInt8 := s.toList
theorem bts_data (s : ByteArray) : s.toList = s.data.toList := ByteArray.toList_eq s
theorem bts_len (s : ByteArray) : (bts s).length = s.size := by rw [bts, bts_data]; rfl
theorem bts_get (s : ByteArray) (k : Nat) (h : k < s.size) : (bts s)[k]'(by rw [bts_len]; exact h) = s[k] := by simp only [bts, bts_data]; rfl
theorem bts_mem (s : ByteArray) (k : Nat) (h : k < s.size) : s[k] ∈ bts s := by rw [← bts_get s k h]; exact List.getElem_mem _
theorem bts_take (s : ByteArray) (k : Nat) (h : k < s.size) : (bts s).take (k + 1) = (bts s).take k ++ [s[k]] := by
  rw [List.take_succ_eq_append_getElem (by rw [bts_len]; exact h), bts_get s k h]
theorem bts_all_false {p : UInt8 → Bool} (s : ByteArray) (k : Nat) (h : k < s.size) (hp : p s[k] = false) : (bts s).all p = false := by
  rw [List.all_eq_false]
  exact ⟨s[k], bts_mem s k h, by simp [hp]⟩
theorem bts_all_take {p : UInt8 → Bool} (s : ByteArray) (k : Nat) (h : k < s.size) (ha : ((bts s).take k).all p = true) (hp : p s[k] = true) : ((bts s).take (k + 1)).all p = true := by
  rw [bts_take s k h, List.all_append, ha]; simp [hp]
theorem bts_take_all (s : ByteArray) : (bts s).take s.size = bts s := List.take_of_length_le (by rw [bts_len]; omega)
theorem bts_inj {a b : ByteArray} (h : bts a = bts b) : a = b := by
  simp only [bts, bts_data] at h
  cases a; cases b
  exact congrArg _ (Array.toList_inj.1 h)
theorem bts_empty {s : ByteArray} : (bts s).isEmpty = true ↔ s.size = 0 := by rw [List.isEmpty_iff_length_eq_zero, bts_len]
def isDig (c : UInt8) : Bool := decide (48 ≤ c.toNat ∧ c.toNat ≤ 57)
def numericL (l : List UInt8) : Bool := l.all isDig && !l.isEmpty
def strV (l : List UInt8) : Value := .string ⟨l.toArray⟩
theorem strV_extract (s : ByteArray) (a b : Nat) : Value.string (s.extract a b) = strV (((bts s).drop a).take (b - a)) := by rw [strV, bts, bts_data, Lib.extract_eq]
def splitL (b : UInt8) : List UInt8 → List UInt8 → List (List UInt8)
  | cur, [] => [cur]
  | cur, c :: r => if c = b then cur :: splitL b [] r else splitL b (cur ++ [c]) r
theorem splitL_len (b : UInt8) : ∀ (l cur : List UInt8), 1 ≤ (splitL b cur l).length ∧ (splitL b cur l).length ≤ l.length + 1
  | [], cur => by simp [splitL]
  | c :: r, cur => by
    unfold splitL
    split
    · have := splitL_len b r []; simp only [List.length_cons]; omega
    · have := splitL_len b r (cur ++ [c]); simp only [List.length_cons]; omega
theorem splitL_step (b : UInt8) (s : ByteArray) (k fr : Nat) (h : k < s.size) (hf : fr ≤ k) : splitL b (((bts s).take k).drop fr) ((bts s).drop k) =
    if s[k] = b then ((bts s).take k).drop fr :: splitL b [] ((bts s).drop (k + 1)) else splitL b (((bts s).take (k + 1)).drop fr) ((bts s).drop (k + 1)) := by
  have e := List.drop_eq_getElem_cons (l := bts s) (i := k) (by rw [bts_len]; exact h)
  rw [bts_get s k h] at e
  rw [e, bts_take s k h]
  conv => lhs; unfold splitL
  have : fr ≤ ((bts s).take k).length := by
    have := bts_len s
    rw [List.length_take]
    omega
  rw [List.drop_append_of_le_length this]
theorem take_drop_comm (l : List UInt8) (a b : Nat) : (l.take b).drop a = (l.drop a).take (b - a) := by rw [List.drop_take]
structure EK (P : Program) (t e : TypeId) (size bytes : Nat) : Prop where
  ht : P.underlying t = some (.slice e)
  info : ∃ (i : TypeInfo) (z : Value), P.info? e = some i ∧ i.zero = some z ∧ i.size = size ∧ i.bytes = bytes ∧ z.cells.size = size
  pos : 0 < size
theorem EK.mk' {P : Program} {t e : TypeId} {size bytes : Nat} (z : Value) (ht : P.underlying t = some (.slice e)) (h : (P.info? e).map (fun i => (i.zero, i.size, i.bytes)) = some (some z, size, bytes)) (hz : z.cells.size = size) (hp : 0 < size) : EK P t e size bytes := by
  obtain ⟨i, h1, h2, h3, h4⟩ := info_parts h
  exact ⟨ht, ⟨i, z, h1, h2, h3, h4, hz⟩, hp⟩
section
variable {P : Program} {w w0 w1 w2 : World} {B base size n bytes : Nat} {t e : TypeId} {v : Value} {xs : List Value}
theorem own_below (h : w1.ownsRow base e size v n xs) (hb : Below w1.heap.size w1 w2) : w2.ownsRow base e size v n xs := by
  obtain ⟨h1, h2⟩ := h
  refine ⟨h1, ?_⟩
  rcases h2 with h2 | ⟨g, cap, cur, hv, hg, hh, r⟩
  · exact .inl h2
  · refine .inr ⟨g, cap, cur, hv, hg, ?_, r⟩
    have hlt : g < w1.heap.size := by
      rcases Nat.lt_or_ge g w1.heap.size with h | h
      · exact h
      · rw [Array.getElem?_eq_none h] at hh; cases hh
    rw [hb.block g hlt]; exact hh
theorem own_form (h : w.ownsRow base e size v n xs) (hn : 0 < n) : ∃ g cap, v = .slice (some ⟨g, 0, none⟩) n cap ∧ base ≤ g ∧ g < w.heap.size ∧ n ≤ cap ∧ ∀ j, j < n * size → w.cell? ⟨g, j, none⟩ = xs[j]? := by
  have h2 := h.2
  rcases h2 with ⟨_, h2⟩ | ⟨g, cap, cur, hv, hg, hh, hle, r⟩
  · omega
  · subst hv
    have hlt : g < w.heap.size := by
      rcases Nat.lt_or_ge g w.heap.size with h | h
      · exact h
      · rw [Array.getElem?_eq_none h] at hh; cases hh
    exact ⟨g, cap, rfl, hg, hlt, hle, fun j hj => h.cellAt j hj⟩
end
def SrcOf (w : World) (A : Option Addr) (m size : Nat) (xs : List Value) : Prop := xs.length = m * size ∧ (A = none → m = 0) ∧ ∀ ad, A = some ad → ∀ j u, xs[j]? = some u → w.cell? (ad.add j) = some u
section
variable {P : Program} {w w0 : World} {B base size n bytes : Nat} {t e : TypeId} {v : Value} {xs : List Value}
theorem append_drawn (E : EK P t e size bytes) (ty : TypeId) (hown : w.ownsRow base e size v n xs) {ad : Addr} {m c : Nat} {news : List Value} (hl : news.length = m * size) (hc : ∀ j u, news[j]? = some u → w.cell? (ad.add j) = some u) (h1 : ∀ u ∈ news, u.oneCell' = true)
    (h63 : n + m ≤ maxLen) (hb : (n + m) * bytes ≤ 140737488355328) {v' : Value} {w' : World} (hr : (Builtin.append_ #[t, t] ty #[v, .slice (some ad) m c]).run P w = .ok v' w') : w.drawn ≤ w'.drawn := by
  obtain ⟨i, z, hi, hz0, hz1, hz2, hz3⟩ := E.info
  subst hz1
  subst hz2
  have hM : maxLen = 9223372036854775807 := rfl
  rcases hown.2 with ⟨rfl, rfl⟩ | ⟨g, cap, cur, rfl, _, hg, hnc, _, hcs, _⟩
  · rcases Nat.eq_zero_or_pos m with rfl | hm
    · simp [Builtin.append_, run_underlying E.ht, sizeOf, typeInfo, hi, Builtin.lenOf, Builtin.firstCells, loadCells, loadCellsFrom] at hr
      rw [← hr.2]; exact Nat.le_refl _
    · rw [run_append_nil (P := P) w t ty e i z E.ht hi hz0 ad m c news hl hc (by omega) (by omega) (by simp only [Nat.zero_add] at hb; omega)] at hr
      injection hr with _ hr
      rw [← hr]; exact Nat.le_succ _
  · by_cases hroom : n + m ≤ cap
    · have hfit : n * i.size + news.length ≤ cur.size := by rw [hl, hcs, ← Nat.add_mul]; exact Nat.mul_le_mul_right _ hroom
      rw [run_append_room (P := P) w t ty e i E.ht hi g n cap cur hg ad m c news hl hc h1 hroom hfit] at hr
      injection hr with _ hr
      rw [← hr]; exact Nat.le_refl _
    · rw [run_append_grow (P := P) w t ty e i z E.ht hi hz0 ⟨g, 0, none⟩ n cap xs hown.1 (hown.cells (g := g) rfl) ad m c news hl hc (by omega) (by omega) (growslice_fits (by omega) hb)] at hr
      injection hr with _ hr
      rw [← hr]; exact Nat.le_succ _
theorem run_appx (E : EK P t e size bytes) (ty : TypeId) (hown : w.ownsRow base e size v n xs) {A : Option Addr} {m c : Nat} {news : List Value} (hs : SrcOf w A m size news) (h1 : ∀ u ∈ news, u.oneCell' = true)
    (h63 : n + m ≤ maxLen) (hb : (n + m) * bytes ≤ 140737488355328) (hbase : base ≤ w.heap.size) :
    ∃ v' w', (Builtin.append_ #[t, t] ty #[v, .slice A m c]).run P w = .ok v' w' ∧ w'.ownsRow base e size v' (n + m) (xs ++ news) ∧ Below base w w' ∧ w.grownBy w' v.ownBlock := by
  obtain ⟨i, z, hi, hz0, hz1, hz2, hz3⟩ := E.info
  obtain ⟨hl, hnil, hsrc⟩ := hs
  cases A with
  | none =>
    obtain rfl := hnil rfl
    have hn : news = [] := List.eq_nil_of_length_eq_zero (by simpa using hl)
    subst hn
    refine ⟨v, w, ?_, by simpa using hown, Below.refl _ _, World.grownBy.refl w _⟩
    rcases hown.2 with ⟨rfl, rfl⟩ | ⟨g, cap, cur, rfl, _, _, hnc, _⟩
    · simp [Builtin.append_, run_underlying E.ht, sizeOf, typeInfo, hi, Builtin.lenOf, Builtin.firstCells]
    · simp [Builtin.append_, run_underlying E.ht, sizeOf, typeInfo, hi, Builtin.lenOf, Builtin.firstCells, hnc, storeCells]
  | some ad =>
    obtain ⟨v', w', hr, h2, h3, _⟩ := run_append_own (P := P) w base t ty e i z size bytes E.ht hi hz0 hz1 hz2 hz3 E.pos v n xs hown ad m c news hl (hsrc ad rfl) h1 h63 hb hbase
    exact ⟨v', w', hr, h2, (Below.refl _ _).grown h3 (append_drawn E ty hown hl (hsrc ad rfl) h1 h63 hb hr) hbase (fun k hk => (hown.lt k hk).1), h3⟩
theorem wp_appx (E : EK P t e size bytes) {o : Oper} {a : Act} {K : Act → World → Prop} {Q : Exit → Act → World → Prop} (s x : Operand)
    (ho : o.op = .call { callee := .builtin .append, args := #[s, x], argTypes := #[t, t] }) (hs : a.eval s = v) (hown : w.ownsRow base e size v n xs) {A : Option Addr} {m c : Nat} {news : List Value} (hx : a.eval x = .slice A m c)
    (hsrc : SrcOf w A m size news) (h1 : ∀ u ∈ news, u.oneCell' = true) (h63 : n + m ≤ maxLen) (hb : (n + m) * bytes ≤ 140737488355328) (hbase : base ≤ w.heap.size)
    (h : ∀ v' w', w'.ownsRow base e size v' (n + m) (xs ++ news) → Below base w w' → w.grownBy w' v.ownBlock → K (a.put o.dst v') w') : o.wp P a w K Q := by
  obtain ⟨v', w', hrun, h2, h3, h4⟩ := run_appx (P := P) E o.type hown (A := A) (m := m) (c := c) hsrc h1 h63 hb hbase
  unfold Oper.wp execOp
  simp only [ho, resolve, invoke, builtin, Sem.run_bind, Sem.run_pure, Result.andThen_ok, List.map_toArray, List.map_cons, List.map_nil, hs, hx, hrun]
  exact h v' w' h2 h3 h4
theorem wpList_appx (E : EK P t e size bytes) {ops : Array Oper} {rest : List Oper} {o : Oper} {a : Act} {Q : Exit → Act → World → Prop} (hgd : o.guard = none) (s x : Operand)
    (ho : o.op = .call { callee := .builtin .append, args := #[s, x], argTypes := #[t, t] }) (hs : a.eval s = v) (hown : w.ownsRow base e size v n xs) {A : Option Addr} {m c : Nat} {news : List Value} (hx : a.eval x = .slice A m c)
    (hsrc : SrcOf w A m size news) (h1 : ∀ u ∈ news, u.oneCell' = true) (h63 : n + m ≤ maxLen) (hb : (n + m) * bytes ≤ 140737488355328) (hbase : base ≤ w.heap.size)
    (h : ∀ v' w', w'.ownsRow base e size v' (n + m) (xs ++ news) → Below base w w' → w.grownBy w' v.ownBlock → wpList P ops Q rest (a.put o.dst v') w') : wpList P ops Q (o :: rest) a w :=
  wpList_plain hgd fun _ hK => wp_appx E s x ho hs hown hx hsrc h1 h63 hb hbase fun v' w' h2 h3 h4 => hK _ _ (h v' w' h2 h3 h4)
theorem step_appx (E : EK P t e size bytes) {ops : Array Oper} {o : Oper} {a : Act} {K : Act → World → Prop} {Q : Exit → Act → World → Prop} {F : Prop} (hgd : o.guard = none) (s x : Operand)
    (ho : o.op = .call { callee := .builtin .append, args := #[s, x], argTypes := #[t, t] }) (hs : a.eval s = v) (hown : w.ownsRow base e size v n xs) {A : Option Addr} {m c : Nat} {news : List Value} (hx : a.eval x = .slice A m c)
    (hsrc : SrcOf w A m size news) (h1 : ∀ u ∈ news, u.oneCell' = true) (h63 : n + m ≤ maxLen) (hb : (n + m) * bytes ≤ 140737488355328) (hbase : base ≤ w.heap.size)
    (h : ∀ v' w', w'.ownsRow base e size v' (n + m) (xs ++ news) → Below base w w' → w.grownBy w' v.ownBlock → K (a.put o.dst v') w') :
    if Region.wanted o (yielded ops a.tmps) = true then Oper.wp P o a w K Q else F := by
  rw [if_pos (by simp [Region.wanted, hgd])]
  exact wp_appx E s x ho hs hown hx hsrc h1 h63 hb hbase h
theorem wpList_app1 (E : EK P t e size bytes) {ops : Array Oper} {rest : List Oper} {o : Oper} {a : Act} {Q : Exit → Act → World → Prop} (hgd : o.guard = none) (s x : Operand)
    (ho : o.op = .call { callee := .builtin .append, args := #[s, x], argTypes := #[t, t] }) (news : List Value)
    (hown : w.ownsRow base e size v n xs) (hb : Below B w0 w) (hs : a.eval s = v) (hx : a.eval x = .slice (some ⟨w.heap.size, 0, none⟩) 1 1) (hl : news.length = size) (h1 : ∀ u ∈ news, u.oneCell' = true)
    (hm : n + 1 ≤ maxLen) (hn : (n + 1) * bytes ≤ 140737488355328) (hB : B ≤ base) (hbase : base ≤ w.heap.size)
    (h : ∀ v' w', w'.ownsRow base e size v' (n + 1) (xs ++ news) → Below B w0 w' → w.heap.size + 1 ≤ w'.heap.size → wpList P ops Q rest (a.put o.dst v') w') :
    wpList P ops Q (o :: rest) a (w.alloc (.cells news.toArray e)) := by
  refine wpList_appx E hgd s x ho hs (hown.alloc _) hx ⟨by omega, (fun k => by cases k), fun ad k j u hj => ?_⟩ h1 hm hn (by simp; omega) ?_
  · injection k with k
    subst k
    have hz : ∀ q : Nat, (Addr.mk w.heap.size 0 none).add q = ⟨w.heap.size, q, none⟩ := by
      intro q
      unfold Addr.add
      split <;> simp_all
    rw [hz, World.cell?_alloc_at _ _ _ _ rfl]
    simpa using hj
  · intro v' w' h2 h3 h4
    have hsz := h4.size
    simp at hsz
    exact h v' w' h2 ((hb.alloc (by omega) _).trans (h3.mono hB)) (by omega)
end
theorem Tryz.info9 : (Tryz.prog.info? 9).map (fun i => (i.zero, i.size, i.bytes)) = some (some (.string ⟨#[]⟩), 1, 16) := by kernel_rfl
theorem EKstrs : EK Tryz.prog 31 9 1 16 := .mk' _ Tryz.underlying31 Tryz.info9 rfl (by omega)
def numL (l : List UInt8) : Int := l.foldl (fun n c => 10 * n + ((c.toNat : Int) - 48)) 0
theorem numL_snoc (l : List UInt8) (c : UInt8) : numL (l ++ [c]) = 10 * numL l + ((c.toNat : Int) - 48) := by simp [numL, List.foldl_append]
def badNum (l : List UInt8) : Bool := l.isEmpty || decide (4 < l.length) || (l.head? == some 48 && decide (1 < l.length)) || !l.all isDig
def numberL (l : List UInt8) : Int × Bool := if badNum l then (0, false) else (numL l, true)
theorem numL_bounds : ∀ (n : Nat) (l : List UInt8), l.length = n → l.all isDig = true → 0 ≤ numL l ∧ numL l < 10 ^ n
  | 0, l, h, _ => by
    obtain rfl : l = [] := List.eq_nil_of_length_eq_zero h
    simp [numL]
  | n + 1, l, h, ha => by
    obtain ⟨l', c, rfl⟩ : ∃ l' c, l = l' ++ [c] := ⟨l.dropLast, l.getLast (by intro e; subst e; simp at h), (List.dropLast_concat_getLast _).symm⟩
    rw [List.all_append, Bool.and_eq_true] at ha
    have ih := numL_bounds n l' (by simpa using h) ha.1
    have hc : isDig c = true := by simpa using ha.2
    simp only [isDig, decide_eq_true_eq] at hc
    rw [numL_snoc]
    have : (10 : Int) ^ (n + 1) = 10 * 10 ^ n := by rw [Int.pow_succ]; omega
    rw [this]
    have hh : ((c.toNat : Int)) ≤ 57 ∧ (48 : Int) ≤ c.toNat := by omega
    omega
def tagCh (c : UInt8) : Bool := decide (97 ≤ c.toNat ∧ c.toNat ≤ 122 ∨ 48 ≤ c.toNat ∧ c.toNat ≤ 57 ∨ c.toNat = 45)
def tagOk (l : List UInt8) : Bool := !l.isEmpty && decide (l.length ≤ 8) && l.all tagCh
def splitP (l : List UInt8) : List (List UInt8) := splitL 46 [] l
def tagsL (l : List UInt8) : Bool := decide ((splitP l).length ≤ 4) && (splitP l).all tagOk
def preTag (l : List UInt8) : Bool := !numericL l || (numberL l).2
def preL (l : List UInt8) : Bool := tagsL l && (splitP l).all preTag
end Go.Proofs.YtlmkglgjdmjnkaaGreatDoor
namespace Go.Proofs.YtlmkglgjdmjnkaaGreatDoor
open Go.RowKit Go.Lib
set_option linter.unusedVariables false
set_option linter.unusedSimpArgs false
def placeI (v n : Int) : Int := if v.tmod n < 0 then v.tmod n + n else v.tmod n
theorem tmod_bd (v n : Int) (hn : 0 < n) : -n < v.tmod n ∧ v.tmod n < n := ⟨by have := Int.lt_tmod_of_pos v hn; omega, Int.tmod_lt_of_pos v hn⟩
theorem placeI_bd (v n : Int) (hn : 0 < n) : 0 ≤ placeI v n ∧ placeI v n < n := by
  have := tmod_bd v n hn
  unfold placeI; split <;> omega
theorem ret_i {a b : Int} (h : a = b) : Ending.returned (.int .i64 a) = .returned (.int .i64 b) := by rw [h]
def IntsAt (w : World) (A : Option Addr) (zs : List Int) : Prop := zs = [] ∨ ∃ b off, A = some ⟨b, off, none⟩ ∧ b < w.heap.size ∧ ∀ i, i < zs.length → w.cell? ⟨b, off + i, none⟩ = some (.int .i64 (zs.getD i 0))
theorem IntsAt.below {w w' : World} {A : Option Addr} {zs : List Int} (h : IntsAt w A zs) (hb : Below w.heap.size w w') : IntsAt w' A zs := by
  rcases h with h | ⟨b, off, rfl, hlt, hc⟩
  · exact .inl h
  · exact .inr ⟨b, off, rfl, Nat.lt_of_lt_of_le hlt hb.size, fun i hi => (hb.cell (p := ⟨b, _, none⟩) hlt).trans (hc i hi)⟩
end Go.Proofs.YtlmkglgjdmjnkaaGreatDoor
namespace Go.Proofs.YtlmkglgjdmjnkaaGreatDoor
open Go.RowKit Go.Lib
set_option linter.unusedVariables false
set_option linter.unusedSimpArgs false
theorem fits_any (n : Int) (w : World) : Calls Tryz.prog 169 #[.int .i64 n] w fun e w' => e = .returned (.bool (decide (0 ≤ n ∧ n ≤ 9999))) ∧ w = w' := by
  by_cases h0 : 0 ≤ n
  · by_cases h1 : n ≤ 9999
    · go_enter Tryz.func169, Tryz.ntmps169
      go_wp2
      go_ret
      exact ⟨by simp [h0, h1], rfl⟩
    · have hd : decide (n ≤ 9999) = false := by simpa using h1
      go_enter Tryz.func169, Tryz.ntmps169
      go_wp2
      go_ret
      exact ⟨by simp [h1], rfl⟩
  · have hd : decide (0 ≤ n) = false := by simpa using h0
    go_enter Tryz.func169, Tryz.ntmps169
    go_wp2
    go_ret
    exact ⟨by simp [h0], rfl⟩
set_option maxRecDepth 100000 in
set_option maxHeartbeats 400000 in
theorem numeric_any (s : ByteArray) (w : World) (hs : s.size ≤ 9223372036854775807) : Calls Tryz.prog 187 #[.string s] w fun e w' => e = .returned (.bool (numericL (bts s))) ∧ w = w' := by
  go_enter Tryz.func187, Tryz.ntmps187
  go_wp2
  go_loop [2, 3, 6, 11, 12, 13, 14, 15, 16, 17, 18] (fun a i k u1 u2 u3 u4 u5 u6 u7 u8 => ∃ n : Nat, n ≤ s.size ∧ k = .int .i64 n ∧ ((bts s).take n).all isDig = true) (fun _ _ k _ _ _ _ _ _ _ _ => s.size - (intOf k).toNat)
  case atStart => exact ⟨0, Nat.zero_le _, rfl, rfl⟩
  case round =>
    obtain ⟨n, hn, rfl, hall⟩ := hrel
    have HA := hid hall
    clear hall
    go_wp2
    · go_ret
      have hl : n < s.size := by assumption
      refine ⟨?_, rfl⟩
      rw [numericL, bts_all_false s n hl (by simp [isDig]; omega)]; rfl
    · go_round
      case rel => exact ⟨n + 1, by omega, by go_num, bts_all_take s n (by assumption) HA.out (by simp [isDig]; omega)⟩
      case measure => simp [intOf]; omega
    · go_ret
      have hl : n < s.size := by assumption
      refine ⟨?_, rfl⟩
      rw [numericL, bts_all_false s n hl (by simp [isDig]; omega)]; rfl
    · go_ret
      have he : n = s.size := by omega
      subst he
      have h := HA.out
      rw [bts_take_all] at h
      refine ⟨?_, rfl⟩
      rw [numericL, h]; rfl
def Parts (w : World) (ls : List (List UInt8)) (e : Ending) (w' : World) : Prop :=
  ∃ g cap, e = .returned (.slice (some ⟨g, 0, none⟩) ls.length cap) ∧ w.heap.size ≤ g ∧ g < w'.heap.size ∧ ls.length ≤ cap ∧ (∀ j, j < ls.length → w'.cell? ⟨g, j, none⟩ = some (strV (ls.getD j []))) ∧ Below w.heap.size w w'
theorem parts_mk {w w' : World} {v : Value} {ls : List (List UInt8)} (h : w'.ownsRow w.heap.size 9 1 v ls.length (ls.map strV)) (hp : 0 < ls.length) (hb : Below w.heap.size w w') : Parts w ls (.returned v) w' := by
  obtain ⟨g, cap, rfl, hg, hlt, hc, hcell⟩ := own_form h hp
  refine ⟨g, cap, rfl, hg, hlt, hc, fun j hj => ?_, hb⟩
  rw [hcell j (by omega)]
  simp [hj]
theorem int_beq {a b : Int} (h : (a == b) = true) : a = b := by simpa using h
theorem int_bne {a b : Int} (h : (a == b) = false) : ¬ a = b := by simpa using h
theorem u8_of_beq {a b : UInt8} (h : ((a.toNat : Int) == (b.toNat : Int)) = true) : a = b := UInt8.toNat_inj.1 (by have := int_beq h; omega)
theorem u8_of_bne {a b : UInt8} (h : ((a.toNat : Int) == (b.toNat : Int)) = false) : ¬ a = b := fun e => int_bne h (by rw [e])
def SplitRel (w : World) (s : ByteArray) (b : UInt8) (l : Value) (f k : Nat) (wr : World) : Prop :=
  ∃ ps : List (List UInt8), k ≤ s.size ∧ f ≤ k ∧ ps.length ≤ k ∧ wr.ownsRow w.heap.size 9 1 l ps.length (ps.map strV) ∧
    splitL b [] (bts s) = ps ++ splitL b (((bts s).take k).drop f) ((bts s).drop k) ∧ Below w.heap.size w wr
theorem splitRel_start (w : World) (s : ByteArray) (b : UInt8) : SplitRel w s b (.slice none 0 0) 0 0 w :=
  ⟨[], Nat.zero_le _, Nat.le_refl _, Nat.zero_le _, World.ownsRow_nil _ _ _ _, by simp, Below.refl _ _⟩
theorem splitRel_cut {w w' : World} {s : ByteArray} {b : UInt8} {v' : Value} {f k : Nat} {ps : List (List UInt8)} (hlt : k < s.size) (hf : f ≤ k) (hp : ps.length ≤ k)
    (HS : splitL b [] (bts s) = ps ++ splitL b (((bts s).take k).drop f) ((bts s).drop k)) (hc : ((s[k].toNat : Int) == (b.toNat : Int)) = true)
    (h2 : w'.ownsRow w.heap.size 9 1 v' (ps.length + 1) (ps.map strV ++ [.string (s.extract f k)])) (hb : Below w.heap.size w w') : SplitRel w s b v' (k + 1) (k + 1) w' := by
  refine ⟨ps ++ [((bts s).take k).drop f], by omega, Nat.le_refl _, by simp; omega, ?_, ?_, hb⟩
  · rw [strV_extract, ← take_drop_comm] at h2
    simpa using h2
  · rw [HS, splitL_step b s k f hlt hf, if_pos (u8_of_beq hc)]
    have : ((bts s).take (k + 1)).drop (k + 1) = [] := List.drop_eq_nil_of_le (by rw [List.length_take]; omega)
    rw [this]
    simp
theorem splitRel_on {w wr : World} {s : ByteArray} {b : UInt8} {l : Value} {f k : Nat} {ps : List (List UInt8)} (hlt : k < s.size) (hf : f ≤ k) (hp : ps.length ≤ k)
    (HS : splitL b [] (bts s) = ps ++ splitL b (((bts s).take k).drop f) ((bts s).drop k)) (hc : ((s[k].toNat : Int) == (b.toNat : Int)) = false)
    (h2 : wr.ownsRow w.heap.size 9 1 l ps.length (ps.map strV)) (hb : Below w.heap.size w wr) : SplitRel w s b l f (k + 1) wr := by
  refine ⟨ps, by omega, by omega, by omega, h2, ?_, hb⟩
  rw [HS, splitL_step b s k f hlt hf, if_neg (u8_of_bne hc)]
theorem splitRel_end {w w' : World} {s : ByteArray} {b : UInt8} {v' : Value} {f : Nat} {ps : List (List UInt8)}
    (HS : splitL b [] (bts s) = ps ++ splitL b (((bts s).take s.size).drop f) ((bts s).drop s.size))
    (h2 : w'.ownsRow w.heap.size 9 1 v' (ps.length + 1) (ps.map strV ++ [.string (s.extract f s.size)])) (hb : Below w.heap.size w w') : Parts w (splitL b [] (bts s)) (.returned v') w' := by
  have e : (bts s).drop s.size = [] := List.drop_eq_nil_of_le (by rw [bts_len]; omega)
  rw [e] at HS
  rw [HS]
  refine parts_mk ?_ (by simp [splitL]) hb
  rw [strV_extract, ← take_drop_comm] at h2
  simpa [splitL] using h2
set_option maxRecDepth 100000 in
set_option maxHeartbeats 400000 in
theorem split_any (s : ByteArray) (b : UInt8) (w : World) (hs : s.size ≤ 4398046511104) : Calls Tryz.prog 174 #[.string s, .int .u8 b.toNat] w (Parts w (splitL b [] (bts s))) := by
  have hM : maxLen = 9223372036854775807 := rfl
  go_enter Tryz.func174, Tryz.ntmps174
  go_wp2
  go_loopw [5, 6, 10] (fun l fr i wr => ∃ (k f : Nat), i = .int .i64 k ∧ fr = .int .i64 f ∧ SplitRel w s b l f k wr) (fun _ _ i _ => s.size - (intOf i).toNat)
  case atStart => exact ⟨0, 0, rfl, rfl, splitRel_start _ _ _⟩
  case round =>
    obtain ⟨k, f, rfl, rfl, ps, hk, hf, hp, hown, hS, hb⟩ := hrel
    have HS := hid hS
    clear hS
    have hsz := hb.size
    go_wp2_with (first | (at_builtin; refine wpList_app1 EKstrs rfl (.tmp 18) (.tmp 23) rfl [.string (s.extract f k)] hown hb rfl rfl rfl ?_ (by omega) (by omega) (Nat.le_refl _) hsz ?_) | (at_builtin; refine wpList_app1 EKstrs rfl (.tmp 28) (.tmp 32) rfl [.string (s.extract f s.size)] hown hb rfl rfl rfl ?_ (by omega) (by omega) (Nat.le_refl _) hsz ?_))
    · simp [Value.oneCell']
    · intro v' w' h2 hb2 hs2
      have hc : ((s[k].toNat : Int) == (b.toNat : Int)) = true := by assumption
      have R := hid (splitRel_cut (by assumption) hf hp HS.out hc h2 hb2)
      clear hown h2 hc
      go_wp2
      go_roundw
      case rel => exact ⟨k + 1, k + 1, by go_num, by go_num, R.out⟩
      case measure => simp [intOf]; omega
    · have hc : ((s[k].toNat : Int) == (b.toNat : Int)) = false := by assumption
      go_roundw
      case rel => exact ⟨k + 1, f, by go_num, rfl, splitRel_on (by assumption) hf hp HS.out hc hown hb⟩
      case measure => simp [intOf]; omega
    · simp [Value.oneCell']
    · intro v' w' h2 hb2 hs2
      have hke : k = s.size := by omega
      subst hke
      have R := hid (splitRel_end HS.out h2 hb2)
      clear hown h2
      go_wp2
      go_ret
      exact R.out
end Go.Proofs.YtlmkglgjdmjnkaaGreatDoor
namespace Go.Proofs.YtlmkglgjdmjnkaaGreatDoor
open Go.RowKit Go.Lib
set_option linter.unusedVariables false
set_option linter.unusedSimpArgs false
def Num2 (w : World) (r : Int × Bool) (e : Ending) (w' : World) : Prop := e = .returned (.tuple #[.int .i64 r.1, .bool r.2]) ∧ Below w.heap.size w w'
theorem numberL_bad {l : List UInt8} (h : badNum l = true) : numberL l = (0, false) := by rw [numberL, if_pos h]
theorem numberL_good {l : List UInt8} (h : badNum l = false) : numberL l = (numL l, true) := by rw [numberL, if_neg (by rw [h]; simp)]
theorem num2_bad {w w' : World} {s : ByteArray} (h : badNum (bts s) = true) (hb : Below w.heap.size w w') : Num2 w (numberL (bts s)) (.returned (.tuple #[.int .i64 0, .bool false])) w' := by
  rw [numberL_bad h]; exact ⟨rfl, hb⟩
theorem bts_head {s : ByteArray} (h : 0 < s.size) : (bts s).head? = some s[0] := by
  rw [List.head?_eq_getElem?, List.getElem?_eq_getElem (by rw [bts_len]; exact h), bts_get s 0 h]
theorem bad_long {s : ByteArray} (h : 4 < s.size) : badNum (bts s) = true := by simp [badNum, bts_len, h]
theorem bad_zero {s : ByteArray} (h : 1 < s.size) (h0 : s[0].toNat = 48) : badNum (bts s) = true := by
  have : s[0] = 48 := UInt8.toNat_inj.1 h0
  rw [badNum, bts_head (by omega), this]; simp [bts_len, h]
theorem bad_char {s : ByteArray} {k : Nat} (h : k < s.size) (h0 : isDig s[k] = false) : badNum (bts s) = true := by
  rw [badNum, bts_all_false s k h h0]; simp
theorem not_bad {s : ByteArray} (h0 : 0 < s.size) (h4 : s.size ≤ 4) (hz : s.size ≤ 1 ∨ ¬ s[0].toNat = 48) (ha : (bts s).all isDig = true) : badNum (bts s) = false := by
  have hl := bts_len s
  rw [badNum, bts_head h0, ha, hl]
  have e1 : (bts s).isEmpty = false := by rw [Bool.eq_false_iff]; intro e; rw [bts_empty] at e; omega
  have e2 : decide (4 < s.size) = false := by simp; omega
  rw [e1, e2]
  rcases hz with hz | hz
  · have : decide (1 < s.size) = false := by simp; omega
    rw [this]; simp
  · have : (some s[0] == some (48 : UInt8)) = false := by
      rw [beq_eq_false_iff_ne]
      intro e
      injection e with e
      exact hz (by rw [e]; rfl)
    rw [this]; simp
def NumRel (w : World) (s : ByteArray) (n : Int) (wr : World) : Prop := ∃ k : Nat, k ≤ s.size ∧ n = numL ((bts s).take k) ∧ ((bts s).take k).all isDig = true ∧ wr = w.iter s k
theorem numRel_start (w : World) (s : ByteArray) : NumRel w s 0 (w.iter s 0) := ⟨0, Nat.zero_le _, rfl, rfl, rfl⟩
theorem numL_take_bounds (s : ByteArray) (k : Nat) (hk : k ≤ s.size) (h4 : s.size ≤ 4) (ha : ((bts s).take k).all isDig = true) : 0 ≤ numL ((bts s).take k) ∧ numL ((bts s).take k) ≤ 9999 := by
  have h := numL_bounds k _ (by rw [List.length_take, bts_len]; omega) ha
  rcases (show k = 0 ∨ k = 1 ∨ k = 2 ∨ k = 3 ∨ k = 4 from by omega) with rfl | rfl | rfl | rfl | rfl <;> omega
theorem below_iter (w : World) (s : ByteArray) (k : Nat) : Below w.heap.size w (w.iter s k) := (Below.refl _ _).alloc (Nat.le_refl _) _
theorem ne_of_size {s : ByteArray} (h0 : 0 < s.size) : s.toList.isEmpty = false ∧ ¬ s.toList = [] := by
  have hne : ¬ s.toList = [] := by intro e; have := bts_len s; rw [bts, e] at this; simp at this; omega
  exact ⟨by simpa using hne, hne⟩
theorem numRel_step {w : World} {s : ByteArray} {k : Nat} (hk : k < s.size) (ha : ((bts s).take k).all isDig = true) (hd : isDig s[k] = true) :
    NumRel w s (10 * numL ((bts s).take k) + ((s[k].toNat : Int) - 48)) (w.iter s (k + 1)) :=
  ⟨k + 1, by omega, by rw [bts_take s k hk, numL_snoc], bts_all_take s k hk ha hd, rfl⟩
theorem decode_nondig (s : ByteArray) (k : Nat) (h : k < s.size) (hd : isDig s[k] = false) : (Utf8.decode s k).1 < 48 ∨ 57 < (Utf8.decode s k).1 := by
  simp only [isDig, decide_eq_false_iff_not] at hd
  by_cases ha : s[k].toNat < 128
  · rw [decode_ascii s k h ha]; simp only; omega
  · have := (decode_high s k h (by omega)).1; omega
set_option maxRecDepth 100000 in
set_option maxHeartbeats 800000 in
theorem number_go (s : ByteArray) (w : World) (h0 : 0 < s.size) (h4 : s.size ≤ 4) (hz : s.size ≤ 1 ∨ ¬ s[0].toNat = 48) : Calls Tryz.prog 186 #[.string s] w (Num2 w (numberL (bts s))) := by
  obtain ⟨he, hne⟩ := ne_of_size h0
  have hd4 : decide ((4 : Int) < (s.size : Int)) = false := by simp; omega
  have HZ := hid hz
  have hcase : (((s[0].toNat : Int) == 48) = true ∧ decide ((1 : Int) < (s.size : Int)) = false) ∨ ((s[0].toNat : Int) == 48) = false := by
    by_cases h : s[0].toNat = 48
    · exact .inl ⟨by simp [h], by simp; omega⟩
    · exact .inr (by rw [beq_eq_false_iff_ne]; omega)
  clear hz
  rcases hcase with ⟨hs0, hd1⟩ | hs0
  all_goals
    go_enter Tryz.func186, Tryz.ntmps186
    go_wp2_with fail
    clear hs0
    go_loopw [4] (fun n wr => ∃ z : Int, n = .int .i64 z ∧ NumRel w s z wr) (fun _ wr => s.size - wr.iterPos w.heap.size)
    case atStart => exact ⟨0, rfl, numRel_start w s⟩
    case round =>
      obtain ⟨z, rfl, k, hk, hzk, ha, rfl⟩ := hrel
      have hb := numL_take_bounds s k hk h4 ha
      rw [← hzk] at hb
      obtain ⟨hb1, hb2⟩ := hb
      have HK := hid hzk
      have HA := hid ha
      clear hzk ha
      by_cases hlt : k < s.size
      · by_cases hd : isDig s[k] = true
        · have hdd : 48 ≤ s[k].toNat ∧ s[k].toNat ≤ 57 := by simpa [isDig] using hd
          have HD := hid hd
          clear hd
          obtain ⟨d1, d2⟩ := hdd
          have hnx := fun ty => run_next_ascii (P := Tryz.prog) w s k ty hlt (by omega)
          generalize hc : s[k].toNat = c at *
          have HC := hid hc
          clear hc
          go_wp2
          go_roundw
          case rel => exact ⟨_, rfl, by have := numRel_step (w := w) hlt HA.out HD.out; rw [← HK.out, HC.out] at this; exact this⟩
          case measure => simp; omega
        · have hdf : isDig s[k] = false := by simpa using hd
          have hnx := fun ty => run_next_any (P := Tryz.prog) w s k ty hlt
          have hdc := decode_nondig s k hlt hdf
          have HB := hid (bad_char hlt hdf)
          clear hd hdf
          generalize (Utf8.decode s k).1 = c at *
          generalize (Utf8.decode s k).2 = q at *
          rcases hdc with hdc | hdc
          all_goals
            go_wp2
            go_ret2
            exact num2_bad HB.out (below_iter _ _ _)
      · obtain rfl : k = s.size := by omega
        have hnx := fun ty => run_next_end (P := Tryz.prog) w s s.size ty (by omega)
        have HF := hid (not_bad h0 h4 HZ.out (by have := HA.out; rwa [bts_take_all] at this))
        go_wp2
        go_ret2
        have := HK.out
        rw [bts_take_all] at this
        refine ⟨?_, below_iter _ _ _⟩
        rw [numberL_good HF.out, this]
        have hb3 : decide (z ≤ 9999) = true := by simpa using hb2
        simp_all
theorem number_any (s : ByteArray) (w : World) : Calls Tryz.prog 186 #[.string s] w (Num2 w (numberL (bts s))) := by
  by_cases h0 : 0 < s.size
  · by_cases h4 : s.size ≤ 4
    · by_cases hz : s.size ≤ 1 ∨ ¬ s[0].toNat = 48
      · exact number_go s w h0 h4 hz
      · obtain ⟨he, hne⟩ := ne_of_size h0
        have hd4 : decide ((4 : Int) < (s.size : Int)) = false := by simp; omega
        have hd1 : decide ((1 : Int) < (s.size : Int)) = true := by simp; omega
        have hs0 : ((s[0].toNat : Int) == 48) = true := by simp; omega
        have HB := hid (bad_zero (s := s) (by omega) (by omega))
        clear hz
        go_enter Tryz.func186, Tryz.ntmps186
        go_wp2_with fail
        go_ret2
        exact num2_bad HB.out (Below.refl _ _)
    · obtain ⟨he, hne⟩ := ne_of_size h0
      have hd4 : decide ((4 : Int) < (s.size : Int)) = true := by simp; omega
      have HB := hid (bad_long (s := s) (by omega))
      go_enter Tryz.func186, Tryz.ntmps186
      go_wp2_with fail
      go_ret2
      exact num2_bad HB.out (Below.refl _ _)
  · have he : s.toList = [] := by
      apply List.eq_nil_of_length_eq_zero
      have := bts_len s
      simp only [bts] at this
      omega
    have HB := hid (show badNum (bts s) = true by rw [bts, he]; rfl)
    go_enter Tryz.func186, Tryz.ntmps186
    go_wp2_with fail
    go_ret2
    exact num2_bad HB.out (Below.refl _ _)
theorem digit_any (c : UInt8) (w : World) : Calls Tryz.prog 158 #[.int .u8 c.toNat] w fun e w' => e = .returned (.bool (isDig c)) ∧ w = w' := by
  have hd : isDig c = (decide ((48 : Int) ≤ (c.toNat : Int)) && decide ((c.toNat : Int) ≤ 57)) := by
    rw [isDig, ← Bool.decide_and]
    exact decide_eq_decide.2 (by omega)
  rw [hd]
  clear hd
  by_cases h0 : (48 : Int) ≤ c.toNat
  · go_enter Tryz.func158, Tryz.ntmps158
    go_wp2
    go_ret
    exact ⟨by simp [h0], rfl⟩
  · have hd : decide ((48 : Int) ≤ (c.toNat : Int)) = false := by simpa using h0
    go_enter Tryz.func158, Tryz.ntmps158
    go_wp2
    go_ret
    exact ⟨by simp [h0], rfl⟩
set_option maxRecDepth 100000 in
set_option maxHeartbeats 400000 in
theorem rnumeric_any (s : ByteArray) (w : World) (hs : s.size ≤ 9223372036854775807) : Calls Tryz.prog 135 #[.string s] w fun e w' => e = .returned (.bool (numericL (bts s))) ∧ w = w' := by
  go_enter Tryz.func135, Tryz.ntmps135
  go_wp2
  go_loop [3] (fun k => ∃ n : Nat, n ≤ s.size ∧ k = .int .i64 n ∧ ((bts s).take n).all isDig = true) (fun k => s.size - (intOf k).toNat)
  case atStart => exact ⟨0, Nat.zero_le _, rfl, rfl⟩
  case round =>
    obtain ⟨n, hn, rfl, hall⟩ := hrel
    have HA := hid hall
    clear hall
    go_wp2
    · go_ret
      have hl : n < s.size := by assumption
      refine ⟨?_, rfl⟩
      rw [numericL, bts_all_false s n hl (by simp [isDig]; omega)]; rfl
    · go_round
      case rel => exact ⟨n + 1, by omega, by go_num, bts_all_take s n (by assumption) HA.out (by simp [isDig]; omega)⟩
      case measure => simp [intOf]; omega
    · go_ret
      have hl : n < s.size := by assumption
      refine ⟨?_, rfl⟩
      rw [numericL, bts_all_false s n hl (by simp [isDig]; omega)]; rfl
    · go_ret
      have he : n = s.size := by omega
      subst he
      have h := HA.out
      rw [bts_take_all] at h
      refine ⟨?_, rfl⟩
      rw [numericL, h]
      have : (!(bts s).isEmpty) = decide (0 < s.size) := by
        by_cases h0 : 0 < s.size
        · rw [(ne_of_size h0).1]; simp [h0]
        · have : (bts s).isEmpty = true := bts_empty.2 (by omega)
          rw [this]; simp [h0]
      rw [this]; rfl
set_option maxRecDepth 100000 in
set_option maxHeartbeats 400000 in
theorem rsplit_any (s : ByteArray) (b : UInt8) (w : World) (hs : s.size ≤ 4398046511104) : Calls Tryz.prog 132 #[.string s, .int .u8 b.toNat] w (Parts w (splitL b [] (bts s))) := by
  have hM : maxLen = 9223372036854775807 := rfl
  go_enter Tryz.func132, Tryz.ntmps132
  go_wp2
  go_loopw [5, 6, 7] (fun l fr i wr => ∃ (k f : Nat), i = .int .i64 k ∧ fr = .int .i64 f ∧ SplitRel w s b l f k wr) (fun _ _ i _ => s.size - (intOf i).toNat)
  case atStart => exact ⟨0, 0, rfl, rfl, splitRel_start _ _ _⟩
  case round =>
    obtain ⟨k, f, rfl, rfl, ps, hk, hf, hp, hown, hS, hb⟩ := hrel
    have HS := hid hS
    clear hS
    have hsz := hb.size
    go_wp2_with (first | (at_builtin; refine wpList_app1 EKstrs rfl (.tmp 19) (.tmp 24) rfl [.string (s.extract f k)] hown hb rfl rfl rfl ?_ (by omega) (by omega) (Nat.le_refl _) hsz ?_) | (at_builtin; refine wpList_app1 EKstrs rfl (.tmp 28) (.tmp 32) rfl [.string (s.extract f s.size)] hown hb rfl rfl rfl ?_ (by omega) (by omega) (Nat.le_refl _) hsz ?_))
    · simp [Value.oneCell']
    · intro v' w' h2 hb2 hs2
      have hc : ((s[k].toNat : Int) == (b.toNat : Int)) = true := by assumption
      have R := hid (splitRel_cut (by assumption) hf hp HS.out hc h2 hb2)
      clear hown h2 hc
      go_wp2
      go_roundw
      case rel => exact ⟨k + 1, k + 1, by go_num, by go_num, R.out⟩
      case measure => simp [intOf]; omega
    · have hc : ((s[k].toNat : Int) == (b.toNat : Int)) = false := by assumption
      go_roundw
      case rel => exact ⟨k + 1, f, by go_num, rfl, splitRel_on (by assumption) hf hp HS.out hc hown hb⟩
      case measure => simp [intOf]; omega
    · simp [Value.oneCell']
    · intro v' w' h2 hb2 hs2
      have hke : k = s.size := by omega
      subst hke
      have R := hid (splitRel_end HS.out h2 hb2)
      clear hown h2
      go_wp2
      go_ret
      exact R.out
theorem tag_long {s : ByteArray} (h : s.size < 1 ∨ 8 < s.size) : tagOk (bts s) = false := by
  have hl := bts_len s
  rw [tagOk]
  rcases h with h | h
  · have : (bts s).isEmpty = true := bts_empty.2 (by omega)
    rw [this]; rfl
  · have : decide ((bts s).length ≤ 8) = false := by simp; omega
    rw [this]; simp
theorem tag_char {s : ByteArray} {k : Nat} (h : k < s.size) (h0 : tagCh s[k] = false) : tagOk (bts s) = false := by
  rw [tagOk, bts_all_false s k h h0]; simp
theorem tag_good {s : ByteArray} (h0 : 0 < s.size) (h8 : s.size ≤ 8) (ha : ((bts s).take s.size).all tagCh = true) : tagOk (bts s) = true := by
  rw [bts_take_all] at ha
  rw [tagOk, ha, (ne_of_size h0).1, bts_len]
  simp [h8]
theorem tagCh_yes {c : UInt8} (h : tagCh c = true) : c.toNat = 45 ∨ (48 ≤ c.toNat ∧ c.toNat ≤ 57) ∨ (97 ≤ c.toNat ∧ c.toNat ≤ 122) := by
  simp only [tagCh, decide_eq_true_eq] at h; omega
theorem tagCh_no {c : UInt8} (h : tagCh c = false) : c.toNat < 45 ∨ (45 < c.toNat ∧ c.toNat < 48) ∨ (57 < c.toNat ∧ c.toNat < 97) ∨ 122 < c.toNat := by
  simp only [tagCh, decide_eq_false_iff_not] at h; omega
set_option maxRecDepth 100000 in
set_option maxHeartbeats 1000000 in
theorem rtag_any (s : ByteArray) (w : World) (hs : s.size ≤ 9223372036854775807) : Calls Tryz.prog 133 #[.string s] w fun e w' => e = .returned (.bool (tagOk (bts s))) ∧ w = w' := by
  by_cases h0 : s.size < 1 ∨ 8 < s.size
  · rw [tag_long h0]
    rcases h0 with h0 | h0
    · go_enter Tryz.func133, Tryz.ntmps133
      go_wp2
      go_ret
      exact ⟨rfl, rfl⟩
    · have h1 : decide ((s.size : Int) < 1) = false := by simp; omega
      go_enter Tryz.func133, Tryz.ntmps133
      go_wp2
      go_ret
      exact ⟨rfl, rfl⟩
  · have h1 : decide ((s.size : Int) < 1) = false := by simp; omega
    have h2 : decide ((8 : Int) < (s.size : Int)) = false := by simp; omega
    have hlo : 0 < s.size := by omega
    have hhi : s.size ≤ 8 := by omega
    clear h0
    generalize hr : tagOk (bts s) = r
    have HR := hid hr
    clear hr
    go_enter Tryz.func133, Tryz.ntmps133
    go_wp2
    go_loop [3] (fun k => ∃ n : Nat, n ≤ s.size ∧ k = .int .i64 n ∧ ((bts s).take n).all tagCh = true) (fun k => s.size - (intOf k).toNat)
    case atStart => exact ⟨0, Nat.zero_le _, rfl, rfl⟩
    case round =>
      obtain ⟨n, hn, rfl, hall⟩ := hrel
      have HA := hid hall
      clear hall h1 h2
      by_cases hlt : n < s.size
      · by_cases hd : tagCh s[n] = true
        · have HD := hid hd
          rcases tagCh_yes hd with hc | ⟨hc1, hc2⟩ | ⟨hc1, hc2⟩
          · clear hd
            have hc1 : (s[n].toNat : Int) < 48 := by omega
            have hc2 : ((s[n].toNat : Int) != 45) = false := by simp [hc]
            clear hc
            go_wp2
            go_round
            case rel => exact ⟨n + 1, by omega, by go_num, bts_all_take s n hlt HA.out HD.out⟩
            case measure => simp [intOf]; omega
          all_goals
            clear hd
            go_wp2
            go_round
            case rel => exact ⟨n + 1, by omega, by go_num, bts_all_take s n hlt HA.out HD.out⟩
            case measure => simp [intOf]; omega
        · have hdf : tagCh s[n] = false := by simpa using hd
          have hc := tagCh_no hdf
          have hc45 : ((s[n].toNat : Int) != 45) = true := by rw [bne_iff_ne]; omega
          have HD := hid hdf
          clear hd hdf
          rcases hc with c1 | ⟨c1, c2⟩ | ⟨c1, c2⟩ | c1
          all_goals
            go_wp2
            go_ret
            exact ⟨by rw [← HR.out, tag_char hlt HD.out]; rfl, rfl⟩
      · obtain rfl : n = s.size := by omega
        go_wp2
        go_ret
        exact ⟨by rw [← HR.out, tag_good hlo hhi HA.out]; rfl, rfl⟩
end Go.Proofs.YtlmkglgjdmjnkaaGreatDoor
namespace Go.Proofs.YtlmkglgjdmjnkaaGreatDoor
open Go.RowKit Go.Lib
set_option linter.unusedVariables false
set_option linter.unusedSimpArgs false
theorem numL_fold : ∀ (l : List UInt8) (a : Int), l.foldl (fun n c => 10 * n + ((c.toNat : Int) - 48)) a = a * 10 ^ l.length + numL l
  | [], a => by simp [numL]
  | c :: l, a => by
    have h1 := numL_fold l (10 * a + ((c.toNat : Int) - 48))
    have h2 := numL_fold l (10 * 0 + ((c.toNat : Int) - 48))
    have h3 : numL (c :: l) = (10 * 0 + ((c.toNat : Int) - 48)) * 10 ^ l.length + numL l := by
      show List.foldl _ 0 (c :: l) = _
      rw [List.foldl_cons]; exact h2
    rw [List.foldl_cons, h1, h3, List.length_cons, Int.pow_succ]
    rw [Int.add_mul, Int.add_mul]
    have : 10 * a * 10 ^ l.length = a * (10 ^ l.length * 10) := by rw [Int.mul_comm 10 a, Int.mul_assoc, Int.mul_comm 10]
    omega
theorem ten_pow_le (a : Nat) : ∀ d : Nat, (10 : Int) ^ a ≤ 10 ^ (a + d)
  | 0 => Int.le_refl _
  | d + 1 => by
    have h := ten_pow_le a d
    have h0 : (0 : Int) ≤ 10 ^ (a + d) := Int.le_of_lt (Int.pow_pos (by omega))
    rw [← Nat.add_assoc, Int.pow_succ]
    omega
theorem ten_pow_mono {a b : Nat} (h : a ≤ b) : (10 : Int) ^ a ≤ 10 ^ b := by
  have := ten_pow_le a (b - a)
  rwa [show a + (b - a) = b from by omega] at this
theorem numL_cons (c : UInt8) (l : List UInt8) : numL (c :: l) = ((c.toNat : Int) - 48) * 10 ^ l.length + numL l := by
  have := numL_fold l (10 * 0 + ((c.toNat : Int) - 48))
  rw [numL, List.foldl_cons, this]; simp
theorem numL_big {s : ByteArray} (h4 : 4 < s.size) (hz : ¬ s[0].toNat = 48) (ha : (bts s).all isDig = true) : 9999 < numL (bts s) := by
  have hl := bts_len s
  have hg := bts_get s 0 (by omega)
  cases hb : bts s with
  | nil => rw [hb] at hl; simp at hl; omega
  | cons c r =>
    have hc0 : c = s[0] := by rw [← hg]; simp [hb]
    rw [hb, List.all_cons, Bool.and_eq_true] at ha
    have hr := numL_bounds r.length r rfl ha.2
    have hd := ha.1
    simp only [isDig, decide_eq_true_eq] at hd
    rw [hb, List.length_cons] at hl
    rw [numL_cons]
    have h1 : (1 : Int) ≤ (c.toNat : Int) - 48 := by rw [hc0] at hd ⊢; omega
    have h2 : (10 : Int) ^ 4 ≤ 10 ^ r.length := ten_pow_mono (by omega)
    have h3 : 1 * (10 : Int) ^ r.length ≤ ((c.toNat : Int) - 48) * 10 ^ r.length := Int.mul_le_mul_of_nonneg_right h1 (by omega)
    omega
theorem bad_rlong {s : ByteArray} (h : s.size < 1 ∨ 9 < s.size) : badNum (bts s) = true := by
  rcases h with h | h
  · have : (bts s).isEmpty = true := bts_empty.2 (by omega)
    rw [badNum, this]; rfl
  · exact bad_long (by omega)
theorem numL_take_small (s : ByteArray) (k : Nat) (hk : k ≤ s.size) (h9 : s.size ≤ 9) (ha : ((bts s).take k).all isDig = true) : 0 ≤ numL ((bts s).take k) ∧ numL ((bts s).take k) < 1000000000 := by
  have hl := bts_len s
  have h := numL_bounds k _ (by rw [List.length_take]; omega) ha
  have h2 : (10 : Int) ^ k ≤ 10 ^ 9 := ten_pow_mono (by omega)
  omega
theorem rnum_end {w : World} {s : ByteArray} {z : Int} (h0 : 0 < s.size) (hz : s.size ≤ 1 ∨ ¬ s[0].toNat = 48) (hzk : z = numL ((bts s).take s.size)) (ha : ((bts s).take s.size).all isDig = true) :
    (9999 < z → Num2 w (numberL (bts s)) (.returned (.tuple #[.int .i64 0, .bool false])) w) ∧ (¬ 9999 < z → Num2 w (numberL (bts s)) (.returned (.tuple #[.int .i64 z, .bool true])) w) := by
  rw [bts_take_all] at hzk ha
  by_cases h4 : s.size ≤ 4
  · have hb := numL_take_bounds s s.size (Nat.le_refl _) h4 (by rw [bts_take_all]; exact ha)
    rw [bts_take_all] at hb
    refine ⟨fun h => by omega, fun _ => ?_⟩
    refine ⟨?_, Below.refl _ _⟩
    rw [numberL_good (not_bad h0 h4 hz ha), hzk]
  · refine ⟨fun _ => num2_bad (bad_long (by omega)) (Below.refl _ _), fun h => ?_⟩
    have := numL_big (s := s) (by omega) (by omega) ha
    omega
set_option maxRecDepth 100000 in
set_option maxHeartbeats 1000000 in
theorem rnumber_any (s : ByteArray) (w : World) : Calls Tryz.prog 134 #[.string s] w (Num2 w (numberL (bts s))) := by
  by_cases h0 : s.size < 1 ∨ 9 < s.size
  · have HB := hid (bad_rlong h0)
    rcases h0 with h0 | h0
    · go_enter Tryz.func134, Tryz.ntmps134
      go_wp2_with fail
      go_ret2
      exact num2_bad HB.out (Below.refl _ _)
    · have h1 : decide ((s.size : Int) < 1) = false := by simp; omega
      have h2 : decide ((9 : Int) < (s.size : Int)) = true := by simp; omega
      go_enter Tryz.func134, Tryz.ntmps134
      go_wp2_with fail
      go_ret2
      exact num2_bad HB.out (Below.refl _ _)
  · have hlo : 0 < s.size := by omega
    have hhi : s.size ≤ 9 := by omega
    clear h0
    have h1 : decide ((s.size : Int) < 1) = false := by simp; omega
    have h2 : decide ((9 : Int) < (s.size : Int)) = false := by simp; omega
    by_cases hz : 1 < s.size ∧ s[0].toNat = 48
    · have h3 : decide ((1 : Int) < (s.size : Int)) = true := by simp; omega
      have hs0 : ((s[0].toNat : Int) == 48) = true := by simp; omega
      have HB := hid (bad_zero hz.1 hz.2)
      clear hz
      go_enter Tryz.func134, Tryz.ntmps134
      go_wp2_with fail
      go_ret2
      exact num2_bad HB.out (Below.refl _ _)
    · have HZ := hid (show s.size ≤ 1 ∨ ¬ s[0].toNat = 48 from by omega)
      have hcase : decide ((1 : Int) < (s.size : Int)) = false ∨ (decide ((1 : Int) < (s.size : Int)) = true ∧ ((s[0].toNat : Int) == 48) = false) := by
        by_cases h : 1 < s.size
        · exact .inr ⟨by simp; omega, by rw [beq_eq_false_iff_ne]; omega⟩
        · exact .inl (by simp; omega)
      clear hz
      rcases hcase with h3 | ⟨h3, hs0⟩
      all_goals
        go_enter Tryz.func134, Tryz.ntmps134
        go_wp2_with fail
        clear h1 h2 h3
        go_loop [4, 5] (fun n i => ∃ (k : Nat) (z : Int), i = .int .i64 k ∧ n = .int .i64 z ∧ k ≤ s.size ∧ z = numL ((bts s).take k) ∧ ((bts s).take k).all isDig = true) (fun _ i => s.size - (intOf i).toNat)
        case atStart => exact ⟨0, 0, rfl, rfl, Nat.zero_le _, rfl, rfl⟩
        case round =>
          obtain ⟨k, z, rfl, rfl, hk, hzk, ha⟩ := hrel
          have hb := numL_take_small s k hk hhi ha
          rw [← hzk] at hb
          obtain ⟨hb1, hb2⟩ := hb
          have HK := hid hzk
          have HA := hid ha
          clear hzk ha
          by_cases hlt : k < s.size
          · by_cases hd : isDig s[k] = true
            · have hdd : 48 ≤ s[k].toNat ∧ s[k].toNat ≤ 57 := by simpa [isDig] using hd
              obtain ⟨d1, d2⟩ := hdd
              have HD := hid hd
              go_wp2_with (go_at_call 158; refine (digit_any _ _).mono ?_; rintro e w' ⟨rfl, rfl⟩)
              go_round
              case rel => exact ⟨k + 1, _, by go_num, rfl, by omega, by have := HK.out; rw [bts_take s k hlt, numL_snoc, ← this, Int.mul_comm], bts_all_take s k hlt HA.out HD.out⟩
              case measure => simp [intOf]; omega
            · have hdf : isDig s[k] = false := by simpa using hd
              have HB := hid (bad_char hlt hdf)
              clear hd
              go_wp2_with (go_at_call 158; refine (digit_any _ _).mono ?_; rintro e w' ⟨rfl, rfl⟩)
              go_ret2
              exact num2_bad HB.out (Below.refl _ _)
          · obtain rfl : k = s.size := by omega
            have HE := hid (rnum_end (w := w) hlo HZ.out HK.out HA.out)
            go_wp2_with fail
            · go_ret2
              exact HE.out.1 (by assumption)
            · go_ret2
              exact HE.out.2 (by omega)
end Go.Proofs.YtlmkglgjdmjnkaaGreatDoor
namespace Go.Proofs.YtlmkglgjdmjnkaaGreatDoor
open Go.RowKit Go.Lib
set_option linter.unusedVariables false
set_option linter.unusedSimpArgs false
theorem splitL_part (b : UInt8) : ∀ (l cur : List UInt8), ∀ t, t ∈ splitL b cur l → t.length ≤ cur.length + l.length
  | [], cur, t, h => by simp [splitL] at h; subst h; simp
  | c :: r, cur, t, h => by
    unfold splitL at h
    split at h
    · rcases List.mem_cons.1 h with rfl | h
      · simp
      · have := splitL_part b r [] t h; simp at this; simp only [List.length_cons]; omega
    · have := splitL_part b r (cur ++ [c]) t h; simp at this; simp only [List.length_cons]; omega
theorem splitP_part {l t : List UInt8} (h : t ∈ splitP l) : t.length ≤ l.length := by have := splitL_part 46 l [] t h; simpa using this
theorem part_str (s : ByteArray) (k : Nat) (hk : k < (splitP (bts s)).length) : ∃ x : ByteArray, strV ((splitP (bts s)).getD k []) = .string x ∧ bts x = (splitP (bts s))[k] ∧ x.size ≤ s.size := by
  have e : (splitP (bts s)).getD k [] = (splitP (bts s))[k] := by simp [hk]
  refine ⟨⟨((splitP (bts s))[k]).toArray⟩, by rw [e]; rfl, by simp [bts], ?_⟩
  have := splitP_part (List.getElem_mem hk)
  rw [bts_len] at this
  show ((splitP (bts s))[k]).toArray.size ≤ s.size
  rw [List.size_toArray]; exact this
theorem all_take_false {α : Type} {p : α → Bool} {l : List α} {k : Nat} (hk : k < l.length) (h : p l[k] = false) : l.all p = false := by
  rw [List.all_eq_false]; exact ⟨l[k], List.getElem_mem hk, by simp [h]⟩
theorem all_take_succ {α : Type} {p : α → Bool} {l : List α} {k : Nat} (hk : k < l.length) (ha : (l.take k).all p = true) (h : p l[k] = true) : (l.take (k + 1)).all p = true := by
  rw [List.take_succ_eq_append_getElem hk, List.all_append, ha]; simp [h]
theorem all_take_full {α : Type} {p : α → Bool} {l : List α} (ha : (l.take l.length).all p = true) : l.all p = true := by rwa [List.take_length] at ha
theorem rsplit46 (s : ByteArray) (w : World) (hs : s.size ≤ 4398046511104) : Calls Tryz.prog 132 #[.string s, .int .u8 46] w (Parts w (splitP (bts s))) := rsplit_any s 46 w hs
theorem split46 (s : ByteArray) (w : World) (hs : s.size ≤ 4398046511104) : Calls Tryz.prog 174 #[.string s, .int .u8 46] w (Parts w (splitP (bts s))) := split_any s 46 w hs
def rtagOk (p : Bool) (t : List UInt8) : Bool := tagOk t && (!p || preTag t)
def tagsRef (p : Bool) (l : List UInt8) : Bool := l.isEmpty || (decide ((splitP l).length ≤ 4) && (splitP l).all (rtagOk p))
def BoolPost (w : World) (b : Bool) (e : Ending) (w' : World) : Prop := e = .returned (.bool b) ∧ Below w.heap.size w w'
def Held (w : World) (g : Nat) (ls : List (List UInt8)) : Prop := g < w.heap.size ∧ ∀ j, j < ls.length → w.cell? ⟨g, j, none⟩ = some (strV (ls.getD j []))
theorem Held.below {w w' : World} {g : Nat} {ls : List (List UInt8)} (h : Held w g ls) (hb : Below w.heap.size w w') : Held w' g ls :=
  ⟨Nat.lt_of_lt_of_le h.1 hb.size, fun j hj => (hb.cell (p := ⟨g, j, none⟩) h.1).trans (h.2 j hj)⟩
theorem Held.iter {w : World} {g : Nat} {ls : List (List UInt8)} (h : Held w g ls) (s : ByteArray) (k : Nat) : Held (w.iter s k) g ls := h.below (below_iter _ _ _)
theorem below_tr {w0 w1 w2 : World} (h : Below w0.heap.size w0 w1) (k : Below w1.heap.size w1 w2) : Below w0.heap.size w0 w2 := h.trans (k.mono h.size)
set_option maxRecDepth 100000 in
set_option maxHeartbeats 1000000 in
theorem rtags_go (s : ByteArray) (p : Bool) (w : World) (hs : s.size ≤ 4398046511104) (h0 : 0 < s.size) (h4 : (splitP (bts s)).length ≤ 4) :
    Calls Tryz.prog 90 #[.string s, .bool p] w (BoolPost w ((splitP (bts s)).all (rtagOk p))) := by
  obtain ⟨he, hne⟩ := ne_of_size h0
  generalize hr : (splitP (bts s)).all (rtagOk p) = r
  have HR := hid hr
  clear hr
  go_enter Tryz.func90, Tryz.ntmps90
  go_wp2_with fail
  refine (rsplit46 s _ hs).mono ?_
  rintro e w1 ⟨g, cap, rfl, hg, hgs, hcap, hcell, hb⟩
  have HH := hid (show Held w1 g (splitP (bts s)) from ⟨hgs, hcell⟩)
  clear hcell
  have hd4 : decide ((4 : Int) < ((splitP (bts s)).length : Int)) = false := by simp; omega
  generalize hn : (splitP (bts s)).length = n at *
  have HN := hid hn
  clear hn
  go_wp2_with fail
  go_loopw [6] (fun i wr => ∃ k : Nat, i = .int .i64 k ∧ k ≤ n ∧ Hid (((splitP (bts s)).take k).all (rtagOk p) = true) ∧ Hid (Held wr g (splitP (bts s))) ∧ Below w.heap.size w wr) (fun i _ => n - (intOf i).toNat)
  case atStart => exact ⟨0, rfl, Nat.zero_le _, rfl, HH, hb⟩
  case round =>
    obtain ⟨k, rfl, hk, HA, HW, hbr⟩ := hrel
    by_cases hlt : k < n
    · have hlt' : k < (splitP (bts s)).length := by rw [HN.out]; exact hlt
      obtain ⟨x, hx1, hx2, hx3⟩ := part_str s k hlt'
      have hck := HW.out.2 k hlt'
      rw [hx1] at hck
      have HX := hid hx2
      clear hx1 hx2
      have hsz := hbr.size
      have hgw := HW.out.1
      cases ht : tagOk (bts x)
      · have HF := hid (show (splitP (bts s)).all (rtagOk p) = false from all_take_false hlt' (by rw [← HX.out, rtagOk, ht]; rfl))
        go_wp2_with (go_at_call 133; refine (rtag_any _ _ (by omega)).mono ?_; rintro e w' ⟨rfl, rfl⟩)
        go_ret
        exact ⟨by rw [← HR.out, HF.out]; rfl, hbr⟩
      · cases p
        · have HF := hid (show rtagOk false (splitP (bts s))[k] = true by rw [← HX.out, rtagOk, ht]; rfl)
          go_wp2_with (first | (go_at_call 133; refine (rtag_any _ _ (by omega)).mono ?_; rintro e w' ⟨rfl, rfl⟩) | (go_at_call 134; refine (rnumber_any _ _).mono ?_; rintro e w2 ⟨rfl, hb2⟩))
          go_roundw
          case rel => exact ⟨k + 1, by go_num, by omega, all_take_succ hlt' HA.out HF.out, HW.out.below hb2, below_tr hbr hb2⟩
          case measure => simp [intOf]; omega
        · cases hn1 : numericL (bts x)
          · have HF := hid (show rtagOk true (splitP (bts s))[k] = true by rw [← HX.out, rtagOk, ht, preTag, hn1]; rfl)
            go_wp2_with (first | (go_at_call 133; refine (rtag_any _ _ (by omega)).mono ?_; rintro e w' ⟨rfl, rfl⟩) | (go_at_call 134; refine (rnumber_any _ _).mono ?_; rintro e w2 ⟨rfl, hb2⟩; have hck2 := (hb2.cell (p := ⟨g, k, none⟩) hgw).trans hck) | (go_at_call 135; refine (rnumeric_any _ _ (by omega)).mono ?_; rintro e w' ⟨rfl, rfl⟩))
            go_roundw
            case rel => exact ⟨k + 1, by go_num, by omega, all_take_succ hlt' HA.out HF.out, HW.out.below hb2, below_tr hbr hb2⟩
            case measure => simp [intOf]; omega
          · cases hn2 : (numberL (bts x)).2
            · have HF := hid (show (splitP (bts s)).all (rtagOk true) = false from all_take_false hlt' (by rw [← HX.out, rtagOk, ht, preTag, hn1, hn2]; rfl))
              go_wp2_with (first | (go_at_call 133; refine (rtag_any _ _ (by omega)).mono ?_; rintro e w' ⟨rfl, rfl⟩) | (go_at_call 134; refine (rnumber_any _ _).mono ?_; rintro e w2 ⟨rfl, hb2⟩; have hck2 := (hb2.cell (p := ⟨g, k, none⟩) hgw).trans hck) | (go_at_call 135; refine (rnumeric_any _ _ (by omega)).mono ?_; rintro e w' ⟨rfl, rfl⟩))
              go_ret
              exact ⟨by rw [← HR.out, HF.out]; rfl, below_tr hbr hb2⟩
            · have HF := hid (show rtagOk true (splitP (bts s))[k] = true by rw [← HX.out, rtagOk, ht, preTag, hn1, hn2]; rfl)
              go_wp2_with (first | (go_at_call 133; refine (rtag_any _ _ (by omega)).mono ?_; rintro e w' ⟨rfl, rfl⟩) | (go_at_call 134; refine (rnumber_any _ _).mono ?_; rintro e w2 ⟨rfl, hb2⟩; have hck2 := (hb2.cell (p := ⟨g, k, none⟩) hgw).trans hck) | (go_at_call 135; refine (rnumeric_any _ _ (by omega)).mono ?_; rintro e w' ⟨rfl, rfl⟩))
              go_roundw
              case rel => exact ⟨k + 1, by go_num, by omega, all_take_succ hlt' HA.out HF.out, HW.out.below hb2, below_tr hbr hb2⟩
              case measure => simp [intOf]; omega
    · obtain rfl : k = n := by omega
      go_wp2_with fail
      go_ret
      exact ⟨by rw [← HR.out]; have := HA.out; rw [← HN.out] at this; rw [all_take_full this]; rfl, hbr⟩
theorem isEmpty_of {s : ByteArray} (h : ¬ 0 < s.size) : s.toList = [] := by
  apply List.eq_nil_of_length_eq_zero
  have := bts_len s
  simp only [bts] at this
  omega
set_option maxRecDepth 100000 in
set_option maxHeartbeats 400000 in
theorem rtags_any (s : ByteArray) (p : Bool) (w : World) (hs : s.size ≤ 4398046511104) : Calls Tryz.prog 90 #[.string s, .bool p] w (BoolPost w (tagsRef p (bts s))) := by
  by_cases h0 : 0 < s.size
  · by_cases h4 : (splitP (bts s)).length ≤ 4
    · have e : tagsRef p (bts s) = (splitP (bts s)).all (rtagOk p) := by
        rw [tagsRef, (ne_of_size h0).1]; simp [h4]
      rw [e]
      exact rtags_go s p w hs h0 h4
    · obtain ⟨he, hne⟩ := ne_of_size h0
      have e : tagsRef p (bts s) = false := by rw [tagsRef, he]; simp [h4]
      rw [e]
      clear e
      have hd4 : decide ((4 : Int) < ((splitP (bts s)).length : Int)) = true := by simp; omega
      clear h4
      go_enter Tryz.func90, Tryz.ntmps90
      go_wp2_with fail
      refine (rsplit46 s _ hs).mono ?_
      rintro e w1 ⟨g, cap, rfl, hg, hgs, hcap, hcell, hb⟩
      clear hcell
      go_wp2_with fail
      go_ret
      exact ⟨rfl, hb⟩
  · have he := isEmpty_of h0
    have e : tagsRef p (bts s) = true := by rw [tagsRef, bts, he]; rfl
    rw [e]
    clear e
    go_enter Tryz.func90, Tryz.ntmps90
    go_wp2_with fail
    go_ret
    exact ⟨rfl, Below.refl _ _⟩
end Go.Proofs.YtlmkglgjdmjnkaaGreatDoor
namespace Go.Proofs.YtlmkglgjdmjnkaaGreatDoor
open Go.RowKit Go.Lib
set_option linter.unusedVariables false
set_option linter.unusedSimpArgs false
theorem decode_notag (s : ByteArray) (k : Nat) (h : k < s.size) (hd : tagCh s[k] = false) : (Utf8.decode s k).1 < 45 ∨ (45 < (Utf8.decode s k).1 ∧ (Utf8.decode s k).1 < 48) ∨ (57 < (Utf8.decode s k).1 ∧ (Utf8.decode s k).1 < 97) ∨ 122 < (Utf8.decode s k).1 := by
  have hc := tagCh_no hd
  by_cases ha : s[k].toNat < 128
  · rw [decode_ascii s k h ha]; simp only; omega
  · have := (decode_high s k h (by omega)).1; omega
set_option maxRecDepth 100000 in
set_option maxHeartbeats 2000000 in
theorem tags_any (s : ByteArray) (w : World) (hs : s.size ≤ 4398046511104) : Calls Tryz.prog 171 #[.string s] w (BoolPost w (tagsL (bts s))) := by
  generalize hr : tagsL (bts s) = r
  have HR := hid hr
  clear hr
  go_enter Tryz.func171, Tryz.ntmps171
  go_wp2_with fail
  go_step3
  go_wp2_with fail
  refine (split46 s _ hs).mono ?_
  rintro e w1 ⟨g, cap, rfl, hg, hgs, hcap, hcell, hb⟩
  have HH := hid (show Held w1 g (splitP (bts s)) from ⟨hgs, hcell⟩)
  clear hcell
  have hd4 : decide (((splitP (bts s)).length : Int) ≤ 4) = decide ((splitP (bts s)).length ≤ 4) := decide_eq_decide.2 (by omega)
  have hnb : (splitP (bts s)).length ≤ 4398046511105 := by have := (splitL_len 46 (bts s) []).2; rw [bts_len] at this; exact Nat.le_trans this (by omega)
  generalize hn : (splitP (bts s)).length = n at *
  have HN := hid hn
  clear hn
  generalize hf : decide (n ≤ 4) = f at *
  have HF := hid hf
  clear hf
  go_wp2_with fail
  go_step3
  go_wp2_with fail
  go_loopg [4, 6, 8, 16] n (fun gk good t c i wr => ∃ k : Nat, i = .int .i64 k ∧ good = .bool f ∧ k + gk = n ∧ Hid (((splitP (bts s)).take k).all tagOk = true) ∧ Hid (Held wr g (splitP (bts s))) ∧ Below w.heap.size w wr)
  case atStart => exact ⟨0, rfl, rfl, by omega, rfl, HH, hb⟩
  case round =>
    obtain ⟨k, rfl, rfl, hk, HA, HW, hbr⟩ := hrel
    obtain ⟨g0, rfl⟩ : ∃ z : Nat, z = gk := ⟨_, rfl⟩
    have hsz := hbr.size
    by_cases hlt : k < n
    · have hlt' : k < (splitP (bts s)).length := by rw [HN.out]; exact hlt
      obtain ⟨x, hx1, hx2, hx3⟩ := part_str s k hlt'
      have hck := HW.out.2 k hlt'
      rw [hx1] at hck
      have HX := hid hx2
      clear hx1 hx2
      have hgw := HW.out.1
      by_cases h0 : 0 < x.size
      · obtain ⟨he, hne⟩ := ne_of_size h0
        by_cases h8 : x.size ≤ 8
        · have hd8 : decide ((8 : Int) < (x.size : Int)) = false := by simp; omega
          go_wp2_with fail
          clear hck
          obtain ⟨wo, rfl⟩ : ∃ wo : World, wo = wr := ⟨_, rfl⟩
          go_loopg [4, 8] x.size (fun gm good c wi => ∃ m : Nat, good = .bool f ∧ m + gm = x.size ∧ Hid (((bts x).take m).all tagCh = true) ∧ wi = wo.iter x m)
          case atStart => exact ⟨0, rfl, by omega, rfl, rfl⟩
          case round =>
            obtain ⟨m, rfl, hm, HM, rfl⟩ := hrel
            by_cases hml : m < x.size
            · by_cases hd : tagCh x[m] = true
              · have HD := hid hd
                have hc := tagCh_yes hd
                have hnx := fun ty => run_next_ascii (P := Tryz.prog) wo x m ty hml (by omega)
                clear hd
                generalize hcc : x[m].toNat = c at *
                have HC := hid hcc
                clear hcc
                rcases hc with rfl | ⟨hc1, hc2⟩ | ⟨hc1, hc2⟩
                all_goals
                  go_wp2_with fail
                  go_roundg (gk - 1)
                  case measure => omega
                  case rel => exact ⟨m + 1, rfl, by omega, bts_all_take x m hml HM.out HD.out, rfl⟩
              · have hdf : tagCh x[m] = false := by simpa using hd
                have hnx := fun ty => run_next_any (P := Tryz.prog) wo x m ty hml
                have hdc := decode_notag x m hml hdf
                have HE := hid (show tagsL (bts s) = false by rw [tagsL, all_take_false hlt' (by rw [← HX.out]; exact tag_char hml hdf)]; simp)
                clear hd hdf
                generalize (Utf8.decode x m).1 = c at *
                generalize (Utf8.decode x m).2 = q at *
                have hc45 : ((c : Int) != 45) = true := by rw [bne_iff_ne]; omega
                rcases hdc with hdc | ⟨hdc, hdc2⟩ | ⟨hdc, hdc2⟩ | hdc
                all_goals
                  go_wp2_with fail
                  try rw [Exit.noGoto_ret]
                  go_ret
                  exact ⟨by rw [← HR.out, HE.out]; rfl, below_tr hbr (below_iter _ _ _)⟩
            · obtain rfl : m = x.size := by omega
              have hnx := fun ty => run_next_end (P := Tryz.prog) wo x x.size ty (by omega)
              have HT := hid (show tagOk (splitP (bts s))[k] = true by rw [← HX.out]; exact tag_good h0 h8 HM.out)
              go_wp2_with fail
              go_roundg (g0 - 1)
              case measure => omega
              case rel => exact ⟨k + 1, by go_num, rfl, by omega, all_take_succ hlt' HA.out HT.out, HW.out.iter _ _, below_tr hbr (below_iter _ _ _)⟩
        · have hd8 : decide ((8 : Int) < (x.size : Int)) = true := by simp; omega
          have HE := hid (show tagsL (bts s) = false by rw [tagsL, all_take_false hlt' (by rw [← HX.out]; exact tag_long (by omega))]; simp)
          go_wp2_with fail
          try rw [Exit.noGoto_ret]
          go_ret
          exact ⟨by rw [← HR.out, HE.out]; rfl, hbr⟩
      · have he := isEmpty_of h0
        have HE := hid (show tagsL (bts s) = false by rw [tagsL, all_take_false hlt' (by rw [← HX.out]; exact tag_long (by omega))]; simp)
        go_wp2_with fail
        try rw [Exit.noGoto_ret]
        go_ret
        exact ⟨by rw [← HR.out, HE.out]; rfl, hbr⟩
    · obtain rfl : k = n := by omega
      have HE := hid (show tagsL (bts s) = f by have := HA.out; rw [← HN.out] at this; rw [tagsL, all_take_full this, HN.out, ← HF.out]; simp)
      go_wp2_with fail
      try rw [Exit.noGoto_ret]
      go_ret
      exact ⟨by rw [← HR.out, HE.out]; rfl, hbr⟩
end Go.Proofs.YtlmkglgjdmjnkaaGreatDoor
