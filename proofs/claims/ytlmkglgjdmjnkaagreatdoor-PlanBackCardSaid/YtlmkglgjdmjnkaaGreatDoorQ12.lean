/- Parts 12 of the proofs. -/
import Derived.Test.YtlmkglgjdmjnkaaGreatDoorQ2
import Derived.Test.YtlmkglgjdmjnkaaGreatDoorQ11
import Derived.Deep.RegionLaw
import Derived.Deep.AppendLies
import Derived.Deep.Cut
import Derived.Deep.CutRange
import Derived.Deep.CutBlock
import Derived.Deep.DeepCutAuto
namespace Go.Proofs.YtlmkglgjdmjnkaaGreatDoor
open Go.RowKit Go.Lib
open Rw
set_option linter.unusedVariables false
set_option linter.unusedSimpArgs false
section
variable {P : Program} {w : World} {base size n bytes : Nat} {t e : TypeId} {v : Value} {xs : List Value}
theorem run_appy (E : EK P t e size bytes) (ty : TypeId) (hown : w.ownsRow base e size v n xs) {ad : Addr} {m c : Nat} {news : List Value} (hl : news.length = m * size) (hnews : ∀ j u, news[j]? = some u → w.cell? (ad.add j) = some u) (h1 : ∀ u ∈ news, u.oneCell' = true)
    (hm : 0 < m) (h63 : n + m ≤ maxLen) (hb : (n + m) * bytes ≤ 140737488355328) (hbase : base ≤ w.heap.size) :
    ∃ v' w', (Builtin.append_ #[t, t] ty #[v, .slice (some ad) m c]).run P w = .ok v' w' ∧ w'.ownsRow base e size v' (n + m) (xs ++ news) ∧ Below base w w' ∧ w.grownBy w' v.ownBlock ∧ (∀ k, v'.ownBlock = some k → v.ownBlock = some k ∨ k = w.heap.size) := by
  obtain ⟨i, z, hi, hz0, hz1, hz2, hz3⟩ := E.info
  obtain ⟨g, cap, w', hr, h2, h3, h4, _⟩ := run_append_lies (P := P) w t ty base e i z size bytes E.ht hi hz0 hz1 hz2 hz3 E.pos v n xs hown ad m c news hl hnews h1 hm h63 hb hbase _ rfl
  refine ⟨_, w', hr, h2, (Below.refl _ _).grown h3 (append_drawn E ty hown hl hnews h1 h63 hb hr) hbase (fun k hk => (hown.lt k hk).1), h3, fun k hk => ?_⟩
  have : k = g := by simpa [Value.ownBlock, eq_comm] using hk
  rw [this]; exact h4
theorem wpList_app1y (E : EK P t e size bytes) {ops : Array Oper} {rest : List Oper} {o : Oper} {a : Act} {Q : Exit → Act → World → Prop} (hgd : o.guard = none) (s x : Operand)
    (ho : o.op = .call { callee := .builtin .append, args := #[s, x], argTypes := #[t, t] }) (news : List Value)
    (hown : w.ownsRow base e size v n xs) (hs : a.eval s = v) (hx : a.eval x = .slice (some ⟨w.heap.size, 0, none⟩) 1 1) (hl : news.length = size) (h1 : ∀ u ∈ news, u.oneCell' = true)
    (hm : n + 1 ≤ maxLen) (hn : (n + 1) * bytes ≤ 140737488355328) (hbase : base ≤ w.heap.size)
    (h : ∀ v' w', w'.ownsRow base e size v' (n + 1) (xs ++ news) → Below base w w' → w.grownBy w' v.ownBlock → (∀ k, v'.ownBlock = some k → v.ownBlock = some k ∨ w.heap.size ≤ k) → wpList P ops Q rest (a.put o.dst v') w') :
    wpList P ops Q (o :: rest) a (w.alloc (.cells news.toArray e)) := by
  refine wpList_plain hgd fun _ hK => ?_
  obtain ⟨v', w', hrun, h2, h3, h4, h5⟩ := run_appy (P := P) (w := w.alloc (.cells news.toArray e)) E o.type (hown.alloc _) (ad := ⟨w.heap.size, 0, none⟩) (m := 1) (c := 1) (news := news) (by omega) (fun j u hj => by
    have hz : (⟨w.heap.size, 0, none⟩ : Addr).add j = ⟨w.heap.size, j, none⟩ := by
      unfold Addr.add
      split <;> simp_all
    rw [hz, World.cell?_alloc_at _ _ _ _ rfl]
    simpa using hj) h1 (by omega) hm hn (by simp; omega)
  unfold Oper.wp execOp
  simp only [ho, resolve, invoke, builtin, Sem.run_bind, Sem.run_pure, Result.andThen_ok, List.map_toArray, List.map_cons, List.map_nil, hs, hx, hrun]
  refine hK _ _ (h v' w' h2 (((Below.refl _ _).alloc hbase _).trans h3) (grown_tr (World.grownBy_alloc w _ _) h4) fun k hk => (h5 k hk).imp id fun h => ?_)
  rw [h]; simp
end
theorem cell_lt {w : World} {p : Addr} {v : Value} (h : w.cell? p = some v) : p.block < w.heap.size := World.block_lt_of_cell? w p h
theorem Box.put {w : World} {g j : Nat} {cs : List Value} (h : Box w g cs) (hj : j < cs.length) (v : Value) : Box (w.setCell ⟨g, j, none⟩ v) g (cs.take j ++ [v] ++ cs.drop (j + 1)) := h.set (o := j) (vs := [v]) (by simp only [List.length_singleton]; omega)
theorem Box.putOther {w : World} {g k j : Nat} {cs : List Value} (h : Box w g cs) (hk : g ≠ k) (v : Value) : Box (w.setCell ⟨k, j, none⟩ v) g cs := h.setOther (o := j) (vs := [v]) hk
theorem Soft.put {w : World} {g k j : Nat} (h : Soft w g) (v : Value) : Soft (w.setCell ⟨k, j, none⟩ v) g := h.set (o := j) (vs := [v])
structure Own (B : Nat) (w : World) (g : Nat) (cs : List Value) : Prop where
  box : Box w g cs
  soft : Soft w g
  low : B ≤ g
theorem Own.below {B : Nat} {w w' : World} {g : Nat} {cs : List Value} (h : Own B w g cs) (hb : Below w.heap.size w w') : Own B w' g cs := ⟨h.box.below hb, h.soft.below h.box.1 hb, h.low⟩
theorem Own.put {B : Nat} {w : World} {g j : Nat} {cs : List Value} (h : Own B w g cs) (hj : j < cs.length) (v : Value) : Own B (w.setCell ⟨g, j, none⟩ v) g (cs.take j ++ [v] ++ cs.drop (j + 1)) := ⟨h.box.put hj v, h.soft.put v, h.low⟩
theorem Own.other {B : Nat} {w : World} {g k j : Nat} {cs : List Value} (h : Own B w g cs) (hk : g ≠ k) (v : Value) : Own B (w.setCell ⟨k, j, none⟩ v) g cs := ⟨h.box.putOther hk v, h.soft.put v, h.low⟩
theorem Own.drewN {B : Nat} {w : World} {g : Nat} {cs : List Value} (h : Own B w g cs) (n : Nat) : Own B (w.drewN n) g cs := ⟨h.box, h.soft, h.low⟩
theorem Own.new (w : World) (cs : List Value) (t : TypeId) {B : Nat} (hB : B ≤ w.heap.size) : Own B (w.alloc (.cells cs.toArray t)) w.heap.size cs := ⟨Box.new w cs t, Soft.new w _ t, hB⟩
theorem Own.alloc {B : Nat} {w : World} {g : Nat} {cs : List Value} (h : Own B w g cs) (o : Obj) : Own B (w.alloc o) g cs := h.below (below_new w o)
theorem Own.new2 (w : World) (o : Obj) (cs : List Value) (t : TypeId) {B : Nat} (hB : B ≤ w.heap.size) : Own B ((w.alloc o).alloc (.cells cs.toArray t)) (w.heap.size + 1) cs := by
  have := Own.new (w.alloc o) cs t (B := B) (by rw [World.size_alloc]; omega)
  rwa [World.size_alloc] at this
theorem body_name {P : Program} {f : Func} {R : Ending → World → Prop} {e : Exit} {a : Act} {w : World} (h : ∀ w1, w1 = w → bodyPost P f R e a w1) : bodyPost P f R e a w := h w rfl
theorem own_other {w : World} {base size n g o : Nat} {e : TypeId} {v : Value} {xs vs : List Value} (h : w.ownsRow base e size v n xs) (hg : v.ownBlock ≠ some g) : (w.setCells g o vs).ownsRow base e size v n xs := by
  obtain ⟨h1, h2⟩ := h
  refine ⟨h1, ?_⟩
  rcases h2 with h2 | ⟨k, cap, cur, hv, hk, hh, r⟩
  · exact .inl h2
  · refine .inr ⟨k, cap, cur, hv, hk, ?_, r⟩
    have hne : k ≠ g := fun e => hg (by rw [hv, ← e]; rfl)
    rw [setCells_block g k hne]; exact hh
abbrev KB (B : Nat) (w w' : World) : Prop := Go.RowKit.Below B w w'
def und (w : World) : World := { w with drawn := 0 }
theorem kb_lift {B : Nat} {w w' : World} (h : KB B w w') : Below B (und w) w' := ⟨⟨h.os, h.tape, h.output, h.size, h.block⟩, Nat.zero_le _⟩
theorem Below.kb {B : Nat} {w w' : World} (h : Below B w w') : KB B w w' := h.toBelow
theorem kb_tr {w0 w1 w2 : World} (h : KB w0.heap.size w0 w1) (k : KB w1.heap.size w1 w2) : KB w0.heap.size w0 w2 := Go.RowKit.Below.trans h (Go.RowKit.Below.mono k h.size)
theorem kb_refl (w : World) : KB w.heap.size w w := Go.RowKit.Below.refl _ _
theorem kb_new (w : World) (o : Obj) : KB w.heap.size w (w.alloc o) := (below_new w o).kb
theorem Box.kb {w w' : World} {g : Nat} {cs : List Value} (h : Box w g cs) (hb : KB w.heap.size w w') : Box w' g cs := Box.below (w := und w) h (kb_lift hb)
theorem Own.kb {B : Nat} {w w' : World} {g : Nat} {cs : List Value} (h : Own B w g cs) (hb : KB w.heap.size w w') : Own B w' g cs := Own.below (w := und w) ⟨h.box, h.soft, h.low⟩ (kb_lift hb)
theorem Spans.kb {w w' : World} {A : Option Addr} {l : List SpanL} (h : Spans w A l) (hb : KB w.heap.size w w') : Spans w' A l := Spans.below (w := und w) h (kb_lift hb)
theorem SpanB.kb {w w' : World} {base : Nat} {A : Option Addr} {l : List SpanL} (h : SpanB w base A l) (hb : KB w.heap.size w w') : SpanB w' base A l := ⟨h.1.kb hb, h.2⟩
theorem First.kb {w w' : World} (h : First w) (hb : KB w.heap.size w w') : First w' := First.below (w := und w) h (kb_lift hb)
theorem SetAt.kb {n : Nat} {w w' : World} {A B : Option Addr} {l m : List SpanL} (h : SetAt n w A l B m) (hb : KB w.heap.size w w') : SetAt n w' A l B m := ⟨h.rel.kb hb, h.pre.kb hb, h.frel, h.fpre, h.nrel, h.npre, h.val⟩
theorem IntsAt.kb {w w' : World} {A : Option Addr} {zs : List Int} (h : IntsAt w A zs) (hb : KB w.heap.size w w') : IntsAt w' A zs := IntsAt.below (w := und w) h (kb_lift hb)
theorem row_kb {w w' : World} {base size n : Nat} {e : TypeId} {v : Value} {xs : List Value} (h : w.ownsRow base e size v n xs) (hb : KB w.heap.size w w') : w'.ownsRow base e size v n xs := own_below (w1 := und w) h (kb_lift hb)
def BoolK (w : World) (b : Bool) (e : Ending) (w' : World) : Prop := e = .returned (.bool b) ∧ KB w.heap.size w w'
def Lies {α : Type} (n : Nat) (f : α → List Value) (w : World) (A : Option Addr) (l : List α) : Prop :=
  l = [] ∨ ∃ b off, A = some ⟨b, off, none⟩ ∧ b < w.heap.size ∧ ∀ i (h : i < l.length) (j : Nat) (u : Value), (f l[i])[j]? = some u → w.cell? ⟨b, off + i * n + j, none⟩ = some u
section
variable {α : Type} {n : Nat} {f : α → List Value} {w w' : World} {A : Option Addr} {l : List α}
theorem Lies.nil : Lies n f w A [] := .inl rfl
theorem Lies.below (h : Lies n f w A l) (hb : Below w.heap.size w w') : Lies n f w' A l := by
  rcases h with h | ⟨b, off, rfl, hlt, hc⟩
  · exact .inl h
  · exact .inr ⟨b, off, rfl, Nat.lt_of_lt_of_le hlt hb.size, fun i hi j u hj => (hb.cell (p := ⟨b, _, none⟩) hlt).trans (hc i hi j u hj)⟩
theorem Lies.kb (h : Lies n f w A l) (hb : KB w.heap.size w w') : Lies n f w' A l := Lies.below (w := und w) h (kb_lift hb)
theorem Lies.at_ {k : Nat} (h : Lies n f w A l) (hk : k < l.length) : ∃ b off, A = some ⟨b, off, none⟩ ∧ b < w.heap.size ∧ ∀ (j : Nat) (u : Value), (f l[k])[j]? = some u → w.cell? ⟨b, off + k * n + j, none⟩ = some u := by
  rcases h with h | ⟨b, off, rfl, hlt, hc⟩
  · subst h; simp at hk
  · exact ⟨b, off, rfl, hlt, hc k hk⟩
theorem Lies.lay {b off k : Nat} (h : Lies n f w (some ⟨b, off, none⟩) l) (hk : k < l.length) : b < w.heap.size ∧ ∀ (j : Nat) (u : Value), (f l[k])[j]? = some u → w.cell? ⟨b, off + k * n + j, none⟩ = some u := by
  obtain ⟨b', off', e, h1, h2⟩ := h.at_ hk
  injection e with e
  injection e with e1 e2 e3
  subst e1; subst e2
  exact ⟨h1, h2⟩
end
section
variable {α : Type} {n : Nat} {f : α → List Value}
theorem flat_get (hf : ∀ a, (f a).length = n) : ∀ (l : List α) (i j : Nat) (hi : i < l.length), j < n → (l.flatMap f)[i * n + j]? = (f l[i])[j]?
  | [], i, j, h, _ => by simp at h
  | a :: l, 0, j, _, hj => by
    rw [List.flatMap_cons, List.getElem?_append_left (by rw [hf]; omega)]
    simp
  | a :: l, i + 1, j, h, hj => by
    have ih := flat_get hf l i j (by simpa using h) hj
    rw [List.flatMap_cons, List.getElem?_append_right (by rw [hf, Nat.succ_mul]; omega), hf]
    have e : (i + 1) * n + j - n = i * n + j := by rw [Nat.succ_mul]; omega
    rw [e]
    exact ih
def OwnL (e : TypeId) (n : Nat) (f : α → List Value) (w : World) (base : Nat) (v : Value) (l : List α) : Prop := w.ownsRow base e n v l.length (l.flatMap f)
variable {e : TypeId} {w w' : World} {base : Nat} {v : Value} {l : List α}
theorem OwnL.nil : OwnL e n f w base (.slice none 0 0) ([] : List α) := World.ownsRow_nil _ _ _ _
theorem OwnL.kb (h : OwnL e n f w base v l) (hb : KB w.heap.size w w') : OwnL e n f w' base v l := row_kb h hb
theorem OwnL.lies (hf : ∀ a, (f a).length = n) (h : OwnL e n f w base v l) : ∃ A cap, v = .slice A l.length cap ∧ Lies n f w A l ∧ (∀ ad, A = some ad → base ≤ ad.block ∧ v.ownBlock = some ad.block) ∧ (l.length ≤ cap) := by
  rcases h.2 with ⟨hv, h0⟩ | ⟨g, cap, cur, hv, hg, hh, hle, r⟩
  · have : l = [] := List.eq_nil_of_length_eq_zero h0
    subst this
    exact ⟨none, 0, hv, .inl rfl, (fun ad h => by cases h), Nat.le_refl _⟩
  · have hlt : g < w.heap.size := by
      rcases Nat.lt_or_ge g w.heap.size with h | h
      · exact h
      · rw [Array.getElem?_eq_none h] at hh; cases hh
    subst hv
    refine ⟨some ⟨g, 0, none⟩, cap, rfl, .inr ⟨g, 0, rfl, hlt, fun i hi j u hj => ?_⟩, (fun ad had => by injection had with had; subst had; exact ⟨hg, rfl⟩), hle⟩
    have hjn : j < n := by
      rcases Nat.lt_or_ge j n with h' | h'
      · exact h'
      · rw [List.getElem?_eq_none (by rw [hf]; exact h')] at hj; cases hj
    have hb1 : i * n + j < l.length * n := by
      have : (i + 1) * n ≤ l.length * n := Nat.mul_le_mul_right _ hi
      rw [Nat.succ_mul] at this
      omega
    have := World.ownsRow.cellAt h (i * n + j) hb1
    rw [Nat.zero_add, this, flat_get hf l i j hi hjn]
    exact hj
theorem OwnL.snoc {a : α} {v' : Value} (h : w'.ownsRow base e n v' (l.length + 1) (l.flatMap f ++ f a)) : OwnL e n f w' base v' (l ++ [a]) := by
  unfold OwnL
  rw [List.length_append, List.flatMap_append]
  simpa using h
end
theorem Own.grown {B : Nat} {w w' : World} {g : Nat} {cs : List Value} {row : Option Nat} (h : Own B w g cs) (hg : w.grownBy w' row) (hne : some g ≠ row) : Own B w' g cs := ⟨h.box.grown hg hne, h.soft.grown hg h.box.1 hne, h.low⟩
def RowOf {α : Type} (n : Nat) (At : World → Nat → Nat → α → Prop) (w : World) (A : Option Addr) (l : List α) : Prop :=
  l = [] ∨ ∃ b off, A = some ⟨b, off, none⟩ ∧ b < w.heap.size ∧ ∀ i (h : i < l.length), At w b (off + i * n) l[i]
def Stays {α : Type} (At : World → Nat → Nat → α → Prop) : Prop := ∀ (w w' : World) (b o : Nat) (x : α), b < w.heap.size → KB w.heap.size w w' → At w b o x → At w' b o x
section
variable {α : Type} {n : Nat} {At : World → Nat → Nat → α → Prop} {w w' : World} {A : Option Addr} {l : List α}
theorem RowOf.nil : RowOf n At w A [] := .inl rfl
theorem RowOf.kb (hs : Stays At) (h : RowOf n At w A l) (hb : KB w.heap.size w w') : RowOf n At w' A l := by
  rcases h with h | ⟨b, off, rfl, hlt, hc⟩
  · exact .inl h
  · exact .inr ⟨b, off, rfl, Nat.lt_of_lt_of_le hlt hb.size, fun i hi => hs w w' b _ _ hlt hb (hc i hi)⟩
theorem RowOf.at_ {k : Nat} (h : RowOf n At w A l) (hk : k < l.length) : ∃ b off, A = some ⟨b, off, none⟩ ∧ b < w.heap.size ∧ At w b (off + k * n) l[k] := by
  rcases h with h | ⟨b, off, rfl, hlt, hc⟩
  · subst h; simp at hk
  · exact ⟨b, off, rfl, hlt, hc k hk⟩
theorem RowOf.lay {b off k : Nat} (h : RowOf n At w (some ⟨b, off, none⟩) l) (hk : k < l.length) : b < w.heap.size ∧ At w b (off + k * n) l[k] := by
  obtain ⟨b', off', e, h1, h2⟩ := h.at_ hk
  injection e with e
  injection e with e1 e2 e3
  subst e1; subst e2
  exact ⟨h1, h2⟩
end
theorem cell_kb {w w' : World} {b o : Nat} {v : Value} (hl : b < w.heap.size) (hb : KB w.heap.size w w') (h : w.cell? ⟨b, o, none⟩ = some v) : w'.cell? ⟨b, o, none⟩ = some v := (hb.cell (p := ⟨b, o, none⟩) hl).trans h
def TextAt (w : World) (b o : Nat) (s : ByteArray) : Prop := w.cell? ⟨b, o, none⟩ = some (.string s)
abbrev Texts (w : World) (A : Option Addr) (l : List ByteArray) : Prop := RowOf 1 TextAt w A l
theorem TextAt.stays : Stays TextAt := fun _ _ _ _ _ hl hb h => cell_kb hl hb h
theorem Texts.kb {w w' : World} {A : Option Addr} {l : List ByteArray} (h : Texts w A l) (hb : KB w.heap.size w w') : Texts w' A l := RowOf.kb TextAt.stays h hb
def eqL {α : Type} (f : α → α → Bool) : List α → List α → Bool
  | [], [] => true
  | a :: l, b :: m => f a b && eqL f l m
  | _, _ => false
theorem eqL_self {α : Type} {f : α → α → Bool} (hf : ∀ a, f a a = true) : ∀ l, eqL f l l = true
  | [] => rfl
  | a :: l => by rw [eqL, hf, eqL_self hf l]; rfl
def sameB (a b : ByteArray) : Bool := a.toList == b.toList
theorem kb_putJ {w w1 : World} (h : KB w.heap.size w w1) {k j : Nat} (hk : w.heap.size ≤ k) (v : Value) : KB w.heap.size w (w1.setCell ⟨k, j, none⟩ v) := Go.RowKit.Below.setCell h (p := ⟨k, j, none⟩) hk v
theorem kb_drewJ {B : Nat} {w w1 : World} (h : KB B w w1) : KB B w w1.drew := Go.RowKit.Below.trans h (show KB B w1 w1.drew from (Below.drew (Below.refl B _)).kb)
theorem eqL_drop {α : Type} {f : α → α → Bool} {a b : List α} {k : Nat} (ha : k < a.length) (hb : k < b.length) : eqL f (a.drop k) (b.drop k) = (f a[k] b[k] && eqL f (a.drop (k + 1)) (b.drop (k + 1))) := by
  rw [List.drop_eq_getElem_cons ha, List.drop_eq_getElem_cons hb]; rfl
theorem eqL_end {α : Type} {f : α → α → Bool} {a b : List α} {k : Nat} (ha : a.length ≤ k) (hb : b.length ≤ k) : eqL f (a.drop k) (b.drop k) = true := by
  rw [List.drop_eq_nil_of_le ha, List.drop_eq_nil_of_le hb]; rfl
theorem eqL_len {α : Type} {f : α → α → Bool} : ∀ {a b : List α}, a.length ≠ b.length → eqL f a b = false
  | [], [], h => absurd rfl h
  | [], _ :: _, _ => rfl
  | _ :: _, [], _ => rfl
  | x :: a, y :: b, h => by
    rw [eqL, eqL_len (a := a) (b := b) (fun e => h (by rw [List.length_cons, List.length_cons, e])), Bool.and_false]
section
variable {P : Program} {w w0 w1 w2 : World} {B base size n bytes : Nat} {t e : TypeId} {v : Value} {xs : List Value}
theorem kb_allocB {B : Nat} {w w1 : World} (h : KB B w w1) (hB : B ≤ w1.heap.size) (o : Obj) : KB B w (w1.alloc o) := Go.RowKit.Below.trans h (Go.RowKit.Below.mono (kb_new w1 o) hB)
theorem src_alloc (w : World) (news : List Value) (T : TypeId) (size : Nat) (hl : news.length = size) : SrcOf (w.alloc (.cells news.toArray T)) (some ⟨w.heap.size, 0, none⟩) 1 size news := by
  refine ⟨by omega, (fun h => by cases h), fun ad h j u hj => ?_⟩
  injection h with h
  subst h
  have hz : ∀ q : Nat, (Addr.mk w.heap.size 0 none).add q = ⟨w.heap.size, q, none⟩ := by
    intro q
    unfold Addr.add
    split <;> simp_all
  rw [hz, World.cell?_alloc_at _ _ _ _ rfl]
  simpa using hj
end
def IntK (w : World) (n : Int) (e : Ending) (w' : World) : Prop := e = .returned (.int .i64 n) ∧ KB w.heap.size w w'
theorem lies_src {α : Type} {n : Nat} {f : α → List Value} (hf : ∀ a, (f a).length = n) (hn : 0 < n) {w : World} {A : Option Addr} {l : List α} (h : Lies n f w A l) : SrcOf w A l.length n (l.flatMap f) := by
  have hlen : (l.flatMap f).length = l.length * n := by
    rw [List.length_flatMap]
    rw [show l.map (fun x => (f x).length) = l.map fun _ => n from List.map_congr_left fun x _ => hf x]
    rw [List.map_const', List.sum_replicate_nat]
  refine ⟨hlen, fun hA => ?_, fun ad hA j u hj => ?_⟩
  · rcases h with h | ⟨b, off, h1, -⟩
    · rw [h]; rfl
    · rw [h1] at hA; cases hA
  · rcases h with h | ⟨b, off, h1, h2, h3⟩
    · rw [h] at hj; cases hj
    · rw [h1] at hA
      injection hA with hA
      subst hA
      have hjl : j < l.length * n := by
        rcases Nat.lt_or_ge j (l.length * n) with k | k
        · exact k
        · rw [List.getElem?_eq_none (by rw [hlen]; exact k)] at hj; cases hj
      have hq : j / n < l.length := Nat.div_lt_of_lt_mul (by rw [Nat.mul_comm]; exact hjl)
      have hr : j % n < n := Nat.mod_lt _ hn
      have e : j / n * n + j % n = j := by rw [Nat.mul_comm]; exact Nat.div_add_mod j n
      rw [addr_add0]
      have := h3 (j / n) hq (j % n) u (by rw [← flat_get hf l (j / n) (j % n) hq hr, e]; exact hj)
      rw [Nat.add_assoc, e] at this
      exact this
theorem lies_set {α : Type} {n : Nat} {f : α → List Value} (hf : ∀ a, (f a).length = n) {w : World} {g : Nat} {l : List α} (h : Lies n f w (some ⟨g, 0, none⟩) l) {k j : Nat} (hk : k < l.length) (hj : j < n) (a : α) (x : Value) (hx : (f a)[j]? = some x) (ho : ∀ i, i ≠ j → (f a)[i]? = (f l[k])[i]?) : Lies n f (w.setCell ⟨g, k * n + j, none⟩ x) (some ⟨g, 0, none⟩) (l.set k a) := by
  rcases h with h | ⟨b, off, h1, h2, h3⟩
  · rw [h] at hk; simp at hk
  · injection h1 with h1
    injection h1 with e1 e2 e3
    subst e1; subst e2
    refine .inr ⟨g, 0, rfl, by rw [World.size_setCell]; exact h2, fun i hi q u hq => ?_⟩
    rw [List.length_set] at hi
    have hqn : q < n := by
      rcases Nat.lt_or_ge q n with c | c
      · exact c
      · rw [List.getElem?_eq_none (by rw [hf]; exact c)] at hq; cases hq
    by_cases hik : i = k
    · subst hik
      rw [List.getElem_set_self] at hq
      by_cases hqj : q = j
      · subst hqj
        rw [hx] at hq
        rw [Nat.zero_add, World.cell?_setCell_same _ _ _ (by have := h3 i hk q ((f l[i])[q]'(by rw [hf]; exact hqn)) (List.getElem?_eq_getElem (by rw [hf]; exact hqn)); rwa [Nat.zero_add] at this)]
        exact hq
      · rw [World.cell?_setCell_other _ _ _ _ (by simp only [ne_eq, Addr.mk.injEq, not_and]; intro _ e; omega)]
        exact h3 i hk q u (by rw [← ho q hqj]; exact hq)
    · rw [List.getElem_set_ne (fun e => hik e.symm)] at hq
      rw [World.cell?_setCell_other _ _ _ _ (by
        simp only [ne_eq, Addr.mk.injEq, not_and]
        intro _ e
        exfalso
        have e2 : i * n + q = k * n + j := by omega
        have hn : 0 < n := by omega
        have a1 : (i * n + q) / n = i := by rw [Nat.mul_comm, Nat.mul_add_div hn, Nat.div_eq_of_lt hqn, Nat.add_zero]
        have a2 : (k * n + j) / n = k := by rw [Nat.mul_comm, Nat.mul_add_div hn, Nat.div_eq_of_lt hj, Nat.add_zero]
        exact hik (a1.symm.trans ((congrArg (· / n) e2).trans a2)))]
      exact h3 i hi q u hq
theorem own_set2 {B : Nat} {w : World} {g : Nat} {a0 a1 : Value} (h : Own B w g [a0, a1]) (b0 b1 : Value) : Own B ((w.setCell ⟨g, 0, none⟩ b0).setCell ⟨g, 1, none⟩ b1) g [b0, b1] := by
  have := (h.put (j := 0) (by simp) b0).put (j := 1) (by simp) b1
  simpa using this
def Mono (w w' : World) : Prop := w.heap.size ≤ w'.heap.size ∧ ∀ (p : Addr) (v : Value), w.cell? p = some v → w'.cell? p = some v
theorem Mono.refl (w : World) : Mono w w := ⟨Nat.le_refl _, fun _ _ h => h⟩
theorem Mono.trans {a b c : World} (h : Mono a b) (k : Mono b c) : Mono a c := ⟨Nat.le_trans h.1 k.1, fun p v e => k.2 p v (h.2 p v e)⟩
theorem Mono.kb {w w' : World} (h : KB w.heap.size w w') : Mono w w' := ⟨h.size, fun p v e => (Go.RowKit.Below.cell h (cell_lt e)).trans e⟩
section
variable {α : Type} {n : Nat} {At : World → Nat → Nat → α → Prop} {w w' : World} {A : Option Addr} {l : List α}
theorem RowOf.mono (hs : ∀ (w w' : World) (b o : Nat) (x : α), Mono w w' → At w b o x → At w' b o x) (h : RowOf n At w A l) (m : Mono w w') : RowOf n At w' A l := by
  rcases h with h | ⟨b, off, rfl, hlt, hc⟩
  · exact .inl h
  · exact .inr ⟨b, off, rfl, Nat.lt_of_lt_of_le hlt m.1, fun i hi => hs _ _ _ _ _ m (hc i hi)⟩
end
theorem TextAt.mono (w w' : World) (b o : Nat) (x : ByteArray) (m : Mono w w') (h : TextAt w b o x) : TextAt w' b o x := m.2 _ _ h
theorem Lies.mono {α : Type} {n : Nat} {f : α → List Value} {w w' : World} {A : Option Addr} {l : List α} (h : Lies n f w A l) (m : Mono w w') : Lies n f w' A l := by
  rcases h with h | ⟨b, off, rfl, hlt, hc⟩
  · exact .inl h
  · exact .inr ⟨b, off, rfl, Nat.lt_of_lt_of_le hlt m.1, fun i hi j u hj => m.2 _ _ (hc i hi j u hj)⟩
theorem src_boxQ {w : World} {g : Nat} {cs : List Value} {m k : Nat} (h : Box w g cs) (hl : cs.length = m * k) : SrcOf w (some ⟨g, 0, none⟩) m k cs := by
  refine ⟨hl, (fun e => by cases e), fun ad e j u hj => ?_⟩
  injection e with e
  subst e
  rw [addr_add0, Nat.zero_add]
  exact h.2 j u hj
def CloneK (T : TypeId) (n m : Nat) (news : List Value) (w : World) (e : Ending) (w' : World) : Prop := ∃ v, e = .returned v ∧ w'.ownsRow w.heap.size T n v m news ∧ KB w.heap.size w w'
theorem src_kb {w w' : World} {ad : Addr} {m n : Nat} {news : List Value} (h : SrcOf w (some ad) m n news) (hlt : 0 < news.length → ad.block < w.heap.size) (hb : KB w.heap.size w w') : SrcOf w' (some ad) m n news := by
  refine ⟨h.1, (fun e => by cases e), fun ad2 e j u hj => ?_⟩
  have hl : j < news.length := by
    rcases Nat.lt_or_ge j news.length with k | k
    · exact k
    · rw [List.getElem?_eq_none k] at hj; cases hj
  have e2 := e
  injection e with e
  subst e
  exact (Go.RowKit.Below.cell hb (p := ad.add j) (by rw [show (ad.add j).block = ad.block from by unfold Addr.add; split <;> rfl]; exact hlt (by omega))).trans (h.2.2 _ e2 j u hj)
theorem own_empty_strs (w : World) : (w.alloc (.cells #[] 9)).ownsRow w.heap.size 9 1 (.slice (some ⟨w.heap.size, 0, none⟩) 0 0) 0 [] := by
  refine ⟨rfl, .inr ⟨w.heap.size, 0, #[], rfl, Nat.le_refl _, ?_, Nat.le_refl _, Nat.zero_le _, rfl, rfl⟩⟩
  show (w.heap.push _)[w.heap.size]? = _
  simp
set_option maxRecDepth 100000 in
set_option maxHeartbeats 1000000 in
theorem clone_strs (A : Option Addr) (c m : Nat) (news : List Value) (w : World) (hs : SrcOf w A m 1 news) (hlt : ∀ ad, A = some ad → 0 < news.length → ad.block < w.heap.size) (h1 : ∀ u ∈ news, u.oneCell' = true) (hm : m ≤ 1000000000) : Calls Tryz.prog 60 #[.slice A m c] w (CloneK 9 1 m news w) := by
  rcases A with _ | ad
  · obtain rfl : m = 0 := hs.2.1 rfl
    obtain rfl : news = [] := List.eq_nil_of_length_eq_zero (by have := hs.1; omega)
    clear hs hlt
    have hq : ∀ w', (binOp .eql 31 (.slice none 0 c) (.slice none 0 0)).run Tryz.prog w' = .ok (.bool true) w' := fun w' => Lib.run_eql_slice_nil w' _ _ _ _ _ _ _ Tryz.underlying31
    go_enter Tryz.func60, Tryz.ntmps60
    go_wp2_with fail
    try rw [Exit.noGoto_ret]
    try go_ret
    exact ⟨_, rfl, World.ownsRow_nil _ _ _ _, kb_refl _⟩
  · have hq : ∀ w', (binOp .eql 31 (.slice (some ad) m c) (.slice none 0 0)).run Tryz.prog w' = .ok (.bool false) w' := fun w' => Lib.run_eql_slice_nil w' _ _ _ _ _ _ _ Tryz.underlying31
    have HKB := hid (show KB w.heap.size w (w.alloc (.cells #[] 9)) from kb_new _ _)
    have HSR := hid (src_kb hs (hlt ad rfl) HKB.out)
    have HOE := hid (own_empty_strs w)
    have hM : maxLen = 9223372036854775807 := rfl
    clear hs hlt
    go_enter Tryz.func60, Tryz.ntmps60
    go_wp2_with (first | (at_builtin; refine wpList_appx EKstrs rfl (.tmp 5) (.tmp 6) rfl rfl HOE.out rfl HSR.out h1 (by omega) (by omega) (by simp) ?_; intro v' w' h2 h3 _; clear hq))
    try go_ret
    exact ⟨v', rfl, by simpa using h2, Go.RowKit.Below.trans HKB.out h3.kb⟩
def findP {α : Type} (q : α → Bool) : Nat → List α → Int
  | _, [] => -1
  | i, x :: l => if q x then (i : Int) else findP q (i + 1) l
section
variable {α : Type} {q : α → Bool}
theorem find_drop {l : List α} {k : Nat} (h : k < l.length) : findP q k (l.drop k) = if q l[k] then (k : Int) else findP q (k + 1) (l.drop (k + 1)) := by
  rw [List.drop_eq_getElem_cons h, findP]
theorem find_end {l : List α} {k : Nat} (h : l.length ≤ k) : findP q k (l.drop k) = -1 := by
  rw [List.drop_eq_nil_of_le h, findP]
end
theorem same_bts {a b : ByteArray} : sameB a b = true ↔ bts a = bts b := by rw [sameB, beq_iff_eq, bts, bts]
def mask (w : World) (B : Nat) (o : Option Nat) : World := { w with heap := w.heap.mapIdx fun k ob => if k < B ∨ o = some k then .cells #[] 9 else ob }
theorem mask_size (w : World) (B : Nat) (o : Option Nat) : (mask w B o).heap.size = w.heap.size := by simp [mask]
theorem mask_cell {w : World} {B : Nat} {o : Option Nat} {p : Addr} {v : Value} : (mask w B o).cell? p = some v ↔ (B ≤ p.block ∧ o ≠ some p.block) ∧ w.cell? p = some v := by
  unfold World.cell? mask
  dsimp only
  rw [Array.getElem?_mapIdx]
  cases h : w.heap[p.block]? with
  | none => simp
  | some ob =>
    rw [Option.map_some]
    by_cases h2 : p.block < B ∨ o = some p.block
    · rw [if_pos h2]
      constructor
      · intro e
        simp at e
      · rintro ⟨⟨h3, h4⟩, -⟩
        rcases h2 with h2 | h2
        · omega
        · exact absurd h2 h4
    · rw [if_neg h2]
      constructor
      · intro e
        exact ⟨⟨by omega, fun e2 => h2 (.inr e2)⟩, e⟩
      · rintro ⟨-, e⟩
        exact e
theorem Mono.of_mask (w : World) (B : Nat) (o : Option Nat) : Mono (mask w B o) w := ⟨by rw [mask_size]; exact Nat.le_refl _, fun _ _ e => (mask_cell.1 e).2⟩
theorem mask_mono {w w' : World} {B B' : Nat} {o o' : Option Nat} (hs : w.heap.size ≤ w'.heap.size) (h : ∀ k, k < w.heap.size → B ≤ k → o ≠ some k → (B' ≤ k ∧ o' ≠ some k) ∧ w'.heap[k]? = w.heap[k]?) : Mono (mask w B o) (mask w' B' o') := by
  refine ⟨by rw [mask_size, mask_size]; exact hs, fun p v e => ?_⟩
  obtain ⟨⟨h1, h2⟩, h3⟩ := mask_cell.1 e
  obtain ⟨h4, h5⟩ := h p.block (cell_lt h3) h1 h2
  exact mask_cell.2 ⟨h4, (World.cell?_of_block h5).trans h3⟩
theorem mask_kb {w w' : World} {B : Nat} {o : Option Nat} (hb : KB w.heap.size w w') : Mono (mask w B o) (mask w' B o) := mask_mono hb.size fun k hk h1 h2 => ⟨⟨h1, h2⟩, hb.block k hk⟩
theorem mask_less {w : World} {B B' : Nat} {o : Option Nat} (h : B ≤ B') (ho : ∀ k, o = some k → k < B') : Mono (mask w B' none) (mask w B o) := mask_mono (Nat.le_refl _) fun k _ h1 _ => ⟨⟨by omega, fun e => by have := ho k e; omega⟩, rfl⟩
theorem mask_free {w : World} {B : Nat} {o : Option Nat} : Mono (mask w B o) (mask w B none) := mask_mono (Nat.le_refl _) fun k _ h1 _ => ⟨⟨h1, fun e => by cases e⟩, rfl⟩
theorem heap_put {w : World} {g j k : Nat} {x : Value} (h : k ≠ g) : (w.setCell ⟨g, j, none⟩ x).heap[k]? = w.heap[k]? := by
  unfold World.setCell
  simp [Array.getElem?_modify, Ne.symm h]
theorem mask_put {w : World} {B g j : Nat} {o : Option Nat} {x : Value} (h : g < B ∨ o = some g) : Mono (mask w B o) (mask (w.setCell ⟨g, j, none⟩ x) B o) := mask_mono (by rw [World.size_setCell]; exact Nat.le_refl _) fun k _ h1 h2 => ⟨⟨h1, h2⟩, heap_put fun e => by
  subst e
  rcases h with h | h
  · omega
  · exact h2 h⟩
section
variable {α : Type} {T : TypeId} {n : Nat} {f : α → List Value} {Sub : World → α → Prop} {w w' : World} {base : Nat} {v v' : Value} {ps : List α}
def Deep (T : TypeId) (n : Nat) (f : α → List Value) (Sub : World → α → Prop) (w : World) (base : Nat) (v : Value) (ps : List α) : Prop := OwnL T n f w base v ps ∧ ∀ p ∈ ps, Sub (mask w base v.ownBlock) p
theorem Deep.nil : Deep T n f Sub w base (.slice none 0 0) [] := ⟨OwnL.nil, fun p hp => by cases hp⟩
theorem Deep.kb (hm : ∀ (w w' : World) (p : α), Mono w w' → Sub w p → Sub w' p) (h : Deep T n f Sub w base v ps) (hb : KB w.heap.size w w') : Deep T n f Sub w' base v ps := ⟨h.1.kb hb, fun p hp => hm _ _ _ (mask_kb hb) (h.2 p hp)⟩
theorem Deep.put (hm : ∀ (w w' : World) (p : α), Mono w w' → Sub w p → Sub w' p) (h : Deep T n f Sub w base v ps) {g j : Nat} (hg : g < base) (x : Value) : Deep T n f Sub (w.setCell ⟨g, j, none⟩ x) base v ps :=
  ⟨own_other (o := j) (vs := [x]) h.1 (fun e => by have := (World.ownsRow.lt h.1 _ e).1; omega), fun p hp => hm _ _ _ (mask_put (.inl hg)) (h.2 p hp)⟩
theorem Deep.lt (h : Deep T n f Sub w base v ps) : ∀ k, v.ownBlock = some k → k < w.heap.size := fun k e => (World.ownsRow.lt h.1 k e).2
theorem Deep.snoc (hm : ∀ (w w' : World) (p : α), Mono w w' → Sub w p → Sub w' p) (h : Deep T n f Sub w base v ps) {a : α} (ha : Sub (mask w base v.ownBlock) a) (h2 : w'.ownsRow base T n v' (ps.length + 1) (ps.flatMap f ++ f a)) (hg : w.grownBy w' v.ownBlock) (hv : ∀ k, v'.ownBlock = some k → v.ownBlock = some k ∨ w.heap.size ≤ k) : Deep T n f Sub w' base v' (ps ++ [a]) := by
  have hM : Mono (mask w base v.ownBlock) (mask w' base v'.ownBlock) := mask_mono hg.size fun k hk h1 h2 => ⟨⟨h1, fun e => by
    rcases hv k e with e | e
    · exact h2 e
    · omega⟩, hg.block k hk fun e => h2 e.symm⟩
  refine ⟨OwnL.snoc h2, fun p hp => ?_⟩
  rcases List.mem_append.1 hp with hp | hp
  · exact hm _ _ _ hM (h.2 p hp)
  · rcases List.mem_singleton.1 hp with rfl
    exact hm _ _ _ hM ha
theorem Deep.fresh (hf : ∀ a, (f a).length = n) (hm : ∀ (w w' : World) (p : α), Mono w w' → Sub w p → Sub w' p) (h : Deep T n f Sub w base v ps) : ∃ A c, v = .slice A ps.length c ∧ ps.length ≤ c ∧ Lies n f (mask w base none) A ps ∧ ∀ p ∈ ps, Sub (mask w base none) p := by
  obtain ⟨A, c, hv, hl, hb, hc⟩ := OwnL.lies hf h.1
  refine ⟨A, c, hv, hc, ?_, fun p hp => hm _ _ _ mask_free (h.2 p hp)⟩
  rcases hl with hl | ⟨b, off, rfl, hlt, hcell⟩
  · exact .inl hl
  · refine .inr ⟨b, off, rfl, by rw [mask_size]; exact hlt, fun i hi j u hj => mask_cell.2 ⟨⟨(hb _ rfl).1, fun e => by cases e⟩, hcell i hi j u hj⟩⟩
end
section
variable {P : Program} {w : World} {base size n bytes : Nat} {t e : TypeId} {v : Value} {xs : List Value}
end
abbrev cellT (s : ByteArray) : List Value := [.string s]
theorem Own.set9 {B : Nat} {w : World} {g : Nat} {a0 a1 a2 a3 a4 a5 a6 a7 a8 : Value} (h : Own B w g [a0, a1, a2, a3, a4, a5, a6, a7, a8]) (b0 b1 b2 b3 b4 b5 b6 b7 b8 : Value) : Own B (((((((((w.setCell ⟨g, 0, none⟩ b0).setCell ⟨g, 1, none⟩ b1).setCell ⟨g, 2, none⟩ b2).setCell ⟨g, 3, none⟩ b3).setCell ⟨g, 4, none⟩ b4).setCell ⟨g, 5, none⟩ b5).setCell ⟨g, 6, none⟩ b6).setCell ⟨g, 7, none⟩ b7).setCell ⟨g, 8, none⟩ b8) g [b0, b1, b2, b3, b4, b5, b6, b7, b8] :=
  ⟨h.box.set (o := 0) (vs := [b0, b1, b2, b3, b4, b5, b6, b7, b8]) (by simp), h.soft.set (o := 0) (vs := [b0, b1, b2, b3, b4, b5, b6, b7, b8]), h.low⟩
def Keep (o : Option Nat) (w w' : World) : Prop := w.heap.size ≤ w'.heap.size ∧ ∀ k, k < w.heap.size → o ≠ some k → w'.heap[k]? = w.heap[k]?
theorem Keep.refl (o : Option Nat) (w : World) : Keep o w w := ⟨Nat.le_refl _, fun _ _ _ => rfl⟩
theorem Keep.trans {o : Option Nat} {a b c : World} (h : Keep o a b) (k : Keep o b c) : Keep o a c := ⟨Nat.le_trans h.1 k.1, fun q hq ho => (k.2 q (Nat.lt_of_lt_of_le hq h.1) ho).trans (h.2 q hq ho)⟩
theorem Keep.kb {o : Option Nat} {w w' : World} (h : KB w.heap.size w w') : Keep o w w' := ⟨h.size, fun k hk _ => h.block k hk⟩
theorem Keep.put {o : Option Nat} {a w : World} (h : Keep o a w) {g j : Nat} (x : Value) (hg : o = some g ∨ a.heap.size ≤ g) : Keep o a (w.setCell ⟨g, j, none⟩ x) := ⟨by rw [World.size_setCell]; exact h.1, fun k hk ho => (heap_put (fun e => by
  subst e
  rcases hg with hg | hg
  · exact ho hg
  · omega)).trans (h.2 k hk ho)⟩
theorem Keep.mask {o : Option Nat} {B : Nat} {w w' : World} (h : Keep o w w') : Mono (mask w B o) (mask w' B o) := mask_mono h.1 fun k hk h1 h2 => ⟨⟨h1, h2⟩, h.2 k hk h2⟩
theorem Keep.own {o : Option Nat} {B g : Nat} {w w' : World} {cs : List Value} (h : Keep o w w') (hO : Own B w g cs) (ho : o ≠ some g) : Own B w' g cs := by
  have e := h.2 g hO.box.1 ho
  exact ⟨hO.box.block h.1 e, fun j => (World.frozen?_of_block (a := ⟨g, j, none⟩) e).trans (hO.soft j), hO.low⟩
abbrev blkA (A : Option Addr) : Option Nat := A.map (·.block)
structure RowG {α : Type} (B n : Nat) (f : α → List Value) (w : World) (A : Option Addr) (l : List α) : Prop where
  lies : Lies n f w A l
  own : l ≠ [] → ∃ g, A = some ⟨g, 0, none⟩ ∧ B ≤ g ∧ ∀ j, w.frozen? ⟨g, j, none⟩ = false
  low : ∀ k, blkA A = some k → B ≤ k
section
variable {α : Type} {B n : Nat} {f : α → List Value} {w w' : World} {A : Option Addr} {l : List α}
theorem RowG.of {T : TypeId} {v : Value} (hf : ∀ a, (f a).length = n) (h : w.ownsRow B T n v l.length (l.flatMap f)) : ∃ A c, v = .slice A l.length c ∧ l.length ≤ c ∧ RowG B n f w A l := by
  obtain ⟨A, c, hv, hl, hb, hc⟩ := OwnL.lies hf (show OwnL T n f w B v l from h)
  refine ⟨A, c, hv, hc, hl, (fun hn => ?_), fun k e => ?_⟩
  rotate_left
  · cases A with
    | none => cases e
    | some ad => injection e with e; rw [← e]; exact (hb ad rfl).1
  obtain ⟨g, c2, hv2, hB, -, -, -⟩ := own_form h (List.length_pos_iff.2 hn)
  rw [hv] at hv2
  injection hv2 with e1 e2 e3
  subst e1
  rw [hv] at h
  exact ⟨g, rfl, hB, h.frozenAt⟩
theorem RowG.keep {o : Option Nat} (h : RowG B n f w A l) (k : Keep o w w') (ho : ∀ g, blkA A = some g → o ≠ some g) : RowG B n f w' A l := by
  by_cases hl : l = []
  · exact ⟨.inl hl, (fun hn => absurd hl hn), h.low⟩
  · obtain ⟨g, rfl, hB, hs⟩ := h.own hl
    rcases h.lies with h2 | ⟨b, off, h1, h2, h3⟩
    · exact absurd h2 hl
    · injection h1 with h1
      injection h1 with e1 e2 e3
      subst e1; subst e2
      have e := k.2 g h2 (ho g rfl)
      exact ⟨.inr ⟨g, 0, rfl, Nat.lt_of_lt_of_le h2 k.1, fun i hi j u hj => (World.cell?_of_block e).trans (h3 i hi j u hj)⟩, (fun _ => ⟨g, rfl, hB, fun j => (World.frozen?_of_block (a := ⟨g, j, none⟩) e).trans (hs j)⟩), h.low⟩
theorem RowG.mid {a : α} {ds os : List α} (h : RowG B n f w A (ds ++ a :: os)) : ∃ g, A = some ⟨g, 0, none⟩ ∧ B ≤ g ∧ g < w.heap.size ∧ (∀ j, w.frozen? ⟨g, j, none⟩ = false) ∧ ∀ j u, (f a)[j]? = some u → w.cell? ⟨g, ds.length * n + j, none⟩ = some u := by
  obtain ⟨g, rfl, hB, hs⟩ := h.own (by simp)
  rcases h.lies with h2 | ⟨b, off, h1, h2, h3⟩
  · simp at h2
  · injection h1 with h1
    injection h1 with e1 e2 e3
    subst e1; subst e2
    refine ⟨g, rfl, hB, h2, hs, fun j u hj => ?_⟩
    have hi : ds.length < (ds ++ a :: os).length := by simp
    have he : (ds ++ a :: os)[ds.length] = a := by simp
    have := h3 ds.length hi j u (by rw [he]; exact hj)
    rwa [Nat.zero_add] at this
theorem RowG.set {a b : α} {ds os : List α} {g j : Nat} {x : Value} (hf : ∀ a, (f a).length = n) (h : RowG B n f w (some ⟨g, 0, none⟩) (ds ++ a :: os)) (hj : j < n) (hx : (f b)[j]? = some x) (ho : ∀ i, i ≠ j → (f b)[i]? = (f a)[i]?) : RowG B n f (w.setCell ⟨g, ds.length * n + j, none⟩ x) (some ⟨g, 0, none⟩) (ds ++ b :: os) := by
  have hi : ds.length < (ds ++ a :: os).length := by simp
  have he : (ds ++ a :: os)[ds.length] = a := by simp
  have hs : (ds ++ a :: os).set ds.length b = ds ++ b :: os := by simp
  have := lies_set hf h.lies hi hj b x hx (by rw [he]; exact ho)
  rw [hs] at this
  obtain ⟨g', e1, hB, hfz⟩ := h.own (by simp)
  injection e1 with e1
  injection e1 with e1 e2 e3
  subst e1
  exact ⟨this, (fun _ => ⟨g, rfl, hB, fun i => by rw [World.frozen?_setCell]; exact hfz i⟩), h.low⟩
theorem RowG.masked {C : Nat} {o : Option Nat} (h : RowG B n f w A l) (hC : C ≤ B) (ho : ∀ g, B ≤ g → o ≠ some g) : Lies n f (mask w C o) A l := by
  by_cases hl : l = []
  · exact .inl hl
  · obtain ⟨g, rfl, hB, hs⟩ := h.own hl
    rcases h.lies with h2 | ⟨b, off, h1, h2, h3⟩
    · exact absurd h2 hl
    · injection h1 with h1
      injection h1 with e1 e2 e3
      subst e1; subst e2
      exact .inr ⟨g, 0, rfl, by rw [mask_size]; exact h2, fun i hi j u hj => mask_cell.2 ⟨⟨Nat.le_trans hC hB, ho g hB⟩, h3 i hi j u hj⟩⟩
end
theorem kb_set9 {w w1 : World} (h : KB w.heap.size w w1) {g : Nat} (hg : w.heap.size ≤ g) (b0 b1 b2 b3 b4 b5 b6 b7 b8 : Value) : KB w.heap.size w (((((((((w1.setCell ⟨g, 0, none⟩ b0).setCell ⟨g, 1, none⟩ b1).setCell ⟨g, 2, none⟩ b2).setCell ⟨g, 3, none⟩ b3).setCell ⟨g, 4, none⟩ b4).setCell ⟨g, 5, none⟩ b5).setCell ⟨g, 6, none⟩ b6).setCell ⟨g, 7, none⟩ b7).setCell ⟨g, 8, none⟩ b8) :=
  kb_putJ (kb_putJ (kb_putJ (kb_putJ (kb_putJ (kb_putJ (kb_putJ (kb_putJ (kb_putJ h hg _) hg _) hg _) hg _) hg _) hg _) hg _) hg _) hg _
theorem texts_lies {w : World} {A : Option Addr} {l : List ByteArray} (h : Texts w A l) : Lies 1 cellT w A l := by
  rcases h with h | ⟨b, off, h1, h2, h3⟩
  · exact .inl h
  · refine .inr ⟨b, off, h1, h2, fun i hi j u hj => ?_⟩
    rcases j with _ | j
    · cases hj; exact h3 i hi
    · cases hj
theorem lies_texts {w : World} {A : Option Addr} {l : List ByteArray} (h : Lies 1 cellT w A l) : Texts w A l := by
  rcases h with h | ⟨b, off, h1, h2, h3⟩
  · exact .inl h
  · exact .inr ⟨b, off, h1, h2, fun i hi => h3 i hi 0 _ rfl⟩
theorem lies_old {α : Type} {n : Nat} {f : α → List Value} {w w' : World} {A : Option Addr} {l : List α} (h : Lies n f w A l) (hs : w.heap.size ≤ w'.heap.size) : ∀ ad, A = some ad → 0 < (l.flatMap f).length → ad.block < w'.heap.size := by
  intro ad e hn
  rcases h with h | ⟨b, off, h1, h2, -⟩
  · rw [h] at hn; simp at hn
  · rw [h1] at e
    injection e with e
    subst e
    exact Nat.lt_of_lt_of_le h2 hs
theorem flat_oneQ {α : Type} {f : α → List Value} (h1 : ∀ a, ∀ u ∈ f a, u.oneCell' = true) (l : List α) : ∀ u ∈ l.flatMap f, u.oneCell' = true := by
  intro u hu
  obtain ⟨a, -, ha⟩ := List.mem_flatMap.1 hu
  exact h1 a u ha
theorem Own.growR {B : Nat} {w w' : World} {g : Nat} {cs : List Value} {row : Option Nat} (h : Own B w g cs) (hg : w.grownBy w' row) (hne : some g ≠ row) : Own B w' g cs := ⟨h.box.grown hg hne, fun j => (World.frozen?_of_block (a := ⟨g, j, none⟩) (hg.block g h.box.1 hne)).trans (h.soft j), h.low⟩
set_option maxRecDepth 100000 in
set_option maxHeartbeats 1000000 in
theorem eqtexts_any (A B : Option Addr) (c d : Nat) (a b : List ByteArray) (w : World) (ha : Texts w A a) (hb : Texts w B b) (hn : a.length ≤ 9223372036854775807) : Calls Tryz.prog 53 #[.slice A a.length c, .slice B b.length d] w (BoolK w (eqL sameB a b)) := by
  have HA := hid ha
  have HB := hid hb
  have HL := hid (fun h => eqL_len (f := sameB) (a := a) (b := b) h)
  clear ha hb
  generalize hna : a.length = n at *
  generalize hnb : b.length = m at *
  have HN := hid hna
  have HM := hid hnb
  clear hna hnb
  by_cases hnm : n = m
  · subst hnm
    have e1 : ((n : Int) != (n : Int)) = false := by simp
    go_enter Tryz.func53, Tryz.ntmps53
    go_upto_block 0 with fail
    go_wp2_with fail
    go_loopw [13] (fun i ww => ∃ k : Nat, i = .int .i64 (k : Int) ∧ k ≤ n ∧ Hid (eqL sameB a b = eqL sameB (a.drop k) (b.drop k)) ∧ Hid (KB w.heap.size w ww)) (fun i _ => n - (intOf i).toNat)
    case atStart => exact ⟨0, rfl, Nat.zero_le _, hid rfl, hid (kb_refl _)⟩
    case round =>
      rename World => wr
      obtain ⟨k, rfl, hk, HD, HK⟩ := hrel
      by_cases hlt : k < n
      · have h1 : k < a.length := by rw [HN.out]; exact hlt
        have h2 : k < b.length := by rw [HM.out]; exact hlt
        obtain ⟨p, off, hA, hpl, cx⟩ := RowOf.at_ (HA.out) h1
        obtain ⟨q, of2, hB, hql, cy⟩ := RowOf.at_ (HB.out) h2
        subst hA
        subst hB
        have HS := hid (eqL_drop (f := sameB) h1 h2)
        have k0 : (0 : Int) ≤ (k : Int) := by omega
        have k1 : (k : Int) < (n : Int) := by omega
        have HPL := hid hpl
        have HQL := hid hql
        have pl : p < wr.heap.size := Nat.lt_of_lt_of_le hpl HK.out.size
        have ql : q < wr.heap.size := Nat.lt_of_lt_of_le hql HK.out.size
        unfold TextAt at cx cy
        rw [Nat.mul_one] at cx cy
        generalize a[k] = x at *
        generalize b[k] = y at *
        obtain ⟨q0, hq0⟩ : ∃ q0, (x.toList == y.toList) = q0 := ⟨_, rfl⟩
        have hq1 : (x.toList != y.toList) = !q0 := by rw [bne, hq0]
        have HQ0 := hid (show sameB x y = q0 from hq0)
        have HX := hid cx
        have HY := hid cy
        clear cx cy pl ql hpl hql
        go_upto_region 6 with fail
        have hS : KB wr.heap.size wr wr.drew := kb_drewJ (kb_refl _)
        refine wp_planS (fun u => KB wr.heap.size wr u) (.last [0, 1, 2, 3, 4, 5, 6, 7, 8]) (by first | assumption | skip) (by kernel_rfl) (by intro _ _ d _ _ h; cases d <;> exact h) (by kernel_rfl) ?_
        have iS : Nonempty (SW fun u => KB wr.heap.size wr u) := ⟨⟨_, hS⟩⟩
        have cx := fun (z : SW fun u => KB wr.heap.size wr u) => cell_kb HPL.out (kb_tr HK.out z.ok) HX.out
        have cy := fun (z : SW fun u => KB wr.heap.size wr u) => cell_kb HQL.out (kb_tr HK.out z.ok) HY.out
        have pl := fun (z : SW fun u => KB wr.heap.size wr u) => Nat.lt_of_lt_of_le HPL.out (kb_tr HK.out z.ok).size
        have ql := fun (z : SW fun u => KB wr.heap.size wr u) => Nat.lt_of_lt_of_le HQL.out (kb_tr HK.out z.ok).size
        with_reducible refine plan_last ?_
        simp only [pickOps, List.map_cons, List.map_nil, List.getElem?_toArray, List.getElem?_cons_zero, List.getElem?_cons_succ, Option.getD_some]
        repeat go_big_quiet_step (fail)
        refine wpQuiet_nil ?_
        clear cx cy pl ql iS
        clear hq0 hq1
        cases q0
        · have HV := hid (HD.out.trans (HS.out.trans (by rw [HQ0.out, Bool.false_and])))
          go_wp2_with fail
          try rw [Exit.noGoto_ret]
          try go_ret
          exact ⟨by rw [HV.out] <;> rfl, kb_tr HK.out hS⟩
        · have HV := hid (HS.out.trans (by rw [HQ0.out, Bool.true_and]))
          go_wp2_with fail
          go_roundw
          case rel => exact ⟨k + 1, by go_num, by omega, hid (HD.out.trans HV.out), hid (kb_tr HK.out hS)⟩
          case measure => simp [intOf] <;> omega
      · obtain rfl : k = n := by omega
        have k1 : ¬ (k : Int) < (k : Int) := by omega
        have HV := hid (HD.out.trans (eqL_end (by rw [HN.out]; exact Nat.le_refl _) (by rw [HM.out]; exact Nat.le_refl _)))
        go_wp2_with fail
        try rw [Exit.noGoto_ret]
        try go_ret
        exact ⟨by rw [HV.out] <;> rfl, HK.out⟩
  · have e1 : ((n : Int) != (m : Int)) = true := by rw [bne_iff_ne]; omega
    have HV := hid (HL.out hnm)
    go_enter Tryz.func53, Tryz.ntmps53
    go_wp2_with fail
    try rw [Exit.noGoto_ret]
    try go_ret
    exact ⟨by rw [HV.out] <;> rfl, kb_refl _⟩
set_option maxHeartbeats 400000 in
theorem neqVv (a b : Ver) (w : World) : (binOp .neq 29 a.val b.val).run Tryz.prog w = .ok (.bool (!eqVer a b)) w := by
  rw [run_neq_struct, show (10000 : Nat) = 9999 + 1 from rfl, run_equalIn_agg w 9999 29 _ _ fields29 stood29]
  simp only [Program.fieldsOf, Tryz.underlying29]
  have u3 := Tryz.underlying3
  have u9 := Tryz.underlying9
  have a3 := Tryz.isAgg3
  have z3 := Tryz.sizeOf3
  have a9 := Tryz.isAgg9
  have z9 := Tryz.sizeOf9
  go_simp
  unfold eqVer
  cases h1 : a.maj == b.maj <;> cases h2 : a.min == b.min <;> cases h3 : a.pat == b.pat <;> cases h4 : a.pre.toList == b.pre.toList <;> cases h5 : a.bld.toList == b.bld.toList <;> simp_all
theorem same_iff {a b : ByteArray} : sameB a b = true ↔ a = b := by
  rw [same_bts]
  exact ⟨bts_inj, congrArg bts⟩
end Go.Proofs.YtlmkglgjdmjnkaaGreatDoor
