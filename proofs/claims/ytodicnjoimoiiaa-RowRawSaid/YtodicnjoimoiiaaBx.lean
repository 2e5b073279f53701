/- Boxes that a call writes to; an append of one beside them. -/
import Derived.Test.YtodicnjoimoiiaaCat
import Derived.Laws.IdiomCopy
namespace Go.Proofs.Ytodicnjoimoiiaa
open Go.RowKit Go.Lib
set_option linter.unusedVariables false
set_option linter.unusedSimpArgs false

theorem oneS1 (s : SpanL) : ∀ u ∈ s.cells, u.oneCell' = true := by
  have := oneS [s]
  simpa [cellsL] using this
theorem Below.setCells {B g : Nat} {a : World} (hg : B ≤ g) : ∀ (vs : List Value) (o : Nat) {w : World}, Below B a w → Below B a (w.setCells g o vs)
  | [], _, _, h => h
  | v :: vs, o, _, h => Below.setCells hg vs (o + 1) (h.setCell (p := ⟨g, o, none⟩) hg v)
theorem setCells_size (g : Nat) : ∀ (vs : List Value) (o : Nat) (w : World), (w.setCells g o vs).heap.size = w.heap.size
  | [], _, _ => rfl
  | v :: vs, o, w => by rw [World.setCells, setCells_size g vs (o + 1)]; simp [World.setCell]
theorem setCells_block (g k : Nat) (hk : k ≠ g) : ∀ (vs : List Value) (o : Nat) (w : World), (w.setCells g o vs).heap[k]? = w.heap[k]?
  | [], _, _ => rfl
  | v :: vs, o, w => by rw [World.setCells, setCells_block g k hk vs (o + 1)]; exact Go.RowKit.Below.heap_setCell w ⟨g, o, none⟩ v k hk
theorem own_block {w w' : World} {base size n : Nat} {e : TypeId} {v : Value} {xs : List Value} (h : w.ownsRow base e size v n xs) (hb : ∀ k, base ≤ k → k < w.heap.size → w'.heap[k]? = w.heap[k]?) : w'.ownsRow base e size v n xs := by
  obtain ⟨h1, h2⟩ := h
  refine ⟨h1, ?_⟩
  rcases h2 with h2 | ⟨g, cap, cur, hv, hg, hh, r⟩
  · exact .inl h2
  · refine .inr ⟨g, cap, cur, hv, hg, ?_, r⟩
    have hlt : g < w.heap.size := by
      rcases Nat.lt_or_ge g w.heap.size with h | h
      · exact h
      · rw [Array.getElem?_eq_none h] at hh; cases hh
    rw [hb g hg hlt]; exact hh
theorem own_setCells {w : World} {base size n g o : Nat} {e : TypeId} {v : Value} {xs vs : List Value} (h : w.ownsRow base e size v n xs) (hg : g < base) : (w.setCells g o vs).ownsRow base e size v n xs :=
  own_block h fun k hk _ => setCells_block g k (by omega) vs o w
theorem own_bound {w : World} {base size n : Nat} {e : TypeId} {v : Value} {xs : List Value} (h : w.ownsRow base e size v n xs) : ∀ k, v.ownBlock = some k → base ≤ k ∧ k < w.heap.size := fun k hk => by
  have h1 := h.lt k hk
  exact h1
theorem grown_tr {a b c : World} {row : Option Nat} (h : a.grownBy b row) (k : b.grownBy c row) : a.grownBy c row :=
  ⟨k.os.trans h.os, k.tape.trans h.tape, k.output.trans h.output, Nat.le_trans h.size k.size, fun i hi hr => (k.block i (Nat.lt_of_lt_of_le hi h.size) hr).trans (h.block i hi hr)⟩
/-- a box, written into -/
theorem Box.set {w : World} {g o : Nat} {cs vs : List Value} (h : Box w g cs) (ho : o + vs.length ≤ cs.length) : Box (w.setCells g o vs) g (cs.take o ++ vs ++ cs.drop (o + vs.length)) := by
  refine ⟨by rw [setCells_size]; exact h.1, fun j u hj => ?_⟩
  have hcell : ∀ j, j < cs.length → ∃ u, w.cell? ⟨g, j, none⟩ = some u := fun j hj => ⟨cs[j], h.2 j _ (List.getElem?_eq_getElem hj)⟩
  rcases Nat.lt_or_ge j o with h1 | h1
  · rw [World.cell?_setCells_out g vs o w ⟨g, j, none⟩ (fun _ _ => .inl h1)]
    rw [List.append_assoc, List.getElem?_append_left (by rw [List.length_take]; omega), List.getElem?_take_of_lt h1] at hj
    exact h.2 j u hj
  · have hl : (cs.take o).length = o := by rw [List.length_take]; omega
    rcases Nat.lt_or_ge j (o + vs.length) with h2 | h2
    · rw [List.getElem?_append_left (by rw [List.length_append]; omega), List.getElem?_append_right (by omega), hl] at hj
      obtain ⟨i, rfl⟩ : ∃ i, j = o + i := ⟨j - o, by omega⟩
      rw [Nat.add_sub_cancel_left] at hj
      have hi : i < vs.length := by omega
      rw [List.getElem?_eq_getElem hi] at hj
      injection hj with hj
      rw [← hj]
      exact World.cell?_setCells_in g vs o w (fun q hq => by obtain ⟨u, hu⟩ := hcell (o + q) (by omega); rw [hu]; rfl) i hi
    · rw [World.cell?_setCells_out g vs o w ⟨g, j, none⟩ (fun _ _ => .inr h2)]
      rw [List.getElem?_append_right (by rw [List.length_append]; omega), List.length_append, hl, List.getElem?_drop] at hj
      have : o + vs.length + (j - (o + vs.length)) = j := by omega
      rw [this] at hj
      exact h.2 j u hj
theorem Box.set7 {w : World} {g : Nat} {c : CutL} (d : CutL) (h : Box w g c.cells) : Box (w.setCells g 0 d.cells) g d.cells := h.set (o := 0) (vs := d.cells) (by simp)
theorem Box.setFr {w : World} {g : Nat} {s : SpanL} (d : CutL) (h : Box w g s.cells) : Box (w.setCells g 0 d.cells) g (SpanL.cells ⟨d, s.til⟩) := h.set (o := 0) (vs := d.cells) (by simp)
theorem Box.setTil {w : World} {g : Nat} {s : SpanL} (d : CutL) (h : Box w g s.cells) : Box (w.setCells g 7 d.cells) g (SpanL.cells ⟨s.fr, d⟩) := h.set (o := 7) (vs := d.cells) (by simp)
theorem Box.block {w w' : World} {g : Nat} {cs : List Value} (h : Box w g cs) (hs : w.heap.size ≤ w'.heap.size) (hb : w'.heap[g]? = w.heap[g]?) : Box w' g cs :=
  ⟨Nat.lt_of_lt_of_le h.1 hs, fun j u hj => (World.cell?_of_block (a := ⟨g, j, none⟩) hb).trans (h.2 j u hj)⟩
theorem Box.setOther {w : World} {g k o : Nat} {cs vs : List Value} (h : Box w g cs) (hk : g ≠ k) : Box (w.setCells k o vs) g cs := h.block (Nat.le_of_eq (setCells_size k vs o w).symm) (setCells_block k g hk vs o w)
theorem Box.grown {w w' : World} {g : Nat} {cs : List Value} {row : Option Nat} (h : Box w g cs) (hg : w.grownBy w' row) (hne : some g ≠ row) : Box w' g cs := h.block hg.size (hg.block g h.1 hne)
/-- not frozen -/
def Soft (w : World) (g : Nat) : Prop := ∀ j, w.frozen? ⟨g, j, none⟩ = false
theorem Soft.new (w : World) (cs : Array Value) (t : TypeId) : Soft (w.alloc (.cells cs t)) w.heap.size := fun j => by
  have h : (w.alloc (.cells cs t)).heap[w.heap.size]? = some (.cells cs t) := by
    show (w.heap.push _)[w.heap.size]? = _
    simp
  simp only [World.frozen?, h]
  simp
theorem Soft.below {w w' : World} {g : Nat} (h : Soft w g) (hg : g < w.heap.size) (hb : Below w.heap.size w w') : Soft w' g := fun j => (hb.frozen (p := ⟨g, j, none⟩) hg).trans (h j)
theorem Soft.set {w : World} {g k o : Nat} {vs : List Value} (h : Soft w g) : Soft (w.setCells k o vs) g := fun j => (World.frozen?_setCells k vs o w _).trans (h j)
theorem Soft.grown {w w' : World} {g : Nat} {row : Option Nat} (h : Soft w g) (hg : w.grownBy w' row) (hlt : g < w.heap.size) (hne : some g ≠ row) : Soft w' g := fun j => (World.frozen?_of_block (a := ⟨g, j, none⟩) (hg.block g hlt hne)).trans (h j)

section
variable {P : Program} {w : World} {base size n bytes : Nat} {t e : TypeId} {v : Value} {xs : List Value}
/-- 'l = append(l, x)', l a slice of the call's own; which blocks stay is told -/
theorem wpList_app1g (E : EK P t e size bytes) {ops : Array Oper} {rest : List Oper} {o : Oper} {a : Act} {Q : Exit → Act → World → Prop} (hgd : o.guard = none) (s x : Operand)
    (ho : o.op = .call { callee := .builtin .append, args := #[s, x], argTypes := #[t, t] }) (news : List Value)
    (hown : w.ownsRow base e size v n xs) (hs : a.eval s = v) (hx : a.eval x = .slice (some ⟨w.heap.size, 0, none⟩) 1 1) (hl : news.length = size) (h1 : ∀ u ∈ news, u.oneCell' = true)
    (hm : n + 1 ≤ maxLen) (hn : (n + 1) * bytes ≤ 140737488355328) (hbase : base ≤ w.heap.size)
    (h : ∀ v' w', w'.ownsRow base e size v' (n + 1) (xs ++ news) → Below base w w' → w.grownBy w' v.ownBlock → wpList P ops Q rest (a.put o.dst v') w') :
    wpList P ops Q (o :: rest) a (w.alloc (.cells news.toArray e)) := by
  refine wpList_appx E hgd s x ho hs (hown.alloc _) hx ⟨by omega, (fun k => by cases k), fun ad k j u hj => ?_⟩ h1 hm hn (by simp; omega) ?_
  · injection k with k
    subst k
    have hz : ∀ q : Nat, (Addr.mk w.heap.size 0 none).add q = ⟨w.heap.size, q, none⟩ := by
      intro q
      unfold Addr.add
      split <;> simp_all
    rw [hz, World.cell?_alloc_at _ _ _ _ rfl]
    simpa using hj
  · intro v' w' h2 h3 h4
    exact h v' w' h2 (((Below.refl _ _).alloc hbase _).trans h3) (grown_tr (World.grownBy_alloc w _ _) h4)
end
end Go.Proofs.Ytodicnjoimoiiaa
