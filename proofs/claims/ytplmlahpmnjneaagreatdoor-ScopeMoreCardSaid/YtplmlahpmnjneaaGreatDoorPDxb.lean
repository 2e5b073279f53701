import Derived.Test.YtplmlahpmnjneaaGreatDoorMPlt
import Derived.Test.YtplmlahpmnjneaaGreatDoorPDxa
namespace Go.Proofs.YtplmlahpmnjneaaGreatDoor
open Go.RowKit Go.Lib
open Rw
set_option linter.unusedVariables false
set_option linter.unusedSimpArgs false
section
variable {P : Program} {w : World} {base size n bytes : Nat} {t e : TypeId} {v : Value} {xs : List Value}
theorem wpList_appy (E : EK P t e size bytes) {ops : Array Oper} {rest : List Oper} {o : Oper} {a : Act} {Q : Exit → Act → World → Prop} (hgd : o.guard = none) (s x : Operand)
    (ho : o.op = .call { callee := .builtin .append, args := #[s, x], argTypes := #[t, t] }) (hs : a.eval s = v) (hown : w.ownsRow base e size v n xs) {ad : Addr} {m c : Nat} {news : List Value} (hx : a.eval x = .slice (some ad) m c)
    (hl : news.length = m * size) (hnews : ∀ j u, news[j]? = some u → w.cell? (ad.add j) = some u) (h1 : ∀ u ∈ news, u.oneCell' = true) (hm : 0 < m) (h63 : n + m ≤ maxLen) (hb : (n + m) * bytes ≤ 140737488355328) (hbase : base ≤ w.heap.size)
    (h : ∀ v' w', w'.ownsRow base e size v' (n + m) (xs ++ news) → Below base w w' → w.grownBy w' v.ownBlock → (∀ k, v'.ownBlock = some k → v.ownBlock = some k ∨ k = w.heap.size) → wpList P ops Q rest (a.put o.dst v') w') : wpList P ops Q (o :: rest) a w := by
  refine wpList_plain hgd fun _ hK => ?_
  obtain ⟨v', w', hrun, h2, h3, h4, h5⟩ := run_appy (P := P) E o.type hown (ad := ad) (m := m) (c := c) (news := news) hl hnews h1 hm h63 hb hbase
  unfold Oper.wp execOp
  simp only [ho, resolve, invoke, builtin, Sem.run_bind, Sem.run_pure, Result.andThen_ok, List.map_toArray, List.map_cons, List.map_nil, hs, hx, hrun]
  exact hK _ _ (h v' w' h2 h3 h4 h5)
end
theorem Own.grown {B : Nat} {w w' : World} {g : Nat} {cs : List Value} {row : Option Nat} (h : Own B w g cs) (hg : w.grownBy w' row) (hne : some g ≠ row) : Own B w' g cs := ⟨h.box.grown hg hne, h.soft.grown hg h.box.1 hne, h.low⟩
def HeadsOf (w : World) (r : List (List CompL)) (hs : List Value) : Prop := hs.length = r.length ∧ ∀ i (h : i < r.length), ∃ Ai ci, hs[i]? = some (.slice Ai r[i].length ci) ∧ Comps w Ai r[i]
theorem alts_cell {w : World} {b off k : Nat} {r : List (List CompL)} (h : Alts w (some ⟨b, off, none⟩) r) (hk : k < r.length) : ∃ Ai ci, w.cell? ⟨b, off + k, none⟩ = some (.slice Ai r[k].length ci) ∧ Comps w Ai r[k] := by
  obtain ⟨b', off', Ai, ci, e, hl, hc, hs⟩ := h.at_ hk
  injection e with e
  injection e with e1 e2 e3
  subst e1; subst e2
  exact ⟨Ai, ci, hc, hs⟩
theorem heads_of {w : World} {b off : Nat} {r : List (List CompL)} (h : Alts w (some ⟨b, off, none⟩) r) : ∃ hs, HeadsOf w r hs ∧ (∀ w', KB w.heap.size w w' → ∀ j u, hs[j]? = some u → w'.cell? ((⟨b, off, none⟩ : Addr).add j) = some u) ∧ (∀ u ∈ hs, u.oneCell' = true) := by
  refine ⟨(List.range r.length).map fun i => (w.cell? ⟨b, off + i, none⟩).getD (.bool false), ⟨by simp, fun i hi => ?_⟩, fun w' hb j u hj => ?_, fun u hu => ?_⟩
  · obtain ⟨Ai, ci, hc, hs⟩ := alts_cell h hi
    exact ⟨Ai, ci, by simp [hi, hc], hs⟩
  · have hjl : j < r.length := by
      rcases Nat.lt_or_ge j r.length with k | k
      · exact k
      · rw [List.getElem?_eq_none (by simpa using k)] at hj; cases hj
    obtain ⟨b', off', Ai, ci, e, hl, hc, hs⟩ := h.at_ hjl
    injection e with e
    injection e with e1 e2 e3
    subst e1; subst e2
    rw [addr_add0, hb.cell (p := ⟨b, off + j, none⟩) hl, hc]
    simpa [hjl, hc] using hj
  · obtain ⟨i, hi, rfl⟩ := List.mem_map.1 hu
    obtain ⟨Ai, ci, hc, hs⟩ := alts_cell h (List.mem_range.1 hi)
    rw [hc]; rfl
theorem box_src {w : World} {g : Nat} {cs : List Value} (h : Box w g cs) : ∀ j u, cs[j]? = some u → w.cell? ((⟨g, 0, none⟩ : Addr).add j) = some u := fun j u hj => by
  rw [addr_add0, Nat.zero_add]; exact h.2 j u hj
theorem more_alts {u1 w : World} {B g : Nat} {r : List (List CompL)} {hs : List Value} {v : Value} {cc : CompL} (hk : KB u1.heap.size u1 w) (h : HeadsOf u1 r hs)
    (own : w.ownsRow B 49 1 v (r.length + 1) (hs ++ [.slice (some ⟨g, 0, none⟩) 1 1])) (hb : Box w g cc.cells) : ∃ A c, v = .slice A (r.length + 1) c ∧ Alts w A (r ++ [[cc]]) := by
  rcases own.2 with ⟨hv, h0⟩ | ⟨g2, cap, cur, hv, hg, hh, hle, -⟩
  · omega
  · subst hv
    have hlt : g2 < w.heap.size := by
      rcases Nat.lt_or_ge g2 w.heap.size with h | h
      · exact h
      · rw [Array.getElem?_eq_none h] at hh; cases hh
    refine ⟨some ⟨g2, 0, none⟩, cap, rfl, .inr ⟨g2, 0, rfl, hlt, fun i hi => ?_⟩⟩
    have hcell := World.ownsRow.cellAt own i (by simp at hi; omega)
    rw [Nat.zero_add, hcell]
    rcases Nat.lt_or_ge i r.length with k | k
    · obtain ⟨Ai, ci, e1, e2⟩ := h.2 i k
      rw [List.getElem_append_left k]
      exact ⟨Ai, ci, by rw [List.getElem?_append_left (by rw [h.1]; exact k)]; exact e1, e2.kb hk⟩
    · have hi2 : i = r.length := by simp at hi; omega
      subst hi2
      have e : (r ++ [[cc]])[r.length] = [cc] := by simp
      rw [e]
      refine ⟨some ⟨g, 0, none⟩, 1, by rw [← h.1]; simp, .inr ⟨g, 0, rfl, hb.1, fun q hq j u hj => ?_⟩⟩
      obtain rfl : q = 0 := by simpa using hq
      have := hb.2 j u hj
      simpa using this
theorem more_fit {r : List (List CompL)} {a : List CompL} (h : fitG r) (ha : ∀ c ∈ a, CompL.fit c) : fitG (r ++ [a]) := fun x hx => by
  rcases List.mem_append.1 hx with k | k
  · exact h x k
  · rw [List.mem_singleton.1 k]; exact ha
theorem comps_src {w : World} {b off : Nat} {a : List CompL} (h : Comps w (some ⟨b, off, none⟩) a) : ∀ j u, (a.flatMap CompL.cells)[j]? = some u → w.cell? ((⟨b, off, none⟩ : Addr).add j) = some u := fun j u hj => by
  have hl := flat_len cells7 a
  have hjl : j < a.length * 7 := by
    rcases Nat.lt_or_ge j (a.length * 7) with k | k
    · exact k
    · rw [List.getElem?_eq_none (by rw [hl]; exact k)] at hj; cases hj
  have hq : j / 7 < a.length := by omega
  have e : j / 7 * 7 + j % 7 = j := by omega
  have hg := flat_get cells7 a (j / 7) (j % 7) hq (by omega)
  rw [e, hj] at hg
  have := (h.lay hq).2 (j % 7) u hg.symm
  rw [addr_add0]
  rw [Nat.add_assoc, e] at this
  exact this
theorem one_alts {w : World} {g : Nat} {a : List CompL} {A : Option Addr} {c : Nat} (hb : Box w g [.slice A a.length c]) (h : Comps w A a) : Alts w (some ⟨g, 0, none⟩) [a] := by
  refine .inr ⟨g, 0, rfl, hb.1, fun i hi => ?_⟩
  obtain rfl : i = 0 := by simpa using hi
  exact ⟨A, c, hb.2 0 _ rfl, h⟩
theorem alts_first {w : World} {b off : Nat} {r : List (List CompL)} (h : Alts w (some ⟨b, off, none⟩) r) (h0 : 0 < r.length) : Alts w (some ⟨b, off, none⟩) [r[0]] := by
  obtain ⟨b', off', Ai, ci, e, hl, hc, hs⟩ := h.at_ h0
  injection e with e
  injection e with e1 e2 e3
  subst e1; subst e2
  refine .inr ⟨b, off, rfl, hl, fun i hi => ?_⟩
  obtain rfl : i = 0 := by simpa using hi
  exact ⟨Ai, ci, hc, hs⟩
theorem flat_one (a : List CompL) : ∀ u ∈ a.flatMap CompL.cells, u.oneCell' = true := fun u hu => by
  obtain ⟨c, _, hc⟩ := List.mem_flatMap.1 hu
  exact oneX c u hc
def SetN (g : Nat) (A : Option Addr) (l : List SpanL) (B : Option Addr) (m : List SpanL) : Prop := (l ≠ [] → ∀ ad, A = some ad → ad.block ≠ g) ∧ (m ≠ [] → ∀ ad, B = some ad → ad.block ≠ g)
theorem setN_fresh {w : World} {base g : Nat} {A B : Option Addr} {l m : List SpanL} (h : SpanB w base A l) (k : SpanB w base B m) (hg : g < base) : SetN g A l B m :=
  ⟨fun _ ad had e => by have := h.2 ad had; omega, fun _ ad had e => by have := k.2 ad had; omega⟩
theorem setN_old {n : Nat} {w : World} {g : Nat} {A B : Option Addr} {l m : List SpanL} (h : SetAt n w A l B m) (hg : w.heap.size ≤ g) : SetN g A l B m :=
  ⟨fun hl ad had e => by have := spans_lt h.rel hl ad had; omega, fun hl ad had e => by have := spans_lt h.pre hl ad had; omega⟩
theorem Spans.put {w : World} {g j : Nat} {A : Option Addr} {l : List SpanL} (h : Spans w A l) (hne : l ≠ [] → ∀ ad, A = some ad → ad.block ≠ g) (x : Value) : Spans (w.setCell ⟨g, j, none⟩ x) A l := by
  rcases h with h | ⟨b, off, rfl, hlt, hc⟩
  · exact .inl h
  · by_cases hl : l = []
    · exact .inl hl
    · exact .inr ⟨b, off, rfl, by rw [World.size_setCell]; exact hlt, fun i hi q u hq => (put_cell (hne hl _ rfl) x).trans (hc i hi q u hq)⟩
theorem setAt_put2 {n : Nat} {w : World} {g : Nat} {A B : Option Addr} {l m : List SpanL} (h : SetAt n w A l B m) (hn : SetN g A l B m) (x y : Value) : SetAt n ((w.setCell ⟨g, 0, none⟩ x).setCell ⟨g, 1, none⟩ y) A l B m :=
  ⟨(h.rel.put hn.1 x).put hn.1 y, (h.pre.put hn.2 x).put hn.2 y, h.frel, h.fpre, h.nrel, h.npre, h.val⟩
theorem kb_mid {u1 u w : World} {B : Nat} (h : KB u1.heap.size u1 u) (hB : u1.heap.size ≤ B) (hb : Below B u w) : KB u1.heap.size u1 w := Go.RowKit.Below.trans h (Go.RowKit.Below.mono hb.kb hB)
end Go.Proofs.YtplmlahpmnjneaaGreatDoor
