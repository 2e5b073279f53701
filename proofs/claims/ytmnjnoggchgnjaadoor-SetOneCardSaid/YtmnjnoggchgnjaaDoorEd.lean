/- Rows of versions that a call owns; the walk of linchpinlaw5.edges. -/
import Derived.Test.YtmnjnoggchgnjaaDoorSe
import Derived.Laws.OwnMore
import Derived.Deep.AppendLies
namespace Go.Proofs.YtmnjnoggchgnjaaDoor
open Go.RowKit Go.Lib
open Rw
set_option linter.unusedVariables false
set_option linter.unusedSimpArgs false

def nthV (l : List Ver) (i : Nat) : Ver := l.getD i zeroV
theorem nthV_lt {l : List Ver} {i : Nat} (h : i < l.length) : nthV l i = l[i] := by simp [nthV, h]
def cellsR (l : List Ver) : List Value := l.flatMap fun v => v.cells
theorem cellsR_len (l : List Ver) : (cellsR l).length = l.length * 5 := by
  induction l with
  | nil => rfl
  | cons s l ih => simp only [cellsR, List.flatMap_cons, List.length_append] at ih ⊢; rw [ih]; simp only [List.length_cons, List.length_nil]; omega
theorem cellsR_append (l m : List Ver) : cellsR (l ++ m) = cellsR l ++ cellsR m := by simp [cellsR]
theorem cellsR_get : ∀ (l : List Ver) (i j : Nat), i < l.length → j < 5 → (cellsR l)[i * 5 + j]? = (nthV l i).cells[j]?
  | [], i, j, h, _ => by simp at h
  | s :: l, 0, j, _, hj => by
    rw [cellsR, List.flatMap_cons, List.getElem?_append_left (by simp; omega)]
    simp [nthV]
  | s :: l, i + 1, j, h, hj => by
    have ih := cellsR_get l i j (by simpa using h) hj
    rw [cellsR, List.flatMap_cons, List.getElem?_append_right (by simp; omega)]
    have e : (i + 1) * 5 + j - s.cells.length = i * 5 + j := by simp; omega
    rw [e]
    exact ih.trans (by simp [nthV])
theorem Tryd.info31 : (Tryd.prog.info? 31).map (fun i => (i.zero, i.size, i.bytes)) = some (some zeroV.val, 5, 56) := by kernel_rfl
theorem EKvers : EK Tryd.prog 27 31 5 56 := .mk' _ Tryd.underlying27 Tryd.info31 rfl (by omega)
def OwnR (w : World) (base : Nat) (v : Value) (l : List Ver) : Prop := w.ownsRow base 31 5 v l.length (cellsR l)
theorem OwnR.nil (w : World) (base : Nat) : OwnR w base (.slice none 0 0) [] := World.ownsRow_nil _ _ _ _
theorem OwnR.form {w : World} {base : Nat} {v : Value} {l : List Ver} (h : OwnR w base v l) : (v = .slice none 0 0 ∧ l = []) ∨ ∃ g cap, v = .slice (some ⟨g, 0, none⟩) l.length cap ∧ base ≤ g ∧ g < w.heap.size ∧ l.length ≤ cap := by
  obtain ⟨_, h2⟩ := h
  rcases h2 with ⟨h2, h3⟩ | ⟨g, cap, cur, hv, hg, hh, hle, r⟩
  · exact .inl ⟨h2, List.eq_nil_of_length_eq_zero h3⟩
  · refine .inr ⟨g, cap, hv, hg, ?_, hle⟩
    rcases Nat.lt_or_ge g w.heap.size with h | h
    · exact h
    · rw [Array.getElem?_eq_none h] at hh; cases hh
/-- a row of versions in memory -/
def Vers (w : World) (A : Option Addr) (l : List Ver) : Prop :=
  l = [] ∨ ∃ b off, A = some ⟨b, off, none⟩ ∧ b < w.heap.size ∧ ∀ i, i < l.length → ∀ j u, (nthV l i).cells[j]? = some u → w.cell? ⟨b, off + i * 5 + j, none⟩ = some u
theorem Vers.below {w w' : World} {A : Option Addr} {l : List Ver} (h : Vers w A l) (hb : Below w.heap.size w w') : Vers w' A l := by
  rcases h with h | ⟨b, off, rfl, hlt, hc⟩
  · exact .inl h
  · exact .inr ⟨b, off, rfl, Nat.lt_of_lt_of_le hlt hb.size, fun i hi j u hj => (hb.cell (p := ⟨b, _, none⟩) hlt).trans (hc i hi j u hj)⟩
theorem Vers.at_ {w : World} {A : Option Addr} {l : List Ver} {k : Nat} (h : Vers w A l) (hk : k < l.length) :
    ∃ b off, A = some ⟨b, off, none⟩ ∧ b < w.heap.size ∧ w.cell? ⟨b, off + k * 5, none⟩ = some (.int .i64 (nthV l k).maj) ∧ w.cell? ⟨b, off + k * 5 + 1, none⟩ = some (.int .i64 (nthV l k).min) ∧ w.cell? ⟨b, off + k * 5 + 2, none⟩ = some (.int .i64 (nthV l k).pat) ∧ w.cell? ⟨b, off + k * 5 + 3, none⟩ = some (.string (nthV l k).pre) ∧ w.cell? ⟨b, off + k * 5 + 4, none⟩ = some (.string (nthV l k).bld) := by
  rcases h with rfl | ⟨b, off, rfl, hb, hc⟩
  · simp at hk
  · exact ⟨b, off, rfl, hb, hc k hk 0 _ rfl, hc k hk 1 _ rfl, hc k hk 2 _ rfl, hc k hk 3 _ rfl, hc k hk 4 _ rfl⟩
theorem OwnR.vers {w : World} {base : Nat} {v : Value} {l : List Ver} (h : OwnR w base v l) : ∃ A cap, v = .slice A l.length cap ∧ Vers w A l := by
  rcases h.form with ⟨rfl, rfl⟩ | ⟨g, cap, rfl, hg, hlt, hle⟩
  · exact ⟨none, 0, rfl, .inl rfl⟩
  · refine ⟨some ⟨g, 0, none⟩, cap, rfl, .inr ⟨g, 0, rfl, hlt, fun i hi j u hj => ?_⟩⟩
    have hj5 : j < 5 := by
      rcases Nat.lt_or_ge j 5 with h' | h'
      · exact h'
      · rw [List.getElem?_eq_none (by simp; omega)] at hj; cases hj
    have := h.cellAt (i * 5 + j) (by omega)
    rw [Nat.zero_add, this, cellsR_get l i j hi hj5]
    exact hj
theorem OwnR.below {w w' : World} {base : Nat} {v : Value} {l : List Ver} (h : OwnR w base v l) (hb : Below w.heap.size w w') : OwnR w' base v l := own_below h hb
theorem oneR (l : List Ver) : ∀ u ∈ cellsR l, u.oneCell' = true := by
  intro u hu
  simp only [cellsR, List.mem_flatMap] at hu
  obtain ⟨s, _, hu⟩ := hu
  simp at hu
  rcases hu with rfl | rfl | rfl | rfl | rfl <;> rfl
theorem oneR1 (v : Ver) : ∀ u ∈ v.cells, u.oneCell' = true := by
  have := oneR [v]
  simpa [cellsR] using this
theorem Vers.src {w : World} {A : Option Addr} {l : List Ver} (h : Vers w A l) : SrcOf w A l.length 5 (cellsR l) := by
  refine ⟨cellsR_len l, ?_, ?_⟩
  · rintro rfl
    rcases h with rfl | ⟨b, off, e, _⟩
    · rfl
    · cases e
  · rintro ad rfl j u hj
    have hjl : j < l.length * 5 := by
      rcases Nat.lt_or_ge j (l.length * 5) with h' | h'
      · exact h'
      · rw [List.getElem?_eq_none (by rw [cellsR_len]; exact h')] at hj; cases hj
    rcases h with rfl | ⟨b, off, e, hlt, hc⟩
    · simp at hjl
    · injection e with e; subst e
      have ej : j / 5 * 5 + j % 5 = j := by omega
      rw [← ej, cellsR_get _ _ _ (by omega) (Nat.mod_lt _ (by omega))] at hj
      have := hc (j / 5) (by omega) (j % 5) u hj
      rw [addr_add, ← ej]
      rw [← this]
      congr 2
      omega
theorem OwnR.app {w' : World} {base : Nat} {v' : Value} {l : List Ver} {s : Ver} (h : w'.ownsRow base 31 5 v' (l.length + 1) (cellsR l ++ s.cells)) : OwnR w' base v' (l ++ [s]) := by
  simp only [OwnR, List.length_append, List.length_singleton]
  rw [cellsR_append, show cellsR [s] = s.cells from by simp [cellsR]]
  exact h
theorem OwnR.cat {w : World} {base : Nat} {v : Value} {l m : List Ver} (h : w.ownsRow base 31 5 v (l.length + m.length) (cellsR l ++ cellsR m)) : OwnR w base v (l ++ m) := by
  rw [OwnR, List.length_append, cellsR_append]; exact h
theorem OwnR.lit (w : World) (v : Ver) : OwnR (w.alloc (.cells v.cells.toArray 31)) w.heap.size (.slice (some ⟨w.heap.size, 0, none⟩) 1 1) [v] := by
  have := World.ownsRow_lit (base := w.heap.size) (e := 31) (size := 5) w v.cells.toArray 1 (Nat.le_refl _) (by decide) rfl
  simpa [OwnR, cellsR] using this

/-! ### edges, in plain -/
def cutV (c : CutL) : List Ver := if c.en = 0 then [c.v] else []
def edgesS (s : SpanL) : List Ver := cutV s.fr ++ cutV s.til
def edgesL (l : List SpanL) : List Ver := zeroV :: l.flatMap edgesS
def edgesTo (l : List SpanL) (k : Nat) : List Ver := edgesL (l.take k)
theorem edgesTo_zero (l : List SpanL) : edgesTo l 0 = [zeroV] := rfl
theorem edgesTo_succ {l : List SpanL} {k : Nat} (h : k < l.length) : edgesTo l (k + 1) = edgesTo l k ++ cutV (nth l k).fr ++ cutV (nth l k).til := by
  rw [edgesTo, edgesL, List.take_succ_eq_append_getElem h, List.flatMap_append, nth_lt h, edgesTo, edgesL]
  simp [edgesS]
theorem edgesTo_all (l : List SpanL) : edgesTo l l.length = edgesL l := by rw [edgesTo, List.take_length]
theorem edgesTo_len {l : List SpanL} {k : Nat} (h : k ≤ l.length) : (edgesTo l k).length ≤ 1 + 2 * k := by
  induction k with
  | zero => simp [edgesTo_zero]
  | succ k ih =>
    rw [edgesTo_succ (by omega), List.length_append, List.length_append]
    have := ih (by omega)
    have hc : ∀ c : CutL, (cutV c).length ≤ 1 := fun c => by unfold cutV; split <;> simp
    have h1 := hc (nth l k).fr
    have h2 := hc (nth l k).til
    omega
theorem mem_edges {l : List SpanL} {v : Ver} : v ∈ edgesL l ↔ v = zeroV ∨ ∃ c, c ∈ cutsOf l ∧ c.en = 0 ∧ v = c.v := by
  have hc : ∀ (c : CutL), v ∈ cutV c ↔ c.en = 0 ∧ v = c.v := fun c => by unfold cutV; split <;> simp_all
  rw [edgesL, List.mem_cons, List.mem_flatMap]
  constructor
  · rintro (h | ⟨s, hs, h⟩)
    · exact .inl h
    · rw [edgesS, List.mem_append, hc, hc] at h
      rcases h with h | h
      · exact .inr ⟨s.fr, cutsOf_fr hs, h⟩
      · exact .inr ⟨s.til, cutsOf_til hs, h⟩
  · rintro (h | ⟨c, hm, h⟩)
    · exact .inl h
    · obtain ⟨s, hs, rfl | rfl⟩ := mem_cutsOf.1 hm
      · exact .inr ⟨s, hs, by rw [edgesS, List.mem_append, hc]; exact .inl h⟩
      · exact .inr ⟨s, hs, by rw [edgesS, List.mem_append, hc, hc]; exact .inr h⟩
theorem hasS_rel {l : List SpanL} (h : ValS l []) {v : Ver} (hv : isRel v) : hasS l [] v = true ↔ mem l (befC v) := by
  rw [hasS_mem h hv.1, sideS, if_pos (by simp [hv.2])]
theorem edge_rel {l : List SpanL} (h : ValS l []) {v : Ver} (hm : v ∈ edgesL l) : isRel v := by
  rcases mem_edges.1 hm with rfl | ⟨c, hc, h0, rfl⟩
  · exact zero_isRel
  · rcases right_cases (cutsOf_may h.rel hc) (h.right.cut hc) with e | e | ⟨_, hv, _⟩
    · rw [e] at h0; cases h0
    · rw [e] at h0; cases h0
    · exact hv
/-- two sets of releases are one just if they have the same at the edges of both -/
theorem one_edges {l m : List SpanL} (hl : ValS l []) (hm : ValS m []) : sameS l [] m [] = (edgesL l ++ edgesL m).all fun v => hasS l [] v == hasS m [] v := by
  rw [Bool.eq_iff_iff, sameS_iff, List.all_eq_true]
  constructor
  · rintro ⟨rfl, _⟩ v _; exact beq_self_eq_true _
  · intro h
    have key : ∀ v, v ∈ edgesL l ++ edgesL m → (mem l (befC v) ↔ mem m (befC v)) := fun v hv => by
      have hr : isRel v := by
        rcases List.mem_append.1 hv with k | k
        · exact edge_rel hl k
        · exact edge_rel hm k
      have := h v hv
      rw [beq_iff_eq] at this
      rw [← hasS_rel hl hr, ← hasS_rel hm hr, this]
    refine ⟨rel_ext_at hl.rel hm.rel hl.right hm.right (key _ (List.mem_append.2 (.inl (mem_edges.2 (.inl rfl))))) fun c hc h0 _ => key _ ?_, rfl⟩
    rcases hc with hc | hc
    · exact List.mem_append.2 (.inl (mem_edges.2 (.inr ⟨c, hc, h0, rfl⟩)))
    · exact List.mem_append.2 (.inr (mem_edges.2 (.inr ⟨c, hc, h0, rfl⟩)))
/-! ### edges, the walk -/
theorem Box.belowB {w w' : World} {g B : Nat} {cs : List Value} (h : Box w g cs) (hg : g < B) (hb : Below B w w') (hs : w.heap.size ≤ w'.heap.size) : Box w' g cs := ⟨Nat.lt_of_lt_of_le h.1 hs, fun j u hj => (hb.cell (p := ⟨g, j, none⟩) hg).trans (h.2 j u hj)⟩
def pairC (s : SpanL) : List CutL := [s.fr, s.til]
def midE (l : List SpanL) (k j : Nat) : List Ver := edgesTo l k ++ ((pairC (nth l k)).take j).flatMap cutV
theorem midE_zero (l : List SpanL) (k : Nat) : midE l k 0 = edgesTo l k := by simp [midE]
theorem midE_two {l : List SpanL} {k : Nat} (h : k < l.length) : midE l k 2 = edgesTo l (k + 1) := by rw [edgesTo_succ h]; simp [midE, pairC]
theorem midE_succ (l : List SpanL) (k : Nat) {j : Nat} (h : j < 2) : midE l k (j + 1) = midE l k j ++ cutV (nthC (pairC (nth l k)) j) := by
  match j, h with
  | 0, _ => simp [midE, pairC, nthC]
  | 1, _ => simp [midE, pairC, nthC]
theorem midE_len {l : List SpanL} {k j : Nat} (hk : k ≤ l.length) (hj : j ≤ 2) : (midE l k j).length ≤ 3 + 2 * k := by
  have h := edgesTo_len hk
  have hc : ∀ c : CutL, (cutV c).length ≤ 1 := fun c => by unfold cutV; split <;> simp
  have : (((pairC (nth l k)).take j).flatMap cutV).length ≤ 2 := by
    have h1 := hc (nth l k).fr
    have h2 := hc (nth l k).til
    match j, hj with
    | 0, _ => simp
    | 1, _ => simp [pairC]; omega
    | 2, _ => simp [pairC]; omega
  rw [midE, List.length_append]; omega
def EdgePost (w : World) (l : List Ver) (e : Ending) (w' : World) : Prop := ∃ v, e = .returned v ∧ OwnR w' w.heap.size v l ∧ Below w.heap.size w w'
theorem OwnR.low {w : World} {base b : Nat} {v : Value} {l : List Ver} (h : OwnR w base v l) (hb : b ≤ base) : OwnR w b v l := by
  obtain ⟨h1, h2⟩ := h
  refine ⟨h1, ?_⟩
  rcases h2 with h2 | ⟨g, cap, cur, hv, hg, r⟩
  · exact .inl h2
  · exact .inr ⟨g, cap, cur, hv, Nat.le_trans hb hg, r⟩
set_option maxRecDepth 100000 in
set_option maxHeartbeats 2000000 in
/-! ### an append, and where the new row lies -/
section
variable {P : Program} {w : World} {base size n bytes : Nat} {t e : TypeId} {v : Value} {xs : List Value}
theorem run_appy (E : EK P t e size bytes) (ty : TypeId) (hown : w.ownsRow base e size v n xs) {ad : Addr} {m c : Nat} {news : List Value} (hl : news.length = m * size) (hnews : ∀ j u, news[j]? = some u → w.cell? (ad.add j) = some u) (h1 : ∀ u ∈ news, u.oneCell' = true)
    (hm : 0 < m) (h63 : n + m ≤ maxLen) (hb : (n + m) * bytes ≤ 140737488355328) (hbase : base ≤ w.heap.size) :
    ∃ v' w', (Builtin.append_ #[t, t] ty #[v, .slice (some ad) m c]).run P w = .ok v' w' ∧ w'.ownsRow base e size v' (n + m) (xs ++ news) ∧ Below base w w' ∧ w.grownBy w' v.ownBlock ∧ (∀ k, v'.ownBlock = some k → v.ownBlock = some k ∨ k = w.heap.size) := by
  obtain ⟨i, z, hi, hz0, hz1, hz2, hz3⟩ := E.info
  obtain ⟨g, cap, w', hr, h2, h3, h4, _⟩ := run_append_lies (P := P) w t ty base e i z size bytes E.ht hi hz0 hz1 hz2 hz3 E.pos v n xs hown ad m c news hl hnews h1 hm h63 hb hbase _ rfl
  refine ⟨_, w', hr, h2, (Below.refl _ _).grown h3 (append_drawn E ty hown hl hnews h1 h63 hb hr) hbase (fun k hk => (hown.lt k hk).1), h3, fun k hk => ?_⟩
  have : k = g := by simpa [Value.ownBlock, eq_comm] using hk
  rw [this]; exact h4
theorem wpList_app1y (E : EK P t e size bytes) {ops : Array Oper} {rest : List Oper} {o : Oper} {a : Act} {Q : Exit → Act → World → Prop} (hgd : o.guard = none) (s x : Operand)
    (ho : o.op = .call { callee := .builtin .append, args := #[s, x], argTypes := #[t, t] }) (news : List Value)
    (hown : w.ownsRow base e size v n xs) (hs : a.eval s = v) (hx : a.eval x = .slice (some ⟨w.heap.size, 0, none⟩) 1 1) (hl : news.length = size) (h1 : ∀ u ∈ news, u.oneCell' = true)
    (hm : n + 1 ≤ maxLen) (hn : (n + 1) * bytes ≤ 140737488355328) (hbase : base ≤ w.heap.size)
    (h : ∀ v' w', w'.ownsRow base e size v' (n + 1) (xs ++ news) → Below base w w' → w.grownBy w' v.ownBlock → (∀ k, v'.ownBlock = some k → v.ownBlock = some k ∨ w.heap.size ≤ k) → wpList P ops Q rest (a.put o.dst v') w') :
    wpList P ops Q (o :: rest) a (w.alloc (.cells news.toArray e)) := by
  refine wpList_plain hgd fun _ hK => ?_
  obtain ⟨v', w', hrun, h2, h3, h4, h5⟩ := run_appy (P := P) (w := w.alloc (.cells news.toArray e)) E o.type (hown.alloc _) (ad := ⟨w.heap.size, 0, none⟩) (m := 1) (c := 1) (news := news) (by omega) (fun j u hj => by
    have hz : (⟨w.heap.size, 0, none⟩ : Addr).add j = ⟨w.heap.size, j, none⟩ := by
      unfold Addr.add
      split <;> simp_all
    rw [hz, World.cell?_alloc_at _ _ _ _ rfl]
    simpa using hj) h1 (by omega) hm hn (by simp; omega)
  unfold Oper.wp execOp
  simp only [ho, resolve, invoke, builtin, Sem.run_bind, Sem.run_pure, Result.andThen_ok, List.map_toArray, List.map_cons, List.map_nil, hs, hx, hrun]
  refine hK _ _ (h v' w' h2 (((Below.refl _ _).alloc hbase _).trans h3) (grown_tr (World.grownBy_alloc w _ _) h4) fun k hk => (h5 k hk).imp id fun h => ?_)
  rw [h]; simp
end
theorem CutsAt.grown {w w' : World} {row : Option Nat} {b off : Nat} {l : List CutL} (h : CutsAt w (some ⟨b, off, none⟩) l) (hg : w.grownBy w' row) (hne : some b ≠ row) : CutsAt w' (some ⟨b, off, none⟩) l := by
  rcases h with h | ⟨b', off', e, hlt, hc⟩
  · exact .inl h
  · injection e with e
    injection e with e1 e2
    subst e1 e2
    refine .inr ⟨b, off, rfl, Nat.lt_of_lt_of_le hlt hg.size, fun i hi => ?_⟩
    have e : ∀ o, w'.cell? ⟨b, o, none⟩ = w.cell? ⟨b, o, none⟩ := fun o => hg.cell_far _ hlt hne
    simp only [Row7, e]
    exact hc i hi

set_option maxRecDepth 100000 in
set_option maxHeartbeats 4000000 in
theorem edges_any (A B : Option Addr) (c d n2 : Nat) (l : List SpanL) (w : World) (hl : Spans w A l) (hln : l.length ≤ 10000) : Calls Tryd.prog 7 #[setV A l.length c B n2 d] w (EdgePost w (edgesL l)) := by
  have hM : maxLen = 9223372036854775807 := rfl
  have HL := hid hl
  clear hl
  generalize hn : l.length = n at *
  have HN := hid hn
  clear hn
  go_enter Tryd.func7, Tryd.ntmps7
  go_wp2_with fail
  refine wp_name ?_
  intro w0 hw0
  have HBW : Hid (Below w.heap.size w w0) := hid (by rw [hw0]; exact below_tr (below_new _ _) (below_new _ _))
  have HX : Hid (Box w0 w.heap.size [Value.slice A n c, .slice B n2 d]) := hid (by rw [hw0]; exact (Box.new w [Value.slice A n c, .slice B n2 d] 25).below (below_new _ _))
  have HO : Hid (OwnR w0 (w.heap.size + 1) (.slice (some ⟨w.heap.size + 1, 0, none⟩) 1 1) [zeroV]) := hid (by
    rw [hw0]
    have := OwnR.lit (w.alloc (.cells [Value.slice A n c, .slice B n2 d].toArray 25)) zeroV
    rw [World.size_alloc] at this
    exact this)
  have HZ : Hid (w.heap.size + 1 ≤ w0.heap.size) := hid (by rw [hw0]; simp)
  clear hw0
  go_loopw [6, 3, 4] (fun _ o i wr => ∃ (k : Nat) (v : Value), i = .int .i64 k ∧ v = o ∧ k ≤ n ∧ Hid (OwnR wr (w.heap.size + 1) v (edgesTo l k)) ∧ Hid (Below (w.heap.size + 1) w0 wr) ∧ Hid (w0.heap.size ≤ wr.heap.size)) (fun _ _ i _ => n - (intOf i).toNat)
  case atStart => exact ⟨0, _, rfl, rfl, Nat.zero_le _, HO.out, Below.refl _ _, Nat.le_refl _⟩
  case round =>
    obtain ⟨k, v, rfl, rfl, hk, HOR, HBR, HSZ⟩ := hrel
    have HXr := hid (HX.out.belowB (by omega) HBR.out HSZ.out)
    have HWR := hid (HBW.out.trans (HBR.out.mono (Nat.le_succ _)))
    have HLr := hid (HL.out.below HWR.out)
    obtain ⟨u0, u1⟩ := HXr.out.get2
    by_cases hlt : k < n
    · have hlt' : k < l.length := by rw [HN.out]; exact hlt
      have HTWO := hid (midE_two hlt')
      have HSUC := hid (fun j (h : j < 2) => midE_succ l k h)
      have HLEN := hid (fun j (h : j ≤ 2) => midE_len (l := l) (k := k) (by omega) h)
      rw [← midE_zero] at HOR
      obtain ⟨b, off, rfl, hbl, ⟨x0, x1, x2, x3, x4, x5, x6⟩, z0, z1, z2, z3, z4, z5, z6⟩ := HLr.out.at_ (k := k) hlt'
      have i0 : (0 : Int) ≤ (k : Int) := by omega
      have i1 : (k : Int) < (n : Int) := by omega
      have HCX := hid (fun w' (h : Below wr.heap.size wr w') => And.intro ((HLr.out.below h).at_ (k := k) hlt') (HXr.out.below h).get2)
      generalize nth l k = s at *
      obtain ⟨cf, ct⟩ := s
      have HSB : Hid (∀ w', Below wr.heap.size wr w' → w'.cell? ⟨b, off + k * 14, none⟩ = some (.int .i64 cf.en) ∧ w'.cell? ⟨b, off + k * 14 + 1, none⟩ = some (.int .i64 cf.v.maj) ∧ w'.cell? ⟨b, off + k * 14 + 2, none⟩ = some (.int .i64 cf.v.min) ∧ w'.cell? ⟨b, off + k * 14 + 3, none⟩ = some (.int .i64 cf.v.pat) ∧ w'.cell? ⟨b, off + k * 14 + 4, none⟩ = some (.string cf.v.pre) ∧ w'.cell? ⟨b, off + k * 14 + 5, none⟩ = some (.string cf.v.bld) ∧ w'.cell? ⟨b, off + k * 14 + 6, none⟩ = some (.bool cf.aft) ∧ w'.cell? ⟨b, off + k * 14 + 7, none⟩ = some (.int .i64 ct.en) ∧ w'.cell? ⟨b, off + k * 14 + 7 + 1, none⟩ = some (.int .i64 ct.v.maj) ∧ w'.cell? ⟨b, off + k * 14 + 7 + 2, none⟩ = some (.int .i64 ct.v.min) ∧ w'.cell? ⟨b, off + k * 14 + 7 + 3, none⟩ = some (.int .i64 ct.v.pat) ∧ w'.cell? ⟨b, off + k * 14 + 7 + 4, none⟩ = some (.string ct.v.pre) ∧ w'.cell? ⟨b, off + k * 14 + 7 + 5, none⟩ = some (.string ct.v.bld) ∧ w'.cell? ⟨b, off + k * 14 + 7 + 6, none⟩ = some (.bool ct.aft) ∧ w'.cell? ⟨w.heap.size, 0, none⟩ = some (.slice (some ⟨b, off, none⟩) n c)) := hid (fun w' h => by
        obtain ⟨⟨b', off', e, _, ⟨a0, a1, a2, a3, a4, a5, a6⟩, c0, c1, c2, c3, c4, c5, c6⟩, d0, _⟩ := HCX.out w' h
        injection e with e
        injection e with e1 e2
        subst e1 e2
        exact ⟨a0, a1, a2, a3, a4, a5, a6, c0, c1, c2, c3, c4, c5, c6, d0⟩)
      clear HCX x0 x1 x2 x3 x4 x5 x6 z0 z1 z2 z3 z4 z5 z6
      go_wp2_with fail
      go_region_held3 (fun w' => w'.cell? ⟨b, off + k * 14, none⟩ = some (.int .i64 cf.en) ∧ w'.cell? ⟨b, off + k * 14 + 1, none⟩ = some (.int .i64 cf.v.maj) ∧ w'.cell? ⟨b, off + k * 14 + 2, none⟩ = some (.int .i64 cf.v.min) ∧ w'.cell? ⟨b, off + k * 14 + 3, none⟩ = some (.int .i64 cf.v.pat) ∧ w'.cell? ⟨b, off + k * 14 + 4, none⟩ = some (.string cf.v.pre) ∧ w'.cell? ⟨b, off + k * 14 + 5, none⟩ = some (.string cf.v.bld) ∧ w'.cell? ⟨b, off + k * 14 + 6, none⟩ = some (.bool cf.aft) ∧ w'.cell? ⟨b, off + k * 14 + 7, none⟩ = some (.int .i64 ct.en) ∧ w'.cell? ⟨b, off + k * 14 + 7 + 1, none⟩ = some (.int .i64 ct.v.maj) ∧ w'.cell? ⟨b, off + k * 14 + 7 + 2, none⟩ = some (.int .i64 ct.v.min) ∧ w'.cell? ⟨b, off + k * 14 + 7 + 3, none⟩ = some (.int .i64 ct.v.pat) ∧ w'.cell? ⟨b, off + k * 14 + 7 + 4, none⟩ = some (.string ct.v.pre) ∧ w'.cell? ⟨b, off + k * 14 + 7 + 5, none⟩ = some (.string ct.v.bld) ∧ w'.cell? ⟨b, off + k * 14 + 7 + 6, none⟩ = some (.bool ct.aft) ∧ w'.cell? ⟨w.heap.size, 0, none⟩ = some (.slice (some ⟨b, off, none⟩) n c))
        (exact HSB.out _ (by with_reducible (first | assumption | exact (Below.refl _ _).drew | exact below_alloc (by assumption) _ | exact below_alloc (Below.refl _ _).drew _ | exact (below_alloc (Below.refl _ _) _).drew | exact below_alloc (Below.refl _ _) _)))
        (fail)
      refine pname ?_
      intro wi hwi
      have HBI : Hid (Below wr.heap.size wr wi) := hid (by rw [hwi]; exact below_alloc (Below.refl _ _).drew _)
      have HCU : Hid (CutsAt wi (some ⟨wr.heap.size, 0, none⟩) [cf, ct]) := hid (by
        rw [hwi]
        have h1 := World.ownsRow_lit (base := wr.drew.heap.size) (e := 47) (size := 7) wr.drew (cellsK [cf, ct]).toArray 2 (Nat.le_refl _) (by decide) (by simp [cellsK])
        obtain ⟨A', cap', e', _, h'⟩ := CutsAt.own (l := [cf, ct]) (by simpa using h1) (by simp)
        injection e' with e1
        rw [← e1] at h'
        exact h')
      have HOI := hid (HOR.out.below HBI.out)
      have HGI := hid HBI.out.size
      clear hwi HSB
      have HNB := hid (fun q (hq : v.ownBlock = some q) => (own_bound HOR.out q hq).2)
      generalize hgp : wr.heap.size = gp at *
      clear hgp
      have hg2 : w.heap.size + 1 ≤ gp := by have := HZ.out; have := HSZ.out; omega
      have HWI := hid (HBR.out.trans (HBI.out.mono hg2))
      have HZI := hid (show w0.heap.size ≤ wi.heap.size by have := HSZ.out; have := HGI.out; omega)
      go_wp2_with fail
      go_loopw [6, 3, 30] (fun _ o i wq => ∃ (j : Nat) (v' : Value), i = .int .i64 j ∧ v' = o ∧ j ≤ 2 ∧ Hid (OwnR wq (w.heap.size + 1) v' (midE l k j)) ∧ Hid (∀ q, v'.ownBlock = some q → q ≠ gp) ∧ Hid (Below (w.heap.size + 1) w0 wq) ∧ Hid (wi.heap.size ≤ wq.heap.size) ∧ Hid (CutsAt wq (some ⟨gp, 0, none⟩) [cf, ct])) (fun _ _ i _ => 2 - (intOf i).toNat)
      case atStart => exact ⟨0, _, rfl, rfl, by omega, HOI, fun q hq => by have := HNB.out q hq; omega, HWI, Nat.le_refl _, HCU⟩
      case round =>
        obtain ⟨j, v2, rfl, rfl, hj, HO2, HK2, HW2, HZ2, HC2⟩ := hrel
        have j0 : (0 : Int) ≤ (j : Int) := by omega
        by_cases hj2 : j < 2
        · have j1 : (j : Int) < (2 : Int) := by omega
          have HS2 := hid (HSUC.out j hj2)
          have HLN := hid (HLEN.out j hj)
          obtain ⟨hgq, x0, x1, x2, x3, x4, x5, x6⟩ := HC2.out.lay (k := j) (by simpa using hj2)
          generalize hsc : nthC [cf, ct] j = cc at *
          simp only [Nat.zero_add] at x0 x1 x2 x3 x4 x5 x6
          have hes : nthC (pairC ⟨cf, ct⟩) j = cc := hsc
          rw [hes] at HS2
          clear hsc hes
          have hzq := hid HZ2.out
          cases he : decide ((cc.en : Int) = 0)
          · have he' : ¬ (cc.en : Int) = 0 := by simpa using he
            have HT := hid (show cutV cc = [] from if_neg (by omega))
            rw [HT.out, List.append_nil] at HS2
            rw [← HS2.out] at HO2
            go_wp2_with fail
            go_roundw
            case rel => exact ⟨j + 1, v2, by go_num, rfl, by omega, HO2.out.below (below_new _ _), HK2.out, HW2.out.alloc (Nat.le_trans (by have := HZ.out; omega) (Nat.le_trans HZI.out hzq.out)) _, Nat.le_trans hzq.out (by simp), HC2.out.below (below_new _ _)⟩
            case measure => simp [intOf]; omega
          · have he' : (cc.en : Int) = 0 := by simpa using he
            have HT := hid (show cutV cc = [cc.v] from if_pos (by omega))
            clear he'
            obtain ⟨een, ccv, cca⟩ := cc
            obtain rfl : een = 0 := by simpa using he
            clear he
            dsimp only at *
            rw [HT.out] at HS2
            have HO3 := hid (HO2.out.below (below_new wr (.cells (CutL.cells ⟨0, ccv, cca⟩).toArray 47)))
            have HA3 := hid (HW2.out.trans ((below_new wr (.cells (CutL.cells ⟨0, ccv, cca⟩).toArray 47)).mono (Nat.le_trans (by have := HZ.out; omega) (Nat.le_trans HZI.out hzq.out))))
            have HC3 := hid (HC2.out.below (below_new wr (.cells (CutL.cells ⟨0, ccv, cca⟩).toArray 47)))
            have hsz3 : w.heap.size + 1 ≤ (wr.alloc (.cells (CutL.cells ⟨0, ccv, cca⟩).toArray 47)).heap.size := Nat.le_trans (Nat.le_trans (by have := HZ.out; omega) (Nat.le_trans HZI.out hzq.out)) (below_new wr (.cells (CutL.cells ⟨0, ccv, cca⟩).toArray 47)).size
            go_wp2_with (first | (at_builtin; go_loud (refine wpList_app1y EKvers rfl (.tmp 37) (.tmp 40) rfl ccv.cells HO3.out rfl (by rw [World.size_alloc]; rfl) rfl (oneR1 _) (by have := HLN.out; omega) (by have := HLN.out; omega) hsz3 ?_; intro v' w' h2 h3 h4 h5)))
            go_roundw
            case rel => exact ⟨j + 1, v', by go_num, rfl, by omega, (by rw [HS2.out]; exact OwnR.app h2), (fun q hq => (h5 q hq).elim (HK2.out q) (fun h => by rw [World.size_alloc] at h; omega)), HA3.out.trans h3, Nat.le_trans hzq.out (Nat.le_trans (below_new wr (.cells (CutL.cells ⟨0, ccv, cca⟩).toArray 47)).size h4.size), HC3.out.grown h4 (fun e => HK2.out gp e.symm rfl)⟩
            case measure => simp [intOf]; omega
        · have j1 : ¬ (j : Int) < (2 : Int) := by omega
          have ej : j = 2 := by omega
          subst ej
          rw [HTWO.out] at HO2
          have HQ := hid (⟨k + 1, v2, by go_num, rfl, by omega, HO2, HW2, by have := HZI.out; have := HZ2.out; exact hid (by omega)⟩ : ∃ (k1 : Nat) (v : Value), Value.int .i64 ((k : Int) + 1) = .int .i64 k1 ∧ v = v2 ∧ k1 ≤ n ∧ Hid (OwnR wr (w.heap.size + 1) v (edgesTo l k1)) ∧ Hid (Below (w.heap.size + 1) w0 wr) ∧ Hid (w0.heap.size ≤ wr.heap.size))
          go_wp2_with fail
          go_roundw
          case rel => exact HQ.out
          case measure => simp [intOf]; omega
    · have i1 : ¬ (k : Int) < (n : Int) := by omega
      have ek : k = n := by omega
      subst ek
      have HQ := hid (by rw [← HN.out, edgesTo_all] at HOR; exact HOR.out : OwnR wr (w.heap.size + 1) v (edgesL l))
      have HQ2 := hid (HBW.out.trans (HBR.out.mono (Nat.le_succ _)))
      go_wp2_with fail
      go_ret
      exact ⟨v, rfl, HQ.out.low (Nat.le_succ _), HQ2.out⟩
theorem edgesL_len {l : List SpanL} {k : Nat} (h : l.length ≤ k) : (edgesL l).length ≤ 1 + 2 * k := by
  have := edgesTo_len (l := l) (k := l.length) (Nat.le_refl _)
  rw [edgesTo_all] at this
  omega
theorem edges_fit1 {l : List SpanL} (h : fitL l) : ∀ v ∈ edgesL l, v.fit := by
  intro v hv
  rw [edgesL, List.mem_cons, List.mem_flatMap] at hv
  rcases hv with rfl | ⟨s, hs, hv⟩
  · exact ⟨Nat.zero_le _, Nat.zero_le _⟩
  · obtain ⟨i, hi, rfl⟩ := List.getElem_of_mem hs
    have hf := h i hi
    rw [nth_lt hi] at hf
    have hc : ∀ c : CutL, v ∈ cutV c → v = c.v := fun c => by unfold cutV; split <;> simp_all
    rw [edgesS, List.mem_append] at hv
    rcases hv with hv | hv
    · rw [hc _ hv]; exact hf.1
    · rw [hc _ hv]; exact hf.2
theorem edges_fit {l m : List SpanL} (h : fitL l) (k : fitL m) : ∀ v ∈ edgesL l ++ edgesL m, v.fit := by
  intro v hv
  rcases List.mem_append.1 hv with hv | hv
  · exact edges_fit1 h v hv
  · exact edges_fit1 k v hv
end Go.Proofs.YtmnjnoggchgnjaaDoor
