import Derived.Test.YtplmlahpmnjneaaGreatDoorNBd
import Derived.Deep.RegionHeld3
import Derived.IntWalk
namespace Go.Proofs.YtplmlahpmnjneaaGreatDoor
open Go.RowKit Go.Lib
set_option linter.unusedVariables false
set_option linter.unusedSimpArgs false
instance : Inhabited CutL := ⟨firstC⟩
def nthC (l : List CutL) (i : Nat) : CutL := l.getD i default
theorem nthC_lt {l : List CutL} {i : Nat} (h : i < l.length) : nthC l i = l[i] := by simp [nthC, h]
def cellsK (l : List CutL) : List Value := l.flatMap fun s => s.cells
theorem cellsK_len (l : List CutL) : (cellsK l).length = l.length * 7 := by
  induction l with
  | nil => rfl
  | cons s l ih => simp only [cellsK, List.flatMap_cons, List.length_append] at ih ⊢; rw [ih]; simp only [List.length_cons, List.length_nil]; omega
theorem cellsK_get : ∀ (l : List CutL) (i j : Nat), i < l.length → j < 7 → (cellsK l)[i * 7 + j]? = (nthC l i).cells[j]?
  | [], i, j, h, _ => by simp at h
  | s :: l, 0, j, _, hj => by
    rw [cellsK, List.flatMap_cons, List.getElem?_append_left (by simp; omega)]
    simp [nthC]
  | s :: l, i + 1, j, h, hj => by
    have ih := cellsK_get l i j (by simpa using h) hj
    rw [cellsK, List.flatMap_cons, List.getElem?_append_right (by simp; omega)]
    have e : (i + 1) * 7 + j - s.cells.length = i * 7 + j := by simp; omega
    rw [e]
    exact ih.trans (by simp [nthC])
theorem Tryz.info98 : (Tryz.prog.info? 98).map (fun i => (i.zero, i.size, i.bytes)) = some (some (CutL.val ⟨0, zeroV, false⟩), 7, 72) := by kernel_rfl
theorem row7_get {w : World} {b o j : Nat} {c : CutL} {u : Value} (h : Row7 w b o c) (hj : c.cells[j]? = some u) : w.cell? ⟨b, o + j, none⟩ = some u := by
  obtain ⟨h0, h1, h2, h3, h4, h5, h6⟩ := h
  match j, hj with
  | 0, hj => rw [← hj]; exact h0
  | 1, hj => rw [← hj]; exact h1
  | 2, hj => rw [← hj]; exact h2
  | 3, hj => rw [← hj]; exact h3
  | 4, hj => rw [← hj]; exact h4
  | 5, hj => rw [← hj]; exact h5
  | 6, hj => rw [← hj]; exact h6
  | _ + 7, hj => simp at hj
def CutsAt (w : World) (A : Option Addr) (l : List CutL) : Prop :=
  l = [] ∨ ∃ b off, A = some ⟨b, off, none⟩ ∧ b < w.heap.size ∧ ∀ i, i < l.length → Row7 w b (off + i * 7) (nthC l i)
theorem CutsAt.below {w w' : World} {A : Option Addr} {l : List CutL} (h : CutsAt w A l) (hb : Below w.heap.size w w') : CutsAt w' A l := by
  rcases h with h | ⟨b, off, rfl, hlt, hc⟩
  · exact .inl h
  · exact .inr ⟨b, off, rfl, Nat.lt_of_lt_of_le hlt hb.size, fun i hi => (hc i hi).below hlt hb⟩
theorem CutsAt.at_ {w : World} {A : Option Addr} {l : List CutL} {k : Nat} (h : CutsAt w A l) (hk : k < l.length) :
    ∃ b off, A = some ⟨b, off, none⟩ ∧ b < w.heap.size ∧ Row7 w b (off + k * 7) (nthC l k) := by
  rcases h with h | ⟨b, off, rfl, hlt, hc⟩
  · subst h; simp at hk
  · exact ⟨b, off, rfl, hlt, hc k hk⟩
theorem CutsAt.lay {w : World} {b off : Nat} {l : List CutL} {k : Nat} (h : CutsAt w (some ⟨b, off, none⟩) l) (hk : k < l.length) : b < w.heap.size ∧ Row7 w b (off + k * 7) (nthC l k) := by
  obtain ⟨b', off', e, h1, h2⟩ := h.at_ hk
  injection e with e
  injection e with e1 e2 e3
  subst e1; subst e2
  exact ⟨h1, h2⟩
theorem CutsAt.own {w : World} {base : Nat} {v : Value} {l : List CutL} (h : w.ownsRow base 98 7 v l.length (cellsK l)) (h0 : l ≠ []) : ∃ A cap, v = .slice A l.length cap ∧ l.length ≤ cap ∧ CutsAt w A l := by
  have hpos : 0 < l.length := List.length_pos_iff.2 h0
  obtain ⟨g, cap, rfl, hg, hlt, hle, hc⟩ := own_form h hpos
  refine ⟨_, cap, rfl, hle, .inr ⟨g, 0, rfl, hlt, fun i hi => ?_⟩⟩
  have e : ∀ j u, j < 7 → (nthC l i).cells[j]? = some u → w.cell? ⟨g, 0 + i * 7 + j, none⟩ = some u := fun j u hj hu => by
    rw [Nat.zero_add, hc _ (by omega), cellsK_get l i j hi hj]; exact hu
  exact ⟨e 0 _ (by omega) rfl, e 1 _ (by omega) rfl, e 2 _ (by omega) rfl, e 3 _ (by omega) rfl, e 4 _ (by omega) rfl, e 5 _ (by omega) rfl, e 6 _ (by omega) rfl⟩
theorem CutsAt.src {w : World} {b off : Nat} {l : List CutL} {k m : Nat} (h : CutsAt w (some ⟨b, off, none⟩) l) (hkm : k + m ≤ l.length) : SrcOf w (some ⟨b, off + k * 7, none⟩) m 7 (cellsK ((l.drop k).take m)) := by
  have hlen : ((l.drop k).take m).length = m := by rw [List.length_take, List.length_drop]; omega
  refine ⟨by rw [cellsK_len, hlen], (fun e => by cases e), fun ad e j u hj => ?_⟩
  injection e with e; subst e
  have hj7 : j < m * 7 := by
    rcases Nat.lt_or_ge j (m * 7) with h' | h'
    · exact h'
    · rw [List.getElem?_eq_none (by rw [cellsK_len, hlen]; exact h')] at hj; cases hj
  have ej : j / 7 * 7 + j % 7 = j := by omega
  have hi : j / 7 < m := by omega
  rw [← ej, cellsK_get _ _ _ (by omega) (Nat.mod_lt _ (by omega))] at hj
  have en : nthC ((l.drop k).take m) (j / 7) = nthC l (k + j / 7) := by simp [nthC, hi]
  rw [en] at hj
  have := row7_get (h.lay (k := k + j / 7) (by omega)).2 hj
  have e2 : off + (k + j / 7) * 7 + j % 7 = off + k * 7 + j := by omega
  rw [e2] at this
  unfold Addr.add
  split <;> simp_all
def putL : List CutL → CutL → List CutL
  | [], c => [c]
  | x :: l, c => if cmpC x c < 0 then x :: putL l c else if cmpC x c = 0 then x :: l else c :: x :: l
def fitK (l : List CutL) : Prop := ∀ i, i < l.length → (nthC l i).fit
theorem below_alloc {w w' : World} (h : Below w.heap.size w w') (o : Obj) : Below w.heap.size w (w'.alloc o) := h.alloc h.size o
theorem addr_add (b o j : Nat) : (Addr.mk b o none).add j = ⟨b, o + j, none⟩ := by
  unfold Addr.add
  split <;> simp_all
end Go.Proofs.YtplmlahpmnjneaaGreatDoor
namespace Go.Proofs.YtplmlahpmnjneaaGreatDoor
open Go.RowKit Go.Lib
set_option linter.unusedVariables false
set_option linter.unusedSimpArgs false
theorem putL_mem : ∀ (l : List CutL) (c x : CutL), x ∈ putL l c → x = c ∨ x ∈ l
  | [], c, x, h => by simp [putL] at h; exact .inl h
  | y :: l, c, x, h => by
    unfold putL at h
    split at h
    · rcases List.mem_cons.1 h with rfl | h
      · exact .inr (List.mem_cons_self ..)
      · rcases putL_mem l c x h with rfl | h
        · exact .inl rfl
        · exact .inr (List.mem_cons_of_mem _ h)
    · split at h
      · exact .inr h
      · rcases List.mem_cons.1 h with rfl | h
        · exact .inl rfl
        · exact .inr h
theorem putL_len : ∀ (l : List CutL) (c : CutL), l.length ≤ (putL l c).length ∧ (putL l c).length ≤ l.length + 1 ∧ 0 < (putL l c).length
  | [], c => by simp [putL]
  | y :: l, c => by
    have ih := putL_len l c
    unfold putL
    split
    · simp only [List.length_cons]; omega
    · split <;> simp only [List.length_cons] <;> omega
def allFit (l : List CutL) : Prop := ∀ c, c ∈ l → c.fit
theorem allFit.at_ {l : List CutL} (h : allFit l) : fitK l := fun i hi => by rw [nthC_lt hi]; exact h _ (List.getElem_mem _)
theorem allFit.put {l : List CutL} {c : CutL} (h : allFit l) (hc : c.fit) : allFit (putL l c) := fun x hx => by
  rcases putL_mem l c x hx with rfl | hx
  · exact hc
  · exact h x hx
def cutStep (o : List CutL) (s : SpanL) : List CutL := putL (putL o s.fr) s.til
def cutsL (l : List SpanL) : List CutL := l.foldl cutStep [firstC, lastC]
def cutsTo (l : List SpanL) (k : Nat) : List CutL := (l.take k).foldl cutStep [firstC, lastC]
theorem cutsTo_succ {l : List SpanL} {k : Nat} (h : k < l.length) : cutsTo l (k + 1) = cutStep (cutsTo l k) (nth l k) := by
  rw [cutsTo, cutsTo, List.take_succ_eq_append_getElem h, List.foldl_append, nth_lt h]; rfl
theorem cutsTo_all (l : List SpanL) : cutsTo l l.length = cutsL l := by rw [cutsTo, List.take_length]; rfl
theorem firstC_fit : firstC.fit := by simp [CutL.fit, Ver.fit, firstC, zeroV]; decide
theorem lastC_fit : lastC.fit := by simp [CutL.fit, Ver.fit, lastC, zeroV]; decide
theorem cutsTo_good {l : List SpanL} (hf : fitL l) : ∀ (k : Nat), k ≤ l.length → allFit (cutsTo l k) ∧ (cutsTo l k).length ≤ 2 + 2 * k ∧ 0 < (cutsTo l k).length
  | 0, _ => by
    refine ⟨fun c hc => ?_, by simp [cutsTo], by simp [cutsTo]⟩
    simp [cutsTo] at hc
    rcases hc with rfl | rfl
    · exact firstC_fit
    · exact lastC_fit
  | k + 1, h => by
    obtain ⟨h1, h2, h3⟩ := cutsTo_good hf k (by omega)
    rw [cutsTo_succ (by omega), cutStep]
    have hk := hf k (by omega)
    have l1 := putL_len (cutsTo l k) (nth l k).fr
    have l2 := putL_len (putL (cutsTo l k) (nth l k).fr) (nth l k).til
    exact ⟨(h1.put hk.1).put hk.2, by omega, by omega⟩
end Go.Proofs.YtplmlahpmnjneaaGreatDoor
namespace Go.Proofs.YtplmlahpmnjneaaGreatDoor
open Go.RowKit Go.Lib
set_option linter.unusedVariables false
set_option linter.unusedSimpArgs false
def growTo (c : List CutL) (p : CutL → CutL → Bool) : Nat → List SpanL
  | 0 => []
  | k + 1 => if p (nthC c k) (nthC c (k + 1)) then growR (growTo c p k) (nthC c k) (nthC c (k + 1)) else growTo c p k
def growAll (c : List CutL) (p : CutL → CutL → Bool) : List SpanL := growTo c p (c.length - 1)
def rmakeL (l : List SpanL) : List SpanL × Bool := if l.all spanMay then (growAll (cutsL l) (inR l), true) else ([], false)
theorem growR_len (l : List SpanL) (f t : CutL) : (growR l f t).length ≤ l.length + 1 := by
  unfold growR
  split
  · split
    · simp
    · simp
  · simp
theorem growTo_len (c : List CutL) (p : CutL → CutL → Bool) : ∀ k, (growTo c p k).length ≤ k
  | 0 => by simp [growTo]
  | k + 1 => by
    have ih := growTo_len c p k
    unfold growTo
    split
    · have := growR_len (growTo c p k) (nthC c k) (nthC c (k + 1)); omega
    · omega
theorem growR_fit {l : List SpanL} {f t : CutL} (hl : ∀ s, s ∈ l → s.fit) (hf : f.fit) (ht : t.fit) : ∀ s, s ∈ growR l f t → s.fit := by
  intro s hs
  rcases List.eq_nil_or_concat l with rfl | ⟨m, q, rfl⟩
  · simp [growR] at hs; subst hs; exact ⟨hf, ht⟩
  · simp only [List.concat_eq_append] at hl hs
    by_cases hc : cmpC q.til f = 0
    · rw [growR_eq hc] at hs
      rcases List.mem_append.1 hs with hs | hs
      · exact hl s (List.mem_append_left _ hs)
      · rw [List.mem_singleton] at hs; subst hs; exact ⟨(hl q (by simp)).1, ht⟩
    · rw [growR_ne hc] at hs
      rcases List.mem_append.1 hs with hs | hs
      · exact hl s hs
      · rw [List.mem_singleton] at hs; subst hs; exact ⟨hf, ht⟩
theorem growTo_fit {c : List CutL} {p : CutL → CutL → Bool} (hc : allFit c) : ∀ k, k < c.length → ∀ s, s ∈ growTo c p k → s.fit
  | 0, _ => by simp [growTo]
  | k + 1, h => by
    have ih := growTo_fit (p := p) hc k (by omega)
    unfold growTo
    split
    · exact growR_fit ih (hc.at_ k (by omega)) (hc.at_ (k + 1) h)
    · exact ih
theorem cutsL_good {l : List SpanL} (hf : fitL l) : allFit (cutsL l) ∧ (cutsL l).length ≤ 2 + 2 * l.length ∧ 0 < (cutsL l).length := by
  rw [← cutsTo_all]; exact cutsTo_good hf _ (Nat.le_refl _)
def RowOk (w : World) (base : Nat) (r : List SpanL × Bool) (e : Ending) (w' : World) : Prop := ∃ v, e = .returned (.tuple #[v, .bool r.2]) ∧ OwnS w' base v r.1 ∧ Below base w w' ∧ w.heap.size ≤ w'.heap.size
theorem OwnS.low {w : World} {base b1 : Nat} {v : Value} {l : List SpanL} (h : OwnS w b1 v l) (hb : base ≤ b1) : OwnS w base v l := by
  obtain ⟨h1, h2⟩ := h
  refine ⟨h1, ?_⟩
  rcases h2 with h2 | ⟨g, cap, cur, hv, hg, r⟩
  · exact .inl h2
  · exact .inr ⟨g, cap, cur, hv, Nat.le_trans hb hg, r⟩
def okTo (l : List SpanL) (k : Nat) : Prop := ∀ j, j < k → spanMay (nth l j) = true
theorem okTo_step {l : List SpanL} {k : Nat} (h : okTo l k) (h1 : spanMay (nth l k) = true) : okTo l (k + 1) := by
  intro j hj
  rcases Nat.lt_or_ge j k with h' | h'
  · exact h j h'
  · obtain rfl : j = k := by omega
    exact h1
theorem okTo_end {l : List SpanL} (h : okTo l l.length) : rmakeL l = (growAll (cutsL l) (inR l), true) := by
  rw [rmakeL, if_pos]
  rw [List.all_eq_true]
  intro s hs
  obtain ⟨i, hi, rfl⟩ := List.getElem_of_mem hs
  have := h i hi
  rwa [nth_lt hi] at this
theorem okTo_no {l : List SpanL} {k : Nat} (hk : k < l.length) (h : spanMay (nth l k) = false) : rmakeL l = ([], false) := by
  rw [rmakeL, if_neg]
  rw [List.all_eq_true]
  intro e
  have := e _ (List.getElem_mem hk)
  rw [nth_lt hk] at h
  rw [h] at this; cases this
end Go.Proofs.YtplmlahpmnjneaaGreatDoor
namespace Go.Proofs.YtplmlahpmnjneaaGreatDoor
open Go.RowKit Go.Lib
set_option linter.unusedVariables false
set_option linter.unusedSimpArgs false
def notIn (l : List SpanL) (f t : CutL) : Bool := !inR l f t
def rnotL (l : List SpanL) : List SpanL := if mayR l then growAll (cutsL l) (notIn l) else []
end Go.Proofs.YtplmlahpmnjneaaGreatDoor
