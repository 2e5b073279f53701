import Derived.Test.YtplmlahpmnjneaaGreatDoorMDl
import Derived.Test.YtplmlahpmnjneaaGreatDoorMDk
namespace Go.Proofs.YtplmlahpmnjneaaGreatDoor
open Go.RowKit Go.Lib
open Rw
set_option linter.unusedVariables false
set_option linter.unusedSimpArgs false
theorem take_turn {α : Type} (l : List α) (k : Nat) (hk : k < l.length) : l.reverse.take (l.length - (k + 1)) ++ [l[k]] = l.reverse.take (l.length - k) := by
  have e : l.length - k = (l.length - (k + 1)) + 1 := by omega
  rw [e, List.take_succ_eq_append_getElem (by rw [List.length_reverse]; omega)]
  congr 2
  rw [List.getElem_reverse]
  congr 1
  omega
theorem turnG_take (r : List (List CompL)) (k : Nat) (hk : k < r.length) : (turnG r).take (r.length - (k + 1)) ++ [r[k].reverse] = (turnG r).take (r.length - k) := by
  have h := take_turn (r.map List.reverse) k (by rw [List.length_map]; exact hk)
  simp only [List.getElem_map, List.length_map] at h
  exact h
structure OW (w : World) (B g5 : Nat) (v : Value) (r : List (List CompL)) (u : World) : Prop where
  below : Below w.heap.size w u
  o5 : Own w.heap.size u g5 [v]
  heads : HeadsAt u B v r
  lo5 : g5 < B
  size : B ≤ u.heap.size
theorem OW.on {w u u' : World} {B g5 : Nat} {v : Value} {r : List (List CompL)} (h : OW w B g5 v r u) (hb : Below u.heap.size u u') : OW w B g5 v r u' :=
  ⟨below_tr h.below hb, h.o5.below hb, h.heads.below hb, h.lo5, Nat.le_trans h.size hb.size⟩
theorem OW.next {w u w' : World} {B g5 : Nat} {v v' : Value} {r : List (List CompL)} {a : List CompL} {Aa : Option Addr} {ca : Nat} {hs : List Value} (h : OW w B g5 v r u) (h1 : hs.length = r.length)
    (h3 : ∀ i (h : i < r.length), ∃ Ai ci, hs[i]? = some (.slice Ai r[i].length ci) ∧ Comps u Ai r[i] ∧ (r[i] ≠ [] → ∀ ad, Ai = some ad → B ≤ ad.block ∧ v.ownBlock ≠ some ad.block))
    (h2 : w'.ownsRow B 49 1 v' (r.length + 1) (hs ++ [.slice Aa a.length ca])) (hb : Below B u w') (hg : u.grownBy w' v.ownBlock) (hv : ∀ k, v'.ownBlock = some k → v.ownBlock = some k ∨ u.heap.size ≤ k)
    (ha : Comps u Aa a) (hab : a ≠ [] → ∀ ad, Aa = some ad → B ≤ ad.block ∧ v.ownBlock ≠ some ad.block) (hwB : w.heap.size ≤ B) : OW w B g5 v' (r ++ [a]) (w'.setCell ⟨g5, 0, none⟩ v') := by
  have o5 := (h.o5.kbB h.lo5 hb.kb)
  refine ⟨below_put (h.below.trans (hb.mono hwB)) o5.low v', ?_, (HeadsAt.snoc h1 h3 h2 hg hv ha hab).put h.lo5 v', h.lo5, ?_⟩
  · have := o5.put (j := 0) (by simp) v'
    simpa using this
  · rw [World.size_setCell]; exact Nat.le_trans h.size hb.size
end Go.Proofs.YtplmlahpmnjneaaGreatDoor
