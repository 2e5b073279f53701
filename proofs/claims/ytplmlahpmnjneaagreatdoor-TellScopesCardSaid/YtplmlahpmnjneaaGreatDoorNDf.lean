import Derived.Test.YtplmlahpmnjneaaGreatDoorNDe
import Derived.Test.YtplmlahpmnjneaaGreatDoorNCi
import Derived.Test.YtplmlahpmnjneaaGreatDoorNSetM
namespace Go.Proofs.YtplmlahpmnjneaaGreatDoor
open Go.RowKit Go.Lib
open Rw
set_option linter.unusedVariables false
set_option linter.unusedSimpArgs false
theorem altsP_count : ∀ (l cur : List UInt8), (altsP cur l).length ≤ l.length + 1
  | [], cur => by simp [altsP]
  | [a], cur => by simp [altsP]
  | a :: b :: r, cur => by
    unfold altsP
    split
    · have := altsP_count r []
      simp only [List.length_cons]; omega
    · have := altsP_count (b :: r) (cur ++ [a])
      simp only [List.length_cons] at this ⊢; omega
theorem Own.kbB {B B0 : Nat} {w w' : World} {g : Nat} {cs : List Value} (h : Own B0 w g cs) (hg : g < B) (hb : KB B w w') : Own B0 w' g cs :=
  ⟨⟨Nat.lt_of_lt_of_le h.box.1 hb.size, fun j u hj => (Go.RowKit.Below.cell hb (p := ⟨g, j, none⟩) hg).trans (h.box.2 j u hj)⟩, fun j => (Go.RowKit.Below.frozen hb (p := ⟨g, j, none⟩) hg).trans (h.soft j), h.low⟩
theorem Held.kbB {B : Nat} {w w' : World} {g : Nat} {ls : List (List UInt8)} (h : Held w g ls) (hg : g < B) (hb : KB B w w') : Held w' g ls :=
  ⟨Nat.lt_of_lt_of_le h.1 hb.size, fun j hj => (Go.RowKit.Below.cell hb (p := ⟨g, j, none⟩) hg).trans (h.2 j hj)⟩
theorem held_put {w : World} {g k j : Nat} {ls : List (List UInt8)} (h : Held w g ls) (hg : g ≠ k) (x : Value) : Held (w.setCell ⟨k, j, none⟩ x) g ls :=
  ⟨by rw [World.size_setCell]; exact h.1, fun q hq => (put_cell hg x).trans (h.2 q hq)⟩
theorem kb_put {w w1 : World} (h : KB w.heap.size w w1) {k j : Nat} (hk : w.heap.size ≤ k) (v : Value) : KB w.heap.size w (w1.setCell ⟨k, j, none⟩ v) := Go.RowKit.Below.setCell h (p := ⟨k, j, none⟩) hk v
theorem PW.next {w u w' : World} {B g2 g4 gp : Nat} {xs : List (List UInt8)} {v v' : Value} {r : List (List CompL)} {a : List CompL} {Aa : Option Addr} {ca : Nat} {hs : List Value} (h : PW w B g2 g4 gp xs v r u) (h1 : hs.length = r.length)
    (h3 : ∀ i (h : i < r.length), ∃ Ai ci, hs[i]? = some (.slice Ai r[i].length ci) ∧ Comps u Ai r[i] ∧ (r[i] ≠ [] → ∀ ad, Ai = some ad → B ≤ ad.block ∧ v.ownBlock ≠ some ad.block))
    (h2 : w'.ownsRow B 49 1 v' (r.length + 1) (hs ++ [.slice Aa a.length ca])) (hb : KB B u w') (hg : u.grownBy w' v.ownBlock) (hv : ∀ k, v'.ownBlock = some k → v.ownBlock = some k ∨ u.heap.size ≤ k)
    (ha : Comps u Aa a) (hab : a ≠ [] → ∀ ad, Aa = some ad → B ≤ ad.block ∧ v.ownBlock ≠ some ad.block) (hwB : w.heap.size ≤ B) : PW w B g2 g4 gp xs v' (r ++ [a]) (w'.setCell ⟨g4, 0, none⟩ v') := by
  have o4 := (h.o4.kbB h.lo4 hb)
  refine ⟨kb_put (Go.RowKit.Below.trans h.below (Go.RowKit.Below.mono hb hwB)) o4.low v', (h.o2.kbB h.lo2 hb).other h.ne v', ?_, held_put (h.held.kbB h.lop hb) h.nep v', (HeadsAt.snoc h1 h3 h2 hg hv ha hab).put h.lo4 v', h.lo2, h.lo4, h.lop, h.ne, h.nep, ?_⟩
  · have := o4.put (j := 0) (by simp) v'
    simpa using this
  · rw [World.size_setCell]; exact Nat.le_trans h.size hb.size
end Go.Proofs.YtplmlahpmnjneaaGreatDoor
