import Derived.Test.YtplmlahpmnjneaaGreatDoorNDj
namespace Go.Proofs.YtplmlahpmnjneaaGreatDoor
open Go.RowKit Go.Lib
open Rw
set_option linter.unusedVariables false
set_option linter.unusedSimpArgs false
theorem HeadsAt.cap {w : World} {base : Nat} {v : Value} {r : List (List CompL)} (h : HeadsAt w base v r) : ∃ A c, v = .slice A r.length c ∧ Alts w A r ∧ r.length ≤ c := by
  obtain ⟨A, c, hv, hal⟩ := h.alts
  obtain ⟨hs, h1, h2, h3⟩ := h
  refine ⟨A, c, hv, hal, ?_⟩
  rcases h2.2 with ⟨-, h0⟩ | ⟨g, cap, cur, hv2, hg, hh, hle, -⟩
  · rw [h0]; exact Nat.zero_le _
  · rw [hv] at hv2
    injection hv2 with e1 e2 e3
    rw [e3]; exact hle
structure RW (w : World) (B g4 g5 : Nat) (v : Value) (r : List (List CompL)) (u : World) : Prop where
  below : Below w.heap.size w u
  o4 : Own w.heap.size u g4 [.slice none 0 0]
  o5 : Own w.heap.size u g5 [v]
  heads : HeadsAt u B v r
  lo4 : g4 < B
  lo5 : g5 < B
  ne : g4 ≠ g5
  size : B ≤ u.heap.size
theorem RW.next {w u w' : World} {B g4 g5 : Nat} {v v' : Value} {r : List (List CompL)} {a : List CompL} {Aa : Option Addr} {ca : Nat} {hs : List Value} (h : RW w B g4 g5 v r u) (h1 : hs.length = r.length)
    (h3 : ∀ i (h : i < r.length), ∃ Ai ci, hs[i]? = some (.slice Ai r[i].length ci) ∧ Comps u Ai r[i] ∧ (r[i] ≠ [] → ∀ ad, Ai = some ad → B ≤ ad.block ∧ v.ownBlock ≠ some ad.block))
    (h2 : w'.ownsRow B 49 1 v' (r.length + 1) (hs ++ [.slice Aa a.length ca])) (hb : Below B u w') (hg : u.grownBy w' v.ownBlock) (hv : ∀ k, v'.ownBlock = some k → v.ownBlock = some k ∨ u.heap.size ≤ k)
    (ha : Comps u Aa a) (hab : a ≠ [] → ∀ ad, Aa = some ad → B ≤ ad.block ∧ v.ownBlock ≠ some ad.block) (hwB : w.heap.size ≤ B) : RW w B g4 g5 v' (r ++ [a]) (w'.setCell ⟨g5, 0, none⟩ v') := by
  have o5 := (h.o5.kbB h.lo5 hb.kb)
  refine ⟨below_put (h.below.trans (hb.mono hwB)) o5.low v', (h.o4.kbB h.lo4 hb.kb).other h.ne v', ?_, (HeadsAt.snoc h1 h3 h2 hg hv ha hab).put h.lo5 v', h.lo4, h.lo5, h.ne, ?_⟩
  · have := o5.put (j := 0) (by simp) v'
    simpa using this
  · rw [World.size_setCell]; exact Nat.le_trans h.size hb.size
def AltsOk (r : List (List CompL)) : Prop := ∀ a ∈ r, (∀ c ∈ a, CompL.fit c) ∧ a.length ≤ 3
theorem AltsOk.snoc {r : List (List CompL)} {a : List CompL} (h : AltsOk r) (h1 : ∀ c ∈ a, CompL.fit c) (h2 : a.length ≤ 3) : AltsOk (r ++ [a]) := fun x hx => by
  rcases List.mem_append.1 hx with k | k
  · exact h x k
  · rw [List.mem_singleton.1 k]; exact ⟨h1, h2⟩
end Go.Proofs.YtplmlahpmnjneaaGreatDoor
