/- Any two rows as a set, and the functions at them, in one form for the laws; few. -/
import Derived.Test.YtjceaniffooohaaGreatDoorSetS
namespace Go.Proofs.YtjceaniffooohaaGreatDoor
open Go.RowKit Go.Lib
open Rw
set_option linter.unusedVariables false
set_option linter.unusedSimpArgs false

structure SetAg (n : Nat) (w : World) (A : Option Addr) (l : List SpanL) (B : Option Addr) (m : List SpanL) : Prop where
  rel : Spans w A l
  pre : Spans w B m
  frel : fitL l
  fpre : fitL m
  nrel : l.length ≤ n
  npre : m.length ≤ n
theorem SetAg.below {n : Nat} {w w' : World} {A B : Option Addr} {l m : List SpanL} (h : SetAg n w A l B m) (hb : Below w.heap.size w w') : SetAg n w' A l B m := ⟨h.rel.below hb, h.pre.below hb, h.frel, h.fpre, h.nrel, h.npre⟩
theorem SetAg.none (w : World) : SetAg 0 w none [] none [] := ⟨.inl rfl, .inl rfl, fit_nil, fit_nil, Nat.le_refl _, Nat.le_refl _⟩
def SetBg (n : Nat) (w : World) (l m : List SpanL) (e : Ending) (w' : World) : Prop := ∃ A c B d, e = .returned (setV A l.length c B m.length d) ∧ SetAg n w' A l B m ∧ Below w.heap.size w w'
def SetBgk (N : Nat) (w : World) (l m : List SpanL) (n k : Nat) (e : Ending) (w' : World) : Prop := ∃ A c B d, e = .returned (setV A n c B k d) ∧ SetAg N w' A l B m ∧ True ∧ True ∧ Below w.heap.size w w'
theorem callBg {P : Program} {f : FuncId} {args : Array Value} {N : Nat} {w : World} {l m : List SpanL} {n k : Nat} (hn : l.length = n) (hk : m.length = k) (h : Calls P f args w (SetBg N w l m)) : Calls P f args w (SetBgk N w l m n k) := h.mono fun _ _ ⟨A, c, B, d, he, hs, hb⟩ => ⟨A, c, B, d, by rw [he, hn, hk], hs, True.intro, True.intro, hb⟩
theorem SetBg.of {n : Nat} {w : World} {l m : List SpanL} {e : Ending} {w' : World} (h : SetPost w l m e w') (h1 : fitL l) (h2 : fitL m) (h3 : l.length ≤ n) (h4 : m.length ≤ n) : SetBg n w l m e w' := by
  obtain ⟨A, c, B, d, he, ha, hb, hw⟩ := h
  exact ⟨A, c, B, d, he, ⟨ha.1, hb.1, h1, h2, h3, h4⟩, hw⟩
section
variable {n n2 : Nat} {w : World} {A B C D : Option Addr} {l m p q : List SpanL} {v : Ver}
theorem if_pair {b : Bool} {x y : List SpanL} : (if b then x else []) = (if b then (x, y) else ([], [])).1 := by cases b <;> rfl
theorem if_pair2 {b : Bool} {x y : List SpanL} : (if b then y else []) = (if b then (x, y) else ([], [])).2 := by cases b <;> rfl
theorem pair_good {b : Bool} {x y : List SpanL} {N : Nat} (h1 : fitL x ∧ x.length ≤ N) (h2 : fitL y ∧ y.length ≤ N) : (fitL (if b then (x, y) else ([], [])).1 ∧ (if b then (x, y) else ([], [])).1.length ≤ N) ∧ fitL (if b then (x, y) else ([], [])).2 ∧ (if b then (x, y) else ([], [])).2.length ≤ N := by
  cases b
  · exact ⟨⟨fit_nil, Nat.zero_le _⟩, fit_nil, Nat.zero_le _⟩
  · exact ⟨h1, h2⟩
theorem law_orG (N : Nat) (c d c2 d2 : Nat) (hg : First w) (h : SetAg n w A l B m) (k : SetAg n2 w C p D q) (hN : 1 + 2 * (n + n2) ≤ N) (hn : n + n2 ≤ 4000) : Calls Tryz.prog 100 #[setV A l.length c B m.length d, setV C p.length c2 D q.length d2] w (SetBg N w (orS l m p q).1 (orS l m p q).2) := by
  have h1 := h.nrel; have h2 := h.npre; have h3 := k.nrel; have h4 := k.npre
  refine (sor_any A B C D c d c2 d2 l m p q w hg h.rel h.pre k.rel k.pre h.frel h.fpre k.frel k.fpre (by omega) (by omega) (by omega) (by omega)).mono fun e w' hp => ?_
  have g1 := rorL_good h.frel k.frel
  have g2 := rorL_good h.fpre k.fpre
  have G := pair_good (b := mayS l m && mayS p q) (N := N) ⟨g1.1, by omega⟩ ⟨g2.1, by omega⟩
  rw [if_pair (y := rorL m q), if_pair2 (x := rorL l p)] at hp
  exact SetBg.of hp G.1.1 G.2.1 G.1.2 G.2.2
theorem law_orRG (N : Nat) (c d c2 d2 : Nat) (hg : First w) (h : SetAg n w A l B m) (k : SetAg n2 w C p D q) (hN : 1 + 2 * (n + n2) ≤ N) (hn : n + n2 ≤ 4000) : Calls Tryz.prog 38 #[setV A l.length c B m.length d, setV C p.length c2 D q.length d2] w (SetBg N w (orS l m p q).1 (orS l m p q).2) := by
  have h1 := h.nrel; have h2 := h.npre; have h3 := k.nrel; have h4 := k.npre
  refine (rsor_any A B C D c d c2 d2 l m p q w h.rel h.pre k.rel k.pre h.frel h.fpre k.frel k.fpre (by omega) (by omega) (by omega) (by omega)).mono fun e w' hp => ?_
  have g1 := rorL_good h.frel k.frel
  have g2 := rorL_good h.fpre k.fpre
  have G := pair_good (b := mayS l m && mayS p q) (N := N) ⟨g1.1, by omega⟩ ⟨g2.1, by omega⟩
  rw [if_pair (y := rorL m q), if_pair2 (x := rorL l p)] at hp
  exact SetBg.of hp G.1.1 G.2.1 G.1.2 G.2.2
theorem law_mayG (c d : Nat) (hg : First w) (h : SetAg n w A l B m) (hn : n ≤ 4000) : Calls Tryz.prog 70 #[setV A l.length c B m.length d] w (BoolPost w (mayS l m)) := by
  have h1 := h.nrel; have h2 := h.npre
  exact smay_any A B c d l m w hg h.rel h.pre h.frel h.fpre (by omega) (by omega)
theorem law_withinRG (c d c2 d2 : Nat) (hg : First w) (h : SetAg n w A l B m) (k : SetAg n2 w C p D q) (hn : n + n2 ≤ 4000) : Calls Tryz.prog 35 #[setV A l.length c B m.length d, setV C p.length c2 D q.length d2] w (BoolPost w (withinS l m p q)) := by
  have h1 := h.nrel; have h2 := h.npre; have h3 := k.nrel; have h4 := k.npre
  exact rswithin_any A B C D c d c2 d2 l m p q w h.rel h.pre k.rel k.pre h.frel h.fpre k.frel k.fpre (by omega) (by omega) (by omega) (by omega)
theorem law_sameRG (c d c2 d2 : Nat) (h : SetAg n w A l B m) (k : SetAg n2 w C p D q) (hn : n + n2 ≤ 4000) : Calls Tryz.prog 20 #[setV A l.length c B m.length d, setV C p.length c2 D q.length d2] w (BoolPost w (sameS l m p q)) := by
  have h1 := h.nrel; have h2 := h.npre; have h3 := k.nrel; have h4 := k.npre
  exact rssame_any A B C D c d c2 d2 l m p q w h.rel h.pre k.rel k.pre (by omega) (by omega) (by omega) (by omega)
theorem law_mayRG (c d : Nat) (hg : First w) (h : SetAg n w A l B m) (hn : n ≤ 4000) : Calls Tryz.prog 32 #[setV A l.length c B m.length d] w (BoolPost w (mayS l m)) := by
  have h1 := h.nrel; have h2 := h.npre
  exact rsmay_any A B c d l m w h.rel h.pre h.frel h.fpre (by omega) (by omega)
theorem law_hasRG (c d : Nat) (hg : First w) (h : SetAg n w A l B m) (hv : v.fit) (hn : n ≤ 4000) : Calls Tryz.prog 33 #[setV A l.length c B m.length d, v.val] w (BoolPost w (hasS l m v)) := by
  have h1 := h.nrel; have h2 := h.npre
  exact rshas_any A B c d l m v w h.rel h.pre h.frel h.fpre (by omega) (by omega) hv
end
end Go.Proofs.YtjceaniffooohaaGreatDoor
