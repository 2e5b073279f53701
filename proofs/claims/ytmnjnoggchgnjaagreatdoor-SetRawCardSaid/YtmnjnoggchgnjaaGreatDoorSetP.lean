/- Any two rows as a set, and the functions at them, in one form for the laws; few. -/
import Derived.Test.YtmnjnoggchgnjaaGreatDoorSetS
namespace Go.Proofs.YtmnjnoggchgnjaaGreatDoor
open Go.RowKit Go.Lib
open Rw
set_option linter.unusedVariables false
set_option linter.unusedSimpArgs false

structure SetAg (n : Nat) (w : World) (A : Option Addr) (l : List SpanL) (B : Option Addr) (m : List SpanL) : Prop where
  rel : Spans w A l
  pre : Spans w B m
  frel : fitL l
  fpre : fitL m
  nrel : l.length ≤ n
  npre : m.length ≤ n
theorem SetAg.below {n : Nat} {w w' : World} {A B : Option Addr} {l m : List SpanL} (h : SetAg n w A l B m) (hb : Below w.heap.size w w') : SetAg n w' A l B m := ⟨h.rel.below hb, h.pre.below hb, h.frel, h.fpre, h.nrel, h.npre⟩
theorem SetAg.none (w : World) : SetAg 0 w none [] none [] := ⟨.inl rfl, .inl rfl, fit_nil, fit_nil, Nat.le_refl _, Nat.le_refl _⟩
def SetBg (n : Nat) (w : World) (l m : List SpanL) (e : Ending) (w' : World) : Prop := ∃ A c B d, e = .returned (setV A l.length c B m.length d) ∧ SetAg n w' A l B m ∧ Below w.heap.size w w'
def SetBgk (N : Nat) (w : World) (l m : List SpanL) (n k : Nat) (e : Ending) (w' : World) : Prop := ∃ A c B d, e = .returned (setV A n c B k d) ∧ SetAg N w' A l B m ∧ True ∧ True ∧ Below w.heap.size w w'
theorem callBg {P : Program} {f : FuncId} {args : Array Value} {N : Nat} {w : World} {l m : List SpanL} {n k : Nat} (hn : l.length = n) (hk : m.length = k) (h : Calls P f args w (SetBg N w l m)) : Calls P f args w (SetBgk N w l m n k) := h.mono fun _ _ ⟨A, c, B, d, he, hs, hb⟩ => ⟨A, c, B, d, by rw [he, hn, hk], hs, True.intro, True.intro, hb⟩
theorem SetBg.of {n : Nat} {w : World} {l m : List SpanL} {e : Ending} {w' : World} (h : SetPost w l m e w') (h1 : fitL l) (h2 : fitL m) (h3 : l.length ≤ n) (h4 : m.length ≤ n) : SetBg n w l m e w' := by
  obtain ⟨A, c, B, d, he, ha, hb, hw⟩ := h
  exact ⟨A, c, B, d, he, ⟨ha.1, hb.1, h1, h2, h3, h4⟩, hw⟩
section
variable {n n2 : Nat} {w : World} {A B C D : Option Addr} {l m p q : List SpanL} {v : Ver}
theorem if_pair {b : Bool} {x y : List SpanL} : (if b then x else []) = (if b then (x, y) else ([], [])).1 := by cases b <;> rfl
theorem if_pair2 {b : Bool} {x y : List SpanL} : (if b then y else []) = (if b then (x, y) else ([], [])).2 := by cases b <;> rfl
theorem pair_good {b : Bool} {x y : List SpanL} {N : Nat} (h1 : fitL x ∧ x.length ≤ N) (h2 : fitL y ∧ y.length ≤ N) : (fitL (if b then (x, y) else ([], [])).1 ∧ (if b then (x, y) else ([], [])).1.length ≤ N) ∧ fitL (if b then (x, y) else ([], [])).2 ∧ (if b then (x, y) else ([], [])).2.length ≤ N := by
  cases b
  · exact ⟨⟨fit_nil, Nat.zero_le _⟩, fit_nil, Nat.zero_le _⟩
  · exact ⟨h1, h2⟩
theorem law_orG (N : Nat) (c d c2 d2 : Nat) (hg : First w) (h : SetAg n w A l B m) (k : SetAg n2 w C p D q) (hN : 1 + 2 * (n + n2) ≤ N) (hn : n + n2 ≤ 4000) : Calls Tryz.prog 19 #[setV A l.length c B m.length d, setV C p.length c2 D q.length d2] w (SetBg N w (orS l m p q).1 (orS l m p q).2) := by
  have h1 := h.nrel; have h2 := h.npre; have h3 := k.nrel; have h4 := k.npre
  refine (sor_any A B C D c d c2 d2 l m p q w hg h.rel h.pre k.rel k.pre h.frel h.fpre k.frel k.fpre (by omega) (by omega) (by omega) (by omega)).mono fun e w' hp => ?_
  have g1 := rorL_good h.frel k.frel
  have g2 := rorL_good h.fpre k.fpre
  have G := pair_good (b := mayS l m && mayS p q) (N := N) ⟨g1.1, by omega⟩ ⟨g2.1, by omega⟩
  rw [if_pair (y := rorL m q), if_pair2 (x := rorL l p)] at hp
  exact SetBg.of hp G.1.1 G.2.1 G.1.2 G.2.2
theorem law_andG (N : Nat) (c d c2 d2 : Nat) (hg : First w) (h : SetAg n w A l B m) (k : SetAg n2 w C p D q) (hN : 1 + 2 * (n + n2) ≤ N) (hn : n + n2 ≤ 4000) : Calls Tryz.prog 17 #[setV A l.length c B m.length d, setV C p.length c2 D q.length d2] w (SetBg N w (andS l m p q).1 (andS l m p q).2) := by
  have h1 := h.nrel; have h2 := h.npre; have h3 := k.nrel; have h4 := k.npre
  refine (sand_any A B C D c d c2 d2 l m p q w hg h.rel h.pre k.rel k.pre h.frel h.fpre k.frel k.fpre (by omega) (by omega) (by omega) (by omega)).mono fun e w' hp => ?_
  have g1 := randL_good h.frel k.frel
  have g2 := randL_good h.fpre k.fpre
  have G := pair_good (b := mayS l m && mayS p q) (N := N) ⟨g1.1, by omega⟩ ⟨g2.1, by omega⟩
  rw [if_pair (y := randL m q), if_pair2 (x := randL l p)] at hp
  exact SetBg.of hp G.1.1 G.2.1 G.1.2 G.2.2
theorem law_minusG (N : Nat) (c d c2 d2 : Nat) (hg : First w) (h : SetAg n w A l B m) (k : SetAg n2 w C p D q) (hN : 3 + 2 * n + 4 * n2 ≤ N) (hn : n + n2 ≤ 4000) : Calls Tryz.prog 31 #[setV A l.length c B m.length d, setV C p.length c2 D q.length d2] w (SetBg N w (minusS l m p q).1 (minusS l m p q).2) := by
  have h1 := h.nrel; have h2 := h.npre; have h3 := k.nrel; have h4 := k.npre
  refine (sminus_any A B C D c d c2 d2 l m p q w hg h.rel h.pre k.rel k.pre h.frel h.fpre k.frel k.fpre (by omega) (by omega) (by omega) (by omega)).mono fun e w' hp => ?_
  have j1 := rnotL_good k.frel
  have j2 := rnotL_good k.fpre
  have g1 := randL_good h.frel (rnotL_good k.frel).1
  have g2 := randL_good h.fpre (rnotL_good k.fpre).1
  have G := pair_good (b := mayS l m && mayS p q) (N := N) ⟨g1.1, by omega⟩ ⟨g2.1, by omega⟩
  rw [if_pair (y := randL m (rnotL q)), if_pair2 (x := randL l (rnotL p))] at hp
  exact SetBg.of hp G.1.1 G.2.1 G.1.2 G.2.2
set_option maxRecDepth 100000 in
set_option maxHeartbeats 2000000 in
theorem rsminus_no (A B C D : Option Addr) (c d c2 d2 : Nat) (l m p q : List SpanL) (w : World) (hl : Spans w A l) (hm : Spans w B m) (hp : Spans w C p) (hq : Spans w D q) (hfl : fitL l) (hfm : fitL m) (hfp : fitL p) (hfq : fitL q)
    (hln : l.length ≤ 10000) (hmn : m.length ≤ 10000) (hpn : p.length ≤ 10000) (hqn : q.length ≤ 10000) (hno : (mayS l m && mayS p q) = false) :
    Calls Tryz.prog 32 #[setV A l.length c B m.length d, setV C p.length c2 D q.length d2] w (SetPost w [] []) := by
  have HB0 := hid (below_tr (below_tr (below_new w (.cells [.slice A l.length c, .slice B m.length d].toArray 25)) (below_new _ (.cells [.slice C p.length c2, .slice D q.length d2].toArray 25))) (below_new _ (.cells [Value.slice none 0 0, .slice none 0 0].toArray 25)))
  have HY := hid (rsmay_any A B c d l m _ (hl.below HB0.out) (hm.below HB0.out) hfl hfm (by omega) (by omega))
  have HZ := hid (fun w' (h : Below w.heap.size w w') => rsmay_any C D c2 d2 p q w' (hp.below h) (hq.below h) hfp hfq (by omega) (by omega))
  clear hl hm hp hq hfl hfm hfp hfq
  generalize l.length = n at *
  generalize m.length = n2 at *
  generalize p.length = n3 at *
  generalize q.length = n4 at *
  cases h1 : mayS l m
  · go_enter Tryz.func32, Tryz.ntmps32
    go_wp2_with fail
    refine HY.out.mono ?_
    rintro _ w1 ⟨rfl, hb1⟩
    rw [h1]
    obtain ⟨_, _, hy, hs, hb⟩ := box_3 (cs := [.slice A n c, .slice B n2 d]) (ds := [.slice C n3 c2, .slice D n4 d2]) (es := [.slice none 0 0, .slice none 0 0]) hb1
    have HX := hid hy
    have HS := hid hs
    have HB1 := hid hb
    clear hb1 hy hs hb
    go_wp2_with fail
    refine (rsnone_any _).mono ?_
    rintro _ w2 ⟨rfl, hb2⟩
    have HX2 := hid (HX.out.below hb2)
    have hf : ∀ j, w2.frozen? ⟨w.heap.size + 1 + 1, j, none⟩ = false := HS.out.below HX.out.1 hb2
    have HB2 := hid (below_tr HB1.out hb2)
    obtain ⟨y0, y1⟩ := HX2.out.get2
    have hlt := HX2.out.1
    clear hb2
    go_wp2_with fail
    refine ret2 HX2.out (v := setV none 0 0 none 0 0) (fun w3 h3 => ?_) rfl (fun h3 => NonePost.set ⟨rfl, HB2.out.trans (h3.mono (by omega))⟩)
    obtain ⟨k0, k1⟩ := h3.get2
    simp [results, Tryz.results32, go_sem, k0, k1]
  · cases h2 : mayS p q
    · go_enter Tryz.func32, Tryz.ntmps32
      go_wp2_with fail
      refine HY.out.mono ?_
      rintro _ w1 ⟨rfl, hb1⟩
      rw [h1]
      obtain ⟨_, hx, hy, hs, hb⟩ := box_3 (cs := [.slice A n c, .slice B n2 d]) (ds := [.slice C n3 c2, .slice D n4 d2]) (es := [.slice none 0 0, .slice none 0 0]) hb1
      have HX := hid hy
      have HS := hid hs
      have HB1 := hid hb
      obtain ⟨z0, z1⟩ := hx.get2
      clear hb1 hx hy hs hb
      go_wp2_with fail
      refine (HZ.out _ HB1.out).mono ?_
      rintro _ w2 ⟨rfl, hb2⟩
      rw [h2]
      have HX2 := hid (HX.out.below hb2)
      have HS2 := hid (HS.out.below HX.out.1 hb2)
      have HB2 := hid (below_tr HB1.out hb2)
      clear hb2 z0 z1
      go_wp2_with fail
      refine (rsnone_any _).mono ?_
      rintro _ w3 ⟨rfl, hb3⟩
      have HX3 := hid (HX2.out.below hb3)
      have hf : ∀ j, w3.frozen? ⟨w.heap.size + 1 + 1, j, none⟩ = false := HS2.out.below HX2.out.1 hb3
      have HB3 := hid (below_tr HB2.out hb3)
      obtain ⟨y0, y1⟩ := HX3.out.get2
      have hlt := HX3.out.1
      clear hb3
      go_wp2_with fail
      refine ret2 HX3.out (v := setV none 0 0 none 0 0) (fun w3 h3 => ?_) rfl (fun h3 => NonePost.set ⟨rfl, HB3.out.trans (h3.mono (by omega))⟩)
      obtain ⟨k0, k1⟩ := h3.get2
      simp [results, Tryz.results32, go_sem, k0, k1]
    · rw [h1, h2] at hno; cases hno
theorem rsminus_any (A B C D : Option Addr) (c d c2 d2 : Nat) (l m p q : List SpanL) (w : World) (hl : Spans w A l) (hm : Spans w B m) (hp : Spans w C p) (hq : Spans w D q) (hfl : fitL l) (hfm : fitL m) (hfp : fitL p) (hfq : fitL q)
    (hln : l.length ≤ 4000) (hmn : m.length ≤ 4000) (hpn : p.length ≤ 4000) (hqn : q.length ≤ 4000) :
    Calls Tryz.prog 32 #[setV A l.length c B m.length d, setV C p.length c2 D q.length d2] w (SetPost w (if mayS l m && mayS p q then randL l (rnotL p) else []) (if mayS l m && mayS p q then randL m (rnotL q) else [])) := by
  cases h : (mayS l m && mayS p q)
  · exact rsminus_no A B C D c d c2 d2 l m p q w hl hm hp hq hfl hfm hfp hfq (by omega) (by omega) (by omega) (by omega) h
  · rw [Bool.and_eq_true] at h
    exact rsminus_yes A B C D c d c2 d2 l m p q w hl hm hp hq hfl hfm hfp hfq hln hmn hpn hqn (mayS_val.1 h.1) (mayS_val.1 h.2)
theorem law_orRG (N : Nat) (c d c2 d2 : Nat) (hg : First w) (h : SetAg n w A l B m) (k : SetAg n2 w C p D q) (hN : 1 + 2 * (n + n2) ≤ N) (hn : n + n2 ≤ 4000) : Calls Tryz.prog 28 #[setV A l.length c B m.length d, setV C p.length c2 D q.length d2] w (SetBg N w (orS l m p q).1 (orS l m p q).2) := by
  have h1 := h.nrel; have h2 := h.npre; have h3 := k.nrel; have h4 := k.npre
  refine (rsor_any A B C D c d c2 d2 l m p q w h.rel h.pre k.rel k.pre h.frel h.fpre k.frel k.fpre (by omega) (by omega) (by omega) (by omega)).mono fun e w' hp => ?_
  have g1 := rorL_good h.frel k.frel
  have g2 := rorL_good h.fpre k.fpre
  have G := pair_good (b := mayS l m && mayS p q) (N := N) ⟨g1.1, by omega⟩ ⟨g2.1, by omega⟩
  rw [if_pair (y := rorL m q), if_pair2 (x := rorL l p)] at hp
  exact SetBg.of hp G.1.1 G.2.1 G.1.2 G.2.2
theorem law_andRG (N : Nat) (c d c2 d2 : Nat) (hg : First w) (h : SetAg n w A l B m) (k : SetAg n2 w C p D q) (hN : 1 + 2 * (n + n2) ≤ N) (hn : n + n2 ≤ 4000) : Calls Tryz.prog 29 #[setV A l.length c B m.length d, setV C p.length c2 D q.length d2] w (SetBg N w (andS l m p q).1 (andS l m p q).2) := by
  have h1 := h.nrel; have h2 := h.npre; have h3 := k.nrel; have h4 := k.npre
  refine (rsand_any A B C D c d c2 d2 l m p q w h.rel h.pre k.rel k.pre h.frel h.fpre k.frel k.fpre (by omega) (by omega) (by omega) (by omega)).mono fun e w' hp => ?_
  have g1 := randL_good h.frel k.frel
  have g2 := randL_good h.fpre k.fpre
  have G := pair_good (b := mayS l m && mayS p q) (N := N) ⟨g1.1, by omega⟩ ⟨g2.1, by omega⟩
  rw [if_pair (y := randL m q), if_pair2 (x := randL l p)] at hp
  exact SetBg.of hp G.1.1 G.2.1 G.1.2 G.2.2
theorem law_minusRG (N : Nat) (c d c2 d2 : Nat) (hg : First w) (h : SetAg n w A l B m) (k : SetAg n2 w C p D q) (hN : 3 + 2 * n + 4 * n2 ≤ N) (hn : n + n2 ≤ 4000) : Calls Tryz.prog 32 #[setV A l.length c B m.length d, setV C p.length c2 D q.length d2] w (SetBg N w (minusS l m p q).1 (minusS l m p q).2) := by
  have h1 := h.nrel; have h2 := h.npre; have h3 := k.nrel; have h4 := k.npre
  refine (rsminus_any A B C D c d c2 d2 l m p q w h.rel h.pre k.rel k.pre h.frel h.fpre k.frel k.fpre (by omega) (by omega) (by omega) (by omega)).mono fun e w' hp => ?_
  have j1 := rnotL_good k.frel
  have j2 := rnotL_good k.fpre
  have g1 := randL_good h.frel (rnotL_good k.frel).1
  have g2 := randL_good h.fpre (rnotL_good k.fpre).1
  have G := pair_good (b := mayS l m && mayS p q) (N := N) ⟨g1.1, by omega⟩ ⟨g2.1, by omega⟩
  rw [if_pair (y := randL m (rnotL q)), if_pair2 (x := randL l (rnotL p))] at hp
  exact SetBg.of hp G.1.1 G.2.1 G.1.2 G.2.2
theorem law_notG (N : Nat) (c d : Nat) (hg : First w) (h : SetAg n w A l B m) (hN : 1 + 2 * n ≤ N) (hn : n ≤ 4000) : Calls Tryz.prog 21 #[setV A l.length c B m.length d] w (SetBg N w (notS l m).1 (notS l m).2) := by
  have h1 := h.nrel; have h2 := h.npre
  refine (snot_any A B c d l m w hg h.rel h.pre h.frel h.fpre (by omega) (by omega)).mono fun e w' hp => ?_
  have g1 := rnotL_good h.frel
  have g2 := rnotL_good h.fpre
  have G := pair_good (b := mayS l m) (N := N) ⟨g1.1, by omega⟩ ⟨g2.1, by omega⟩
  exact SetBg.of hp G.1.1 G.2.1 G.1.2 G.2.2
theorem law_notRG (N : Nat) (c d : Nat) (hg : First w) (h : SetAg n w A l B m) (hN : 1 + 2 * n ≤ N) (hn : n ≤ 4000) : Calls Tryz.prog 30 #[setV A l.length c B m.length d] w (SetBg N w (notS l m).1 (notS l m).2) := by
  have h1 := h.nrel; have h2 := h.npre
  refine (rsnot_any A B c d l m w h.rel h.pre h.frel h.fpre (by omega) (by omega)).mono fun e w' hp => ?_
  have g1 := rnotL_good h.frel
  have g2 := rnotL_good h.fpre
  have G := pair_good (b := mayS l m) (N := N) ⟨g1.1, by omega⟩ ⟨g2.1, by omega⟩
  exact SetBg.of hp G.1.1 G.2.1 G.1.2 G.2.2
theorem law_withinG (c d c2 d2 : Nat) (hg : First w) (h : SetAg n w A l B m) (k : SetAg n2 w C p D q) (hn : n + n2 ≤ 4000) : Calls Tryz.prog 24 #[setV A l.length c B m.length d, setV C p.length c2 D q.length d2] w (BoolPost w (withinS l m p q)) := by
  have h1 := h.nrel; have h2 := h.npre; have h3 := k.nrel; have h4 := k.npre
  exact swithin_any A B C D c d c2 d2 l m p q w hg h.rel h.pre k.rel k.pre h.frel h.fpre k.frel k.fpre (by omega) (by omega) (by omega) (by omega)
theorem law_apartG (c d c2 d2 : Nat) (hg : First w) (h : SetAg n w A l B m) (k : SetAg n2 w C p D q) (hn : n + n2 ≤ 4000) : Calls Tryz.prog 25 #[setV A l.length c B m.length d, setV C p.length c2 D q.length d2] w (BoolPost w (apartS l m p q)) := by
  have h1 := h.nrel; have h2 := h.npre; have h3 := k.nrel; have h4 := k.npre
  exact sapart_any A B C D c d c2 d2 l m p q w hg h.rel h.pre k.rel k.pre h.frel h.fpre k.frel k.fpre (by omega) (by omega) (by omega) (by omega)
theorem law_sameG (c d c2 d2 : Nat) (h : SetAg n w A l B m) (k : SetAg n2 w C p D q) (hn : n + n2 ≤ 4000) : Calls Tryz.prog 16 #[setV A l.length c B m.length d, setV C p.length c2 D q.length d2] w (BoolPost w (sameS l m p q)) := by
  have h1 := h.nrel; have h2 := h.npre; have h3 := k.nrel; have h4 := k.npre
  exact ssame_any A B C D c d c2 d2 l m p q w h.rel h.pre k.rel k.pre (by omega) (by omega) (by omega) (by omega)
theorem law_mayG (c d : Nat) (hg : First w) (h : SetAg n w A l B m) (hn : n ≤ 4000) : Calls Tryz.prog 35 #[setV A l.length c B m.length d] w (BoolPost w (mayS l m)) := by
  have h1 := h.nrel; have h2 := h.npre
  exact smay_any A B c d l m w hg h.rel h.pre h.frel h.fpre (by omega) (by omega)
theorem law_hasG (c d : Nat) (hg : First w) (h : SetAg n w A l B m) (hv : v.fit) (hn : n ≤ 4000) : Calls Tryz.prog 23 #[setV A l.length c B m.length d, v.val] w (BoolPost w (hasS l m v)) := by
  have h1 := h.nrel; have h2 := h.npre
  exact shas_any A B c d l m v w hg h.rel h.pre h.frel h.fpre (by omega) (by omega) hv
theorem law_exactG (w : World) (hg : First w) (hv : v.fit) (_ : True) : Calls Tryz.prog 40 #[v.val] w (SetBg 1 w (exactS v).1 (exactS v).2) := by
  have g := exact_good hv
  exact (sexact_any v w hg hv).mono fun e w' hp => SetBg.of hp g.1.1 g.1.2 g.2.1 g.2.2
theorem law_withinRG (c d c2 d2 : Nat) (hg : First w) (h : SetAg n w A l B m) (k : SetAg n2 w C p D q) (hn : n + n2 ≤ 4000) : Calls Tryz.prog 33 #[setV A l.length c B m.length d, setV C p.length c2 D q.length d2] w (BoolPost w (withinS l m p q)) := by
  have h1 := h.nrel; have h2 := h.npre; have h3 := k.nrel; have h4 := k.npre
  exact rswithin_any A B C D c d c2 d2 l m p q w h.rel h.pre k.rel k.pre h.frel h.fpre k.frel k.fpre (by omega) (by omega) (by omega) (by omega)
theorem law_apartRG (c d c2 d2 : Nat) (hg : First w) (h : SetAg n w A l B m) (k : SetAg n2 w C p D q) (hn : n + n2 ≤ 4000) : Calls Tryz.prog 34 #[setV A l.length c B m.length d, setV C p.length c2 D q.length d2] w (BoolPost w (apartS l m p q)) := by
  have h1 := h.nrel; have h2 := h.npre; have h3 := k.nrel; have h4 := k.npre
  exact rsapart_any A B C D c d c2 d2 l m p q w h.rel h.pre k.rel k.pre h.frel h.fpre k.frel k.fpre (by omega) (by omega) (by omega) (by omega)
theorem law_sameRG (c d c2 d2 : Nat) (h : SetAg n w A l B m) (k : SetAg n2 w C p D q) (hn : n + n2 ≤ 4000) : Calls Tryz.prog 27 #[setV A l.length c B m.length d, setV C p.length c2 D q.length d2] w (BoolPost w (sameS l m p q)) := by
  have h1 := h.nrel; have h2 := h.npre; have h3 := k.nrel; have h4 := k.npre
  exact rssame_any A B C D c d c2 d2 l m p q w h.rel h.pre k.rel k.pre (by omega) (by omega) (by omega) (by omega)
theorem law_mayRG (c d : Nat) (hg : First w) (h : SetAg n w A l B m) (hn : n ≤ 4000) : Calls Tryz.prog 38 #[setV A l.length c B m.length d] w (BoolPost w (mayS l m)) := by
  have h1 := h.nrel; have h2 := h.npre
  exact rsmay_any A B c d l m w h.rel h.pre h.frel h.fpre (by omega) (by omega)
theorem law_hasRG (c d : Nat) (hg : First w) (h : SetAg n w A l B m) (hv : v.fit) (hn : n ≤ 4000) : Calls Tryz.prog 39 #[setV A l.length c B m.length d, v.val] w (BoolPost w (hasS l m v)) := by
  have h1 := h.nrel; have h2 := h.npre
  exact rshas_any A B c d l m v w h.rel h.pre h.frel h.fpre (by omega) (by omega) hv
theorem law_exactRG (w : World) (hg : First w) (hv : v.fit) (_ : True) : Calls Tryz.prog 41 #[v.val] w (SetBg 1 w (exactS v).1 (exactS v).2) := by
  have g := exact_good hv
  exact (rsexact_any v w hv).mono fun e w' hp => SetBg.of hp g.1.1 g.1.2 g.2.1 g.2.2
end
set_option maxRecDepth 100000 in
set_option maxHeartbeats 4000000 in
theorem part_any (A : Option Addr) (c : Nat) (l : List SpanL) (w : World) (hl : Spans w A l) (hln : l.length ≤ 9223372036854775807) : Calls Tryz.prog 62 #[.slice A l.length c] w fun e w' => e = .returned (.bool (fewR 8 l)) ∧ w = w' := by
  generalize hr : fewR 8 l = r
  have HR := hid hr
  clear hr
  have HL := hid hl
  clear hl
  generalize hn : l.length = n at *
  have HN := hid hn
  clear hn
  go_enter Tryz.func62, Tryz.ntmps62
  go_wp2_with fail
  go_loop [3] (fun i => ∃ k : Nat, i = .int .i64 k ∧ k ≤ n ∧ k ≤ 8 ∧ Hid (shortTo l k)) (fun i => n - (intOf i).toNat)
  case atStart => exact ⟨0, rfl, Nat.zero_le _, Nat.zero_le _, fun j hj => by omega⟩
  case round =>
    obtain ⟨k, rfl, hk, hk2, HM⟩ := hrel
    by_cases hlt : k < n
    · have hlt' : k < l.length := by rw [HN.out]; exact hlt
      by_cases hbig : k = 8
      · have HE := hid (few_long (m := 8) (l := l) (by omega))
        have hd : decide ((7 : Int) < (k : Int)) = true := by simp; omega
        clear hbig
        go_wp2_with fail
        go_ret
        exact ⟨by rw [← HR.out, HE.out]; rfl, rfl⟩
      · have hd : decide ((7 : Int) < (k : Int)) = false := by simp; omega
        obtain ⟨b, off, rfl, hbl, ⟨x0, x1, x2, x3, x4, x5, x6⟩, z0, z1, z2, z3, z4, z5, z6⟩ := HL.out.at_ (k := k) hlt'
        have i0 : (0 : Int) ≤ (k : Int) := by omega
        have i1 : (k : Int) < (n : Int) := by omega
        generalize hsk : nth l k = s at *
        have HK := hid hsk
        clear hsk
        cases d0 : decide (60 < (s.fr.v.pre.size : Int))
        · skip
          cases d1 : decide (60 < (s.fr.v.bld.size : Int))
          · skip
            cases d2 : decide (60 < (s.til.v.pre.size : Int))
            · skip
              cases d3 : decide (60 < (s.til.v.bld.size : Int))
              · skip
                have HE := hid (show shortS s = true by simp [shortS, d0, d1, d2, d3])
                go_wp2_with fail
                go_round
                case rel => exact ⟨k + 1, by go_num, by omega, by omega, shortTo_step HM.out (by rw [HK.out]; exact HE.out)⟩
                case measure => simp [intOf]; omega
              · have HE := hid (few_no (m := 8) hlt' (by rw [HK.out]; simp [shortS, d0, d1, d2, d3]))
                go_wp2_with fail
                go_ret
                exact ⟨by rw [← HR.out, HE.out]; rfl, rfl⟩
            · have HE := hid (few_no (m := 8) hlt' (by rw [HK.out]; simp [shortS, d0, d1, d2]))
              go_wp2_with fail
              go_ret
              exact ⟨by rw [← HR.out, HE.out]; rfl, rfl⟩
          · have HE := hid (few_no (m := 8) hlt' (by rw [HK.out]; simp [shortS, d0, d1]))
            go_wp2_with fail
            go_ret
            exact ⟨by rw [← HR.out, HE.out]; rfl, rfl⟩
        · have HE := hid (few_no (m := 8) hlt' (by rw [HK.out]; simp [shortS, d0]))
          go_wp2_with fail
          go_ret
          exact ⟨by rw [← HR.out, HE.out]; rfl, rfl⟩
    · obtain rfl : k = n := by omega
      have HE := hid (few_yes (m := 8) (l := l) (by rw [HN.out]; omega) (by rw [HN.out]; exact HM.out))
      have hd : decide ((k : Int) < (k : Int)) = false := by simp
      go_wp2_with fail
      go_ret
      exact ⟨by rw [← HR.out, HE.out]; rfl, rfl⟩

theorem fews_any (A B : Option Addr) (c d : Nat) (l m : List SpanL) (w : World) (hl : Spans w A l) (hm : Spans w B m) (hln : l.length ≤ 9223372036854775807) (hmn : m.length ≤ 9223372036854775807) : Calls Tryz.prog 26 #[setV A l.length c B m.length d] w (BoolPost w (fewR 8 l && fewR 8 m)) := by
  have HB0 := hid (below_new w (.cells [.slice A l.length c, .slice B m.length d].toArray 25))
  have HX := hid (Box.new w [.slice A l.length c, .slice B m.length d] 25)
  have HC := hid (part_any A c l _ (hl.below HB0.out) hln)
  have HD := hid (part_any B d m _ (hm.below HB0.out) hmn)
  obtain ⟨z0, z1⟩ := HX.out.get2
  clear hl hm
  generalize l.length = n at *
  generalize m.length = n2 at *
  cases h1 : fewR 8 l
  · go_enter Tryz.func26, Tryz.ntmps26
    go_wp2_with fail
    refine HC.out.mono ?_
    rintro _ _ ⟨rfl, rfl⟩
    rw [h1]
    go_wp2_with fail
    go_ret
    exact ⟨rfl, HB0.out⟩
  · go_enter Tryz.func26, Tryz.ntmps26
    go_wp2_with fail
    refine HC.out.mono ?_
    rintro _ _ ⟨rfl, rfl⟩
    rw [h1]
    go_wp2_with fail
    refine HD.out.mono ?_
    rintro _ _ ⟨rfl, rfl⟩
    go_wp2_with fail
    go_ret
    exact ⟨rfl, HB0.out⟩
end Go.Proofs.YtmnjnoggchgnjaaGreatDoor
