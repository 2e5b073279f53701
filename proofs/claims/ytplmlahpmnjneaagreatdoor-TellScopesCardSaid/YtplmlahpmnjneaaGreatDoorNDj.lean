import Derived.Test.YtplmlahpmnjneaaGreatDoorNDi
namespace Go.Proofs.YtplmlahpmnjneaaGreatDoor
open Go.RowKit Go.Lib
open Rw
set_option linter.unusedVariables false
set_option linter.unusedSimpArgs false
structure SGood (n : Nat) (s : List SpanL × List SpanL) : Prop where
  f1 : fitL s.1
  f2 : fitL s.2
  l1 : s.1.length ≤ n
  l2 : s.2.length ≤ n
  val : ValS s.1 s.2
theorem SGood.at_ {n : Nat} {s : List SpanL × List SpanL} (h : SGood n s) {w : World} {A B : Option Addr} (ha : Spans w A s.1) (hb : Spans w B s.2) : SetAt n w A s.1 B s.2 := ⟨ha, hb, h.f1, h.f2, h.l1, h.l2, h.val⟩
theorem SGood.mono {n m : Nat} {s : List SpanL × List SpanL} (h : SGood n s) (hn : n ≤ m) : SGood m s := ⟨h.f1, h.f2, Nat.le_trans h.l1 hn, Nat.le_trans h.l2 hn, h.val⟩
theorem SGood.nil (n : Nat) : SGood n ([], []) := ⟨fit_nil, fit_nil, Nat.zero_le _, Nat.zero_le _, ValS.nil⟩
theorem SGood.or {n m : Nat} {s t : List SpanL × List SpanL} (h : SGood n s) (k : SGood m t) : SGood (1 + (n + m)) (orS s.1 s.2 t.1 t.2) := by
  have g := orS_good h.f1 h.f2 k.f1 k.f2
  have := h.l1; have := h.l2; have := k.l1; have := k.l2
  refine ⟨g.1, g.2.1, by have := g.2.2.1; omega, by have := g.2.2.2; omega, ?_⟩
  rw [orS_val h.val k.val]
  exact ValS.or h.val k.val
theorem altS_sgood {l : List CompL} (h : ∀ c ∈ l, c.fit) (hn : l.length ≤ 6) : SGood 40 (altS l) := by
  have g := altS_good h
  exact ⟨g.1, g.2.1, by have := g.2.2.1; omega, by have := g.2.2.2; omega, altS_val l⟩
def PartAt (w : World) (base : Nat) (v : Value) (A : Option Addr) (l : List SpanL) : Prop := Spans w A l ∧ (l ≠ [] → ∀ ad, A = some ad → base ≤ ad.block ∧ v.ownBlock ≠ some ad.block)
theorem Spans.grown {w w' : World} {row : Option Nat} {A : Option Addr} {l : List SpanL} (h : Spans w A l) (hg : w.grownBy w' row) (hne : l ≠ [] → ∀ ad, A = some ad → some ad.block ≠ row) : Spans w' A l := by
  by_cases hl : l = []
  · exact .inl hl
  · rcases h with h | ⟨b, off, rfl, hlt, hc⟩
    · exact .inl h
    · exact .inr ⟨b, off, rfl, Nat.lt_of_lt_of_le hlt hg.size, fun i hi j u hj => (World.cell?_of_block (a := ⟨b, _, none⟩) (w := w) (hg.block b hlt (hne hl _ rfl))).trans (hc i hi j u hj)⟩
theorem spans_lt {w : World} {A : Option Addr} {l : List SpanL} (h : Spans w A l) (hne : l ≠ []) : ∀ ad, A = some ad → ad.block < w.heap.size := by
  intro ad had
  rcases h with h | ⟨b, off, rfl, hl, -⟩
  · exact absurd h hne
  · injection had with had; subst had; exact hl
theorem PartAt.next {w w' : World} {base : Nat} {v v' : Value} {A : Option Addr} {l : List SpanL} (h : PartAt w base v A l) (hg : w.grownBy w' v.ownBlock) (hv : ∀ k, v'.ownBlock = some k → v.ownBlock = some k ∨ w.heap.size ≤ k) : PartAt w' base v' A l := by
  by_cases hl : l = []
  · exact ⟨.inl hl, fun e => absurd hl e⟩
  · refine ⟨h.1.grown hg (fun _ ad had e => (h.2 hl ad had).2 e.symm), fun _ ad had => ⟨(h.2 hl ad had).1, fun e => ?_⟩⟩
    rcases hv _ e with e2 | e2
    · exact (h.2 hl ad had).2 e2
    · have := spans_lt h.1 hl ad had; omega
theorem PartAt.kb {w w' : World} {base : Nat} {v : Value} {A : Option Addr} {l : List SpanL} (h : PartAt w base v A l) (hb : KB w.heap.size w w') : PartAt w' base v A l := ⟨h.1.kb hb, h.2⟩
def SetsOwn (w : World) (base : Nat) (v : Value) (L : List (List SpanL × List SpanL)) : Prop :=
  ∃ hs : List Value, hs.length = L.length * 2 ∧ w.ownsRow base 24 2 v L.length hs ∧ ∀ i (h : i < L.length), ∃ Ai ci Bi di, hs[i * 2]? = some (.slice Ai L[i].1.length ci) ∧ hs[i * 2 + 1]? = some (.slice Bi L[i].2.length di) ∧ PartAt w base v Ai L[i].1 ∧ PartAt w base v Bi L[i].2
theorem Tryz.info24 : (Tryz.prog.info? 24).map (fun i => (i.zero, i.size, i.bytes)) = some (some (setV none 0 0 none 0 0), 2, 48) := by kernel_rfl
theorem EKsets : EK Tryz.prog 87 24 2 48 := .mk' _ Tryz.underlying87 Tryz.info24 rfl (by omega)
section
variable {w w' : World} {base : Nat} {v : Value} {L : List (List SpanL × List SpanL)}
theorem SetsOwn.nil : SetsOwn w base (.slice none 0 0) [] := ⟨[], rfl, World.ownsRow_nil _ _ _ _, fun i h => by simp at h⟩
theorem SetsOwn.kb (h : SetsOwn w base v L) (hb : KB w.heap.size w w') : SetsOwn w' base v L := by
  obtain ⟨hs, h1, h2, h3⟩ := h
  refine ⟨hs, h1, row_kb h2 hb, fun i hi => ?_⟩
  obtain ⟨Ai, ci, Bi, di, h4, h5, h6, h7⟩ := h3 i hi
  exact ⟨Ai, ci, Bi, di, h4, h5, h6.kb hb, h7.kb hb⟩
theorem SetsOwn.snoc {s : List SpanL × List SpanL} {Aa Ba : Option Addr} {ca da : Nat} {v' : Value} {hs : List Value} (h1 : hs.length = L.length * 2)
    (h3 : ∀ i (h : i < L.length), ∃ Ai ci Bi di, hs[i * 2]? = some (.slice Ai L[i].1.length ci) ∧ hs[i * 2 + 1]? = some (.slice Bi L[i].2.length di) ∧ PartAt w base v Ai L[i].1 ∧ PartAt w base v Bi L[i].2)
    (h2 : w'.ownsRow base 24 2 v' (L.length + 1) (hs ++ [.slice Aa s.1.length ca, .slice Ba s.2.length da])) (hg : w.grownBy w' v.ownBlock) (hv : ∀ k, v'.ownBlock = some k → v.ownBlock = some k ∨ w.heap.size ≤ k)
    (ha : PartAt w base v Aa s.1) (hb : PartAt w base v Ba s.2) : SetsOwn w' base v' (L ++ [s]) := by
  refine ⟨hs ++ [.slice Aa s.1.length ca, .slice Ba s.2.length da], by simp [h1]; omega, by rw [List.length_append]; exact h2, fun i hi => ?_⟩
  rcases Nat.lt_or_ge i L.length with k | k
  · obtain ⟨Ai, ci, Bi, di, h4, h5, h6, h7⟩ := h3 i k
    rw [List.getElem_append_left k]
    exact ⟨Ai, ci, Bi, di, by rw [List.getElem?_append_left (by omega)]; exact h4, by rw [List.getElem?_append_left (by omega)]; exact h5, h6.next hg hv, h7.next hg hv⟩
  · have hi2 : i = L.length := by simp at hi; omega
    subst hi2
    have e : (L ++ [s])[L.length] = s := by simp
    rw [e]
    refine ⟨Aa, ca, Ba, da, ?_, ?_, ha.next hg hv, hb.next hg hv⟩
    · rw [List.getElem?_append_right (by omega), h1]; simp
    · rw [List.getElem?_append_right (by omega), h1]; simp
def SetsAt (w : World) (A : Option Addr) (L : List (List SpanL × List SpanL)) : Prop :=
  L = [] ∨ ∃ b off, A = some ⟨b, off, none⟩ ∧ b < w.heap.size ∧ ∀ i (h : i < L.length), ∃ Ai ci Bi di, w.cell? ⟨b, off + i * 2, none⟩ = some (.slice Ai L[i].1.length ci) ∧ w.cell? ⟨b, off + i * 2 + 1, none⟩ = some (.slice Bi L[i].2.length di) ∧ Spans w Ai L[i].1 ∧ Spans w Bi L[i].2
theorem SetsOwn.at_ (h : SetsOwn w base v L) : ∃ A c, v = .slice A L.length c ∧ SetsAt w A L := by
  obtain ⟨hs, h1, h2, h3⟩ := h
  rcases h2.2 with ⟨hv, h0⟩ | ⟨g, cap, cur, hv, hg, hh, hle, -⟩
  · have : L = [] := List.eq_nil_of_length_eq_zero h0
    subst this
    exact ⟨none, 0, hv, .inl rfl⟩
  · have hlt : g < w.heap.size := by
      rcases Nat.lt_or_ge g w.heap.size with h | h
      · exact h
      · rw [Array.getElem?_eq_none h] at hh; cases hh
    subst hv
    refine ⟨some ⟨g, 0, none⟩, cap, rfl, .inr ⟨g, 0, rfl, hlt, fun i hi => ?_⟩⟩
    obtain ⟨Ai, ci, Bi, di, h4, h5, h6, h7⟩ := h3 i hi
    refine ⟨Ai, ci, Bi, di, ?_, ?_, h6.1, h7.1⟩
    · have := World.ownsRow.cellAt h2 (i * 2) (by omega)
      rw [Nat.zero_add, this]; exact h4
    · have := World.ownsRow.cellAt h2 (i * 2 + 1) (by omega)
      rw [Nat.zero_add, this]; exact h5
theorem SetsAt.below {A : Option Addr} (h : SetsAt w A L) (hb : Below w.heap.size w w') : SetsAt w' A L := by
  rcases h with h | ⟨b, off, rfl, hlt, hc⟩
  · exact .inl h
  · refine .inr ⟨b, off, rfl, Nat.lt_of_lt_of_le hlt hb.size, fun i hi => ?_⟩
    obtain ⟨Ai, ci, Bi, di, h1, h2, h3, h4⟩ := hc i hi
    exact ⟨Ai, ci, Bi, di, (hb.cell (p := ⟨b, _, none⟩) hlt).trans h1, (hb.cell (p := ⟨b, _, none⟩) hlt).trans h2, h3.below hb, h4.below hb⟩
end
structure OrW (L : List (List SpanL × List SpanL)) (k : Nat) (o : List SpanL × List SpanL) : Prop where
  good : SGood (41 * k) o
  r : (L.drop k).foldl (fun o s => orS o.1 o.2 s.1 s.2) o = orG L
theorem OrW.start (L : List (List SpanL × List SpanL)) : OrW L 0 ([], []) := ⟨SGood.nil _, rfl⟩
theorem OrW.step {L : List (List SpanL × List SpanL)} {k : Nat} {o : List SpanL × List SpanL} (h : OrW L k o) (hk : k < L.length) (hg : SGood 40 L[k]) : OrW L (k + 1) (orS o.1 o.2 L[k].1 L[k].2) := by
  refine ⟨(h.good.or hg).mono (by omega), ?_⟩
  have e := h.r
  rw [List.drop_eq_getElem_cons hk, List.foldl_cons] at e
  exact e
theorem OrW.last {L : List (List SpanL × List SpanL)} {k : Nat} {o : List SpanL × List SpanL} (h : OrW L k o) (hk : L.length ≤ k) : o = orG L := by
  have e := h.r
  rw [List.drop_eq_nil_of_le hk] at e
  exact e
set_option maxRecDepth 100000 in
set_option maxHeartbeats 4000000 in
theorem or7_any (A : Option Addr) (c : Nat) (L : List (List SpanL × List SpanL)) (w : World) (hg : First w) (h : SetsAt w A L) (hL : ∀ s ∈ L, SGood 40 s) (hn : L.length ≤ 6) : Calls Tryz.prog 68 #[.slice A L.length c] w (SetPost w (orG L).1 (orG L).2) := by
  have HA := hid h
  have HG := hid hg
  have HLG := hid hL
  clear h hg hL
  generalize hn2 : L.length = n at *
  have HN := hid hn2
  clear hn2
  go_enter Tryz.func68, Tryz.ntmps68
  go_upto_region 1 with fail
  refine wp_name ?_
  intro w1 hw1
  have O2 := hid (show Own w.heap.size w1 w.heap.size [.slice none 0 0, .slice none 0 0] by rw [hw1]; exact Own.new w [.slice none 0 0, .slice none 0 0] 24 (Nat.le_refl _))
  have HB := hid (show Below w.heap.size w w1 by rw [hw1]; exact below_new _ _)
  clear hw1
  go_wp2_with fail
  refine (snone_any w1).mono ?_
  rintro _ w2 ⟨rfl, hb⟩
  have O2 := hid (O2.out.below hb)
  have HB := hid (below_tr HB.out hb)
  clear hb
  go_upto_block 0 with fail
  refine wp_name ?_
  intro w3 hw3
  have HNE : w.heap.size ≠ w2.heap.size := by have := O2.out.box.1; omega
  have O2 := hid (show Own w.heap.size w3 w.heap.size [.slice none 0 0, .slice none 0 0] by rw [hw3]; exact O2.out.alloc _)
  have O3 := hid (show Own w.heap.size w3 w2.heap.size [.slice none 0 0, .slice none 0 0] by rw [hw3]; exact Own.new w2 [.slice none 0 0, .slice none 0 0] 24 HB.out.size)
  have HB := hid (show Below w.heap.size w w3 by rw [hw3]; exact below_tr HB.out (below_new _ _))
  clear hw3
  generalize w2.heap.size = g3 at *
  go_wp2_with fail
  go_loopw [9] (fun i wr => ∃ (k : Nat) (A1 B1 : Option Addr) (c1 d1 n1 m1 : Nat) (o : List SpanL × List SpanL), i = .int .i64 k ∧ k ≤ n ∧ Hid (o.1.length = n1) ∧ Hid (o.2.length = m1) ∧ Hid (OrW L k o) ∧ Hid (SpanB wr (g3 + 1) A1 o.1) ∧ Hid (SpanB wr (g3 + 1) B1 o.2) ∧ Hid (Own w.heap.size wr g3 [.slice A1 n1 c1, .slice B1 m1 d1]) ∧ Hid (Own w.heap.size wr w.heap.size [.slice none 0 0, .slice none 0 0]) ∧ Hid (Below w.heap.size w wr)) (fun i _ => n - (intOf i).toNat)
  case atStart => exact ⟨0, none, none, 0, 0, 0, 0, ([], []), rfl, Nat.zero_le _, hid rfl, hid rfl, hid (OrW.start L), hid (SpanB.nil _ _), hid (SpanB.nil _ _), O3, O2, HB⟩
  case round =>
    obtain ⟨k, A1, B1, c1, d1, n1, m1, o, rfl, hk, HN1, HM1, HW, HS1, HS2, O3, O2, HB⟩ := hrel
    by_cases hlt : k < n
    · have hlt' : k < L.length := by rw [HN.out]; exact hlt
      have i0 : (0 : Int) ≤ (k : Int) := by omega
      have i1 : (k : Int) < (n : Int) := by omega
      rcases HA.out with h | ⟨b, off, hA, hbl, hc⟩
      · exfalso; rw [h] at hlt'; simp at hlt'
      · subst hA
        obtain ⟨Ai, ci, Bi, di, hc0, hc1, hsa, hsb⟩ := hc k hlt'
        have HGK := hid (HLG.out _ (List.getElem_mem hlt'))
        have HWN := hid (HW.out.step hlt' HGK.out)
        have c0 := (HB.out.cell (p := ⟨b, off + k * 2, none⟩) hbl).trans hc0
        have c1 := (HB.out.cell (p := ⟨b, off + k * 2 + 1, none⟩) hbl).trans hc1
        have HSA := hid (hsa.below HB.out)
        have HSB := hid (hsb.below HB.out)
        have hbl2 : b < wr.heap.size := Nat.lt_of_lt_of_le hbl HB.out.size
        clear hc hc0 hc1 hsa hsb
        generalize L[k] = s at *
        obtain ⟨s1, s2⟩ := s
        dsimp only at HGK HWN HSA HSB c0 c1
        generalize hq1 : s1.length = q1 at *
        generalize hq2 : s2.length = q2 at *
        have HQ1 := hid hq1
        have HQ2 := hid hq2
        clear hq1 hq2
        go_upto_region 5 with fail
        refine wp_name ?_
        intro u1 hu1
        have HX := hid (show Box u1 wr.heap.size [.slice Ai q1 ci, .slice Bi q2 di] by rw [hu1]; exact Box.new wr [.slice Ai q1 ci, .slice Bi q2 di] 24)
        have HBU := hid (show Below wr.heap.size wr u1 by rw [hu1]; exact below_new _ _)
        clear hu1 c0 c1 hbl2
        have O3 := hid (O3.out.below HBU.out)
        obtain ⟨x0, x1⟩ := HX.out.get2
        obtain ⟨y0, y1⟩ := O3.out.box.get2
        have xl := HX.out.1
        have yl := O3.out.box.1
        have HAT1 := hid (HW.out.good.at_ (HS1.out.1.below HBU.out) (HS2.out.1.below HBU.out))
        have HAT2 := hid (SGood.at_ (s := (s1, s2)) HGK.out (HSA.out.below HBU.out) (HSB.out.below HBU.out))
        have HOR := hid (law_or (1 + 2 * (41 * k + 40)) c1 d1 ci di ((HG.out.below HB.out).below HBU.out) HAT1.out HAT2.out (Nat.le_refl _) (by omega))
        dsimp only at HOR
        rw [HN1.out, HM1.out, HQ1.out, HQ2.out] at HOR
        clear HAT1 HAT2
        generalize orS o.1 o.2 s1 s2 = o2 at *
        obtain ⟨p1, p2⟩ := o2
        dsimp only at HOR HWN
        generalize hr1 : p1.length = r1 at *
        generalize hr2 : p2.length = r2 at *
        have HR1 := hid hr1
        have HR2 := hid hr2
        clear hr1 hr2
        go_wp2_with fail
        refine HOR.out.mono ?_
        rintro _ u2 ⟨A5, c5, B5, d5, he, -, hs5, hs6, hb⟩
        rw [HR1.out, HR2.out] at he
        subst he
        have HBU2 := hid (below_tr HBU.out hb)
        have O3 := hid (O3.out.below hb)
        have hgu : g3 + 1 ≤ u1.heap.size := yl
        have HS5 := hid (hs5.low hgu)
        have HS6 := hid (hs6.low hgu)
        clear hb hs5 hs6 HOR x0 x1 y0 y1 xl yl
        have O2 := hid (O2.out.below HBU2.out)
        have HBW := hid (below_tr HB.out HBU2.out)
        obtain ⟨y0, y1⟩ := O3.out.box.get2
        have sf : ∀ j, u2.frozen? ⟨g3, j, none⟩ = false := O3.out.soft
        have yl := O3.out.box.1
        have hlow := O3.out.low
        go_wp2_with fail
        go_roundw
        case rel => exact ⟨k + 1, A5, B5, c5, d5, r1, r2, (p1, p2), by go_num, by omega, HR1, HR2, HWN, hid (spanB_set2 HS5.out (Nat.lt_succ_self _) _ _), hid (spanB_set2 HS6.out (Nat.lt_succ_self _) _ _), hid (O3.out.set2 _ _), hid ((O2.out.other HNE _).other HNE _), hid (below_set2 HBW.out hlow _ _)⟩
        case measure => simp [intOf]; omega
    · obtain rfl : k = n := by omega
      have hge : ¬ (k : Int) < (k : Int) := by omega
      have HE := hid (HW.out.last (by rw [HN.out]; exact Nat.le_refl _))
      obtain ⟨x0, x1⟩ := O3.out.box.get2
      have xl := O3.out.box.1
      obtain ⟨y0, y1⟩ := O2.out.box.get2
      have sf : ∀ j, wr.frozen? ⟨w.heap.size, j, none⟩ = false := O2.out.soft
      have yl := O2.out.box.1
      have hwg : w.heap.size < g3 + 1 := by have := O3.out.low; omega
      go_wp2_with fail
      refine body_name ?_
      intro w9 hw9
      have O9 : Own w.heap.size w9 w.heap.size [.slice A1 n1 c1, .slice B1 m1 d1] := by rw [hw9]; exact O2.out.set2 _ _
      have S9 : SpanB w9 (g3 + 1) A1 o.1 := by rw [hw9]; exact spanB_set2 HS1.out hwg _ _
      have T9 : SpanB w9 (g3 + 1) B1 o.2 := by rw [hw9]; exact spanB_set2 HS2.out hwg _ _
      have B9 : Below w.heap.size w w9 := by rw [hw9]; exact below_set2 HB.out (Nat.le_refl _) _ _
      clear hw9
      obtain ⟨k0, k1⟩ := O9.box.get2
      refine bodyPost_ret (v := setV A1 n1 c1 B1 m1 d1) (by simp [results, Tryz.results68, go_sem, k0, k1, setV]) rfl ?_
      rw [← HE.out]
      exact ⟨A1, c1, B1, d1, by rw [HN1.out, HM1.out], S9.low (Nat.le_of_lt hwg), T9.low (Nat.le_of_lt hwg), B9⟩
def SetPostK (w : World) (l m : List SpanL) (e : Ending) (w' : World) : Prop := ∃ A c B d, e = .returned (setV A l.length c B m.length d) ∧ SpanB w' w.heap.size A l ∧ SpanB w' w.heap.size B m ∧ KB w.heap.size w w'
theorem kb_set2 {w w1 : World} (h : KB w.heap.size w w1) {g : Nat} (hg : w.heap.size ≤ g) (b0 b1 : Value) : KB w.heap.size w ((w1.setCell ⟨g, 0, none⟩ b0).setCell ⟨g, 1, none⟩ b1) := kb_put (kb_put h hg b0) hg b1
theorem setG_no {r : List (List CompL)} (h : mayG r = false) : setG r = ([], []) := by rw [setG, h]; rfl
theorem setG_yes {r : List (List CompL)} (h : mayG r = true) : setG r = orG (r.map altS) := by rw [setG, if_pos h]
theorem mayG_parts {r : List (List CompL)} (h : mayG r = true) : r.length ≤ 6 ∧ ∀ a ∈ r, a.length ≤ 6 := by
  rw [mayG, Bool.and_eq_true] at h
  exact few_parts h.1
theorem alts_sgood {r : List (List CompL)} (hf : fitG r) (h : ∀ a ∈ r, a.length ≤ 6) : ∀ s ∈ r.map altS, SGood 40 s := fun s hs => by
  obtain ⟨a, ha, rfl⟩ := List.mem_map.1 hs
  exact altS_sgood (hf a ha) (h a ha)
theorem orG_good : ∀ {L : List (List SpanL × List SpanL)}, (∀ s ∈ L, SGood 40 s) → SGood (41 * L.length) (orG L) := fun {L} h => by
  have : ∀ k, k ≤ L.length → ∃ o, OrW L k o := fun k => by
    induction k with
    | zero => intro _; exact ⟨_, OrW.start L⟩
    | succ k ih =>
      intro hk
      obtain ⟨o, ho⟩ := ih (by omega)
      exact ⟨_, ho.step (by omega) (h _ (List.getElem_mem (by omega)))⟩
  obtain ⟨o, ho⟩ := this L.length (Nat.le_refl _)
  rw [← ho.last (Nat.le_refl _)]
  exact ho.good
theorem setG_good {r : List (List CompL)} (hf : fitG r) : SGood 250 (setG r) := by
  cases hm : mayG r
  · rw [setG_no hm]; exact SGood.nil _
  · have hp := mayG_parts hm
    rw [setG_yes hm]
    refine (orG_good (alts_sgood hf hp.2)).mono ?_
    rw [List.length_map]; omega
theorem map_take_alt {r : List (List CompL)} {k : Nat} (h : k < r.length) : (r.map altS).take k ++ [altS r[k]] = (r.map altS).take (k + 1) := by
  rw [List.take_succ_eq_append_getElem (by rw [List.length_map]; exact h), List.getElem_map]
set_option maxRecDepth 100000 in
set_option maxHeartbeats 8000000 in
theorem set7_any (A : Option Addr) (c : Nat) (r : List (List CompL)) (w : World) (hL : Laid w) (h : Alts w A r) (hf : fitG r) (hn : r.length ≤ 4398046511104) (hm : ∀ a ∈ r, a.length ≤ 4398046511104) : Calls Tryz.prog 32 #[rangeV A r.length c] w (SetPostK w (setG r).1 (setG r).2) := by
  have HMAY := hid (fun u (hb : KB w.heap.size w u) => may7_any A c r u (hL.kb hb) (h.kb hb) hf hn hm)
  have HL := hid hL
  have HA := hid h
  have HF := hid hf
  have HSN := hid (setG_no (r := r))
  have HSY := hid (setG_yes (r := r))
  have HMP := hid (mayG_parts (r := r))
  clear h hf hm hL
  have HLE := hn
  generalize hn2 : r.length = n at *
  have HN := hid hn2
  clear hn hn2
  go_enter Tryz.func32, Tryz.ntmps32
  go_upto_region 1 with fail
  refine wp_name ?_
  intro w1 hw1
  have HX := hid (show Box w1 w.heap.size [.slice A n c] by rw [hw1]; exact (Box.new w [.slice A n c] 35).below (below_new _ _))
  have O2 := hid (show Own w.heap.size w1 (w.heap.size + 1) [.slice none 0 0, .slice none 0 0] by rw [hw1]; exact Own.new2 w _ [.slice none 0 0, .slice none 0 0] 24 (Nat.le_refl _))
  have HB := hid (show KB w.heap.size w w1 by rw [hw1]; exact kb_tr (kb_new _ _) (kb_new _ _))
  clear hw1
  have hg2 : w.heap.size ≤ w.heap.size + 1 := Nat.le_succ _
  generalize w.heap.size + 1 = g2 at *
  have x0 := HX.out.2 0 _ rfl
  have xl := HX.out.1
  go_wp2_with fail
  refine (HMAY.out _ HB.out).mono ?_
  rintro _ w2 ⟨rfl, hb⟩
  have HX := hid (HX.out.kb hb)
  have O2 := hid (O2.out.kb hb)
  have HB := hid (kb_tr HB.out hb)
  clear hb x0 xl HMAY
  cases hmg : mayG r
  · have HE := hid (HSN.out hmg)
    go_wp2_with fail
    refine (snone_any w2).mono ?_
    rintro _ w3 ⟨rfl, hb⟩
    have O2 := hid (O2.out.below hb)
    have HB := hid (kb_tr HB.out hb.kb)
    clear hb
    obtain ⟨y0, y1⟩ := O2.out.box.get2
    have sf : ∀ j, w3.frozen? ⟨g2, j, none⟩ = false := O2.out.soft
    have yl := O2.out.box.1
    go_wp2_with fail
    refine body_name ?_
    intro w9 hw9
    have O9 : Own w.heap.size w9 g2 [.slice none 0 0, .slice none 0 0] := by rw [hw9]; exact O2.out.set2 _ _
    have B9 : KB w.heap.size w w9 := by rw [hw9]; exact kb_set2 HB.out hg2 _ _
    clear hw9
    obtain ⟨k0, k1⟩ := O9.box.get2
    refine bodyPost_ret (v := setV none 0 0 none 0 0) (by simp [results, Tryz.results32, go_sem, k0, k1, setV]) rfl ?_
    rw [HE.out]
    exact ⟨none, 0, none, 0, rfl, SpanB.nil _ _, SpanB.nil _ _, B9⟩
  · have HE := hid (HSY.out hmg)
    have HP := hid (HMP.out hmg)
    have hn6 := HP.out.1
    have HA := hid (HA.out.kb HB.out)
    have HG := hid (HL.out.kb HB.out).first
    clear hmg
    have x0 := HX.out.2 0 _ rfl
    have xl := HX.out.1
    go_upto_block 0 with fail
    clear x0 xl
    have HV2 := O2.out.box.1
    generalize hB : w2.heap.size = B at *
    go_wp2_with fail
    go_loopw [13, 3] (fun i vs wr => ∃ (k : Nat) (v : Value), i = .int .i64 k ∧ v = vs ∧ k ≤ n ∧ Hid (SetsOwn wr B v ((r.map altS).take k)) ∧ Hid (Below w2.heap.size w2 wr)) (fun i _ _ => n - (intOf i).toNat)
    case atStart => exact ⟨0, _, rfl, rfl, Nat.zero_le _, hid .nil, hid (Below.refl _ _)⟩
    case round =>
      obtain ⟨k, v, rfl, rfl, hk, HO, HB1⟩ := hrel
      by_cases hlt : k < n
      · have hlt' : k < r.length := by rw [HN.out]; exact hlt
        have i0 : (0 : Int) ≤ (k : Int) := by omega
        have i1 : (k : Int) < (n : Int) := by omega
        obtain ⟨b, off, Ai, ci, hA, hbl, hcell, hcs⟩ := (HA.out.below HB1.out).at_ hlt'
        subst hA
        have HCS := hid hcs
        have HAF := hid (HF.out _ (List.getElem_mem hlt'))
        have ha6 := HP.out.2 _ (List.getElem_mem hlt')
        have HTK := hid (map_take_alt hlt')
        have hLl : ((r.map altS).take k).length = k := by rw [List.length_take, List.length_map]; omega
        clear hcs
        generalize r[k] = a at *
        have HALT := hid (alt_any Ai ci a wr (HG.out.below HB1.out) HCS.out HAF.out ha6)
        generalize hm : a.length = m at *
        generalize altS a = s at *
        obtain ⟨s1, s2⟩ := s
        dsimp only at HALT
        generalize hq1 : s1.length = q1 at *
        generalize hq2 : s2.length = q2 at *
        have HQ1 := hid hq1
        have HQ2 := hid hq2
        clear hq1 hq2
        go_wp2_with fail
        refine HALT.out.mono ?_
        rintro _ u1 ⟨A5, c5, B5, d5, he, hs5, hs6, hb⟩
        rw [HQ1.out, HQ2.out] at he
        subst he
        have HBU := hid (below_tr HB1.out hb)
        have hszB : B ≤ u1.heap.size := by have := HBU.out.size; omega
        have hszr : B ≤ wr.heap.size := by have := HB1.out.size; omega
        have HOU := hid (HO.out.kb hb.kb)
        have HP5 : Hid (PartAt u1 B v A5 s1) := hid ⟨hs5.1, fun _ ad had => by
          have h1 := hs5.2 ad had
          refine ⟨by omega, fun e => ?_⟩
          obtain ⟨hs, -, h2, -⟩ := HO.out
          have := (h2.lt _ e).2
          omega⟩
        have HP6 : Hid (PartAt u1 B v B5 s2) := hid ⟨hs6.1, fun _ ad had => by
          have h1 := hs6.2 ad had
          refine ⟨by omega, fun e => ?_⟩
          obtain ⟨hs, -, h2, -⟩ := HO.out
          have := (h2.lt _ e).2
          omega⟩
        obtain ⟨hs, e1, e2, e3⟩ := HOU.out
        have HE1 := hid e1
        have HE2 := hid e2
        have HE3 := hid e3
        rw [hLl] at HE2
        have hone : ∀ u ∈ ([.slice A5 q1 c5, .slice B5 q2 d5] : List Value), u.oneCell' = true := fun u hu => by
          simp only [List.mem_cons, List.not_mem_nil, or_false] at hu
          rcases hu with rfl | rfl <;> rfl
        clear hb hs5 hs6 e1 e2 e3 HALT hcell
        go_wp2_with (first | (at_builtin; refine wpList_app1y EKsets rfl (.tmp 17) (.tmp 20) rfl [.slice A5 q1 c5, .slice B5 q2 d5] HE2.out rfl rfl rfl hone (by unfold maxLen; omega) (by omega) hszB ?_; intro v' w' h2 h3 h4 h5))
        go_roundw
        case rel => exact ⟨k + 1, _, by go_num, rfl, by omega, hid (by rw [← HTK.out]; exact SetsOwn.snoc (s := (s1, s2)) HE1.out HE3.out (by rw [hLl, HQ1.out, HQ2.out]; exact h2) h4 h5 HP5.out HP6.out), hid (by rw [hB]; exact (hB ▸ HBU.out).trans h3)⟩
        case measure => simp [intOf]; omega
      · obtain rfl : k = n := by omega
        have hge : ¬ (k : Int) < (k : Int) := by omega
        have hfull : (r.map altS).take k = r.map altS := List.take_of_length_le (by rw [List.length_map, HN.out]; exact Nat.le_refl _)
        rw [hfull] at HO
        obtain ⟨A5, c5, hv, hsa⟩ := HO.out.at_
        have hll : (r.map altS).length = k := by rw [List.length_map, HN.out]
        rw [hll] at hv
        subst hv
        have HOR := hid (or7_any A5 c5 (r.map altS) wr (HG.out.below HB1.out) hsa (alts_sgood HF.out HP.out.2) (by rw [hll]; exact hn6))
        rw [hll, ← HE.out] at HOR
        have O2 := hid (O2.out.below HB1.out)
        have HBW := hid (kb_tr HB.out HB1.out.kb)
        clear hsa hfull HO
        generalize setG r = sg at *
        obtain ⟨s1, s2⟩ := sg
        dsimp only at HOR
        generalize hq1 : s1.length = q1 at *
        generalize hq2 : s2.length = q2 at *
        have HQ1 := hid hq1
        have HQ2 := hid hq2
        clear hq1 hq2
        go_wp2_with fail
        refine HOR.out.mono ?_
        rintro _ u1 ⟨A6, c6, B6, d6, he, hs5, hs6, hb⟩
        rw [HQ1.out, HQ2.out] at he
        subst he
        have HBW2 := hid (kb_tr HBW.out hb.kb)
        have O2 := hid (O2.out.below hb)
        have HS5 := hid hs5
        have HS6 := hid hs6
        have hgw : g2 < wr.heap.size := by have := HB1.out.size; omega
        clear hb hs5 hs6 HOR
        obtain ⟨y0, y1⟩ := O2.out.box.get2
        have sf : ∀ j, u1.frozen? ⟨g2, j, none⟩ = false := O2.out.soft
        have yl := O2.out.box.1
        go_wp2_with fail
        refine body_name ?_
        intro w9 hw9
        have O9 : Own w.heap.size w9 g2 [.slice A6 q1 c6, .slice B6 q2 d6] := by rw [hw9]; exact O2.out.set2 _ _
        have S9 : SpanB w9 wr.heap.size A6 s1 := by rw [hw9]; exact spanB_set2 HS5.out hgw _ _
        have T9 : SpanB w9 wr.heap.size B6 s2 := by rw [hw9]; exact spanB_set2 HS6.out hgw _ _
        have B9 : KB w.heap.size w w9 := by rw [hw9]; exact kb_set2 HBW2.out hg2 _ _
        clear hw9
        obtain ⟨k0, k1⟩ := O9.box.get2
        refine bodyPost_ret (v := setV A6 q1 c6 B6 q2 d6) (by simp [results, Tryz.results32, go_sem, k0, k1, setV]) rfl ?_
        have hww : w.heap.size ≤ wr.heap.size := by omega
        exact ⟨A6, c6, B6, d6, by rw [HQ1.out, HQ2.out], S9.low hww, T9.low hww, B9⟩
end Go.Proofs.YtplmlahpmnjneaaGreatDoor
