import Derived.Test.YtplmlahpmnjneaaGreatDoorNSa
import Derived.Test.YtplmlahpmnjneaaGreatDoorNBd
import Derived.Test.YtplmlahpmnjneaaGreatDoorNBh
import Derived.Test.YtplmlahpmnjneaaGreatDoorNBb
import Derived.Test.YtplmlahpmnjneaaGreatDoorNBe
namespace Go.Proofs.YtplmlahpmnjneaaGreatDoor
open Go.RowKit Go.Lib
set_option linter.unusedVariables false
set_option linter.unusedSimpArgs false
abbrev setV (A : Option Addr) (n c : Nat) (B : Option Addr) (m d : Nat) : Value := .agg #[.slice A n c, .slice B m d]
theorem Box.get2 {w : World} {g : Nat} {x0 x1 : Value} (h : Box w g [x0, x1]) : w.cell? ⟨g, 0, none⟩ = some x0 ∧ w.cell? ⟨g, 1, none⟩ = some x1 := ⟨h.2 0 _ rfl, h.2 1 _ rfl⟩
def settledS (s : SpanL) : Bool := settledC s.fr && settledC s.til
def settledR (l : List SpanL) : Bool := l.all settledS
def mayS (l m : List SpanL) : Bool := settledR l && mayR l && mayR m
def settledTo (l : List SpanL) (k : Nat) : Prop := ∀ j, j < k → settledS (nth l j) = true
theorem settledTo_step {l : List SpanL} {k : Nat} (h : settledTo l k) (h1 : settledS (nth l k) = true) : settledTo l (k + 1) := by
  intro j hj
  rcases Nat.lt_or_ge j k with h' | h'
  · exact h j h'
  · obtain rfl : j = k := by omega
    exact h1
theorem settledTo_end {l : List SpanL} (h : settledTo l l.length) : settledR l = true := by
  rw [settledR, List.all_eq_true]
  intro s hs
  obtain ⟨i, hi, rfl⟩ := List.getElem_of_mem hs
  have := h i hi
  rwa [nth_lt hi] at this
theorem settledTo_no {l : List SpanL} {k : Nat} (hk : k < l.length) (h : settledS (nth l k) = false) : settledR l = false := by
  rw [settledR, List.all_eq_false]
  exact ⟨_, List.getElem_mem hk, by rw [nth_lt hk] at h; simp [h]⟩
set_option maxRecDepth 100000 in
set_option maxHeartbeats 1000000 in
theorem smay_any (A B : Option Addr) (c d : Nat) (l m : List SpanL) (w : World) (hg : First w) (hl : Spans w A l) (hm : Spans w B m) (hfl : fitL l) (hfm : fitL m) (hln : l.length ≤ 4398046511104) (hmn : m.length ≤ 4398046511104) :
    Calls Tryz.prog 47 #[setV A l.length c B m.length d] w (BoolPost w (mayS l m)) := by
  generalize hr : mayS l m = r
  have HR := hid hr
  have HG := hid hg
  have HL := hid hl
  have HM := hid hm
  have HC := hid (fun w' (h : Spans w' A l) => rowmay_any A c l w' h hfl hln)
  have HD := hid (fun w' (h : Spans w' B m) => rowmay_any B d m w' h hfm hmn)
  clear hr hg hl hm hfl hfm
  generalize hn : l.length = n at *
  have HN := hid hn
  generalize m.length = n2 at *
  clear hn
  go_enter Tryz.func47, Tryz.ntmps47
  go_wp2_with fail
  refine wp_name ?_
  intro w0 hw0
  have HB0 : Hid (Below w.heap.size w w0) := hid (by rw [hw0]; exact below_new _ _)
  have HX : Hid (Box w0 w.heap.size [.slice A n c, .slice B n2 d]) := hid (by rw [hw0]; exact Box.new w [.slice A n c, .slice B n2 d] _)
  have HG0 := hid (HG.out.below HB0.out)
  have HL0 := hid (HL.out.below HB0.out)
  have HM0 := hid (HM.out.below HB0.out)
  clear hw0 HG HL HM
  go_loopw [4, 8] (fun _ i wr => ∃ k : Nat, i = .int .i64 k ∧ k ≤ n ∧ Hid (settledTo l k) ∧ Hid (Below w0.heap.size w0 wr)) (fun _ i _ => n - (intOf i).toNat)
  case atStart => exact ⟨0, rfl, Nat.zero_le _, fun j hj => by omega, Below.refl _ _⟩
  case round =>
    obtain ⟨k, rfl, hk, HS, HBR⟩ := hrel
    have HLr := hid (HL0.out.below HBR.out)
    by_cases hlt : k < n
    · have hlt' : k < l.length := by rw [HN.out]; exact hlt
      obtain ⟨b, off, rfl, hbl, ⟨x0, x1, x2, x3, x4, x5, x6⟩, z0, z1, z2, z3, z4, z5, z6⟩ := HLr.out.at_ (k := k) hlt'
      have i0 : (0 : Int) ≤ (k : Int) := by omega
      have i1 : (k : Int) < (n : Int) := by omega
      have HNO := hid (fun h => settledTo_no (k := k) hlt' h)
      have HST := hid (fun h => settledTo_step (k := k) HS.out h)
      generalize nth l k = s at *
      have HBN := hid (below_new wr (.cells s.cells.toArray 100))
      have HX0 := hid (Box.new wr s.cells 100)
      have HF := hid (fun w' => (HG0.out.below (HBR.out.trans (HBN.out.mono HBR.out.size))).below (w' := w'))
      have HF1 := hid ((HG0.out.below HBR.out).below HBN.out)
      cases h1 : settledC s.fr
      · have HE := hid (HNO.out (by rw [settledS, h1]; rfl))
        go_wp2_with fail
        refine (settled_any s.fr _ HF1.out).mono ?_
        rintro _ w1 ⟨rfl, hb1⟩
        rw [h1]
        clear x0 x1 x2 x3 x4 x5 x6 z0 z1 z2 z3 z4 z5 z6
        go_wp2_with fail
        go_ret
        exact ⟨by rw [← HR.out, mayS, HE.out]; rfl, below_tr HB0.out (below_tr HBR.out (below_tr HBN.out hb1))⟩
      · cases h2 : settledC s.til
        · have HE := hid (HNO.out (by rw [settledS, h1, h2]; rfl))
          go_wp2_with fail
          refine (settled_any s.fr _ HF1.out).mono ?_
          rintro _ w1 ⟨rfl, hb1⟩
          rw [h1]
          have HB1 := hid hb1
          have HF2 := hid (HF.out _ hb1)
          obtain ⟨⟨p0, p1, p2, p3, p4, p5, p6⟩, q0, q1, q2, q3, q4, q5, q6⟩ := (HX0.out.below hb1).get14
          clear x0 x1 x2 x3 x4 x5 x6 z0 z1 z2 z3 z4 z5 z6 hb1
          go_wp2_with fail
          refine (settled_any s.til _ HF2.out).mono ?_
          rintro _ w2 ⟨rfl, hb2⟩
          rw [h2]
          clear p0 p1 p2 p3 p4 p5 p6 q0 q1 q2 q3 q4 q5 q6
          go_wp2_with fail
          go_ret
          exact ⟨by rw [← HR.out, mayS, HE.out]; rfl, below_tr HB0.out (below_tr HBR.out (below_tr HBN.out (below_tr HB1.out hb2)))⟩
        · have HE := hid (HST.out (by rw [settledS, h1, h2]; rfl))
          go_wp2_with fail
          refine (settled_any s.fr _ HF1.out).mono ?_
          rintro _ w1 ⟨rfl, hb1⟩
          rw [h1]
          have HB1 := hid hb1
          have HF2 := hid (HF.out _ hb1)
          obtain ⟨⟨p0, p1, p2, p3, p4, p5, p6⟩, q0, q1, q2, q3, q4, q5, q6⟩ := (HX0.out.below hb1).get14
          clear x0 x1 x2 x3 x4 x5 x6 z0 z1 z2 z3 z4 z5 z6 hb1
          go_wp2_with fail
          refine (settled_any s.til _ HF2.out).mono ?_
          rintro _ w2 ⟨rfl, hb2⟩
          rw [h2]
          clear p0 p1 p2 p3 p4 p5 p6 q0 q1 q2 q3 q4 q5 q6
          have HB2 := hid hb2
          clear hb2
          go_wp2_with fail
          go_roundw
          case rel => exact ⟨k + 1, by go_num, by omega, HE.out, below_tr HBR.out (below_tr HBN.out (below_tr HB1.out HB2.out))⟩
          case measure => simp [intOf]; omega
    · obtain rfl : k = n := by omega
      have HE := hid (settledTo_end (l := l) (by rw [HN.out]; exact HS.out))
      obtain ⟨y0, y1⟩ := (HX.out.below HBR.out).get2
      cases h1 : mayR l
      · go_wp2_with fail
        refine (HC.out _ HLr.out).mono ?_
        rintro _ w1 ⟨rfl, hb1⟩
        rw [h1]
        clear y0 y1
        go_wp2_with fail
        go_ret
        exact ⟨by rw [← HR.out, mayS, HE.out, h1]; rfl, below_tr HB0.out (below_tr HBR.out hb1)⟩
      · go_wp2_with fail
        refine (HC.out _ HLr.out).mono ?_
        rintro _ w1 ⟨rfl, hb1⟩
        rw [h1]
        have HB1 := hid hb1
        have HM1 := hid ((HM0.out.below HBR.out).below hb1)
        clear y0 y1
        obtain ⟨y0, y1⟩ := ((HX.out.below HBR.out).below hb1).get2
        clear hb1
        go_wp2_with fail
        refine (HD.out _ HM1.out).mono ?_
        rintro _ w2 ⟨rfl, hb2⟩
        clear y0 y1
        go_wp2_with fail
        go_ret
        exact ⟨by rw [← HR.out, mayS, HE.out, h1]; rfl, below_tr HB0.out (below_tr HBR.out (below_tr HB1.out hb2))⟩
end Go.Proofs.YtplmlahpmnjneaaGreatDoor
namespace Go.Proofs.YtplmlahpmnjneaaGreatDoor
open Go.RowKit Go.Lib
set_option linter.unusedVariables false
set_option linter.unusedSimpArgs false
def sameS (l m p q : List SpanL) : Bool := sameR l p && sameR m q
def SetPost (w : World) (l m : List SpanL) (e : Ending) (w' : World) : Prop := ∃ A c B d, e = .returned (setV A l.length c B m.length d) ∧ SpanB w' w.heap.size A l ∧ SpanB w' w.heap.size B m ∧ Below w.heap.size w w'
def NonePost (w : World) (e : Ending) (w' : World) : Prop := e = .returned (setV none 0 0 none 0 0) ∧ Below w.heap.size w w'
theorem NonePost.set {w : World} {e : Ending} {w' : World} (h : NonePost w e w') : SetPost w [] [] e w' := ⟨none, 0, none, 0, h.1, SpanB.nil _ _, SpanB.nil _ _, h.2⟩
theorem snone_any (w : World) : Calls Tryz.prog 66 #[] w (NonePost w) := by
  go_enter Tryz.func66, Tryz.ntmps66
  go_wp2
  refine bodyPost_ret (v := setV none 0 0 none 0 0) (by simp [results, Tryz.results66, go_sem]) rfl ⟨rfl, ?_⟩
  exact below_new _ _
def wholeL : List SpanL := [⟨firstC, lastC⟩]
def WholePost (w : World) (e : Ending) (w' : World) : Prop := ∃ A c, e = .returned (.slice A 1 c) ∧ SpanB w' w.heap.size A wholeL ∧ Below w.heap.size w w'
end Go.Proofs.YtplmlahpmnjneaaGreatDoor
namespace Go.Proofs.YtplmlahpmnjneaaGreatDoor
open Go.RowKit Go.Lib
set_option linter.unusedVariables false
set_option linter.unusedSimpArgs false
def RowN (w : World) (l : List SpanL) (e : Ending) (w' : World) : Prop := ∃ A c, e = .returned (.slice A l.length c) ∧ SpanB w' w.heap.size A l ∧ Below w.heap.size w w'
theorem RowPost.n {w : World} {l : List SpanL} {e : Ending} {w' : World} (h : RowPost w w.heap.size l e w') : RowN w l e w' := by
  obtain ⟨v, rfl, h1, h2, _⟩ := h
  obtain ⟨A, c, rfl, h3⟩ := SpanB.own h1
  exact ⟨A, c, rfl, h3, h2⟩
theorem callN {P : Program} {f : FuncId} {args : Array Value} {w : World} {l : List SpanL} (h : Calls P f args w (RowPost w w.heap.size l)) : Calls P f args w (RowN w l) := h.mono fun _ _ h => RowPost.n h
theorem srowsOr_do (A B : Option Addr) (c d : Nat) (l m : List SpanL) (w : World) (hl : Spans w A l) (hm : Spans w B m) (hfl : fitL l) (hfm : fitL m) (hln : l.length + 2 * m.length ≤ 39999) : Calls Tryz.prog 109 #[.slice A l.length c, .slice B m.length d] w (RowN w (rorL l m)) := callN (por_any w.heap.size A B c d l m w hl hm hfl hfm (by omega) (Nat.le_refl _))
set_option maxRecDepth 100000 in
set_option maxHeartbeats 2000000 in
theorem srowsOr (A B C D : Option Addr) (c d c2 d2 : Nat) (l m p q : List SpanL) (w : World) (hg : First w) (hl : Spans w A l) (hm : Spans w B m) (hp : Spans w C p) (hq : Spans w D q) (hfl : fitL l) (hfm : fitL m) (hfp : fitL p) (hfq : fitL q)
    (hln : l.length ≤ 10000) (hmn : m.length ≤ 10000) (hpn : p.length ≤ 10000) (hqn : q.length ≤ 10000) :
    Calls Tryz.prog 167 #[setV A l.length c B m.length d, setV C p.length c2 D q.length d2, .func (.func 109) #[] #[]] w (SetPost w (if mayS l m && mayS p q then rorL l p else []) (if mayS l m && mayS p q then rorL m q else [])) := by
  have HB0 := hid (below_tr (below_tr (below_new w (.cells [.slice A l.length c, .slice B m.length d].toArray 24)) (below_new _ (.cells [.slice C p.length c2, .slice D q.length d2].toArray 24))) (below_new _ (.cells [Value.slice none 0 0, .slice none 0 0].toArray 24)))
  have HY := hid (smay_any A B c d l m _ (hg.below HB0.out) (hl.below HB0.out) (hm.below HB0.out) hfl hfm (by omega) (by omega))
  have HZ := hid (fun w' (h : Below w.heap.size w w') => smay_any C D c2 d2 p q w' (hg.below h) (hp.below h) (hq.below h) hfp hfq (by omega) (by omega))
  have HD1 := hid (fun w' (h : Below w.heap.size w w') => srowsOr_do A C c c2 l p w' (hl.below h) (hp.below h) hfl hfp (by omega))
  have HD2 := hid (fun w' (h : Below w.heap.size w w') => srowsOr_do B D d d2 m q w' (hm.below h) (hq.below h) hfm hfq (by omega))
  clear hg hl hm hp hq hfl hfm hfp hfq
  generalize l.length = n at *
  generalize m.length = n2 at *
  generalize p.length = n3 at *
  generalize q.length = n4 at *
  cases h1 : mayS l m
  · go_enter Tryz.func167, Tryz.ntmps167
    go_wp2_with fail
    refine HY.out.mono ?_
    rintro _ w1 ⟨rfl, hb1⟩
    rw [h1]
    obtain ⟨_, _, hy, hs, hb⟩ := box_3 (cs := [.slice A n c, .slice B n2 d]) (ds := [.slice C n3 c2, .slice D n4 d2]) (es := [.slice none 0 0, .slice none 0 0]) hb1
    have HX := hid hy
    have HS := hid hs
    have HB1 := hid hb
    clear hb1 hy hs hb
    go_wp2_with fail
    refine (snone_any _).mono ?_
    rintro _ w2 ⟨rfl, hb2⟩
    have HX2 := hid (HX.out.below hb2)
    have hf : ∀ j, w2.frozen? ⟨w.heap.size + 1 + 1, j, none⟩ = false := HS.out.below HX.out.1 hb2
    have HB2 := hid (below_tr HB1.out hb2)
    obtain ⟨y0, y1⟩ := HX2.out.get2
    have hlt := HX2.out.1
    clear hb2
    go_wp2_with fail
    refine ret2 HX2.out (v := setV none 0 0 none 0 0) (fun w3 h3 => ?_) rfl (fun h3 => NonePost.set ⟨rfl, HB2.out.trans (h3.mono (by omega))⟩)
    obtain ⟨k0, k1⟩ := h3.get2
    simp [results, Tryz.results167, go_sem, k0, k1]
  · cases h2 : mayS p q
    · go_enter Tryz.func167, Tryz.ntmps167
      go_wp2_with fail
      refine HY.out.mono ?_
      rintro _ w1 ⟨rfl, hb1⟩
      rw [h1]
      obtain ⟨_, hx, hy, hs, hb⟩ := box_3 (cs := [.slice A n c, .slice B n2 d]) (ds := [.slice C n3 c2, .slice D n4 d2]) (es := [.slice none 0 0, .slice none 0 0]) hb1
      have HX := hid hy
      have HS := hid hs
      have HB1 := hid hb
      obtain ⟨z0, z1⟩ := hx.get2
      clear hb1 hx hy hs hb
      go_wp2_with fail
      refine (HZ.out _ HB1.out).mono ?_
      rintro _ w2 ⟨rfl, hb2⟩
      rw [h2]
      have HX2 := hid (HX.out.below hb2)
      have HS2 := hid (HS.out.below HX.out.1 hb2)
      have HB2 := hid (below_tr HB1.out hb2)
      clear hb2 z0 z1
      go_wp2_with fail
      refine (snone_any _).mono ?_
      rintro _ w3 ⟨rfl, hb3⟩
      have HX3 := hid (HX2.out.below hb3)
      have hf : ∀ j, w3.frozen? ⟨w.heap.size + 1 + 1, j, none⟩ = false := HS2.out.below HX2.out.1 hb3
      have HB3 := hid (below_tr HB2.out hb3)
      obtain ⟨y0, y1⟩ := HX3.out.get2
      have hlt := HX3.out.1
      clear hb3
      go_wp2_with fail
      refine ret2 HX3.out (v := setV none 0 0 none 0 0) (fun w3 h3 => ?_) rfl (fun h3 => NonePost.set ⟨rfl, HB3.out.trans (h3.mono (by omega))⟩)
      obtain ⟨k0, k1⟩ := h3.get2
      simp [results, Tryz.results167, go_sem, k0, k1]
    · go_enter Tryz.func167, Tryz.ntmps167
      go_wp2_with fail
      refine HY.out.mono ?_
      rintro _ w1 ⟨rfl, hb1⟩
      rw [h1]
      obtain ⟨hw, hx, hy, hs, hb⟩ := box_3 (cs := [.slice A n c, .slice B n2 d]) (ds := [.slice C n3 c2, .slice D n4 d2]) (es := [.slice none 0 0, .slice none 0 0]) hb1
      have HW := hid hw
      have HV := hid hx
      have HX := hid hy
      have HS := hid hs
      have HB1 := hid hb
      obtain ⟨z0, z1⟩ := hx.get2
      clear hb1 hw hx hy hs hb
      go_wp2_with fail
      refine (HZ.out _ HB1.out).mono ?_
      rintro _ w2 ⟨rfl, hb2⟩
      rw [h2]
      have HX2 := hid (HX.out.below hb2)
      have HS2 := hid (HS.out.below HX.out.1 hb2)
      have HB2 := hid (below_tr HB1.out hb2)
      have HK := hid (fun w' (h : Below w2.heap.size w2 w') => ((fun (a : _ ∧ _) (b : _ ∧ _) => ⟨a.1, a.2, b.1, b.2⟩) ((HW.out.below hb2).below h).get2 ((HV.out.below hb2).below h).get2 : w'.cell? ⟨w.heap.size, 0, none⟩ = some (.slice A n c) ∧ w'.cell? ⟨w.heap.size, 1, none⟩ = some (.slice B n2 d) ∧ w'.cell? ⟨w.heap.size + 1, 0, none⟩ = some (.slice C n3 c2) ∧ w'.cell? ⟨w.heap.size + 1, 1, none⟩ = some (.slice D n4 d2)))
      have HR := hid (fun w' (h : Below w2.heap.size w2 w') => And.intro (HX2.out.below h) (HS2.out.below HX2.out.1 h))
      have HC1 := hid (fun w' (h : Below w2.heap.size w2 w') => HD1.out w' (below_tr HB2.out h))
      have HC2 := hid (fun w' (h : Below w2.heap.size w2 w') => HD2.out w' (below_tr HB2.out h))
      clear hb2 z0 z1 HD1 HD2 HZ HY HB1 HB0 HX HS HV HW
      have HG : Hid (w.heap.size + 1 + 1 < w2.heap.size) := hid HX2.out.1
      clear HX2 HS2
      go_wp2_with fail
      have q1 : ¬ w.heap.size + 1 + 1 = w.heap.size := by omega
      have q2 : ¬ w.heap.size + 1 + 1 = w.heap.size + 1 := by omega
      go_region_held3 (fun w' => w'.cell? ⟨w.heap.size, 0, none⟩ = some (.slice A n c) ∧ w'.cell? ⟨w.heap.size, 1, none⟩ = some (.slice B n2 d) ∧ w'.cell? ⟨w.heap.size + 1, 0, none⟩ = some (.slice C n3 c2) ∧ w'.cell? ⟨w.heap.size + 1, 1, none⟩ = some (.slice D n4 d2))
        (first | (exact HK.out _ (by first | assumption | exact (Below.refl _ _).drew)) | go_keep)
        (first
          | (go_at_call_of 109 A; (with_reducible refine (HC1.out _ (by first | assumption | exact (Below.refl _ _).drew)).mono ?_); rintro _ w4 ⟨A4, c4, rfl, s4, k4⟩; have hb4 : Below w2.heap.size w2 w4 := below_tr (by first | assumption | exact (Below.refl _ _).drew) k4; obtain ⟨a0, a1⟩ := (HR.out _ hb4).1.get2; have a2 : ∀ j, w4.frozen? ⟨w.heap.size + 1 + 1, j, none⟩ = false := (HR.out _ hb4).2)
          | (go_at_call_of 109 B; (with_reducible refine (HC2.out _ (by first | assumption | exact (Below.refl _ _).drew)).mono ?_); rintro _ w5 ⟨A5, c5, rfl, s5, k5⟩; have hb5 : Below w2.heap.size w2 w5 := below_tr (by first | assumption | exact (Below.refl _ _).drew) k5; obtain ⟨b0, b1⟩ := (HR.out _ hb5).1.get2; have b2 : ∀ j, w5.frozen? ⟨w.heap.size + 1 + 1, j, none⟩ = false := (HR.out _ hb5).2))
      have HA := hid (SpanB.low (s4.below k5) (show w2.heap.size ≤ _ from Nat.le_refl _))
      have HE := hid (SpanB.low s5 (show w2.heap.size ≤ _ from hb4.size))
      have HX5 := hid (HR.out _ hb5).1
      have HB5 := hid (below_tr HB2.out hb5)
      have hg := HG.out
      have hgw := HB2.out.size
      clear s4 s5 k4 k5 hb4 hb5 a0 a1 a2 b0 b1 b2 q1 q2
      go_wp2_with fail
      refine ret2 HX5.out (v := setV A4 _ c4 A5 _ c5) (fun w3 h3 => ?_) rfl (fun h3 => ⟨A4, c4, A5, c5, rfl, (HA.out.set hg).low hgw, (HE.out.set hg).low hgw, HB5.out.trans (h3.mono (by omega))⟩)
      obtain ⟨k0, k1⟩ := h3.get2
      simp [results, Tryz.results167, go_sem, k0, k1]
set_option maxHeartbeats 1000000 in
theorem sor_any (A B C D : Option Addr) (c d c2 d2 : Nat) (l m p q : List SpanL) (w : World) (hg : First w) (hl : Spans w A l) (hm : Spans w B m) (hp : Spans w C p) (hq : Spans w D q) (hfl : fitL l) (hfm : fitL m) (hfp : fitL p) (hfq : fitL q)
    (hln : l.length ≤ 10000) (hmn : m.length ≤ 10000) (hpn : p.length ≤ 10000) (hqn : q.length ≤ 10000) :
    Calls Tryz.prog 112 #[setV A l.length c B m.length d, setV C p.length c2 D q.length d2] w (SetPost w (if mayS l m && mayS p q then rorL l p else []) (if mayS l m && mayS p q then rorL m q else [])) := by
  have HB0 := hid (below_tr (below_tr (below_new w (.cells [.slice A l.length c, .slice B m.length d].toArray 24)) (below_new _ (.cells [.slice C p.length c2, .slice D q.length d2].toArray 24))) (below_new _ (.cells [Value.slice none 0 0, .slice none 0 0].toArray 24)))
  have HY := hid (srowsOr A B C D c d c2 d2 l m p q _ (hg.below HB0.out) (hl.below HB0.out) (hm.below HB0.out) (hp.below HB0.out) (hq.below HB0.out) hfl hfm hfp hfq hln hmn hpn hqn)
  clear hg hl hm hp hq hfl hfm hfp hfq
  generalize (if mayS l m && mayS p q then rorL l p else []) = x at *
  generalize (if mayS l m && mayS p q then rorL m q else []) = y at *
  generalize l.length = n at *
  generalize m.length = n2 at *
  generalize p.length = n3 at *
  generalize q.length = n4 at *
  go_enter Tryz.func112, Tryz.ntmps112
  go_wp2_with fail
  refine HY.out.mono ?_
  rintro _ w1 ⟨A1, c1, B1, d1, rfl, h1, h2, hb1⟩
  obtain ⟨_, _, hy, hs, hb⟩ := box_3 (cs := [.slice A n c, .slice B n2 d]) (ds := [.slice C n3 c2, .slice D n4 d2]) (es := [.slice none 0 0, .slice none 0 0]) hb1
  have HX := hid hy
  have hf : ∀ j, w1.frozen? ⟨w.heap.size + 1 + 1, j, none⟩ = false := hs
  have HB := hid hb
  have H1 := hid h1
  have H2 := hid h2
  obtain ⟨y0, y1⟩ := hy.get2
  have hlt := hy.1
  have hz : w.heap.size + 1 + 1 < (((w.alloc (.cells [.slice A n c, .slice B n2 d].toArray 24)).alloc (.cells [.slice C n3 c2, .slice D n4 d2].toArray 24)).alloc (.cells [Value.slice none 0 0, .slice none 0 0].toArray 24)).heap.size := by simp
  have HZ := hid hz
  have HB0s := hid HB0.out.size
  clear hb1 hy hs hb h1 h2 hz
  go_wp2_with fail
  refine ret2 HX.out (v := setV A1 _ c1 B1 _ d1) (fun w3 h3 => ?_) rfl (fun h3 => ⟨A1, c1, B1, d1, rfl, (H1.out.set HZ.out).low HB0s.out, (H2.out.set HZ.out).low HB0s.out, HB.out.trans (h3.mono (by omega))⟩)
  obtain ⟨k0, k1⟩ := h3.get2
  simp [results, Tryz.results112, go_sem, k0, k1]
end Go.Proofs.YtplmlahpmnjneaaGreatDoor
namespace Go.Proofs.YtplmlahpmnjneaaGreatDoor
open Go.RowKit Go.Lib
set_option linter.unusedVariables false
set_option linter.unusedSimpArgs false
def orS (l m p q : List SpanL) : List SpanL × List SpanL := if mayS l m && mayS p q then (rorL l p, rorL m q) else ([], [])
end Go.Proofs.YtplmlahpmnjneaaGreatDoor
namespace Go.Proofs.YtplmlahpmnjneaaGreatDoor
open Go.RowKit Go.Lib
set_option linter.unusedVariables false
set_option linter.unusedSimpArgs false
theorem Box.set5 {w : World} {g : Nat} {v : Ver} (u : Ver) (h : Box w g v.cells) : Box (w.setCells g 0 u.cells) g u.cells := h.set (o := 0) (vs := u.cells) (by simp)
theorem SpanB.fresh (w : World) (s : SpanL) (t : TypeId) : SpanB (w.alloc (.cells s.cells.toArray t)) w.heap.size (some ⟨w.heap.size, 0, none⟩) [s] :=
  ⟨Spans.one (Box.new w s.cells t), fun ad e => by injection e with e; rw [← e]; exact Nat.le_refl _⟩
end Go.Proofs.YtplmlahpmnjneaaGreatDoor
namespace Go.Proofs.YtplmlahpmnjneaaGreatDoor
open Go.RowKit Go.Lib
set_option linter.unusedVariables false
set_option linter.unusedSimpArgs false
namespace Rw
def cutsOf (l : List SpanL) : List CutL := l.map (fun s => s.fr) ++ l.map (fun s => s.til)
theorem mem_cutsOf {l : List SpanL} {x : CutL} : x ∈ cutsOf l ↔ ∃ s, s ∈ l ∧ (x = s.fr ∨ x = s.til) := by
  rw [cutsOf, List.mem_append, List.mem_map, List.mem_map]
  constructor
  · rintro (⟨s, h, rfl⟩ | ⟨s, h, rfl⟩)
    · exact ⟨s, h, .inl rfl⟩
    · exact ⟨s, h, .inr rfl⟩
  · rintro ⟨s, h, rfl | rfl⟩
    · exact .inl ⟨s, h, rfl⟩
    · exact .inr ⟨s, h, rfl⟩
def RelR (l : List SpanL) : Prop := ∀ s, s ∈ l → rightC s.fr = true ∧ rightC s.til = true
theorem RelR.nil : RelR [] := fun s h => by cases h
theorem RelR.cut {l : List SpanL} (h : RelR l) {c : CutL} (hc : c ∈ cutsOf l) : rightC c = true := by
  obtain ⟨s, hs, rfl | rfl⟩ := mem_cutsOf.1 hc
  · exact (h s hs).1
  · exact (h s hs).2
theorem bef_le_bef {v w : Ver} (hv : mayV v = true) (hw : mayV w = true) : le (befC v) (befC w) ↔ cmpV v w ≤ 0 := by
  rw [le_bef (befC_may hv) rfl hw, show (befC v).v = bareV v from rfl, show (befC v).aft = false from rfl]
  have e : cmpV (bareV v) w = cmpV v w := by
    rw [cmpV_ok (bare_may hv) hw, cmpV_ok hv hw]; rfl
  rw [e]
  constructor
  · rintro (h | h) <;> omega
  · intro h
    by_cases k : cmpV v w = 0
    · exact .inr ⟨k, rfl⟩
    · exact .inl (by omega)
theorem growR_cuts {P : CutL → Prop} {l : List SpanL} {f t : CutL} (hl : ∀ s, s ∈ l → P s.fr ∧ P s.til) (hf : P f) (ht : P t) : ∀ s, s ∈ growR l f t → P s.fr ∧ P s.til := by
  intro s hs
  rcases List.eq_nil_or_concat l with rfl | ⟨m, q, rfl⟩
  · simp only [growR, List.getLast?_nil, List.mem_singleton] at hs
    subst hs; exact ⟨hf, ht⟩
  · rw [List.concat_eq_append] at hl hs
    simp only [growR, List.getLast?_append, List.getLast?_singleton, Option.some_or, List.dropLast_concat] at hs
    split at hs
    · rcases List.mem_append.1 hs with hs | hs
      · exact hl s (List.mem_append.2 (.inl hs))
      · rw [List.mem_singleton] at hs; subst hs
        exact ⟨(hl q (by simp)).1, ht⟩
    · rcases List.mem_append.1 hs with hs | hs
      · exact hl s hs
      · rw [List.mem_singleton] at hs; subst hs
        exact ⟨hf, ht⟩
theorem growTo_cuts {P : CutL → Prop} {c : List CutL} (hc : ∀ x, x ∈ c → P x) (p : CutL → CutL → Bool) : ∀ k, k < c.length → ∀ s, s ∈ growTo c p k → P s.fr ∧ P s.til
  | 0, _ => fun s h => by cases h
  | k + 1, hk => fun s hs => by
    have ih := growTo_cuts hc p k (by omega)
    unfold growTo at hs
    split at hs
    · exact growR_cuts ih (hc _ (by rw [nthC_lt (by omega)]; exact List.getElem_mem _)) (hc _ (by rw [nthC_lt hk]; exact List.getElem_mem _)) s hs
    · exact ih s hs
theorem cuts_right {l : List SpanL} (hl : ∀ s, s ∈ l → lt s.fr s.til) (hr : RelR l) (p : CutL → CutL → Bool) : RelR (growAll (cutsL l) p) := by
  have h := (cutsL_rise hl).2
  have h0 : 0 < (cutsL l).length := cuts_pos ((h firstC).2 (.inl (.inl rfl)))
  refine growTo_cuts (P := fun x => rightC x = true) (fun x hx => ?_) p _ (by omega)
  rcases (h x).1 hx with (rfl | rfl) | ⟨s, hs, rfl | rfl⟩
  · rfl
  · rfl
  · exact (hr s hs).1
  · exact (hr s hs).2
variable {a b : List SpanL}
theorem RelR.app (ha : RelR a) (hb : RelR b) : RelR (a ++ b) := fun s hs => by
  rcases List.mem_append.1 hs with h | h
  · exact ha s h
  · exact hb s h
theorem r_make (hl : ∀ s, s ∈ a → lt s.fr s.til) (ha : RelR a) : RelR (rmakeL a).1 := by
  rw [rmakeL, if_pos (all_may.2 hl)]
  exact cuts_right hl ha _
theorem r_or (ha : Val a) (hb : Val b) (ra : RelR a) (rb : RelR b) : RelR (rorL a b) := by
  rw [rorL, if_pos (by rw [mayR_val.2 ha, mayR_val.2 hb]; rfl)]
  exact r_make (app_span ha hb) (ra.app rb)
theorem r_and (ha : Val a) (hb : Val b) (ra : RelR a) (rb : RelR b) : RelR (randL a b) := by
  rw [randL, if_pos (by rw [mayR_val.2 ha, mayR_val.2 hb]; rfl)]
  exact cuts_right (app_span ha hb) (ra.app rb) _
theorem whole_lt : lt firstC lastC := ⟨first_may, last_may, cmpC_ends⟩
theorem whole_val : Val wholeL := by
  have := Val.snoc [] ⟨firstC, lastC⟩ True.intro whole_lt (fun t h => by cases h)
  exact this
theorem whole_right : RelR wholeL := fun s hs => by
  rw [wholeL, List.mem_singleton] at hs; subst hs; exact ⟨rfl, rfl⟩
theorem nil_val : Val [] := True.intro
end Rw
open Rw
set_option linter.unusedVariables false
set_option linter.unusedSimpArgs false
structure ValS (l m : List SpanL) : Prop where
  rel : Val l
  right : RelR l
  pre : Val m
theorem settledR_right {l : List SpanL} (h : Val l) : settledR l = true ↔ RelR l := by
  rw [settledR, List.all_eq_true]
  constructor
  · intro k s hs
    have := k s hs
    rw [settledS, Bool.and_eq_true, settled_right (h.span s hs).okl, settled_right (h.span s hs).okr] at this
    exact this
  · intro k s hs
    rw [settledS, Bool.and_eq_true, settled_right (h.span s hs).okl, settled_right (h.span s hs).okr]
    exact k s hs
theorem mayS_val {l m : List SpanL} : mayS l m = true ↔ ValS l m := by
  rw [mayS, Bool.and_eq_true, Bool.and_eq_true, mayR_val, mayR_val]
  constructor
  · rintro ⟨⟨h1, h2⟩, h3⟩; exact ⟨h2, (settledR_right h2).1 h1, h3⟩
  · rintro ⟨h1, h2, h3⟩; exact ⟨⟨(settledR_right h1).2 h2, h1⟩, h3⟩
theorem ValS.ok {l m : List SpanL} (h : ValS l m) : mayS l m = true := mayS_val.2 h
theorem ValS.nil : ValS [] [] := ⟨nil_val, RelR.nil, nil_val⟩
theorem ValS.whole : ValS wholeL wholeL := ⟨whole_val, whole_right, whole_val⟩
variable {l m p q : List SpanL}
theorem orS_val (h : ValS l m) (k : ValS p q) : orS l m p q = (rorL l p, rorL m q) := by rw [orS, h.ok, k.ok]; rfl
theorem ValS.and (h : ValS l m) (k : ValS p q) : ValS (randL l p) (randL m q) := ⟨v_and h.rel k.rel, r_and h.rel k.rel h.right k.right, v_and h.pre k.pre⟩
theorem ValS.or (h : ValS l m) (k : ValS p q) : ValS (rorL l p) (rorL m q) := ⟨v_or h.rel k.rel, r_or h.rel k.rel h.right k.right, v_or h.pre k.pre⟩
theorem ValS.orS (h : ValS l m) (k : ValS p q) : ValS (orS l m p q).1 (orS l m p q).2 := by rw [orS_val h k]; exact h.or k
theorem sameS_iff : sameS l m p q = true ↔ l = p ∧ m = q := by rw [sameS, Bool.and_eq_true, sameR_iff, sameR_iff]
theorem sameS_self : sameS l m l m = true := sameS_iff.2 ⟨rfl, rfl⟩
def turnedS (s : SpanL) : SpanL := ⟨turnedL s.fr, turnedL s.til⟩
def turnedR (l : List SpanL) : List SpanL := (l.map turnedS).filter spanMay
def turnedTo (l : List SpanL) (k : Nat) : List SpanL := turnedR (l.take k)
theorem turnedTo_succ {l : List SpanL} {k : Nat} (h : k < l.length) : turnedTo l (k + 1) = if spanMay (turnedS (nth l k)) then turnedTo l k ++ [turnedS (nth l k)] else turnedTo l k := by
  rw [turnedTo, turnedR, List.take_succ_eq_append_getElem h, List.map_append, List.filter_append, nth_lt h]
  by_cases hh : spanMay (turnedS l[k]) = true
  · rw [if_pos hh]; simp [turnedTo, turnedR, hh]
  · rw [if_neg hh]; simp [turnedTo, turnedR, hh]
theorem turnedTo_all (l : List SpanL) : turnedTo l l.length = turnedR l := by rw [turnedTo, List.take_length]
def smakeL (l m : List SpanL) : (List SpanL × List SpanL) × Bool := if mayR l && mayR m then (((rmakeL (turnedR l)).1, m), true) else (([], []), false)
theorem turned_fit {c : CutL} (h : c.fit) : (turnedL c).fit := by
  have hn : ∀ v : Ver, (nextL v).1.fit := fun v => by
    have hz : zeroV.fit := by simp only [Ver.fit, zeroV]; decide
    have hb : ∀ p, (bumpL v p).1.fit := fun p => by
      unfold bumpL
      split
      · unfold bumpV
        split
        · exact e_fit _ _ _
        · split <;> exact e_fit _ _ _
      · exact hz
    unfold nextL
    split
    · exact hz
    · split
      · exact e_fit _ _ _
      · split
        · exact hb 2
        · split
          · exact hb 1
          · split
            · exact hb 0
            · exact hz
  unfold turnedL
  split
  · exact h
  · split
    · unfold uptoL
      split
      · exact hn _
      · exact lastC_fit
    · unfold aheadR
      split
      · exact firstC_fit
      · exact e_fit _ _ _
theorem turnedS_fit {s : SpanL} (h : s.fit) : (turnedS s).fit := ⟨turned_fit h.1, turned_fit h.2⟩
theorem turnedR_lt (l : List SpanL) : ∀ s, s ∈ turnedR l → lt s.fr s.til := fun s hs => spanMay_iff.1 (List.mem_filter.1 hs).2
theorem turnedR_right (hl : Val l) : RelR (turnedR l) := fun s hs => by
  obtain ⟨t, ht, rfl⟩ := List.mem_map.1 (List.mem_filter.1 hs).1
  exact ⟨(turned_may (hl.span t ht).okl).2, (turned_may (hl.span t ht).okr).2⟩
theorem smake_yes (hl : Val l) (hm : Val m) : smakeL l m = (((rmakeL (turnedR l)).1, m), true) := by rw [smakeL, mayR_val.2 hl, mayR_val.2 hm]; rfl
theorem smake_val (hl : Val l) (hm : Val m) : ValS (smakeL l m).1.1 (smakeL l m).1.2 := by
  rw [smake_yes hl hm]
  exact ⟨(make_spec (turnedR_lt l)).2.1, r_make (turnedR_lt l) (turnedR_right hl), hm⟩
end Go.Proofs.YtplmlahpmnjneaaGreatDoor
namespace Go.Proofs.YtplmlahpmnjneaaGreatDoor
open Go.RowKit Go.Lib
open Rw
set_option linter.unusedVariables false
set_option linter.unusedSimpArgs false
structure SetAt (n : Nat) (w : World) (A : Option Addr) (l : List SpanL) (B : Option Addr) (m : List SpanL) : Prop where
  rel : Spans w A l
  pre : Spans w B m
  frel : fitL l
  fpre : fitL m
  nrel : l.length ≤ n
  npre : m.length ≤ n
  val : ValS l m
theorem SetAt.below {n : Nat} {w w' : World} {A B : Option Addr} {l m : List SpanL} (h : SetAt n w A l B m) (hb : Below w.heap.size w w') : SetAt n w' A l B m := ⟨h.rel.below hb, h.pre.below hb, h.frel, h.fpre, h.nrel, h.npre, h.val⟩
theorem SetAt.set {n : Nat} {w : World} {A B : Option Addr} {l m : List SpanL} {base g o : Nat} {vs : List Value} (h : SetAt n w A l B m) (ha : SpanB w base A l) (hb : SpanB w base B m) (hg : g < base) : SetAt n (w.setCells g o vs) A l B m := ⟨(ha.set hg).1, (hb.set hg).1, h.frel, h.fpre, h.nrel, h.npre, h.val⟩
def SetBack (n : Nat) (w : World) (l m : List SpanL) (e : Ending) (w' : World) : Prop := ∃ A c B d, e = .returned (setV A l.length c B m.length d) ∧ SetAt n w' A l B m ∧ SpanB w' w.heap.size A l ∧ SpanB w' w.heap.size B m ∧ Below w.heap.size w w'
theorem SetBack.of {n : Nat} {w : World} {l m : List SpanL} {e : Ending} {w' : World} (h : SetPost w l m e w') (h1 : fitL l) (h2 : fitL m) (h3 : l.length ≤ n) (h4 : m.length ≤ n) (h5 : ValS l m) : SetBack n w l m e w' := by
  obtain ⟨A, c, B, d, he, ha, hb, hw⟩ := h
  exact ⟨A, c, B, d, he, ⟨ha.1, hb.1, h1, h2, h3, h4, h5⟩, ha, hb, hw⟩
theorem fit_nil : fitL [] := fun i hi => by simp at hi
theorem whole_fit : fitL wholeL := fun i hi => by
  have : i = 0 := by simpa [wholeL] using hi
  subst this; exact ⟨firstC_fit, lastC_fit⟩
section
variable {n n2 : Nat} {w : World} {A B C D : Option Addr} {l m p q : List SpanL} {v : Ver}
theorem law_or (N : Nat) (c d c2 d2 : Nat) (hg : First w) (h : SetAt n w A l B m) (k : SetAt n2 w C p D q) (hN : 1 + 2 * (n + n2) ≤ N) (hn : n + n2 ≤ 5000) : Calls Tryz.prog 112 #[setV A l.length c B m.length d, setV C p.length c2 D q.length d2] w (SetBack N w (orS l m p q).1 (orS l m p q).2) := by
  have h1 := h.nrel; have h2 := h.npre; have h3 := k.nrel; have h4 := k.npre
  refine (sor_any A B C D c d c2 d2 l m p q w hg h.rel h.pre k.rel k.pre h.frel h.fpre k.frel k.fpre (by omega) (by omega) (by omega) (by omega)).mono fun e w' hp => ?_
  rw [h.val.ok, k.val.ok] at hp
  rw [orS_val h.val k.val]
  dsimp only
  have g1 := rorL_good h.frel k.frel
  have g2 := rorL_good h.fpre k.fpre
  exact SetBack.of hp g1.1 g2.1 (by omega) (by omega) (h.val.or k.val)
end
end Go.Proofs.YtplmlahpmnjneaaGreatDoor
namespace Go.Proofs.YtplmlahpmnjneaaGreatDoor
open Go.RowKit Go.Lib
open Rw
set_option linter.unusedVariables false
set_option linter.unusedSimpArgs false
theorem SetAt.none (w : World) : SetAt 0 w none [] none [] := ⟨.inl rfl, .inl rfl, fit_nil, fit_nil, Nat.le_refl _, Nat.le_refl _, ValS.nil⟩
end Go.Proofs.YtplmlahpmnjneaaGreatDoor
