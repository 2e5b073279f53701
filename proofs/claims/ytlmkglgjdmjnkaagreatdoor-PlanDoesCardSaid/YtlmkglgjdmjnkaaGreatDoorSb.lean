/- Sets: the walks of May and Has. -/
import Derived.Test.YtlmkglgjdmjnkaaGreatDoorSa
import Derived.Test.YtlmkglgjdmjnkaaGreatDoorBd
import Derived.Test.YtlmkglgjdmjnkaaGreatDoorBh
namespace Go.Proofs.YtlmkglgjdmjnkaaGreatDoor
open Go.RowKit Go.Lib
set_option linter.unusedVariables false
set_option linter.unusedSimpArgs false

abbrev setV (A : Option Addr) (n c : Nat) (B : Option Addr) (m d : Nat) : Value := .agg #[.slice A n c, .slice B m d]
theorem Box.get2 {w : World} {g : Nat} {x0 x1 : Value} (h : Box w g [x0, x1]) : w.cell? ⟨g, 0, none⟩ = some x0 ∧ w.cell? ⟨g, 1, none⟩ = some x1 := ⟨h.2 0 _ rfl, h.2 1 _ rfl⟩
def settledS (s : SpanL) : Bool := settledC s.fr && settledC s.til
def settledR (l : List SpanL) : Bool := l.all settledS
def mayS (l m : List SpanL) : Bool := settledR l && mayR l && mayR m
def settledTo (l : List SpanL) (k : Nat) : Prop := ∀ j, j < k → settledS (nth l j) = true
theorem settledTo_step {l : List SpanL} {k : Nat} (h : settledTo l k) (h1 : settledS (nth l k) = true) : settledTo l (k + 1) := by
  intro j hj
  rcases Nat.lt_or_ge j k with h' | h'
  · exact h j h'
  · obtain rfl : j = k := by omega
    exact h1
theorem settledTo_end {l : List SpanL} (h : settledTo l l.length) : settledR l = true := by
  rw [settledR, List.all_eq_true]
  intro s hs
  obtain ⟨i, hi, rfl⟩ := List.getElem_of_mem hs
  have := h i hi
  rwa [nth_lt hi] at this
theorem settledTo_no {l : List SpanL} {k : Nat} (hk : k < l.length) (h : settledS (nth l k) = false) : settledR l = false := by
  rw [settledR, List.all_eq_false]
  exact ⟨_, List.getElem_mem hk, by rw [nth_lt hk] at h; simp [h]⟩

set_option maxRecDepth 100000 in
set_option maxHeartbeats 1000000 in
theorem smay_any (A B : Option Addr) (c d : Nat) (l m : List SpanL) (w : World) (hg : First w) (hl : Spans w A l) (hm : Spans w B m) (hfl : fitL l) (hfm : fitL m) (hln : l.length ≤ 4398046511104) (hmn : m.length ≤ 4398046511104) :
    Calls Tryz.prog 147 #[setV A l.length c B m.length d] w (BoolPost w (mayS l m)) := by
  generalize hr : mayS l m = r
  have HR := hid hr
  have HG := hid hg
  have HL := hid hl
  have HM := hid hm
  have HC := hid (fun w' (h : Spans w' A l) => rowmay_any A c l w' h hfl hln)
  have HD := hid (fun w' (h : Spans w' B m) => rowmay_any B d m w' h hfm hmn)
  clear hr hg hl hm hfl hfm
  generalize hn : l.length = n at *
  have HN := hid hn
  generalize m.length = n2 at *
  clear hn
  go_enter Tryz.func147, Tryz.ntmps147
  go_wp2_with fail
  refine wp_name ?_
  intro w0 hw0
  have HB0 : Hid (Below w.heap.size w w0) := hid (by rw [hw0]; exact below_new _ _)
  have HX : Hid (Box w0 w.heap.size [.slice A n c, .slice B n2 d]) := hid (by rw [hw0]; exact Box.new w [.slice A n c, .slice B n2 d] _)
  have HG0 := hid (HG.out.below HB0.out)
  have HL0 := hid (HL.out.below HB0.out)
  have HM0 := hid (HM.out.below HB0.out)
  clear hw0 HG HL HM
  go_loopw [4, 8] (fun _ i wr => ∃ k : Nat, i = .int .i64 k ∧ k ≤ n ∧ Hid (settledTo l k) ∧ Hid (Below w0.heap.size w0 wr)) (fun _ i _ => n - (intOf i).toNat)
  case atStart => exact ⟨0, rfl, Nat.zero_le _, fun j hj => by omega, Below.refl _ _⟩
  case round =>
    obtain ⟨k, rfl, hk, HS, HBR⟩ := hrel
    have HLr := hid (HL0.out.below HBR.out)
    by_cases hlt : k < n
    · have hlt' : k < l.length := by rw [HN.out]; exact hlt
      obtain ⟨b, off, rfl, hbl, ⟨x0, x1, x2, x3, x4, x5, x6⟩, z0, z1, z2, z3, z4, z5, z6⟩ := HLr.out.at_ (k := k) hlt'
      have i0 : (0 : Int) ≤ (k : Int) := by omega
      have i1 : (k : Int) < (n : Int) := by omega
      have HNO := hid (fun h => settledTo_no (k := k) hlt' h)
      have HST := hid (fun h => settledTo_step (k := k) HS.out h)
      generalize nth l k = s at *
      have HBN := hid (below_new wr (.cells s.cells.toArray 133))
      have HX0 := hid (Box.new wr s.cells 133)
      have HF := hid (fun w' => (HG0.out.below (HBR.out.trans (HBN.out.mono HBR.out.size))).below (w' := w'))
      have HF1 := hid ((HG0.out.below HBR.out).below HBN.out)
      cases h1 : settledC s.fr
      · have HE := hid (HNO.out (by rw [settledS, h1]; rfl))
        go_wp2_with fail
        refine (settled_any s.fr _ HF1.out).mono ?_
        rintro _ w1 ⟨rfl, hb1⟩
        rw [h1]
        clear x0 x1 x2 x3 x4 x5 x6 z0 z1 z2 z3 z4 z5 z6
        go_wp2_with fail
        go_ret
        exact ⟨by rw [← HR.out, mayS, HE.out]; rfl, below_tr HB0.out (below_tr HBR.out (below_tr HBN.out hb1))⟩
      · cases h2 : settledC s.til
        · have HE := hid (HNO.out (by rw [settledS, h1, h2]; rfl))
          go_wp2_with fail
          refine (settled_any s.fr _ HF1.out).mono ?_
          rintro _ w1 ⟨rfl, hb1⟩
          rw [h1]
          have HB1 := hid hb1
          have HF2 := hid (HF.out _ hb1)
          obtain ⟨⟨p0, p1, p2, p3, p4, p5, p6⟩, q0, q1, q2, q3, q4, q5, q6⟩ := (HX0.out.below hb1).get14
          clear x0 x1 x2 x3 x4 x5 x6 z0 z1 z2 z3 z4 z5 z6 hb1
          go_wp2_with fail
          refine (settled_any s.til _ HF2.out).mono ?_
          rintro _ w2 ⟨rfl, hb2⟩
          rw [h2]
          clear p0 p1 p2 p3 p4 p5 p6 q0 q1 q2 q3 q4 q5 q6
          go_wp2_with fail
          go_ret
          exact ⟨by rw [← HR.out, mayS, HE.out]; rfl, below_tr HB0.out (below_tr HBR.out (below_tr HBN.out (below_tr HB1.out hb2)))⟩
        · have HE := hid (HST.out (by rw [settledS, h1, h2]; rfl))
          go_wp2_with fail
          refine (settled_any s.fr _ HF1.out).mono ?_
          rintro _ w1 ⟨rfl, hb1⟩
          rw [h1]
          have HB1 := hid hb1
          have HF2 := hid (HF.out _ hb1)
          obtain ⟨⟨p0, p1, p2, p3, p4, p5, p6⟩, q0, q1, q2, q3, q4, q5, q6⟩ := (HX0.out.below hb1).get14
          clear x0 x1 x2 x3 x4 x5 x6 z0 z1 z2 z3 z4 z5 z6 hb1
          go_wp2_with fail
          refine (settled_any s.til _ HF2.out).mono ?_
          rintro _ w2 ⟨rfl, hb2⟩
          rw [h2]
          clear p0 p1 p2 p3 p4 p5 p6 q0 q1 q2 q3 q4 q5 q6
          have HB2 := hid hb2
          clear hb2
          go_wp2_with fail
          go_roundw
          case rel => exact ⟨k + 1, by go_num, by omega, HE.out, below_tr HBR.out (below_tr HBN.out (below_tr HB1.out HB2.out))⟩
          case measure => simp [intOf]; omega
    · obtain rfl : k = n := by omega
      have HE := hid (settledTo_end (l := l) (by rw [HN.out]; exact HS.out))
      obtain ⟨y0, y1⟩ := (HX.out.below HBR.out).get2
      cases h1 : mayR l
      · go_wp2_with fail
        refine (HC.out _ HLr.out).mono ?_
        rintro _ w1 ⟨rfl, hb1⟩
        rw [h1]
        clear y0 y1
        go_wp2_with fail
        go_ret
        exact ⟨by rw [← HR.out, mayS, HE.out, h1]; rfl, below_tr HB0.out (below_tr HBR.out hb1)⟩
      · go_wp2_with fail
        refine (HC.out _ HLr.out).mono ?_
        rintro _ w1 ⟨rfl, hb1⟩
        rw [h1]
        have HB1 := hid hb1
        have HM1 := hid ((HM0.out.below HBR.out).below hb1)
        clear y0 y1
        obtain ⟨y0, y1⟩ := ((HX.out.below HBR.out).below hb1).get2
        clear hb1
        go_wp2_with fail
        refine (HD.out _ HM1.out).mono ?_
        rintro _ w2 ⟨rfl, hb2⟩
        clear y0 y1
        go_wp2_with fail
        go_ret
        exact ⟨by rw [← HR.out, mayS, HE.out, h1]; rfl, below_tr HB0.out (below_tr HBR.out (below_tr HB1.out hb2))⟩
end Go.Proofs.YtlmkglgjdmjnkaaGreatDoor
/- Sets: the walks of Has, Same, None, whole, All. -/
namespace Go.Proofs.YtlmkglgjdmjnkaaGreatDoor
open Go.RowKit Go.Lib
set_option linter.unusedVariables false
set_option linter.unusedSimpArgs false

def hasS (l m : List SpanL) (v : Ver) : Bool := mayS l m && mayV v && (if (bts v.pre).isEmpty then hasR l v else hasR m v)
def sameS (l m p q : List SpanL) : Bool := sameR l p && sameR m q
/-- a set has come back -/
def SetPost (w : World) (l m : List SpanL) (e : Ending) (w' : World) : Prop := ∃ A c B d, e = .returned (setV A l.length c B m.length d) ∧ SpanB w' w.heap.size A l ∧ SpanB w' w.heap.size B m ∧ Below w.heap.size w w'

set_option maxRecDepth 100000 in
set_option maxHeartbeats 1000000 in
theorem shas_any (A B : Option Addr) (c d : Nat) (l m : List SpanL) (v : Ver) (w : World) (hg : First w) (hl : Spans w A l) (hm : Spans w B m) (hfl : fitL l) (hfm : fitL m) (hln : l.length ≤ 4398046511104) (hmn : m.length ≤ 4398046511104) (hv : v.fit) :
    Calls Tryz.prog 110 #[setV A l.length c B m.length d, v.val] w (BoolPost w (hasS l m v)) := by
  generalize hr : hasS l m v = r
  have HR := hid hr
  have HB0 := hid (below_tr (below_new w (.cells [.slice A l.length c, .slice B m.length d].toArray 86)) (below_new _ (.cells v.cells.toArray 29)))
  have HY := hid (smay_any A B c d l m _ (hg.below HB0.out) (hl.below HB0.out) (hm.below HB0.out) hfl hfm hln hmn)
  have HL := hid (fun w' h => hl.below (w' := w') h)
  have HM := hid (fun w' h => hm.below (w' := w') h)
  have HC := hid (fun w' (h : Spans w' A l) => rowhas_any A c l v w' h hfl hln hv)
  have HD := hid (fun w' (h : Spans w' B m) => rowhas_any B d m v w' h hfm hmn hv)
  have HV := hid (fun w' => may_any v w' hv)
  clear hr hg hl hm hfl hfm
  generalize l.length = n at *
  generalize m.length = n2 at *
  cases h1 : mayS l m
  · go_enter Tryz.func110, Tryz.ntmps110
    go_wp2_with fail
    refine HY.out.mono ?_
    rintro _ w1 ⟨rfl, hb1⟩
    rw [h1]
    go_wp2_with fail
    go_ret
    exact ⟨by rw [← HR.out, hasS, h1]; rfl, below_tr HB0.out hb1⟩
  · cases h2 : mayV v
    · go_enter Tryz.func110, Tryz.ntmps110
      go_wp2_with fail
      refine HY.out.mono ?_
      rintro _ w1 ⟨rfl, hb1⟩
      rw [h1]
      have HB1 := hid (below_tr HB0.out hb1)
      obtain ⟨_, hy, _⟩ := box_2 (cs := [.slice A n c, .slice B n2 d]) (ds := v.cells) hb1
      obtain ⟨t0, t1, t2, t3, t4⟩ := hy.get5
      clear hb1 hy
      go_wp2_with fail
      refine (HV.out _).mono ?_
      rintro _ w2 ⟨rfl, hb2⟩
      rw [h2]
      clear t0 t1 t2 t3 t4
      go_wp2_with fail
      go_ret
      exact ⟨by rw [← HR.out, hasS, h1, h2]; rfl, below_tr HB1.out hb2⟩
    · by_cases h4 : 0 < v.pre.size
      · obtain ⟨e4, n4⟩ := ne_of_size h4
        have HE := hid (show r = hasR m v by rw [← HR.out, hasS, h1, h2, bts, e4]; rfl)
        go_enter Tryz.func110, Tryz.ntmps110
        go_wp2_with fail
        refine HY.out.mono ?_
        rintro _ w1 ⟨rfl, hb1⟩
        rw [h1]
        obtain ⟨hx, hy, hb1'⟩ := box_2 (cs := [.slice A n c, .slice B n2 d]) (ds := v.cells) hb1
        have HX := hid hx
        have HZ := hid hy
        have HB1 := hid hb1'
        obtain ⟨t0, t1, t2, t3, t4⟩ := hy.get5
        clear hb1 hy hx hb1'
        go_wp2_with fail
        refine (HV.out _).mono ?_
        rintro _ w2 ⟨rfl, hb2⟩
        rw [h2]
        clear t0 t1 t2 t3 t4
        have HB2 := hid (below_tr HB1.out hb2)
        obtain ⟨t0, t1, t2, t3, t4⟩ := (HZ.out.below hb2).get5
        obtain ⟨y0, y1⟩ := (HX.out.below hb2).get2
        clear hb2
        go_wp2_with fail
        refine (HD.out _ (HM.out _ HB2.out)).mono ?_
        rintro _ w3 ⟨rfl, hb3⟩
        clear t0 t1 t2 t3 t4 y0 y1
        go_wp2_with fail
        go_ret
        exact ⟨by rw [HE.out]; rfl, below_tr HB2.out hb3⟩
      · have e4 := isEmpty_of h4
        have HE := hid (show r = hasR l v by rw [← HR.out, hasS, h1, h2, bts, e4]; rfl)
        go_enter Tryz.func110, Tryz.ntmps110
        go_wp2_with fail
        refine HY.out.mono ?_
        rintro _ w1 ⟨rfl, hb1⟩
        rw [h1]
        obtain ⟨hx, hy, hb1'⟩ := box_2 (cs := [.slice A n c, .slice B n2 d]) (ds := v.cells) hb1
        have HX := hid hx
        have HZ := hid hy
        have HB1 := hid hb1'
        obtain ⟨t0, t1, t2, t3, t4⟩ := hy.get5
        clear hb1 hy hx hb1'
        go_wp2_with fail
        refine (HV.out _).mono ?_
        rintro _ w2 ⟨rfl, hb2⟩
        rw [h2]
        clear t0 t1 t2 t3 t4
        have HB2 := hid (below_tr HB1.out hb2)
        obtain ⟨t0, t1, t2, t3, t4⟩ := (HZ.out.below hb2).get5
        obtain ⟨y0, y1⟩ := (HX.out.below hb2).get2
        clear hb2
        go_wp2_with fail
        refine (HC.out _ (HL.out _ HB2.out)).mono ?_
        rintro _ w3 ⟨rfl, hb3⟩
        clear t0 t1 t2 t3 t4 y0 y1
        go_wp2_with fail
        go_ret
        exact ⟨by rw [HE.out]; rfl, below_tr HB2.out hb3⟩

def NonePost (w : World) (e : Ending) (w' : World) : Prop := e = .returned (setV none 0 0 none 0 0) ∧ Below w.heap.size w w'
theorem NonePost.set {w : World} {e : Ending} {w' : World} (h : NonePost w e w') : SetPost w [] [] e w' := ⟨none, 0, none, 0, h.1, SpanB.nil _ _, SpanB.nil _ _, h.2⟩
theorem rsnone_any (w : World) : Calls Tryz.prog 62 #[] w (NonePost w) := by
  go_enter Tryz.func62, Tryz.ntmps62
  go_wp2
  refine bodyPost_ret (v := setV none 0 0 none 0 0) (by simp [results, Tryz.results62, go_sem]) rfl ⟨rfl, ?_⟩
  exact below_new _ _
def wholeL : List SpanL := [⟨firstC, lastC⟩]
def WholePost (w : World) (e : Ending) (w' : World) : Prop := ∃ A c, e = .returned (.slice A 1 c) ∧ SpanB w' w.heap.size A wholeL ∧ Below w.heap.size w w'
end Go.Proofs.YtlmkglgjdmjnkaaGreatDoor
