/- Parts 11 of the proofs. -/
import Derived.Test.YtlmkglgjdmjnkaaGreatDoorQ10
import Derived.Test.YtlmkglgjdmjnkaaGreatDoorQ6
import Derived.Test.YtlmkglgjdmjnkaaGreatDoorQ9
import Derived.Test.YtlmkglgjdmjnkaaGreatDoorQ3
import Derived.Test.YtlmkglgjdmjnkaaGreatDoorQ7
import Derived.Test.YtlmkglgjdmjnkaaGreatDoorQ5
import Derived.Test.YtlmkglgjdmjnkaaGreatDoorRows
import Derived.Deep.Slices
import Derived.Deep.Fields
import Derived.ChangeSame
import Derived.ChangeVars
import Derived.Lib.SmallJoins
import Derived.LaidLaws
import Derived.JoinedOf
import Derived.RowKit
import Derived.RowKitTokens
namespace Go.Proofs.YtlmkglgjdmjnkaaGreatDoor
open Go.RowKit Go.Lib
set_option linter.unusedVariables false
set_option linter.unusedSimpArgs false
abbrev setV (A : Option Addr) (n c : Nat) (B : Option Addr) (m d : Nat) : Value := .agg #[.slice A n c, .slice B m d]
theorem Box.get2 {w : World} {g : Nat} {x0 x1 : Value} (h : Box w g [x0, x1]) : w.cell? ⟨g, 0, none⟩ = some x0 ∧ w.cell? ⟨g, 1, none⟩ = some x1 := ⟨h.2 0 _ rfl, h.2 1 _ rfl⟩
def settledS (s : SpanL) : Bool := settledC s.fr && settledC s.til
def settledR (l : List SpanL) : Bool := l.all settledS
def mayS (l m : List SpanL) : Bool := settledR l && mayR l && mayR m
def settledTo (l : List SpanL) (k : Nat) : Prop := ∀ j, j < k → settledS (nth l j) = true
theorem settledTo_step {l : List SpanL} {k : Nat} (h : settledTo l k) (h1 : settledS (nth l k) = true) : settledTo l (k + 1) := by
  intro j hj
  rcases Nat.lt_or_ge j k with h' | h'
  · exact h j h'
  · obtain rfl : j = k := by omega
    exact h1
theorem settledTo_end {l : List SpanL} (h : settledTo l l.length) : settledR l = true := by
  rw [settledR, List.all_eq_true]
  intro s hs
  obtain ⟨i, hi, rfl⟩ := List.getElem_of_mem hs
  have := h i hi
  rwa [nth_lt hi] at this
theorem settledTo_no {l : List SpanL} {k : Nat} (hk : k < l.length) (h : settledS (nth l k) = false) : settledR l = false := by
  rw [settledR, List.all_eq_false]
  exact ⟨_, List.getElem_mem hk, by rw [nth_lt hk] at h; simp [h]⟩
set_option maxRecDepth 100000 in
set_option maxHeartbeats 1000000 in
theorem smay_any (A B : Option Addr) (c d : Nat) (l m : List SpanL) (w : World) (hg : First w) (hl : Spans w A l) (hm : Spans w B m) (hfl : fitL l) (hfm : fitL m) (hln : l.length ≤ 4398046511104) (hmn : m.length ≤ 4398046511104) :
    Calls Tryz.prog 147 #[setV A l.length c B m.length d] w (BoolPost w (mayS l m)) := by
  generalize hr : mayS l m = r
  have HR := hid hr
  have HG := hid hg
  have HL := hid hl
  have HM := hid hm
  have HC := hid (fun w' (h : Spans w' A l) => rowmay_any A c l w' h hfl hln)
  have HD := hid (fun w' (h : Spans w' B m) => rowmay_any B d m w' h hfm hmn)
  clear hr hg hl hm hfl hfm
  generalize hn : l.length = n at *
  have HN := hid hn
  generalize m.length = n2 at *
  clear hn
  go_enter Tryz.func147, Tryz.ntmps147
  go_wp2_with fail
  refine wp_name ?_
  intro w0 hw0
  have HB0 : Hid (Below w.heap.size w w0) := hid (by rw [hw0]; exact below_new _ _)
  have HX : Hid (Box w0 w.heap.size [.slice A n c, .slice B n2 d]) := hid (by rw [hw0]; exact Box.new w [.slice A n c, .slice B n2 d] _)
  have HG0 := hid (HG.out.below HB0.out)
  have HL0 := hid (HL.out.below HB0.out)
  have HM0 := hid (HM.out.below HB0.out)
  clear hw0 HG HL HM
  go_loopw [4, 8] (fun _ i wr => ∃ k : Nat, i = .int .i64 k ∧ k ≤ n ∧ Hid (settledTo l k) ∧ Hid (Below w0.heap.size w0 wr)) (fun _ i _ => n - (intOf i).toNat)
  case atStart => exact ⟨0, rfl, Nat.zero_le _, fun j hj => by omega, Below.refl _ _⟩
  case round =>
    obtain ⟨k, rfl, hk, HS, HBR⟩ := hrel
    have HLr := hid (HL0.out.below HBR.out)
    by_cases hlt : k < n
    · have hlt' : k < l.length := by rw [HN.out]; exact hlt
      obtain ⟨b, off, rfl, hbl, ⟨x0, x1, x2, x3, x4, x5, x6⟩, z0, z1, z2, z3, z4, z5, z6⟩ := HLr.out.at_ (k := k) hlt'
      have i0 : (0 : Int) ≤ (k : Int) := by omega
      have i1 : (k : Int) < (n : Int) := by omega
      have HNO := hid (fun h => settledTo_no (k := k) hlt' h)
      have HST := hid (fun h => settledTo_step (k := k) HS.out h)
      generalize nth l k = s at *
      have HBN := hid (below_new wr (.cells s.cells.toArray 133))
      have HX0 := hid (Box.new wr s.cells 133)
      have HF := hid (fun w' => (HG0.out.below (HBR.out.trans (HBN.out.mono HBR.out.size))).below (w' := w'))
      have HF1 := hid ((HG0.out.below HBR.out).below HBN.out)
      cases h1 : settledC s.fr
      · have HE := hid (HNO.out (by rw [settledS, h1]; rfl))
        go_wp2_with fail
        refine (settled_any s.fr _ HF1.out).mono ?_
        rintro _ w1 ⟨rfl, hb1⟩
        rw [h1]
        clear x0 x1 x2 x3 x4 x5 x6 z0 z1 z2 z3 z4 z5 z6
        go_wp2_with fail
        go_ret
        exact ⟨by rw [← HR.out, mayS, HE.out]; rfl, below_tr HB0.out (below_tr HBR.out (below_tr HBN.out hb1))⟩
      · cases h2 : settledC s.til
        · have HE := hid (HNO.out (by rw [settledS, h1, h2]; rfl))
          go_wp2_with fail
          refine (settled_any s.fr _ HF1.out).mono ?_
          rintro _ w1 ⟨rfl, hb1⟩
          rw [h1]
          have HB1 := hid hb1
          have HF2 := hid (HF.out _ hb1)
          obtain ⟨⟨p0, p1, p2, p3, p4, p5, p6⟩, q0, q1, q2, q3, q4, q5, q6⟩ := (HX0.out.below hb1).get14
          clear x0 x1 x2 x3 x4 x5 x6 z0 z1 z2 z3 z4 z5 z6 hb1
          go_wp2_with fail
          refine (settled_any s.til _ HF2.out).mono ?_
          rintro _ w2 ⟨rfl, hb2⟩
          rw [h2]
          clear p0 p1 p2 p3 p4 p5 p6 q0 q1 q2 q3 q4 q5 q6
          go_wp2_with fail
          go_ret
          exact ⟨by rw [← HR.out, mayS, HE.out]; rfl, below_tr HB0.out (below_tr HBR.out (below_tr HBN.out (below_tr HB1.out hb2)))⟩
        · have HE := hid (HST.out (by rw [settledS, h1, h2]; rfl))
          go_wp2_with fail
          refine (settled_any s.fr _ HF1.out).mono ?_
          rintro _ w1 ⟨rfl, hb1⟩
          rw [h1]
          have HB1 := hid hb1
          have HF2 := hid (HF.out _ hb1)
          obtain ⟨⟨p0, p1, p2, p3, p4, p5, p6⟩, q0, q1, q2, q3, q4, q5, q6⟩ := (HX0.out.below hb1).get14
          clear x0 x1 x2 x3 x4 x5 x6 z0 z1 z2 z3 z4 z5 z6 hb1
          go_wp2_with fail
          refine (settled_any s.til _ HF2.out).mono ?_
          rintro _ w2 ⟨rfl, hb2⟩
          rw [h2]
          clear p0 p1 p2 p3 p4 p5 p6 q0 q1 q2 q3 q4 q5 q6
          have HB2 := hid hb2
          clear hb2
          go_wp2_with fail
          go_roundw
          case rel => exact ⟨k + 1, by go_num, by omega, HE.out, below_tr HBR.out (below_tr HBN.out (below_tr HB1.out HB2.out))⟩
          case measure => simp [intOf]; omega
    · obtain rfl : k = n := by omega
      have HE := hid (settledTo_end (l := l) (by rw [HN.out]; exact HS.out))
      obtain ⟨y0, y1⟩ := (HX.out.below HBR.out).get2
      cases h1 : mayR l
      · go_wp2_with fail
        refine (HC.out _ HLr.out).mono ?_
        rintro _ w1 ⟨rfl, hb1⟩
        rw [h1]
        clear y0 y1
        go_wp2_with fail
        go_ret
        exact ⟨by rw [← HR.out, mayS, HE.out, h1]; rfl, below_tr HB0.out (below_tr HBR.out hb1)⟩
      · go_wp2_with fail
        refine (HC.out _ HLr.out).mono ?_
        rintro _ w1 ⟨rfl, hb1⟩
        rw [h1]
        have HB1 := hid hb1
        have HM1 := hid ((HM0.out.below HBR.out).below hb1)
        clear y0 y1
        obtain ⟨y0, y1⟩ := ((HX.out.below HBR.out).below hb1).get2
        clear hb1
        go_wp2_with fail
        refine (HD.out _ HM1.out).mono ?_
        rintro _ w2 ⟨rfl, hb2⟩
        clear y0 y1
        go_wp2_with fail
        go_ret
        exact ⟨by rw [← HR.out, mayS, HE.out, h1]; rfl, below_tr HB0.out (below_tr HBR.out (below_tr HB1.out hb2))⟩
end Go.Proofs.YtlmkglgjdmjnkaaGreatDoor
namespace Go.Proofs.YtlmkglgjdmjnkaaGreatDoor
open Go.RowKit Go.Lib
set_option linter.unusedVariables false
set_option linter.unusedSimpArgs false
def hasS (l m : List SpanL) (v : Ver) : Bool := mayS l m && mayV v && (if (bts v.pre).isEmpty then hasR l v else hasR m v)
def SetPost (w : World) (l m : List SpanL) (e : Ending) (w' : World) : Prop := ∃ A c B d, e = .returned (setV A l.length c B m.length d) ∧ SpanB w' w.heap.size A l ∧ SpanB w' w.heap.size B m ∧ Below w.heap.size w w'
set_option maxRecDepth 100000 in
set_option maxHeartbeats 1000000 in
theorem shas_any (A B : Option Addr) (c d : Nat) (l m : List SpanL) (v : Ver) (w : World) (hg : First w) (hl : Spans w A l) (hm : Spans w B m) (hfl : fitL l) (hfm : fitL m) (hln : l.length ≤ 4398046511104) (hmn : m.length ≤ 4398046511104) (hv : v.fit) :
    Calls Tryz.prog 110 #[setV A l.length c B m.length d, v.val] w (BoolPost w (hasS l m v)) := by
  generalize hr : hasS l m v = r
  have HR := hid hr
  have HB0 := hid (below_tr (below_new w (.cells [.slice A l.length c, .slice B m.length d].toArray 86)) (below_new _ (.cells v.cells.toArray 29)))
  have HY := hid (smay_any A B c d l m _ (hg.below HB0.out) (hl.below HB0.out) (hm.below HB0.out) hfl hfm hln hmn)
  have HL := hid (fun w' h => hl.below (w' := w') h)
  have HM := hid (fun w' h => hm.below (w' := w') h)
  have HC := hid (fun w' (h : Spans w' A l) => rowhas_any A c l v w' h hfl hln hv)
  have HD := hid (fun w' (h : Spans w' B m) => rowhas_any B d m v w' h hfm hmn hv)
  have HV := hid (fun w' => may_any v w' hv)
  clear hr hg hl hm hfl hfm
  generalize l.length = n at *
  generalize m.length = n2 at *
  cases h1 : mayS l m
  · go_enter Tryz.func110, Tryz.ntmps110
    go_wp2_with fail
    refine HY.out.mono ?_
    rintro _ w1 ⟨rfl, hb1⟩
    rw [h1]
    go_wp2_with fail
    go_ret
    exact ⟨by rw [← HR.out, hasS, h1]; rfl, below_tr HB0.out hb1⟩
  · cases h2 : mayV v
    · go_enter Tryz.func110, Tryz.ntmps110
      go_wp2_with fail
      refine HY.out.mono ?_
      rintro _ w1 ⟨rfl, hb1⟩
      rw [h1]
      have HB1 := hid (below_tr HB0.out hb1)
      obtain ⟨_, hy, _⟩ := box_2 (cs := [.slice A n c, .slice B n2 d]) (ds := v.cells) hb1
      obtain ⟨t0, t1, t2, t3, t4⟩ := hy.get5
      clear hb1 hy
      go_wp2_with fail
      refine (HV.out _).mono ?_
      rintro _ w2 ⟨rfl, hb2⟩
      rw [h2]
      clear t0 t1 t2 t3 t4
      go_wp2_with fail
      go_ret
      exact ⟨by rw [← HR.out, hasS, h1, h2]; rfl, below_tr HB1.out hb2⟩
    · by_cases h4 : 0 < v.pre.size
      · obtain ⟨e4, n4⟩ := ne_of_size h4
        have HE := hid (show r = hasR m v by rw [← HR.out, hasS, h1, h2, bts, e4]; rfl)
        go_enter Tryz.func110, Tryz.ntmps110
        go_wp2_with fail
        refine HY.out.mono ?_
        rintro _ w1 ⟨rfl, hb1⟩
        rw [h1]
        obtain ⟨hx, hy, hb1'⟩ := box_2 (cs := [.slice A n c, .slice B n2 d]) (ds := v.cells) hb1
        have HX := hid hx
        have HZ := hid hy
        have HB1 := hid hb1'
        obtain ⟨t0, t1, t2, t3, t4⟩ := hy.get5
        clear hb1 hy hx hb1'
        go_wp2_with fail
        refine (HV.out _).mono ?_
        rintro _ w2 ⟨rfl, hb2⟩
        rw [h2]
        clear t0 t1 t2 t3 t4
        have HB2 := hid (below_tr HB1.out hb2)
        obtain ⟨t0, t1, t2, t3, t4⟩ := (HZ.out.below hb2).get5
        obtain ⟨y0, y1⟩ := (HX.out.below hb2).get2
        clear hb2
        go_wp2_with fail
        refine (HD.out _ (HM.out _ HB2.out)).mono ?_
        rintro _ w3 ⟨rfl, hb3⟩
        clear t0 t1 t2 t3 t4 y0 y1
        go_wp2_with fail
        go_ret
        exact ⟨by rw [HE.out]; rfl, below_tr HB2.out hb3⟩
      · have e4 := isEmpty_of h4
        have HE := hid (show r = hasR l v by rw [← HR.out, hasS, h1, h2, bts, e4]; rfl)
        go_enter Tryz.func110, Tryz.ntmps110
        go_wp2_with fail
        refine HY.out.mono ?_
        rintro _ w1 ⟨rfl, hb1⟩
        rw [h1]
        obtain ⟨hx, hy, hb1'⟩ := box_2 (cs := [.slice A n c, .slice B n2 d]) (ds := v.cells) hb1
        have HX := hid hx
        have HZ := hid hy
        have HB1 := hid hb1'
        obtain ⟨t0, t1, t2, t3, t4⟩ := hy.get5
        clear hb1 hy hx hb1'
        go_wp2_with fail
        refine (HV.out _).mono ?_
        rintro _ w2 ⟨rfl, hb2⟩
        rw [h2]
        clear t0 t1 t2 t3 t4
        have HB2 := hid (below_tr HB1.out hb2)
        obtain ⟨t0, t1, t2, t3, t4⟩ := (HZ.out.below hb2).get5
        obtain ⟨y0, y1⟩ := (HX.out.below hb2).get2
        clear hb2
        go_wp2_with fail
        refine (HC.out _ (HL.out _ HB2.out)).mono ?_
        rintro _ w3 ⟨rfl, hb3⟩
        clear t0 t1 t2 t3 t4 y0 y1
        go_wp2_with fail
        go_ret
        exact ⟨by rw [HE.out]; rfl, below_tr HB2.out hb3⟩
def NonePost (w : World) (e : Ending) (w' : World) : Prop := e = .returned (setV none 0 0 none 0 0) ∧ Below w.heap.size w w'
theorem NonePost.set {w : World} {e : Ending} {w' : World} (h : NonePost w e w') : SetPost w [] [] e w' := ⟨none, 0, none, 0, h.1, SpanB.nil _ _, SpanB.nil _ _, h.2⟩
theorem rsnone_any (w : World) : Calls Tryz.prog 62 #[] w (NonePost w) := by
  go_enter Tryz.func62, Tryz.ntmps62
  go_wp2
  refine bodyPost_ret (v := setV none 0 0 none 0 0) (by simp [results, Tryz.results62, go_sem]) rfl ⟨rfl, ?_⟩
  exact below_new _ _
def wholeL : List SpanL := [⟨firstC, lastC⟩]
def WholePost (w : World) (e : Ending) (w' : World) : Prop := ∃ A c, e = .returned (.slice A 1 c) ∧ SpanB w' w.heap.size A wholeL ∧ Below w.heap.size w w'
end Go.Proofs.YtlmkglgjdmjnkaaGreatDoor
namespace Go.Proofs.YtlmkglgjdmjnkaaGreatDoor
open Go.RowKit Go.Lib
set_option linter.unusedVariables false
set_option linter.unusedSimpArgs false
def RowN (w : World) (l : List SpanL) (e : Ending) (w' : World) : Prop := ∃ A c, e = .returned (.slice A l.length c) ∧ SpanB w' w.heap.size A l ∧ Below w.heap.size w w'
theorem RowPost.n {w : World} {l : List SpanL} {e : Ending} {w' : World} (h : RowPost w w.heap.size l e w') : RowN w l e w' := by
  obtain ⟨v, rfl, h1, h2, _⟩ := h
  obtain ⟨A, c, rfl, h3⟩ := SpanB.own h1
  exact ⟨A, c, rfl, h3, h2⟩
theorem callN {P : Program} {f : FuncId} {args : Array Value} {w : World} {l : List SpanL} (h : Calls P f args w (RowPost w w.heap.size l)) : Calls P f args w (RowN w l) := h.mono fun _ _ h => RowPost.n h
end Go.Proofs.YtlmkglgjdmjnkaaGreatDoor
namespace Go.Proofs.YtlmkglgjdmjnkaaGreatDoor
open Go.RowKit Go.Lib
set_option linter.unusedVariables false
set_option linter.unusedSimpArgs false
def notS (l m : List SpanL) : List SpanL × List SpanL := if mayS l m then (rnotL l, rnotL m) else ([], [])
end Go.Proofs.YtlmkglgjdmjnkaaGreatDoor
namespace Go.Proofs.YtlmkglgjdmjnkaaGreatDoor
open Go.RowKit Go.Lib
set_option linter.unusedVariables false
set_option linter.unusedSimpArgs false
def exactS (v : Ver) : List SpanL × List SpanL := if mayV v = false then ([], []) else if (bts v.pre).isEmpty then ([⟨aheadR v, uptoL (relV v)⟩], []) else ([], [⟨⟨0, bareV v, false⟩, ⟨0, bareV v, true⟩⟩])
theorem ret2n {P : Program} {fn : Func} {R : Ending → World → Prop} {a : Act} {w : World} {v : Value} {g : Nat} {x0 x1 y0 y1 : Value} {o : Obj} (hx : Box w g [x0, x1]) (hr : ∀ w3, Box w3 g [y0, y1] → (results fn a.tmps).run P w3 = .ok v w3) (hd : a.defers = [])
    (hR : Below g w ((w.setCells g 0 [y0, y1]).alloc o) → R (.returned v) ((w.setCells g 0 [y0, y1]).alloc o)) : bodyPost P fn R .ret a (((w.setCell ⟨g, 0, none⟩ y0).setCell ⟨g, 1, none⟩ y1).alloc o) := by
  rw [show ((w.setCell ⟨g, 0, none⟩ y0).setCell ⟨g, 1, none⟩ y1) = w.setCells g 0 [y0, y1] from rfl]
  have hb : Box (w.setCells g 0 [y0, y1]) g [y0, y1] := hx.set (o := 0) (vs := [y0, y1]) (by simp)
  exact bodyPost_ret (hr _ (hb.below (below_new _ _))) hd (hR ((Below.setCells (Nat.le_refl _) _ _ (Below.refl _ _)).alloc (Nat.le_of_lt hb.1) _))
theorem keep5n {w : World} {k g : Nat} {x0 x1 x2 x3 x4 : Value} (h : Box w k [x0, x1, x2, x3, x4]) (hne : k ≠ g) (y0 y1 : Value) (o : Obj) : let w' := ((w.setCell ⟨g, 0, none⟩ y0).setCell ⟨g, 1, none⟩ y1).alloc o
    w'.cell? ⟨k, 0, none⟩ = some x0 ∧ w'.cell? ⟨k, 1, none⟩ = some x1 ∧ w'.cell? ⟨k, 2, none⟩ = some x2 ∧ w'.cell? ⟨k, 3, none⟩ = some x3 ∧ w'.cell? ⟨k, 4, none⟩ = some x4 :=
  ((Box.setOther (o := 0) (vs := [y0, y1]) h hne).below (below_new _ _)).get5
theorem SpanB.fresh (w : World) (s : SpanL) (t : TypeId) : SpanB (w.alloc (.cells s.cells.toArray t)) w.heap.size (some ⟨w.heap.size, 0, none⟩) [s] :=
  ⟨Spans.one (Box.new w s.cells t), fun ad e => by injection e with e; rw [← e]; exact Nat.le_refl _⟩
end Go.Proofs.YtlmkglgjdmjnkaaGreatDoor
namespace Go.Proofs.YtlmkglgjdmjnkaaGreatDoor
open Go.RowKit Go.Lib
set_option linter.unusedVariables false
set_option linter.unusedSimpArgs false
namespace Rw
def RelR (l : List SpanL) : Prop := ∀ s, s ∈ l → rightC s.fr = true ∧ rightC s.til = true
theorem RelR.nil : RelR [] := fun s h => by cases h
theorem growR_cuts {P : CutL → Prop} {l : List SpanL} {f t : CutL} (hl : ∀ s, s ∈ l → P s.fr ∧ P s.til) (hf : P f) (ht : P t) : ∀ s, s ∈ growR l f t → P s.fr ∧ P s.til := by
  intro s hs
  rcases List.eq_nil_or_concat l with rfl | ⟨m, q, rfl⟩
  · simp only [growR, List.getLast?_nil, List.mem_singleton] at hs
    subst hs; exact ⟨hf, ht⟩
  · rw [List.concat_eq_append] at hl hs
    simp only [growR, List.getLast?_append, List.getLast?_singleton, Option.some_or, List.dropLast_concat] at hs
    split at hs
    · rcases List.mem_append.1 hs with hs | hs
      · exact hl s (List.mem_append.2 (.inl hs))
      · rw [List.mem_singleton] at hs; subst hs
        exact ⟨(hl q (by simp)).1, ht⟩
    · rcases List.mem_append.1 hs with hs | hs
      · exact hl s hs
      · rw [List.mem_singleton] at hs; subst hs
        exact ⟨hf, ht⟩
theorem growTo_cuts {P : CutL → Prop} {c : List CutL} (hc : ∀ x, x ∈ c → P x) (p : CutL → CutL → Bool) : ∀ k, k < c.length → ∀ s, s ∈ growTo c p k → P s.fr ∧ P s.til
  | 0, _ => fun s h => by cases h
  | k + 1, hk => fun s hs => by
    have ih := growTo_cuts hc p k (by omega)
    unfold growTo at hs
    split at hs
    · exact growR_cuts ih (hc _ (by rw [nthC_lt (by omega)]; exact List.getElem_mem _)) (hc _ (by rw [nthC_lt hk]; exact List.getElem_mem _)) s hs
    · exact ih s hs
theorem cuts_right {l : List SpanL} (hl : ∀ s, s ∈ l → lt s.fr s.til) (hr : RelR l) (p : CutL → CutL → Bool) : RelR (growAll (cutsL l) p) := by
  have h := (cutsL_rise hl).2
  have h0 : 0 < (cutsL l).length := cuts_pos ((h firstC).2 (.inl (.inl rfl)))
  refine growTo_cuts (P := fun x => rightC x = true) (fun x hx => ?_) p _ (by omega)
  rcases (h x).1 hx with (rfl | rfl) | ⟨s, hs, rfl | rfl⟩
  · rfl
  · rfl
  · exact (hr s hs).1
  · exact (hr s hs).2
variable {a b : List SpanL}
theorem RelR.app (ha : RelR a) (hb : RelR b) : RelR (a ++ b) := fun s hs => by
  rcases List.mem_append.1 hs with h | h
  · exact ha s h
  · exact hb s h
theorem r_make (hl : ∀ s, s ∈ a → lt s.fr s.til) (ha : RelR a) : RelR (rmakeL a).1 := by
  rw [rmakeL, if_pos (all_may.2 hl)]
  exact cuts_right hl ha _
theorem r_or (ha : Val a) (hb : Val b) (ra : RelR a) (rb : RelR b) : RelR (rorL a b) := by
  rw [rorL, if_pos (by rw [mayR_val.2 ha, mayR_val.2 hb]; rfl)]
  exact r_make (app_span ha hb) (ra.app rb)
theorem r_and (ha : Val a) (hb : Val b) (ra : RelR a) (rb : RelR b) : RelR (randL a b) := by
  rw [randL, if_pos (by rw [mayR_val.2 ha, mayR_val.2 hb]; rfl)]
  exact cuts_right (app_span ha hb) (ra.app rb) _
theorem r_not (ha : Val a) (ra : RelR a) : RelR (rnotL a) := by
  rw [rnotL, if_pos (mayR_val.2 ha)]
  exact cuts_right ha.span ra _
theorem nil_val : Val [] := True.intro
end Rw
open Rw
set_option linter.unusedVariables false
set_option linter.unusedSimpArgs false
structure ValS (l m : List SpanL) : Prop where
  rel : Val l
  right : RelR l
  pre : Val m
theorem settledR_right {l : List SpanL} (h : Val l) : settledR l = true ↔ RelR l := by
  rw [settledR, List.all_eq_true]
  constructor
  · intro k s hs
    have := k s hs
    rw [settledS, Bool.and_eq_true, settled_right (h.span s hs).okl, settled_right (h.span s hs).okr] at this
    exact this
  · intro k s hs
    rw [settledS, Bool.and_eq_true, settled_right (h.span s hs).okl, settled_right (h.span s hs).okr]
    exact k s hs
theorem mayS_val {l m : List SpanL} : mayS l m = true ↔ ValS l m := by
  rw [mayS, Bool.and_eq_true, Bool.and_eq_true, mayR_val, mayR_val]
  constructor
  · rintro ⟨⟨h1, h2⟩, h3⟩; exact ⟨h2, (settledR_right h2).1 h1, h3⟩
  · rintro ⟨h1, h2, h3⟩; exact ⟨⟨(settledR_right h1).2 h2, h1⟩, h3⟩
theorem ValS.ok {l m : List SpanL} (h : ValS l m) : mayS l m = true := mayS_val.2 h
theorem ValS.nil : ValS [] [] := ⟨nil_val, RelR.nil, nil_val⟩
variable {l m p q : List SpanL}
theorem notS_val (h : ValS l m) : notS l m = (rnotL l, rnotL m) := by rw [notS, h.ok]; rfl
theorem ValS.not (h : ValS l m) : ValS (rnotL l) (rnotL m) := ⟨v_not h.rel, r_not h.rel h.right, v_not h.pre⟩
theorem ValS.and (h : ValS l m) (k : ValS p q) : ValS (randL l p) (randL m q) := ⟨v_and h.rel k.rel, r_and h.rel k.rel h.right k.right, v_and h.pre k.pre⟩
theorem ValS.or (h : ValS l m) (k : ValS p q) : ValS (rorL l p) (rorL m q) := ⟨v_or h.rel k.rel, r_or h.rel k.rel h.right k.right, v_or h.pre k.pre⟩
theorem ValS.notS (h : ValS l m) : ValS (notS l m).1 (notS l m).2 := by rw [notS_val h]; exact h.not
theorem turned_fit {c : CutL} (h : c.fit) : (turnedL c).fit := by
  have hn : ∀ v : Ver, (nextL v).1.fit := fun v => by
    have hz : zeroV.fit := by simp only [Ver.fit, zeroV]; decide
    have hb : ∀ p, (bumpL v p).1.fit := fun p => by
      unfold bumpL
      split
      · unfold bumpV
        split
        · exact e_fit _ _ _
        · split <;> exact e_fit _ _ _
      · exact hz
    unfold nextL
    split
    · exact hz
    · split
      · exact e_fit _ _ _
      · split
        · exact hb 2
        · split
          · exact hb 1
          · split
            · exact hb 0
            · exact hz
  unfold turnedL
  split
  · exact h
  · split
    · unfold uptoL
      split
      · exact hn _
      · exact lastC_fit
    · unfold aheadR
      split
      · exact firstC_fit
      · exact e_fit _ _ _
end Go.Proofs.YtlmkglgjdmjnkaaGreatDoor
namespace Go.Proofs.YtlmkglgjdmjnkaaGreatDoor
open Go.RowKit Go.Lib
open Rw
set_option linter.unusedVariables false
set_option linter.unusedSimpArgs false
structure SetAt (n : Nat) (w : World) (A : Option Addr) (l : List SpanL) (B : Option Addr) (m : List SpanL) : Prop where
  rel : Spans w A l
  pre : Spans w B m
  frel : fitL l
  fpre : fitL m
  nrel : l.length ≤ n
  npre : m.length ≤ n
  val : ValS l m
theorem SetAt.below {n : Nat} {w w' : World} {A B : Option Addr} {l m : List SpanL} (h : SetAt n w A l B m) (hb : Below w.heap.size w w') : SetAt n w' A l B m := ⟨h.rel.below hb, h.pre.below hb, h.frel, h.fpre, h.nrel, h.npre, h.val⟩
theorem SetAt.set {n : Nat} {w : World} {A B : Option Addr} {l m : List SpanL} {base g o : Nat} {vs : List Value} (h : SetAt n w A l B m) (ha : SpanB w base A l) (hb : SpanB w base B m) (hg : g < base) : SetAt n (w.setCells g o vs) A l B m := ⟨(ha.set hg).1, (hb.set hg).1, h.frel, h.fpre, h.nrel, h.npre, h.val⟩
def SetBack (n : Nat) (w : World) (l m : List SpanL) (e : Ending) (w' : World) : Prop := ∃ A c B d, e = .returned (setV A l.length c B m.length d) ∧ SetAt n w' A l B m ∧ SpanB w' w.heap.size A l ∧ SpanB w' w.heap.size B m ∧ Below w.heap.size w w'
theorem SetBack.of {n : Nat} {w : World} {l m : List SpanL} {e : Ending} {w' : World} (h : SetPost w l m e w') (h1 : fitL l) (h2 : fitL m) (h3 : l.length ≤ n) (h4 : m.length ≤ n) (h5 : ValS l m) : SetBack n w l m e w' := by
  obtain ⟨A, c, B, d, he, ha, hb, hw⟩ := h
  exact ⟨A, c, B, d, he, ⟨ha.1, hb.1, h1, h2, h3, h4, h5⟩, ha, hb, hw⟩
theorem fit_nil : fitL [] := fun i hi => by simp at hi
theorem whole_fit : fitL wholeL := fun i hi => by
  have : i = 0 := by simpa [wholeL] using hi
  subst this; exact ⟨firstC_fit, lastC_fit⟩
section
variable {n n2 : Nat} {w : World} {A B C D : Option Addr} {l m p q : List SpanL} {v : Ver}
theorem bare_fit {v : Ver} (h : v.fit) : (bareV v).fit := by simp only [Ver.fit, bareV] at h ⊢; exact ⟨h.1, by decide⟩
theorem exact_good {v : Ver} (h : v.fit) : (fitL (exactS v).1 ∧ fitL (exactS v).2) ∧ (exactS v).1.length ≤ 1 ∧ (exactS v).2.length ≤ 1 := by
  have one : ∀ s : SpanL, s.fit → fitL [s] := fun s hs i hi => by
    have : i = 0 := by simpa using hi
    subst this; exact hs
  have hb : (⟨0, bareV v, false⟩ : CutL).fit := bare_fit h
  have ht : (⟨0, bareV v, true⟩ : CutL).fit := bare_fit h
  unfold exactS
  split
  · exact ⟨⟨fit_nil, fit_nil⟩, by simp, by simp⟩
  · split
    · rename_i hp
      refine ⟨⟨one _ ⟨?_, ?_⟩, fit_nil⟩, by simp, by simp⟩
      · have := turned_fit hb
        rw [turnedL, if_neg (by simp)] at this
        exact this
      · have := turned_fit ht
        rw [turnedL, if_neg (by simp), if_pos (by simpa [bareV] using hp)] at this
        exact this
    · exact ⟨⟨fit_nil, one _ ⟨hb, ht⟩⟩, by simp, by simp⟩
end
end Go.Proofs.YtlmkglgjdmjnkaaGreatDoor
namespace Go.Proofs.YtlmkglgjdmjnkaaGreatDoor
open Go.RowKit Go.Lib
open Rw
set_option linter.unusedVariables false
set_option linter.unusedSimpArgs false
theorem SetAt.none (w : World) : SetAt 0 w none [] none [] := ⟨.inl rfl, .inl rfl, fit_nil, fit_nil, Nat.le_refl _, Nat.le_refl _, ValS.nil⟩
end Go.Proofs.YtlmkglgjdmjnkaaGreatDoor
namespace Go.Proofs.YtlmkglgjdmjnkaaGreatDoor
open Go.RowKit Go.Lib
set_option linter.unusedVariables false
set_option linter.unusedSimpArgs false
end Go.Proofs.YtlmkglgjdmjnkaaGreatDoor
namespace Go.Proofs.YtlmkglgjdmjnkaaGreatDoor
open Go.RowKit Go.Lib
open Rw
set_option linter.unusedVariables false
set_option linter.unusedSimpArgs false
end Go.Proofs.YtlmkglgjdmjnkaaGreatDoor
namespace Go.Proofs.YtlmkglgjdmjnkaaGreatDoor
open Go.RowKit Go.Lib
set_option linter.unusedVariables false
set_option linter.unusedSimpArgs false
section
variable {P : Program} {ops : Array Oper} {S : World → Prop} {Q : Exit → Act → World → Prop} {md : Region.Mode}
end
section
variable {P : Program} {ops : Array Oper} {S : World → Prop} {Q : Exit → Act → World → Prop}
end
end Go.Proofs.YtlmkglgjdmjnkaaGreatDoor
namespace Go.Proofs.YtlmkglgjdmjnkaaGreatDoor
open Go.ChangeShapes Go.WideShapes Go.ChangeAt Go.RowKit Go.Deep Go.Joins
open Go.ChangeMaps (open_string shut_string)
set_option linter.unusedVariables false
set_option linter.unusedSimpArgs false
theorem firstG : Tryz.prog.globalNamed "linchpin/set.first" = some 1 := by kernel_rfl
theorem firstT : (Tryz.prog.globals[(1 : Nat)]?).map (·.type) = some 29 := by kernel_rfl
theorem cellsI2 : Tryz.prog.cellsOf 3 = 1 := by kernel_rfl
theorem cellsSt2 : Tryz.prog.cellsOf 9 = 1 := by kernel_rfl
theorem cellsVe2 : Tryz.prog.cellsOf 29 = 5 := by kernel_rfl
section
variable {H : Type} {enc : TypeId × Value → H} {W : World} {base n : Nat} {spare : Nat → Bool} {held : Bool} {cs : List Value} {x : DataW H × List MemPlace}
set_option maxRecDepth 100000 in
theorem ver_reads (h : DataW.trod enc Tryz.prog W base spare held n 29 cs = some x) : ∃ v : Ver, cs = v.cells ∧ x.1 = .agg [.lit (.int .i64 v.maj), .lit (.int .i64 v.min), .lit (.int .i64 v.pat), .lit (.string v.pre.data.toList), .lit (.string v.bld.data.toList)] := by
  obtain ⟨xs, n', _, hx, hcl, hxl, hf⟩ := DataW.trod_struct Tryz.underlying29 h
  rw [cellsVe2] at hcl
  match cs, hcl, xs, hxl with
  | [c0, c1, c2, c3, c4], _, [y0, y1, y2, y3, y4], _ =>
    have h0 := hf 0 _ rfl
    have h1 := hf 1 _ rfl
    have h2 := hf 2 _ rfl
    have h3 := hf 3 _ rfl
    have h4 := hf 4 _ rfl
    simp [cellsI2] at h0 h1 h2
    simp [cellsSt2] at h3 h4
    obtain ⟨m0, e0, f0, _⟩ := DataW.trod_int Tryz.underlying3 h0
    obtain ⟨m1, e1, f1, _⟩ := DataW.trod_int Tryz.underlying3 h1
    obtain ⟨m2, e2, f2, _⟩ := DataW.trod_int Tryz.underlying3 h2
    obtain ⟨s3, e3, f3, z3⟩ := DataW.trod_string Tryz.underlying9 h3
    obtain ⟨s4, e4, f4, z4⟩ := DataW.trod_string Tryz.underlying9 h4
    simp only [List.cons.injEq, and_true] at e0 e1 e2 e3 e4
    subst e0; subst e1; subst e2; subst e3; subst e4
    subst f0; subst f1; subst f2; subst f3; subst f4
    exact ⟨⟨m0, m1, m2, s3, s4⟩, rfl, by rw [hx]; rfl⟩
end
theorem first_reads {W : World} {cs : Array Value} {fuel : Nat} {p : List MemPlace} (h1 : W.var? Tryz.prog "linchpin/set.first" = some cs) (h2 : DataW.trod (fun _ => ()) Tryz.prog W 0 (fun _ => true) false fuel 29 cs.toList = some (Rows.laid_linchpin_set_first, p)) : First W := by
  obtain ⟨v, hv, hd⟩ := ver_reads h2
  simp only [Rows.laid_linchpin_set_first, DataW.agg.injEq, List.cons.injEq, and_true, DataW.lit.injEq, Lit.int.injEq, Lit.string.injEq, true_and] at hd
  obtain ⟨d0, d1, d2, d3, d4⟩ := hd
  obtain ⟨a, b, c, ⟨⟨s⟩⟩, ⟨⟨t⟩⟩⟩ := v
  dsimp only at d0 d1 d2 d3 d4
  subst d0 d1 d2 d3 d4
  have hc : ∀ (j : Nat), W.cell? ⟨1, j, none⟩ = (zeroV.cells)[j]? := fun j => by
    rw [World.var?_cell firstG h1 j, ← Array.getElem?_toList, hv]; rfl
  refine ⟨World.block_lt_of_cell? W ⟨1, 0, none⟩ (hc 0), fun j u hj => by rw [hc j, hj]⟩
theorem first_of_laid {W : World} (h : laidMet Tryz.prog [("linchpin/set.first", Rows.laid_linchpin_set_first)] W) : First W := by
  obtain ⟨ps, hv, _⟩ := h
  obtain ⟨g, t, cs, fuel, p, q, h1, h2, h3, h4, _⟩ := hv
  obtain rfl := Option.some.inj (firstG.symm.trans h1)
  obtain rfl := Option.some.inj (firstT.symm.trans h2)
  exact first_reads h3 h4
section
variable {H : Type} {enc : TypeId × Value → H} {W : World} {base : Nat} {held : Bool}
end
noncomputable def laidWorld (os : Os) : World := World.holding Tryz.prog os ⟨#[], #[], []⟩
theorem laidWorld_met (os : Os) (args : Array Value) : laidMet Tryz.prog [("linchpin/set.first", Rows.laid_linchpin_set_first)] ((laidWorld os).forCall (fun _ _ => 0) ⟨#[], args, []⟩).memory :=
  laidMet_of_run (ps := MemPlace.row ⟨1, 0, none⟩ 5) 8 (by kernel_rfl) (by kernel_rfl) (by kernel_rfl)
end Go.Proofs.YtlmkglgjdmjnkaaGreatDoor
