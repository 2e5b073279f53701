/- Parts 32 of the proofs. -/
import Derived.Test.YtlmkglgjdmjnkaaGreatDoorQ11
import Derived.Test.YtlmkglgjdmjnkaaGreatDoorQ7
import Derived.Test.YtlmkglgjdmjnkaaGreatDoorQ8
namespace Go.Proofs.YtlmkglgjdmjnkaaGreatDoor
open Go.RowKit Go.Lib
open Rw
set_option linter.unusedVariables false
set_option linter.unusedSimpArgs false
theorem right_cases2 (en : Int) (v : Ver) (aft : Bool) : rightC ⟨en, v, aft⟩ = ((en != 0) || (!aft && (bts v.pre).isEmpty && !leastV v)) := by
  rw [rightC]
  by_cases h : en = 0 <;> simp [h]
set_option maxHeartbeats 1000000 in
theorem rright_any (c : CutL) (w : World) : Calls Tryz.prog 160 #[c.val] w (BoolPost w (rightC c)) := by
  generalize hr : rightC c = r
  have HR := hid hr
  clear hr
  obtain ⟨en, v, aft⟩ := c
  have hle := rleast_any v
  generalize hv : leastV v = lv at *
  have HV := hid hv
  clear hv
  cases h3 : (en != 0)
  · cases aft
    · by_cases h4 : 0 < v.pre.size
      · obtain ⟨e4, n4⟩ := ne_of_size h4
        go_enter Tryz.func160, Tryz.ntmps160
        go_wp2_with fail
        go_ret
        exact ⟨by rw [← HR.out, right_cases2, h3, bts, e4]; rfl, below_new _ _⟩
      · have e4 := isEmpty_of h4
        go_enter Tryz.func160, Tryz.ntmps160
        go_wp2_with fail
        refine (hle _).mono ?_
        rintro _ w1 ⟨rfl, hb1⟩
        clear hle
        go_wp2_with fail
        go_ret
        exact ⟨by rw [← HR.out, right_cases2, h3, bts, e4, HV.out]; rfl, below_tr (below_new w (.cells (CutL.cells ⟨en, v, false⟩).toArray 130)) hb1⟩
    · go_enter Tryz.func160, Tryz.ntmps160
      go_wp2_with fail
      go_ret
      exact ⟨by rw [← HR.out, right_cases2, h3]; rfl, below_new _ _⟩
  · go_enter Tryz.func160, Tryz.ntmps160
    go_wp2_with fail
    go_ret
    exact ⟨by rw [← HR.out, right_cases2, h3]; rfl, below_new _ _⟩
def rightS (s : SpanL) : Bool := rightC s.fr && rightC s.til
def rightTo (l : List SpanL) (k : Nat) : Prop := ∀ j, j < k → rightS (nth l j) = true
theorem rightTo_step {l : List SpanL} {k : Nat} (h : rightTo l k) (h1 : rightS (nth l k) = true) : rightTo l (k + 1) := by
  intro j hj
  rcases Nat.lt_or_ge j k with h' | h'
  · exact h j h'
  · obtain rfl : j = k := by omega
    exact h1
theorem settledR_all {l : List SpanL} (h : mayR l = true) : settledR l = l.all rightS := by
  have hv := mayR_val.1 h
  rw [settledR]
  rw [Bool.eq_iff_iff, List.all_eq_true, List.all_eq_true]
  constructor
  · intro k s hs
    have := k s hs
    rwa [settledS, settled_right (hv.span s hs).okl, settled_right (hv.span s hs).okr] at this
  · intro k s hs
    rw [settledS, settled_right (hv.span s hs).okl, settled_right (hv.span s hs).okr]
    exact k s hs
theorem rightTo_end {l : List SpanL} (h : rightTo l l.length) : l.all rightS = true := by
  rw [List.all_eq_true]
  intro s hs
  obtain ⟨i, hi, rfl⟩ := List.getElem_of_mem hs
  have := h i hi
  rwa [nth_lt hi] at this
theorem rightTo_no {l : List SpanL} {k : Nat} (hk : k < l.length) (h : rightS (nth l k) = false) : l.all rightS = false := by
  rw [List.all_eq_false]
  exact ⟨_, List.getElem_mem hk, by rw [nth_lt hk] at h; simp [h]⟩
set_option maxRecDepth 100000 in
set_option maxHeartbeats 1000000 in
theorem rsmay_any (A B : Option Addr) (c d : Nat) (l m : List SpanL) (w : World) (hl : Spans w A l) (hm : Spans w B m) (hfl : fitL l) (hfm : fitL m) (hln : l.length ≤ 4398046511104) (hmn : m.length ≤ 4398046511104) :
    Calls Tryz.prog 137 #[setV A l.length c B m.length d] w (BoolPost w (mayS l m)) := by
  generalize hr : mayS l m = r
  have HR := hid hr
  have HL := hid hl
  have HM := hid hm
  have HC := hid (fun w' (h : Spans w' A l) => rrowmay_any A c l w' h hfl (by omega))
  have HD := hid (fun w' (h : Spans w' B m) => rrowmay_any B d m w' h hfm (by omega))
  have HSE := hid (settledR_all (l := l))
  have HB0 := hid (below_new w (.cells [.slice A l.length c, .slice B m.length d].toArray 86))
  have HX := hid (Box.new w [.slice A l.length c, .slice B m.length d] 86)
  clear hr hl hm hfl hfm
  generalize hn : l.length = n at *
  have HN := hid hn
  generalize m.length = n2 at *
  clear hn
  cases h1 : mayR l
  · go_enter Tryz.func137, Tryz.ntmps137
    go_wp2_with fail
    refine (HC.out _ (HL.out.below HB0.out)).mono ?_
    rintro _ w1 ⟨rfl, hb1⟩
    rw [h1]
    go_wp2_with fail
    go_ret
    exact ⟨by rw [← HR.out, mayS, h1]; simp, below_tr HB0.out hb1⟩
  · cases h2 : mayR m
    · go_enter Tryz.func137, Tryz.ntmps137
      go_wp2_with fail
      refine (HC.out _ (HL.out.below HB0.out)).mono ?_
      rintro _ w1 ⟨rfl, hb1⟩
      rw [h1]
      have HB1 := hid (below_tr HB0.out hb1)
      obtain ⟨y0, y1⟩ := (HX.out.below hb1).get2
      clear hb1
      go_wp2_with fail
      refine (HD.out _ (HM.out.below HB1.out)).mono ?_
      rintro _ w2 ⟨rfl, hb2⟩
      rw [h2]
      clear y0 y1
      go_wp2_with fail
      go_ret
      exact ⟨by rw [← HR.out, mayS, h2]; simp, below_tr HB1.out hb2⟩
    · have HRR : Hid (r = l.all rightS) := hid (by rw [← HR.out, mayS, h1, h2, HSE.out h1]; simp)
      clear HR HSE
      go_enter Tryz.func137, Tryz.ntmps137
      go_wp2_with fail
      refine (HC.out _ (HL.out.below HB0.out)).mono ?_
      rintro _ w1 ⟨rfl, hb1⟩
      rw [h1]
      have HB1 := hid (below_tr HB0.out hb1)
      have HX1 := hid (HX.out.below hb1)
      obtain ⟨y0, y1⟩ := HX1.out.get2
      clear hb1
      go_wp2_with fail
      refine (HD.out _ (HM.out.below HB1.out)).mono ?_
      rintro _ w2 ⟨rfl, hb2⟩
      rw [h2]
      clear y0 y1
      have HB2 := hid (below_tr HB1.out hb2)
      have HX2 := hid (HX1.out.below hb2)
      have HL2 := hid (HL.out.below HB2.out)
      clear hb2 HX HX1 HB0 HB1 HL HM HC HD
      go_wp2_with fail
      go_loopw [3] (fun i wr => ∃ k : Nat, i = .int .i64 k ∧ k ≤ n ∧ Hid (rightTo l k) ∧ Hid (Below w2.heap.size w2 wr)) (fun i _ => n - (intOf i).toNat)
      case atStart => exact ⟨0, rfl, Nat.zero_le _, fun j hj => by omega, Below.refl _ _⟩
      case round =>
        obtain ⟨k, rfl, hk, HS, HBR⟩ := hrel
        have HLr := hid (HL2.out.below HBR.out)
        have HXr := hid (HX2.out.below HBR.out)
        obtain ⟨y0, y1⟩ := HXr.out.get2
        by_cases hlt : k < n
        · have hlt' : k < l.length := by rw [HN.out]; exact hlt
          obtain ⟨b, off, rfl, hbl, ⟨x0, x1, x2, x3, x4, x5, x6⟩, z0, z1, z2, z3, z4, z5, z6⟩ := HLr.out.at_ (k := k) hlt'
          have HAT := hid (fun w' (h : Below wr.heap.size wr w') => (HLr.out.below h).at_ (k := k) hlt')
          have i0 : (0 : Int) ≤ (k : Int) := by omega
          have i1 : (k : Int) < (n : Int) := by omega
          have HNO := hid (fun h => rightTo_no (k := k) hlt' h)
          have HST := hid (fun h => rightTo_step (k := k) HS.out h)
          generalize nth l k = s at *
          cases h3 : rightC s.fr
          · have HE := hid (HNO.out (by rw [rightS, h3]; rfl))
            go_wp2_with fail
            refine (rright_any s.fr _).mono ?_
            rintro _ w3 ⟨rfl, hb3⟩
            rw [h3]
            clear x0 x1 x2 x3 x4 x5 x6 z0 z1 z2 z3 z4 z5 z6 y0 y1
            go_wp2_with fail
            go_ret
            exact ⟨by rw [HRR.out, HE.out]; rfl, below_tr HB2.out (below_tr HBR.out hb3)⟩
          · cases h4 : rightC s.til
            · have HE := hid (HNO.out (by rw [rightS, h3, h4]; rfl))
              go_wp2_with fail
              refine (rright_any s.fr _).mono ?_
              rintro _ w3 ⟨rfl, hb3⟩
              rw [h3]
              clear x0 x1 x2 x3 x4 x5 x6 z0 z1 z2 z3 z4 z5 z6 y0 y1
              have HB3 := hid hb3
              obtain ⟨y0, y1⟩ := (HXr.out.below hb3).get2
              obtain ⟨b', off', e, hbl', ⟨x0, x1, x2, x3, x4, x5, x6⟩, z0, z1, z2, z3, z4, z5, z6⟩ := HAT.out _ hb3
              injection e with e
              injection e with e1 e2
              subst e1 e2
              clear hb3
              go_wp2_with fail
              refine (rright_any s.til _).mono ?_
              rintro _ w4 ⟨rfl, hb4⟩
              rw [h4]
              clear x0 x1 x2 x3 x4 x5 x6 z0 z1 z2 z3 z4 z5 z6 y0 y1
              go_wp2_with fail
              go_ret
              exact ⟨by rw [HRR.out, HE.out]; rfl, below_tr HB2.out (below_tr HBR.out (below_tr HB3.out hb4))⟩
            · have HE := hid (HST.out (by rw [rightS, h3, h4]; rfl))
              go_wp2_with fail
              refine (rright_any s.fr _).mono ?_
              rintro _ w3 ⟨rfl, hb3⟩
              rw [h3]
              clear x0 x1 x2 x3 x4 x5 x6 z0 z1 z2 z3 z4 z5 z6 y0 y1
              have HB3 := hid hb3
              obtain ⟨y0, y1⟩ := (HXr.out.below hb3).get2
              obtain ⟨b', off', e, hbl', ⟨x0, x1, x2, x3, x4, x5, x6⟩, z0, z1, z2, z3, z4, z5, z6⟩ := HAT.out _ hb3
              injection e with e
              injection e with e1 e2
              subst e1 e2
              clear hb3
              go_wp2_with fail
              refine (rright_any s.til _).mono ?_
              rintro _ w4 ⟨rfl, hb4⟩
              rw [h4]
              clear x0 x1 x2 x3 x4 x5 x6 z0 z1 z2 z3 z4 z5 z6 y0 y1
              have HB4 := hid hb4
              clear hb4
              go_wp2_with fail
              go_roundw
              case rel => exact ⟨k + 1, by go_num, by omega, HE.out, below_tr HBR.out (below_tr HB3.out HB4.out)⟩
              case measure => simp [intOf]; omega
        · obtain rfl : k = n := by omega
          have HE := hid (rightTo_end (l := l) (by rw [HN.out]; exact HS.out))
          go_wp2_with fail
          go_ret
          exact ⟨by rw [HRR.out, HE.out]; rfl, below_tr HB2.out HBR.out⟩
theorem rsor_any_do (A B : Option Addr) (c d : Nat) (l m : List SpanL) (w : World) (hl : Spans w A l) (hm : Spans w B m) (hfl : fitL l) (hfm : fitL m) (hln : l.length + 2 * m.length ≤ 39999) : Calls Tryz.prog 138 #[.slice A l.length c, .slice B m.length d] w (RowN w (rorL l m)) := callN (ror_any w.heap.size A B c d l m w hl hm hfl hfm (by omega) (Nat.le_refl _))
set_option maxRecDepth 100000 in
set_option maxHeartbeats 2000000 in
theorem rsor_any (A B C D : Option Addr) (c d c2 d2 : Nat) (l m p q : List SpanL) (w : World) (hl : Spans w A l) (hm : Spans w B m) (hp : Spans w C p) (hq : Spans w D q) (hfl : fitL l) (hfm : fitL m) (hfp : fitL p) (hfq : fitL q)
    (hln : l.length ≤ 10000) (hmn : m.length ≤ 10000) (hpn : p.length ≤ 10000) (hqn : q.length ≤ 10000) :
    Calls Tryz.prog 96 #[setV A l.length c B m.length d, setV C p.length c2 D q.length d2] w (SetPost w (if mayS l m && mayS p q then rorL l p else []) (if mayS l m && mayS p q then rorL m q else [])) := by
  have HB0 := hid (below_tr (below_tr (below_new w (.cells [.slice A l.length c, .slice B m.length d].toArray 86)) (below_new _ (.cells [.slice C p.length c2, .slice D q.length d2].toArray 86))) (below_new _ (.cells [Value.slice none 0 0, .slice none 0 0].toArray 86)))
  have HY := hid (rsmay_any A B c d l m _ (hl.below HB0.out) (hm.below HB0.out) hfl hfm (by omega) (by omega))
  have HZ := hid (fun w' (h : Below w.heap.size w w') => rsmay_any C D c2 d2 p q w' (hp.below h) (hq.below h) hfp hfq (by omega) (by omega))
  have HD1 := hid (fun w' (h : Below w.heap.size w w') => rsor_any_do A C c c2 l p w' (hl.below h) (hp.below h) hfl hfp (by omega))
  have HD2 := hid (fun w' (h : Below w.heap.size w w') => rsor_any_do B D d d2 m q w' (hm.below h) (hq.below h) hfm hfq (by omega))
  clear hl hm hp hq hfl hfm hfp hfq
  generalize l.length = n at *
  generalize m.length = n2 at *
  generalize p.length = n3 at *
  generalize q.length = n4 at *
  cases h1 : mayS l m
  · go_enter Tryz.func96, Tryz.ntmps96
    go_wp2_with fail
    refine HY.out.mono ?_
    rintro _ w1 ⟨rfl, hb1⟩
    rw [h1]
    obtain ⟨_, _, hy, hs, hb⟩ := box_3 (cs := [.slice A n c, .slice B n2 d]) (ds := [.slice C n3 c2, .slice D n4 d2]) (es := [.slice none 0 0, .slice none 0 0]) hb1
    have HX := hid hy
    have HS := hid hs
    have HB1 := hid hb
    clear hb1 hy hs hb
    go_wp2_with fail
    refine (rsnone_any _).mono ?_
    rintro _ w2 ⟨rfl, hb2⟩
    have HX2 := hid (HX.out.below hb2)
    have hf : ∀ j, w2.frozen? ⟨w.heap.size + 1 + 1, j, none⟩ = false := HS.out.below HX.out.1 hb2
    have HB2 := hid (below_tr HB1.out hb2)
    obtain ⟨y0, y1⟩ := HX2.out.get2
    have hlt := HX2.out.1
    clear hb2
    go_wp2_with fail
    refine ret2 HX2.out (v := setV none 0 0 none 0 0) (fun w3 h3 => ?_) rfl (fun h3 => NonePost.set ⟨rfl, HB2.out.trans (h3.mono (by omega))⟩)
    obtain ⟨k0, k1⟩ := h3.get2
    simp [results, Tryz.results96, go_sem, k0, k1]
  · cases h2 : mayS p q
    · go_enter Tryz.func96, Tryz.ntmps96
      go_wp2_with fail
      refine HY.out.mono ?_
      rintro _ w1 ⟨rfl, hb1⟩
      rw [h1]
      obtain ⟨_, hx, hy, hs, hb⟩ := box_3 (cs := [.slice A n c, .slice B n2 d]) (ds := [.slice C n3 c2, .slice D n4 d2]) (es := [.slice none 0 0, .slice none 0 0]) hb1
      have HX := hid hy
      have HS := hid hs
      have HB1 := hid hb
      obtain ⟨z0, z1⟩ := hx.get2
      clear hb1 hx hy hs hb
      go_wp2_with fail
      refine (HZ.out _ HB1.out).mono ?_
      rintro _ w2 ⟨rfl, hb2⟩
      rw [h2]
      have HX2 := hid (HX.out.below hb2)
      have HS2 := hid (HS.out.below HX.out.1 hb2)
      have HB2 := hid (below_tr HB1.out hb2)
      clear hb2 z0 z1
      go_wp2_with fail
      refine (rsnone_any _).mono ?_
      rintro _ w3 ⟨rfl, hb3⟩
      have HX3 := hid (HX2.out.below hb3)
      have hf : ∀ j, w3.frozen? ⟨w.heap.size + 1 + 1, j, none⟩ = false := HS2.out.below HX2.out.1 hb3
      have HB3 := hid (below_tr HB2.out hb3)
      obtain ⟨y0, y1⟩ := HX3.out.get2
      have hlt := HX3.out.1
      clear hb3
      go_wp2_with fail
      refine ret2 HX3.out (v := setV none 0 0 none 0 0) (fun w3 h3 => ?_) rfl (fun h3 => NonePost.set ⟨rfl, HB3.out.trans (h3.mono (by omega))⟩)
      obtain ⟨k0, k1⟩ := h3.get2
      simp [results, Tryz.results96, go_sem, k0, k1]
    · go_enter Tryz.func96, Tryz.ntmps96
      go_wp2_with fail
      refine HY.out.mono ?_
      rintro _ w1 ⟨rfl, hb1⟩
      rw [h1]
      obtain ⟨hw, hx, hy, hs, hb⟩ := box_3 (cs := [.slice A n c, .slice B n2 d]) (ds := [.slice C n3 c2, .slice D n4 d2]) (es := [.slice none 0 0, .slice none 0 0]) hb1
      have HW := hid hw
      have HV := hid hx
      have HX := hid hy
      have HS := hid hs
      have HB1 := hid hb
      obtain ⟨z0, z1⟩ := hx.get2
      clear hb1 hw hx hy hs hb
      go_wp2_with fail
      refine (HZ.out _ HB1.out).mono ?_
      rintro _ w2 ⟨rfl, hb2⟩
      rw [h2]
      have HX2 := hid (HX.out.below hb2)
      have HS2 := hid (HS.out.below HX.out.1 hb2)
      have HB2 := hid (below_tr HB1.out hb2)
      have HK := hid (fun w' (h : Below w2.heap.size w2 w') => ((fun (a : _ ∧ _) (b : _ ∧ _) => ⟨a.1, a.2, b.1, b.2⟩) ((HW.out.below hb2).below h).get2 ((HV.out.below hb2).below h).get2 : w'.cell? ⟨w.heap.size, 0, none⟩ = some (.slice A n c) ∧ w'.cell? ⟨w.heap.size, 1, none⟩ = some (.slice B n2 d) ∧ w'.cell? ⟨w.heap.size + 1, 0, none⟩ = some (.slice C n3 c2) ∧ w'.cell? ⟨w.heap.size + 1, 1, none⟩ = some (.slice D n4 d2)))
      have HR := hid (fun w' (h : Below w2.heap.size w2 w') => And.intro (HX2.out.below h) (HS2.out.below HX2.out.1 h))
      have HC1 := hid (fun w' (h : Below w2.heap.size w2 w') => HD1.out w' (below_tr HB2.out h))
      have HC2 := hid (fun w' (h : Below w2.heap.size w2 w') => HD2.out w' (below_tr HB2.out h))
      clear hb2 z0 z1 HD1 HD2 HZ HY HB1 HB0 HX HS HV HW
      have HG : Hid (w.heap.size + 1 + 1 < w2.heap.size) := hid HX2.out.1
      clear HX2 HS2
      go_wp2_with fail
      have q1 : ¬ w.heap.size + 1 + 1 = w.heap.size := by omega
      have q2 : ¬ w.heap.size + 1 + 1 = w.heap.size + 1 := by omega
      go_region_held3 (fun w' => w'.cell? ⟨w.heap.size, 0, none⟩ = some (.slice A n c) ∧ w'.cell? ⟨w.heap.size, 1, none⟩ = some (.slice B n2 d) ∧ w'.cell? ⟨w.heap.size + 1, 0, none⟩ = some (.slice C n3 c2) ∧ w'.cell? ⟨w.heap.size + 1, 1, none⟩ = some (.slice D n4 d2))
        (first | (exact HK.out _ (by first | assumption | exact (Below.refl _ _).drew)) | go_keep)
        (first
          | (go_at_call_of 138 A; (with_reducible refine (HC1.out _ (by first | assumption | exact (Below.refl _ _).drew)).mono ?_); rintro _ w4 ⟨A4, c4, rfl, s4, k4⟩; have hb4 : Below w2.heap.size w2 w4 := below_tr (by first | assumption | exact (Below.refl _ _).drew) k4; obtain ⟨a0, a1⟩ := (HR.out _ hb4).1.get2; have a2 : ∀ j, w4.frozen? ⟨w.heap.size + 1 + 1, j, none⟩ = false := (HR.out _ hb4).2)
          | (go_at_call_of 138 B; (with_reducible refine (HC2.out _ (by first | assumption | exact (Below.refl _ _).drew)).mono ?_); rintro _ w5 ⟨A5, c5, rfl, s5, k5⟩; have hb5 : Below w2.heap.size w2 w5 := below_tr (by first | assumption | exact (Below.refl _ _).drew) k5; obtain ⟨b0, b1⟩ := (HR.out _ hb5).1.get2; have b2 : ∀ j, w5.frozen? ⟨w.heap.size + 1 + 1, j, none⟩ = false := (HR.out _ hb5).2))
      have HA := hid (SpanB.low (s4.below k5) (show w2.heap.size ≤ _ from Nat.le_refl _))
      have HE := hid (SpanB.low s5 (show w2.heap.size ≤ _ from hb4.size))
      have HX5 := hid (HR.out _ hb5).1
      have HB5 := hid (below_tr HB2.out hb5)
      have hg := HG.out
      have hgw := HB2.out.size
      clear s4 s5 k4 k5 hb4 hb5 a0 a1 a2 b0 b1 b2 q1 q2
      go_wp2_with fail
      refine ret2 HX5.out (v := setV A4 _ c4 A5 _ c5) (fun w3 h3 => ?_) rfl (fun h3 => ⟨A4, c4, A5, c5, rfl, (HA.out.set hg).low hgw, (HE.out.set hg).low hgw, HB5.out.trans (h3.mono (by omega))⟩)
      obtain ⟨k0, k1⟩ := h3.get2
      simp [results, Tryz.results96, go_sem, k0, k1]
set_option maxRecDepth 100000 in
set_option maxHeartbeats 1000000 in
theorem rshas_any (A B : Option Addr) (c d : Nat) (l m : List SpanL) (v : Ver) (w : World) (hl : Spans w A l) (hm : Spans w B m) (hfl : fitL l) (hfm : fitL m) (hln : l.length ≤ 4398046511104) (hmn : m.length ≤ 4398046511104) (hv : v.fit) :
    Calls Tryz.prog 140 #[setV A l.length c B m.length d, v.val] w (BoolPost w (hasS l m v)) := by
  generalize hr : hasS l m v = r
  have HR := hid hr
  have HB0 := hid (below_tr (below_new w (.cells [.slice A l.length c, .slice B m.length d].toArray 86)) (below_new _ (.cells v.cells.toArray 29)))
  have HY := hid (rsmay_any A B c d l m _ (hl.below HB0.out) (hm.below HB0.out) hfl hfm hln hmn)
  have HL := hid (fun w' h => hl.below (w' := w') h)
  have HM := hid (fun w' h => hm.below (w' := w') h)
  have HC := hid (fun w' (h : Spans w' A l) => rrowhas_any A c l v w' h hfl hln hv)
  have HD := hid (fun w' (h : Spans w' B m) => rrowhas_any B d m v w' h hfm hmn hv)
  have HV := hid (fun w' => rmay_any v w' hv)
  clear hr hl hm hfl hfm
  generalize l.length = n at *
  generalize m.length = n2 at *
  cases h1 : mayS l m
  · go_enter Tryz.func140, Tryz.ntmps140
    go_wp2_with fail
    refine HY.out.mono ?_
    rintro _ w1 ⟨rfl, hb1⟩
    rw [h1]
    go_wp2_with fail
    go_ret
    exact ⟨by rw [← HR.out, hasS, h1]; rfl, below_tr HB0.out hb1⟩
  · cases h2 : mayV v
    · go_enter Tryz.func140, Tryz.ntmps140
      go_wp2_with fail
      refine HY.out.mono ?_
      rintro _ w1 ⟨rfl, hb1⟩
      rw [h1]
      have HB1 := hid (below_tr HB0.out hb1)
      obtain ⟨_, hy, _⟩ := box_2 (cs := [.slice A n c, .slice B n2 d]) (ds := v.cells) hb1
      obtain ⟨t0, t1, t2, t3, t4⟩ := hy.get5
      clear hb1 hy
      go_wp2_with fail
      refine (HV.out _).mono ?_
      rintro _ w2 ⟨rfl, hb2⟩
      rw [h2]
      clear t0 t1 t2 t3 t4
      go_wp2_with fail
      go_ret
      exact ⟨by rw [← HR.out, hasS, h1, h2]; rfl, below_tr HB1.out hb2⟩
    · by_cases h4 : 0 < v.pre.size
      · obtain ⟨e4, n4⟩ := ne_of_size h4
        have HE := hid (show r = hasR m v by rw [← HR.out, hasS, h1, h2, bts, e4]; rfl)
        go_enter Tryz.func140, Tryz.ntmps140
        go_wp2_with fail
        refine HY.out.mono ?_
        rintro _ w1 ⟨rfl, hb1⟩
        rw [h1]
        obtain ⟨hx, hy, hb1'⟩ := box_2 (cs := [.slice A n c, .slice B n2 d]) (ds := v.cells) hb1
        have HX := hid hx
        have HZ := hid hy
        have HB1 := hid hb1'
        obtain ⟨t0, t1, t2, t3, t4⟩ := hy.get5
        clear hb1 hy hx hb1'
        go_wp2_with fail
        refine (HV.out _).mono ?_
        rintro _ w2 ⟨rfl, hb2⟩
        rw [h2]
        clear t0 t1 t2 t3 t4
        have HB2 := hid (below_tr HB1.out hb2)
        obtain ⟨t0, t1, t2, t3, t4⟩ := (HZ.out.below hb2).get5
        obtain ⟨y0, y1⟩ := (HX.out.below hb2).get2
        clear hb2
        go_wp2_with fail
        refine (HD.out _ (HM.out _ HB2.out)).mono ?_
        rintro _ w3 ⟨rfl, hb3⟩
        clear t0 t1 t2 t3 t4 y0 y1
        go_wp2_with fail
        go_ret
        exact ⟨by rw [HE.out]; rfl, below_tr HB2.out hb3⟩
      · have e4 := isEmpty_of h4
        have HE := hid (show r = hasR l v by rw [← HR.out, hasS, h1, h2, bts, e4]; rfl)
        go_enter Tryz.func140, Tryz.ntmps140
        go_wp2_with fail
        refine HY.out.mono ?_
        rintro _ w1 ⟨rfl, hb1⟩
        rw [h1]
        obtain ⟨hx, hy, hb1'⟩ := box_2 (cs := [.slice A n c, .slice B n2 d]) (ds := v.cells) hb1
        have HX := hid hx
        have HZ := hid hy
        have HB1 := hid hb1'
        obtain ⟨t0, t1, t2, t3, t4⟩ := hy.get5
        clear hb1 hy hx hb1'
        go_wp2_with fail
        refine (HV.out _).mono ?_
        rintro _ w2 ⟨rfl, hb2⟩
        rw [h2]
        clear t0 t1 t2 t3 t4
        have HB2 := hid (below_tr HB1.out hb2)
        obtain ⟨t0, t1, t2, t3, t4⟩ := (HZ.out.below hb2).get5
        obtain ⟨y0, y1⟩ := (HX.out.below hb2).get2
        clear hb2
        go_wp2_with fail
        refine (HC.out _ (HL.out _ HB2.out)).mono ?_
        rintro _ w3 ⟨rfl, hb3⟩
        clear t0 t1 t2 t3 t4 y0 y1
        go_wp2_with fail
        go_ret
        exact ⟨by rw [HE.out]; rfl, below_tr HB2.out hb3⟩
set_option maxRecDepth 100000 in
set_option maxHeartbeats 2000000 in
theorem rsnot_any (A B : Option Addr) (c d : Nat) (l m : List SpanL) (w : World) (hl : Spans w A l) (hm : Spans w B m) (hfl : fitL l) (hfm : fitL m)
    (hln : l.length ≤ 10000) (hmn : m.length ≤ 10000) :
    Calls Tryz.prog 97 #[setV A l.length c B m.length d] w (SetPost w (notS l m).1 (notS l m).2) := by
  have HB0 := hid (below_tr (below_new w (.cells [.slice A l.length c, .slice B m.length d].toArray 86)) (below_new _ (.cells [Value.slice none 0 0, .slice none 0 0].toArray 86)))
  have HY := hid (rsmay_any A B c d l m _ (hl.below HB0.out) (hm.below HB0.out) hfl hfm (by omega) (by omega))
  have HD1 := hid (fun w' (h : Below w.heap.size w w') => callN (rnot_any w'.heap.size A c l w' (hl.below h) hfl (by omega) (Nat.le_refl _)))
  have HD2 := hid (fun w' (h : Below w.heap.size w w') => callN (rnot_any w'.heap.size B d m w' (hm.below h) hfm (by omega) (Nat.le_refl _)))
  clear hl hm hfl hfm
  generalize l.length = n at *
  generalize m.length = n2 at *
  cases h1 : mayS l m
  · have HE := hid (show notS l m = ([], []) by rw [notS, h1]; rfl)
    go_enter Tryz.func97, Tryz.ntmps97
    go_wp2_with fail
    refine HY.out.mono ?_
    rintro _ w1 ⟨rfl, hb1⟩
    rw [h1]
    have hs := (soft_2 (cs := [.slice A n c, .slice B n2 d]) (ds := [.slice none 0 0, .slice none 0 0]) hb1).2
    obtain ⟨_, hy, hb⟩ := box_2 (cs := [.slice A n c, .slice B n2 d]) (ds := [.slice none 0 0, .slice none 0 0]) hb1
    have HX := hid hy
    have HS := hid hs
    have HB1 := hid hb
    clear hb1 hy hs hb
    go_wp2_with fail
    refine (rsnone_any _).mono ?_
    rintro _ w2 ⟨rfl, hb2⟩
    have HX2 := hid (HX.out.below hb2)
    have hf : ∀ j, w2.frozen? ⟨w.heap.size + 1, j, none⟩ = false := HS.out.below HX.out.1 hb2
    have HB2 := hid (below_tr HB1.out hb2)
    obtain ⟨y0, y1⟩ := HX2.out.get2
    have hlt := HX2.out.1
    clear hb2
    go_wp2_with fail
    refine ret2 HX2.out (v := setV none 0 0 none 0 0) (fun w3 h3 => ?_) rfl (fun h3 => by rw [HE.out]; exact NonePost.set ⟨rfl, HB2.out.trans (h3.mono (by omega))⟩)
    obtain ⟨k0, k1⟩ := h3.get2
    simp [results, Tryz.results97, go_sem, k0, k1]
  · have HE := hid (show notS l m = (rnotL l, rnotL m) by rw [notS, h1]; rfl)
    go_enter Tryz.func97, Tryz.ntmps97
    go_wp2_with fail
    refine HY.out.mono ?_
    rintro _ w1 ⟨rfl, hb1⟩
    rw [h1]
    have hs := (soft_2 (cs := [.slice A n c, .slice B n2 d]) (ds := [.slice none 0 0, .slice none 0 0]) hb1).2
    obtain ⟨hx, hy, hb⟩ := box_2 (cs := [.slice A n c, .slice B n2 d]) (ds := [.slice none 0 0, .slice none 0 0]) hb1
    have HV := hid hx
    have HX := hid hy
    have HS := hid hs
    have HB1 := hid hb
    have HK := hid (fun w' (h : Below w1.heap.size w1 w') => (HV.out.below h).get2)
    have HR := hid (fun w' (h : Below w1.heap.size w1 w') => And.intro (HX.out.below h) (HS.out.below HX.out.1 h))
    have HC1 := hid (fun w' (h : Below w1.heap.size w1 w') => HD1.out w' (below_tr HB1.out h))
    have HC2 := hid (fun w' (h : Below w1.heap.size w1 w') => HD2.out w' (below_tr HB1.out h))
    obtain ⟨z0, z1⟩ := hx.get2
    have HG : Hid (w.heap.size + 1 < w1.heap.size) := hid HX.out.1
    clear hb1 hx hy hs hb HD1 HD2 HY HB0 HX HS HV
    go_wp2_with fail
    have q1 : ¬ w.heap.size + 1 = w.heap.size := by omega
    go_region_held3 (fun w' => w'.cell? ⟨w.heap.size, 0, none⟩ = some (.slice A n c) ∧ w'.cell? ⟨w.heap.size, 1, none⟩ = some (.slice B n2 d))
      (first | (exact HK.out _ (by first | assumption | exact (Below.refl _ _).drew)) | go_keep)
      (first
        | (go_at_call_of 139 A; (with_reducible refine (HC1.out _ (by first | assumption | exact (Below.refl _ _).drew)).mono ?_); rintro _ w4 ⟨A4, c4, rfl, s4, k4⟩; have hb4 : Below w1.heap.size w1 w4 := below_tr (by first | assumption | exact (Below.refl _ _).drew) k4; obtain ⟨a0, a1⟩ := (HR.out _ hb4).1.get2; have a2 : ∀ j, w4.frozen? ⟨w.heap.size + 1, j, none⟩ = false := (HR.out _ hb4).2)
        | (go_at_call_of 139 B; (with_reducible refine (HC2.out _ (by first | assumption | exact (Below.refl _ _).drew)).mono ?_); rintro _ w5 ⟨A5, c5, rfl, s5, k5⟩; have hb5 : Below w1.heap.size w1 w5 := below_tr (by first | assumption | exact (Below.refl _ _).drew) k5; obtain ⟨b0, b1⟩ := (HR.out _ hb5).1.get2; have b2 : ∀ j, w5.frozen? ⟨w.heap.size + 1, j, none⟩ = false := (HR.out _ hb5).2))
    have HA := hid (SpanB.low (s4.below k5) (show w1.heap.size ≤ _ from Nat.le_refl _))
    have HEE := hid (SpanB.low s5 (show w1.heap.size ≤ _ from hb4.size))
    have HX5 := hid (HR.out _ hb5).1
    have HB5 := hid (below_tr HB1.out hb5)
    have hg := HG.out
    have hgw := HB1.out.size
    clear s4 s5 k4 k5 hb4 hb5 a0 a1 a2 b0 b1 b2 q1
    go_wp2_with fail
    refine ret2 HX5.out (v := setV A4 _ c4 A5 _ c5) (fun w3 h3 => ?_) rfl (fun h3 => by rw [HE.out]; exact ⟨A4, c4, A5, c5, rfl, (HA.out.set hg).low hgw, (HEE.out.set hg).low hgw, HB5.out.trans (h3.mono (by omega))⟩)
    obtain ⟨k0, k1⟩ := h3.get2
    simp [results, Tryz.results97, go_sem, k0, k1]
end Go.Proofs.YtlmkglgjdmjnkaaGreatDoor
namespace Go.Proofs.YtlmkglgjdmjnkaaGreatDoor
open Go.RowKit Go.Lib
open Rw
set_option linter.unusedVariables false
set_option linter.unusedSimpArgs false
set_option maxHeartbeats 1000000 in
theorem rbehind3_any (v : Ver) (w : World) : Calls Tryz.prog 64 #[v.val] w (CutPost w ⟨0, bareV v, true⟩) := by
  go_enter Tryz.func64, Tryz.ntmps64
  go_wp2_with fail
  refine (rcore_any v _).mono ?_
  rintro _ w1 ⟨rfl, hb1⟩
  have hs1 := (soft_2 (cs := v.cells) (ds := zeroC.cells) hb1).2
  obtain ⟨hx1, hy1, hbw1⟩ := box_2 (cs := v.cells) (ds := zeroC.cells) hb1
  have HX := hid hx1
  have HY := hid hy1
  have HS := hid hs1
  have HBW := hid hbw1
  have hl0 := hx1.1
  have hl1 := hy1.1
  clear hb1 hx1 hy1 hbw1 hs1
  generalize bareV v = u at *
  have hf : ∀ j, w1.frozen? ⟨w.heap.size + 1, j, none⟩ = false := HS.out
  obtain ⟨t0, t1, t2, t3, t4, t5, t6⟩ := HY.out.get7
  have hlr := HY.out.1
  go_wp2_with fail
  refine ret7 HY.out (v := (CutL.val ⟨0, u, true⟩)) (fun w3 h3 => ?_) rfl (fun w3 h3 => CutPost.of rfl rfl (HBW.out.trans (h3.mono (by omega))))
  obtain ⟨k0, k1, k2, k3, k4, k5, k6⟩ := h3.get7
  simp [results, Tryz.results64, go_sem, k0, k1, k2, k3, k4, k5, k6]
set_option maxHeartbeats 1000000 in
theorem rsexact_any (v : Ver) (w : World) (hv : v.fit) : Calls Tryz.prog 32 #[v.val] w (SetPost w (exactS v).1 (exactS v).2) := by
  have HB0 := hid (below_tr (below_new w (.cells v.cells.toArray 29)) (below_new _ (.cells [Value.slice none 0 0, .slice none 0 0].toArray 86)))
  have hM := rmay_any v
  have CA := hid (fun w' => rsahead_any v w')
  have CB := hid (fun w' => rbehind_any v w')
  have CC := hid (fun w' => rbefore_any v w')
  have CD := hid (fun w' => rbehind3_any v w')
  cases h1 : mayV v
  · have HE := hid (show exactS v = ([], []) by rw [exactS, if_pos h1])
    go_enter Tryz.func32, Tryz.ntmps32
    go_wp2_with fail
    refine (hM _ hv).mono ?_
    rintro _ w1 ⟨rfl, hb1⟩
    rw [h1]
    have hs := (soft_2 (cs := v.cells) (ds := [.slice none 0 0, .slice none 0 0]) hb1).2
    obtain ⟨_, hy, hb⟩ := box_2 (cs := v.cells) (ds := [.slice none 0 0, .slice none 0 0]) hb1
    have HX := hid hy
    have HS := hid hs
    have HB := hid hb
    clear hb1 hy hs hb hM
    go_wp2_with fail
    refine (rsnone_any _).mono ?_
    rintro _ w2 ⟨rfl, hb2⟩
    have HX2 := hid (HX.out.below hb2)
    have hf : ∀ j, w2.frozen? ⟨w.heap.size + 1, j, none⟩ = false := HS.out.below HX.out.1 hb2
    have HB2 := hid (below_tr HB.out hb2)
    obtain ⟨y0, y1⟩ := HX2.out.get2
    have hlt := HX2.out.1
    clear hb2
    go_wp2_with fail
    refine ret2 HX2.out (v := setV none 0 0 none 0 0) (fun w3 h3 => ?_) rfl (fun h3 => by rw [HE.out]; exact NonePost.set ⟨rfl, HB2.out.trans (h3.mono (by omega))⟩)
    obtain ⟨k0, k1⟩ := h3.get2
    simp [results, Tryz.results32, go_sem, k0, k1]
  · by_cases h4 : 0 < v.pre.size
    · obtain ⟨e4, n4⟩ := ne_of_size h4
      have HE := hid (show exactS v = ([], [⟨⟨0, bareV v, false⟩, ⟨0, bareV v, true⟩⟩]) by rw [exactS, if_neg (by simp [h1]), bts, e4]; rfl)
      go_enter Tryz.func32, Tryz.ntmps32
      go_wp2_with fail
      refine (hM _ hv).mono ?_
      rintro _ w3 ⟨rfl, hb1⟩
      rw [h1]
      have hs := (soft_2 (cs := v.cells) (ds := [.slice none 0 0, .slice none 0 0]) hb1).2
      obtain ⟨hx, hy, hb⟩ := box_2 (cs := v.cells) (ds := [.slice none 0 0, .slice none 0 0]) hb1
      have HV3 := hid hx
      have HX3 := hid hy
      have HS3 := hid hs
      have HB3 := hid hb
      have HK := hid (fun w' (h : Below w3.heap.size w3 w') => (HV3.out.below h).get5)
      have HR := hid (fun w' (h : Below w3.heap.size w3 w') => And.intro (HX3.out.below h) (HS3.out.below HX3.out.1 h))
      obtain ⟨t0, t1, t2, t3, t4⟩ := hx.get5
      clear hb1 hx hy hs hb hM
      go_wp2_with fail
      have q1 : ¬ w.heap.size + 1 = w.heap.size := by omega
      go_region_held3 (fun w' => w'.cell? ⟨w.heap.size, 0, none⟩ = some (.int .i64 v.maj) ∧ w'.cell? ⟨w.heap.size, 1, none⟩ = some (.int .i64 v.min) ∧ w'.cell? ⟨w.heap.size, 2, none⟩ = some (.int .i64 v.pat) ∧ w'.cell? ⟨w.heap.size, 3, none⟩ = some (.string v.pre) ∧ w'.cell? ⟨w.heap.size, 4, none⟩ = some (.string v.bld))
        (first | (exact HK.out _ (by first | assumption | exact (Below.refl _ _).drew | exact below_alloc (by assumption) _)) | (exact keep5n HV5.out (by omega) _ _ _) | go_keep)
        (first
          | (go_at_call 63; (with_reducible refine (CC.out _).mono ?_); rintro _ w4 ⟨rfl, k4⟩; have hb4 : Below w3.heap.size w3 w4 := below_tr (by first | assumption | exact (Below.refl _ _).drew | exact below_alloc (by assumption) _) k4)
          | (go_at_call 64; (with_reducible refine (CD.out _).mono ?_); rintro _ w5 ⟨rfl, k5⟩; have hb5 : Below w3.heap.size w3 w5 := below_tr (by first | assumption | exact (Below.refl _ _).drew | exact below_alloc (by assumption) _) k5; obtain ⟨b0, b1⟩ := (HR.out _ hb5).1.get2; have b2 : ∀ j, w5.frozen? ⟨w.heap.size + 1, j, none⟩ = false := (HR.out _ hb5).2; have b3 := (HR.out _ hb5).1.1; have HV5 := hid (HV3.out.below hb5)))
      have HX5 := hid (HR.out _ hb5).1
      have HB5 := hid (below_tr HB3.out hb5)
      clear t0 t1 t2 t3 t4 b0 b1 b2 b3 k4 k5 hb4 hb5
      go_wp2_with fail
      refine ret2n HX5.out (v := setV none 0 0 (some ⟨w5.heap.size, 0, none⟩) 1 1) (fun w6 h6 => ?_) rfl (fun h6 => ?_)
      · obtain ⟨k0, k1⟩ := h6.get2
        simp [results, Tryz.results32, go_sem, k0, k1]
      · rw [HE.out]
        have hq := SpanB.fresh (w5.setCells (w.heap.size + 1) 0 [.slice none 0 0, .slice (some ⟨w5.heap.size, 0, none⟩) 1 1]) ⟨⟨0, bareV v, false⟩, ⟨0, bareV v, true⟩⟩ 133
        rw [setCells_size] at hq
        exact ⟨none, 0, _, 1, rfl, SpanB.nil _ _, hq.low HB5.out.size, HB5.out.trans (h6.mono (by omega))⟩
    · have e4 := isEmpty_of h4
      have HE := hid (show exactS v = ([⟨aheadR v, uptoL (relV v)⟩], []) by rw [exactS, if_neg (by simp [h1]), bts, e4]; rfl)
      generalize aheadR v = ca at *
      generalize uptoL (relV v) = cb at *
      go_enter Tryz.func32, Tryz.ntmps32
      go_wp2_with fail
      refine (hM _ hv).mono ?_
      rintro _ w3 ⟨rfl, hb1⟩
      rw [h1]
      have hs := (soft_2 (cs := v.cells) (ds := [.slice none 0 0, .slice none 0 0]) hb1).2
      obtain ⟨hx, hy, hb⟩ := box_2 (cs := v.cells) (ds := [.slice none 0 0, .slice none 0 0]) hb1
      have HV3 := hid hx
      have HX3 := hid hy
      have HS3 := hid hs
      have HB3 := hid hb
      have HK := hid (fun w' (h : Below w3.heap.size w3 w') => (HV3.out.below h).get5)
      have HR := hid (fun w' (h : Below w3.heap.size w3 w') => And.intro (HX3.out.below h) (HS3.out.below HX3.out.1 h))
      obtain ⟨t0, t1, t2, t3, t4⟩ := hx.get5
      clear hb1 hx hy hs hb hM
      go_wp2_with fail
      have q1 : ¬ w.heap.size + 1 = w.heap.size := by omega
      go_region_held3 (fun w' => w'.cell? ⟨w.heap.size, 0, none⟩ = some (.int .i64 v.maj) ∧ w'.cell? ⟨w.heap.size, 1, none⟩ = some (.int .i64 v.min) ∧ w'.cell? ⟨w.heap.size, 2, none⟩ = some (.int .i64 v.pat) ∧ w'.cell? ⟨w.heap.size, 3, none⟩ = some (.string v.pre) ∧ w'.cell? ⟨w.heap.size, 4, none⟩ = some (.string v.bld))
        (first | (exact HK.out _ (by first | assumption | exact (Below.refl _ _).drew | exact below_alloc (by assumption) _)) | (exact keep5n HV5.out (by omega) _ _ _) | go_keep)
        (first
          | (go_at_call 65; (with_reducible refine (CA.out _).mono ?_); rintro _ w4 ⟨rfl, k4⟩; have hb4 : Below w3.heap.size w3 w4 := below_tr (by first | assumption | exact (Below.refl _ _).drew | exact below_alloc (by assumption) _) k4)
          | (go_at_call 66; (with_reducible refine (CB.out _).mono ?_); rintro _ w5 ⟨rfl, k5⟩; have hb5 : Below w3.heap.size w3 w5 := below_tr (by first | assumption | exact (Below.refl _ _).drew | exact below_alloc (by assumption) _) k5; obtain ⟨b0, b1⟩ := (HR.out _ hb5).1.get2; have b2 : ∀ j, w5.frozen? ⟨w.heap.size + 1, j, none⟩ = false := (HR.out _ hb5).2; have b3 := (HR.out _ hb5).1.1; have HV5 := hid (HV3.out.below hb5)))
      have HX5 := hid (HR.out _ hb5).1
      have HB5 := hid (below_tr HB3.out hb5)
      clear t0 t1 t2 t3 t4 b0 b1 b2 b3 k4 k5 hb4 hb5
      go_wp2_with fail
      refine ret2n HX5.out (v := setV (some ⟨w5.heap.size, 0, none⟩) 1 1 none 0 0) (fun w6 h6 => ?_) rfl (fun h6 => ?_)
      · obtain ⟨k0, k1⟩ := h6.get2
        simp [results, Tryz.results32, go_sem, k0, k1]
      · rw [HE.out]
        have hq := SpanB.fresh (w5.setCells (w.heap.size + 1) 0 [.slice (some ⟨w5.heap.size, 0, none⟩) 1 1, .slice none 0 0]) ⟨ca, cb⟩ 133
        rw [setCells_size] at hq
        exact ⟨_, 1, none, 0, rfl, hq.low HB5.out.size, SpanB.nil _ _, HB5.out.trans (h6.mono (by omega))⟩
section
variable {n n2 : Nat} {w : World} {A B C D : Option Addr} {l m p q : List SpanL} {v : Ver}
end
end Go.Proofs.YtlmkglgjdmjnkaaGreatDoor
namespace Go.Proofs.YtlmkglgjdmjnkaaGreatDoor
open Go.RowKit Go.Lib
open Rw
set_option linter.unusedVariables false
set_option linter.unusedSimpArgs false
structure SetAg (n : Nat) (w : World) (A : Option Addr) (l : List SpanL) (B : Option Addr) (m : List SpanL) : Prop where
  rel : Spans w A l
  pre : Spans w B m
  frel : fitL l
  fpre : fitL m
  nrel : l.length ≤ n
  npre : m.length ≤ n
theorem SetAg.below {n : Nat} {w w' : World} {A B : Option Addr} {l m : List SpanL} (h : SetAg n w A l B m) (hb : Below w.heap.size w w') : SetAg n w' A l B m := ⟨h.rel.below hb, h.pre.below hb, h.frel, h.fpre, h.nrel, h.npre⟩
theorem SetAg.none (w : World) : SetAg 0 w none [] none [] := ⟨.inl rfl, .inl rfl, fit_nil, fit_nil, Nat.le_refl _, Nat.le_refl _⟩
def SetBg (n : Nat) (w : World) (l m : List SpanL) (e : Ending) (w' : World) : Prop := ∃ A c B d, e = .returned (setV A l.length c B m.length d) ∧ SetAg n w' A l B m ∧ Below w.heap.size w w'
theorem SetBg.of {n : Nat} {w : World} {l m : List SpanL} {e : Ending} {w' : World} (h : SetPost w l m e w') (h1 : fitL l) (h2 : fitL m) (h3 : l.length ≤ n) (h4 : m.length ≤ n) : SetBg n w l m e w' := by
  obtain ⟨A, c, B, d, he, ha, hb, hw⟩ := h
  exact ⟨A, c, B, d, he, ⟨ha.1, hb.1, h1, h2, h3, h4⟩, hw⟩
section
variable {n n2 : Nat} {w : World} {A B C D : Option Addr} {l m p q : List SpanL} {v : Ver}
theorem if_pair {b : Bool} {x y : List SpanL} : (if b then x else []) = (if b then (x, y) else ([], [])).1 := by cases b <;> rfl
theorem if_pair2 {b : Bool} {x y : List SpanL} : (if b then y else []) = (if b then (x, y) else ([], [])).2 := by cases b <;> rfl
theorem pair_good {b : Bool} {x y : List SpanL} {N : Nat} (h1 : fitL x ∧ x.length ≤ N) (h2 : fitL y ∧ y.length ≤ N) : (fitL (if b then (x, y) else ([], [])).1 ∧ (if b then (x, y) else ([], [])).1.length ≤ N) ∧ fitL (if b then (x, y) else ([], [])).2 ∧ (if b then (x, y) else ([], [])).2.length ≤ N := by
  cases b
  · exact ⟨⟨fit_nil, Nat.zero_le _⟩, fit_nil, Nat.zero_le _⟩
  · exact ⟨h1, h2⟩
end
end Go.Proofs.YtlmkglgjdmjnkaaGreatDoor
