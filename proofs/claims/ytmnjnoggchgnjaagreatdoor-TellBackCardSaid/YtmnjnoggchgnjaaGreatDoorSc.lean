/- Sets: the walks of rows, Or, And, Not, Minus. -/
import Derived.Test.YtmnjnoggchgnjaaGreatDoorSb
import Derived.Test.YtmnjnoggchgnjaaGreatDoorBh
import Derived.Test.YtmnjnoggchgnjaaGreatDoorBb
namespace Go.Proofs.YtmnjnoggchgnjaaGreatDoor
open Go.RowKit Go.Lib
set_option linter.unusedVariables false
set_option linter.unusedSimpArgs false

/-- a row has come back in memory of the call's own -/
def RowN (w : World) (l : List SpanL) (e : Ending) (w' : World) : Prop := ∃ A c, e = .returned (.slice A l.length c) ∧ SpanB w' w.heap.size A l ∧ Below w.heap.size w w'
theorem RowPost.n {w : World} {l : List SpanL} {e : Ending} {w' : World} (h : RowPost w w.heap.size l e w') : RowN w l e w' := by
  obtain ⟨v, rfl, h1, h2, _⟩ := h
  obtain ⟨A, c, rfl, h3⟩ := SpanB.own h1
  exact ⟨A, c, rfl, h3, h2⟩
theorem callN {P : Program} {f : FuncId} {args : Array Value} {w : World} {l : List SpanL} (h : Calls P f args w (RowPost w w.heap.size l)) : Calls P f args w (RowN w l) := h.mono fun _ _ h => RowPost.n h
theorem not1_any (A B : Option Addr) (c d : Nat) (l m : List SpanL) (w : World) (hl : Spans w A l) (hfl : fitL l) (hln : l.length ≤ 40000) : Calls Tryz.prog 57 #[.slice A l.length c, .slice B m.length d] w (RowN w (rnotL l)) := by
  have HC := hid (callN (not_any w.heap.size A c l w hl hfl hln (Nat.le_refl _)))
  clear hl hfl
  generalize l.length = n at *
  generalize m.length = n2 at *
  go_enter Tryz.func57, Tryz.ntmps57
  go_wp2_with fail
  refine HC.out.mono ?_
  rintro _ w1 ⟨A1, c1, rfl, h1, hb1⟩
  go_wp2_with fail
  go_ret
  exact ⟨A1, c1, rfl, h1, hb1⟩
theorem minus1_any (A B : Option Addr) (c d : Nat) (l m : List SpanL) (w : World) (hl : Spans w A l) (hm : Spans w B m) (hfl : fitL l) (hfm : fitL m) (hln : l.length + 2 * m.length ≤ 39999) : Calls Tryz.prog 68 #[.slice A l.length c, .slice B m.length d] w (RowN w (randL l (rnotL m))) := by
  have HC := hid (callN (not_any w.heap.size B d m w hm hfm (by omega) (Nat.le_refl _)))
  have HG := hid (rnotL_good hfm)
  have HA := hid (fun w' (h : Below w.heap.size w w') C e (hC : Spans w' C (rnotL m)) => callN (and_any w'.heap.size A C c e l (rnotL m) w' (hl.below h) hC hfl HG.out.1 (by have := HG.out.2; omega) (Nat.le_refl _)))
  clear hl hm hfl hfm HG
  generalize l.length = n at *
  generalize m.length = n2 at *
  go_enter Tryz.func68, Tryz.ntmps68
  go_wp2_with fail
  refine HC.out.mono ?_
  rintro _ w1 ⟨A1, c1, rfl, h1, hb1⟩
  have HB1 := hid hb1
  have H1 := hid h1.1
  clear h1 hb1
  go_wp2_with fail
  refine (HA.out _ HB1.out _ _ H1.out).mono ?_
  rintro _ w2 ⟨A2, c2, rfl, h2, hb2⟩
  go_wp2_with fail
  go_ret
  exact ⟨A2, c2, rfl, h2.low HB1.out.size, below_tr HB1.out hb2⟩
theorem srowsOr_do (A B : Option Addr) (c d : Nat) (l m : List SpanL) (w : World) (hl : Spans w A l) (hm : Spans w B m) (hfl : fitL l) (hfm : fitL m) (hln : l.length + 2 * m.length ≤ 39999) : Calls Tryz.prog 56 #[.slice A l.length c, .slice B m.length d] w (RowN w (rorL l m)) := callN (por_any w.heap.size A B c d l m w hl hm hfl hfm (by omega) (Nat.le_refl _))
set_option maxRecDepth 100000 in
set_option maxHeartbeats 2000000 in
theorem srowsOr (A B C D : Option Addr) (c d c2 d2 : Nat) (l m p q : List SpanL) (w : World) (hg : First w) (hl : Spans w A l) (hm : Spans w B m) (hp : Spans w C p) (hq : Spans w D q) (hfl : fitL l) (hfm : fitL m) (hfp : fitL p) (hfq : fitL q)
    (hln : l.length ≤ 10000) (hmn : m.length ≤ 10000) (hpn : p.length ≤ 10000) (hqn : q.length ≤ 10000) :
    Calls Tryz.prog 53 #[setV A l.length c B m.length d, setV C p.length c2 D q.length d2, .func (.func 56) #[] #[]] w (SetPost w (if mayS l m && mayS p q then rorL l p else []) (if mayS l m && mayS p q then rorL m q else [])) := by
  have HB0 := hid (below_tr (below_tr (below_new w (.cells [.slice A l.length c, .slice B m.length d].toArray 25)) (below_new _ (.cells [.slice C p.length c2, .slice D q.length d2].toArray 25))) (below_new _ (.cells [Value.slice none 0 0, .slice none 0 0].toArray 25)))
  have HY := hid (smay_any A B c d l m _ (hg.below HB0.out) (hl.below HB0.out) (hm.below HB0.out) hfl hfm (by omega) (by omega))
  have HZ := hid (fun w' (h : Below w.heap.size w w') => smay_any C D c2 d2 p q w' (hg.below h) (hp.below h) (hq.below h) hfp hfq (by omega) (by omega))
  have HD1 := hid (fun w' (h : Below w.heap.size w w') => srowsOr_do A C c c2 l p w' (hl.below h) (hp.below h) hfl hfp (by omega))
  have HD2 := hid (fun w' (h : Below w.heap.size w w') => srowsOr_do B D d d2 m q w' (hm.below h) (hq.below h) hfm hfq (by omega))
  clear hg hl hm hp hq hfl hfm hfp hfq
  generalize l.length = n at *
  generalize m.length = n2 at *
  generalize p.length = n3 at *
  generalize q.length = n4 at *
  cases h1 : mayS l m
  · go_enter Tryz.func53, Tryz.ntmps53
    go_wp2_with fail
    refine HY.out.mono ?_
    rintro _ w1 ⟨rfl, hb1⟩
    rw [h1]
    obtain ⟨_, _, hy, hs, hb⟩ := box_3 (cs := [.slice A n c, .slice B n2 d]) (ds := [.slice C n3 c2, .slice D n4 d2]) (es := [.slice none 0 0, .slice none 0 0]) hb1
    have HX := hid hy
    have HS := hid hs
    have HB1 := hid hb
    clear hb1 hy hs hb
    go_wp2_with fail
    refine (snone_any _).mono ?_
    rintro _ w2 ⟨rfl, hb2⟩
    have HX2 := hid (HX.out.below hb2)
    have hf : ∀ j, w2.frozen? ⟨w.heap.size + 1 + 1, j, none⟩ = false := HS.out.below HX.out.1 hb2
    have HB2 := hid (below_tr HB1.out hb2)
    obtain ⟨y0, y1⟩ := HX2.out.get2
    have hlt := HX2.out.1
    clear hb2
    go_wp2_with fail
    refine ret2 HX2.out (v := setV none 0 0 none 0 0) (fun w3 h3 => ?_) rfl (fun h3 => NonePost.set ⟨rfl, HB2.out.trans (h3.mono (by omega))⟩)
    obtain ⟨k0, k1⟩ := h3.get2
    simp [results, Tryz.results53, go_sem, k0, k1]
  · cases h2 : mayS p q
    · go_enter Tryz.func53, Tryz.ntmps53
      go_wp2_with fail
      refine HY.out.mono ?_
      rintro _ w1 ⟨rfl, hb1⟩
      rw [h1]
      obtain ⟨_, hx, hy, hs, hb⟩ := box_3 (cs := [.slice A n c, .slice B n2 d]) (ds := [.slice C n3 c2, .slice D n4 d2]) (es := [.slice none 0 0, .slice none 0 0]) hb1
      have HX := hid hy
      have HS := hid hs
      have HB1 := hid hb
      obtain ⟨z0, z1⟩ := hx.get2
      clear hb1 hx hy hs hb
      go_wp2_with fail
      refine (HZ.out _ HB1.out).mono ?_
      rintro _ w2 ⟨rfl, hb2⟩
      rw [h2]
      have HX2 := hid (HX.out.below hb2)
      have HS2 := hid (HS.out.below HX.out.1 hb2)
      have HB2 := hid (below_tr HB1.out hb2)
      clear hb2 z0 z1
      go_wp2_with fail
      refine (snone_any _).mono ?_
      rintro _ w3 ⟨rfl, hb3⟩
      have HX3 := hid (HX2.out.below hb3)
      have hf : ∀ j, w3.frozen? ⟨w.heap.size + 1 + 1, j, none⟩ = false := HS2.out.below HX2.out.1 hb3
      have HB3 := hid (below_tr HB2.out hb3)
      obtain ⟨y0, y1⟩ := HX3.out.get2
      have hlt := HX3.out.1
      clear hb3
      go_wp2_with fail
      refine ret2 HX3.out (v := setV none 0 0 none 0 0) (fun w3 h3 => ?_) rfl (fun h3 => NonePost.set ⟨rfl, HB3.out.trans (h3.mono (by omega))⟩)
      obtain ⟨k0, k1⟩ := h3.get2
      simp [results, Tryz.results53, go_sem, k0, k1]
    · go_enter Tryz.func53, Tryz.ntmps53
      go_wp2_with fail
      refine HY.out.mono ?_
      rintro _ w1 ⟨rfl, hb1⟩
      rw [h1]
      obtain ⟨hw, hx, hy, hs, hb⟩ := box_3 (cs := [.slice A n c, .slice B n2 d]) (ds := [.slice C n3 c2, .slice D n4 d2]) (es := [.slice none 0 0, .slice none 0 0]) hb1
      have HW := hid hw
      have HV := hid hx
      have HX := hid hy
      have HS := hid hs
      have HB1 := hid hb
      obtain ⟨z0, z1⟩ := hx.get2
      clear hb1 hw hx hy hs hb
      go_wp2_with fail
      refine (HZ.out _ HB1.out).mono ?_
      rintro _ w2 ⟨rfl, hb2⟩
      rw [h2]
      have HX2 := hid (HX.out.below hb2)
      have HS2 := hid (HS.out.below HX.out.1 hb2)
      have HB2 := hid (below_tr HB1.out hb2)
      have HK := hid (fun w' (h : Below w2.heap.size w2 w') => ((fun (a : _ ∧ _) (b : _ ∧ _) => ⟨a.1, a.2, b.1, b.2⟩) ((HW.out.below hb2).below h).get2 ((HV.out.below hb2).below h).get2 : w'.cell? ⟨w.heap.size, 0, none⟩ = some (.slice A n c) ∧ w'.cell? ⟨w.heap.size, 1, none⟩ = some (.slice B n2 d) ∧ w'.cell? ⟨w.heap.size + 1, 0, none⟩ = some (.slice C n3 c2) ∧ w'.cell? ⟨w.heap.size + 1, 1, none⟩ = some (.slice D n4 d2)))
      have HR := hid (fun w' (h : Below w2.heap.size w2 w') => And.intro (HX2.out.below h) (HS2.out.below HX2.out.1 h))
      have HC1 := hid (fun w' (h : Below w2.heap.size w2 w') => HD1.out w' (below_tr HB2.out h))
      have HC2 := hid (fun w' (h : Below w2.heap.size w2 w') => HD2.out w' (below_tr HB2.out h))
      clear hb2 z0 z1 HD1 HD2 HZ HY HB1 HB0 HX HS HV HW
      have HG : Hid (w.heap.size + 1 + 1 < w2.heap.size) := hid HX2.out.1
      clear HX2 HS2
      go_wp2_with fail
      have q1 : ¬ w.heap.size + 1 + 1 = w.heap.size := by omega
      have q2 : ¬ w.heap.size + 1 + 1 = w.heap.size + 1 := by omega
      go_region_held3 (fun w' => w'.cell? ⟨w.heap.size, 0, none⟩ = some (.slice A n c) ∧ w'.cell? ⟨w.heap.size, 1, none⟩ = some (.slice B n2 d) ∧ w'.cell? ⟨w.heap.size + 1, 0, none⟩ = some (.slice C n3 c2) ∧ w'.cell? ⟨w.heap.size + 1, 1, none⟩ = some (.slice D n4 d2))
        (first | (exact HK.out _ (by first | assumption | exact (Below.refl _ _).drew)) | go_keep)
        (first
          | (go_at_call_of 56 A; (with_reducible refine (HC1.out _ (by first | assumption | exact (Below.refl _ _).drew)).mono ?_); rintro _ w4 ⟨A4, c4, rfl, s4, k4⟩; have hb4 : Below w2.heap.size w2 w4 := below_tr (by first | assumption | exact (Below.refl _ _).drew) k4; obtain ⟨a0, a1⟩ := (HR.out _ hb4).1.get2; have a2 : ∀ j, w4.frozen? ⟨w.heap.size + 1 + 1, j, none⟩ = false := (HR.out _ hb4).2)
          | (go_at_call_of 56 B; (with_reducible refine (HC2.out _ (by first | assumption | exact (Below.refl _ _).drew)).mono ?_); rintro _ w5 ⟨A5, c5, rfl, s5, k5⟩; have hb5 : Below w2.heap.size w2 w5 := below_tr (by first | assumption | exact (Below.refl _ _).drew) k5; obtain ⟨b0, b1⟩ := (HR.out _ hb5).1.get2; have b2 : ∀ j, w5.frozen? ⟨w.heap.size + 1 + 1, j, none⟩ = false := (HR.out _ hb5).2))
      have HA := hid (SpanB.low (s4.below k5) (show w2.heap.size ≤ _ from Nat.le_refl _))
      have HE := hid (SpanB.low s5 (show w2.heap.size ≤ _ from hb4.size))
      have HX5 := hid (HR.out _ hb5).1
      have HB5 := hid (below_tr HB2.out hb5)
      have hg := HG.out
      have hgw := HB2.out.size
      clear s4 s5 k4 k5 hb4 hb5 a0 a1 a2 b0 b1 b2 q1 q2
      go_wp2_with fail
      refine ret2 HX5.out (v := setV A4 _ c4 A5 _ c5) (fun w3 h3 => ?_) rfl (fun h3 => ⟨A4, c4, A5, c5, rfl, (HA.out.set hg).low hgw, (HE.out.set hg).low hgw, HB5.out.trans (h3.mono (by omega))⟩)
      obtain ⟨k0, k1⟩ := h3.get2
      simp [results, Tryz.results53, go_sem, k0, k1]
theorem srowsAnd_do (A B : Option Addr) (c d : Nat) (l m : List SpanL) (w : World) (hl : Spans w A l) (hm : Spans w B m) (hfl : fitL l) (hfm : fitL m) (hln : l.length + 2 * m.length ≤ 39999) : Calls Tryz.prog 54 #[.slice A l.length c, .slice B m.length d] w (RowN w (randL l m)) := callN (and_any w.heap.size A B c d l m w hl hm hfl hfm (by omega) (Nat.le_refl _))
set_option maxRecDepth 100000 in
set_option maxHeartbeats 2000000 in
theorem srowsAnd (A B C D : Option Addr) (c d c2 d2 : Nat) (l m p q : List SpanL) (w : World) (hg : First w) (hl : Spans w A l) (hm : Spans w B m) (hp : Spans w C p) (hq : Spans w D q) (hfl : fitL l) (hfm : fitL m) (hfp : fitL p) (hfq : fitL q)
    (hln : l.length ≤ 10000) (hmn : m.length ≤ 10000) (hpn : p.length ≤ 10000) (hqn : q.length ≤ 10000) :
    Calls Tryz.prog 53 #[setV A l.length c B m.length d, setV C p.length c2 D q.length d2, .func (.func 54) #[] #[]] w (SetPost w (if mayS l m && mayS p q then randL l p else []) (if mayS l m && mayS p q then randL m q else [])) := by
  have HB0 := hid (below_tr (below_tr (below_new w (.cells [.slice A l.length c, .slice B m.length d].toArray 25)) (below_new _ (.cells [.slice C p.length c2, .slice D q.length d2].toArray 25))) (below_new _ (.cells [Value.slice none 0 0, .slice none 0 0].toArray 25)))
  have HY := hid (smay_any A B c d l m _ (hg.below HB0.out) (hl.below HB0.out) (hm.below HB0.out) hfl hfm (by omega) (by omega))
  have HZ := hid (fun w' (h : Below w.heap.size w w') => smay_any C D c2 d2 p q w' (hg.below h) (hp.below h) (hq.below h) hfp hfq (by omega) (by omega))
  have HD1 := hid (fun w' (h : Below w.heap.size w w') => srowsAnd_do A C c c2 l p w' (hl.below h) (hp.below h) hfl hfp (by omega))
  have HD2 := hid (fun w' (h : Below w.heap.size w w') => srowsAnd_do B D d d2 m q w' (hm.below h) (hq.below h) hfm hfq (by omega))
  clear hg hl hm hp hq hfl hfm hfp hfq
  generalize l.length = n at *
  generalize m.length = n2 at *
  generalize p.length = n3 at *
  generalize q.length = n4 at *
  cases h1 : mayS l m
  · go_enter Tryz.func53, Tryz.ntmps53
    go_wp2_with fail
    refine HY.out.mono ?_
    rintro _ w1 ⟨rfl, hb1⟩
    rw [h1]
    obtain ⟨_, _, hy, hs, hb⟩ := box_3 (cs := [.slice A n c, .slice B n2 d]) (ds := [.slice C n3 c2, .slice D n4 d2]) (es := [.slice none 0 0, .slice none 0 0]) hb1
    have HX := hid hy
    have HS := hid hs
    have HB1 := hid hb
    clear hb1 hy hs hb
    go_wp2_with fail
    refine (snone_any _).mono ?_
    rintro _ w2 ⟨rfl, hb2⟩
    have HX2 := hid (HX.out.below hb2)
    have hf : ∀ j, w2.frozen? ⟨w.heap.size + 1 + 1, j, none⟩ = false := HS.out.below HX.out.1 hb2
    have HB2 := hid (below_tr HB1.out hb2)
    obtain ⟨y0, y1⟩ := HX2.out.get2
    have hlt := HX2.out.1
    clear hb2
    go_wp2_with fail
    refine ret2 HX2.out (v := setV none 0 0 none 0 0) (fun w3 h3 => ?_) rfl (fun h3 => NonePost.set ⟨rfl, HB2.out.trans (h3.mono (by omega))⟩)
    obtain ⟨k0, k1⟩ := h3.get2
    simp [results, Tryz.results53, go_sem, k0, k1]
  · cases h2 : mayS p q
    · go_enter Tryz.func53, Tryz.ntmps53
      go_wp2_with fail
      refine HY.out.mono ?_
      rintro _ w1 ⟨rfl, hb1⟩
      rw [h1]
      obtain ⟨_, hx, hy, hs, hb⟩ := box_3 (cs := [.slice A n c, .slice B n2 d]) (ds := [.slice C n3 c2, .slice D n4 d2]) (es := [.slice none 0 0, .slice none 0 0]) hb1
      have HX := hid hy
      have HS := hid hs
      have HB1 := hid hb
      obtain ⟨z0, z1⟩ := hx.get2
      clear hb1 hx hy hs hb
      go_wp2_with fail
      refine (HZ.out _ HB1.out).mono ?_
      rintro _ w2 ⟨rfl, hb2⟩
      rw [h2]
      have HX2 := hid (HX.out.below hb2)
      have HS2 := hid (HS.out.below HX.out.1 hb2)
      have HB2 := hid (below_tr HB1.out hb2)
      clear hb2 z0 z1
      go_wp2_with fail
      refine (snone_any _).mono ?_
      rintro _ w3 ⟨rfl, hb3⟩
      have HX3 := hid (HX2.out.below hb3)
      have hf : ∀ j, w3.frozen? ⟨w.heap.size + 1 + 1, j, none⟩ = false := HS2.out.below HX2.out.1 hb3
      have HB3 := hid (below_tr HB2.out hb3)
      obtain ⟨y0, y1⟩ := HX3.out.get2
      have hlt := HX3.out.1
      clear hb3
      go_wp2_with fail
      refine ret2 HX3.out (v := setV none 0 0 none 0 0) (fun w3 h3 => ?_) rfl (fun h3 => NonePost.set ⟨rfl, HB3.out.trans (h3.mono (by omega))⟩)
      obtain ⟨k0, k1⟩ := h3.get2
      simp [results, Tryz.results53, go_sem, k0, k1]
    · go_enter Tryz.func53, Tryz.ntmps53
      go_wp2_with fail
      refine HY.out.mono ?_
      rintro _ w1 ⟨rfl, hb1⟩
      rw [h1]
      obtain ⟨hw, hx, hy, hs, hb⟩ := box_3 (cs := [.slice A n c, .slice B n2 d]) (ds := [.slice C n3 c2, .slice D n4 d2]) (es := [.slice none 0 0, .slice none 0 0]) hb1
      have HW := hid hw
      have HV := hid hx
      have HX := hid hy
      have HS := hid hs
      have HB1 := hid hb
      obtain ⟨z0, z1⟩ := hx.get2
      clear hb1 hw hx hy hs hb
      go_wp2_with fail
      refine (HZ.out _ HB1.out).mono ?_
      rintro _ w2 ⟨rfl, hb2⟩
      rw [h2]
      have HX2 := hid (HX.out.below hb2)
      have HS2 := hid (HS.out.below HX.out.1 hb2)
      have HB2 := hid (below_tr HB1.out hb2)
      have HK := hid (fun w' (h : Below w2.heap.size w2 w') => ((fun (a : _ ∧ _) (b : _ ∧ _) => ⟨a.1, a.2, b.1, b.2⟩) ((HW.out.below hb2).below h).get2 ((HV.out.below hb2).below h).get2 : w'.cell? ⟨w.heap.size, 0, none⟩ = some (.slice A n c) ∧ w'.cell? ⟨w.heap.size, 1, none⟩ = some (.slice B n2 d) ∧ w'.cell? ⟨w.heap.size + 1, 0, none⟩ = some (.slice C n3 c2) ∧ w'.cell? ⟨w.heap.size + 1, 1, none⟩ = some (.slice D n4 d2)))
      have HR := hid (fun w' (h : Below w2.heap.size w2 w') => And.intro (HX2.out.below h) (HS2.out.below HX2.out.1 h))
      have HC1 := hid (fun w' (h : Below w2.heap.size w2 w') => HD1.out w' (below_tr HB2.out h))
      have HC2 := hid (fun w' (h : Below w2.heap.size w2 w') => HD2.out w' (below_tr HB2.out h))
      clear hb2 z0 z1 HD1 HD2 HZ HY HB1 HB0 HX HS HV HW
      have HG : Hid (w.heap.size + 1 + 1 < w2.heap.size) := hid HX2.out.1
      clear HX2 HS2
      go_wp2_with fail
      have q1 : ¬ w.heap.size + 1 + 1 = w.heap.size := by omega
      have q2 : ¬ w.heap.size + 1 + 1 = w.heap.size + 1 := by omega
      go_region_held3 (fun w' => w'.cell? ⟨w.heap.size, 0, none⟩ = some (.slice A n c) ∧ w'.cell? ⟨w.heap.size, 1, none⟩ = some (.slice B n2 d) ∧ w'.cell? ⟨w.heap.size + 1, 0, none⟩ = some (.slice C n3 c2) ∧ w'.cell? ⟨w.heap.size + 1, 1, none⟩ = some (.slice D n4 d2))
        (first | (exact HK.out _ (by first | assumption | exact (Below.refl _ _).drew)) | go_keep)
        (first
          | (go_at_call_of 54 A; (with_reducible refine (HC1.out _ (by first | assumption | exact (Below.refl _ _).drew)).mono ?_); rintro _ w4 ⟨A4, c4, rfl, s4, k4⟩; have hb4 : Below w2.heap.size w2 w4 := below_tr (by first | assumption | exact (Below.refl _ _).drew) k4; obtain ⟨a0, a1⟩ := (HR.out _ hb4).1.get2; have a2 : ∀ j, w4.frozen? ⟨w.heap.size + 1 + 1, j, none⟩ = false := (HR.out _ hb4).2)
          | (go_at_call_of 54 B; (with_reducible refine (HC2.out _ (by first | assumption | exact (Below.refl _ _).drew)).mono ?_); rintro _ w5 ⟨A5, c5, rfl, s5, k5⟩; have hb5 : Below w2.heap.size w2 w5 := below_tr (by first | assumption | exact (Below.refl _ _).drew) k5; obtain ⟨b0, b1⟩ := (HR.out _ hb5).1.get2; have b2 : ∀ j, w5.frozen? ⟨w.heap.size + 1 + 1, j, none⟩ = false := (HR.out _ hb5).2))
      have HA := hid (SpanB.low (s4.below k5) (show w2.heap.size ≤ _ from Nat.le_refl _))
      have HE := hid (SpanB.low s5 (show w2.heap.size ≤ _ from hb4.size))
      have HX5 := hid (HR.out _ hb5).1
      have HB5 := hid (below_tr HB2.out hb5)
      have hg := HG.out
      have hgw := HB2.out.size
      clear s4 s5 k4 k5 hb4 hb5 a0 a1 a2 b0 b1 b2 q1 q2
      go_wp2_with fail
      refine ret2 HX5.out (v := setV A4 _ c4 A5 _ c5) (fun w3 h3 => ?_) rfl (fun h3 => ⟨A4, c4, A5, c5, rfl, (HA.out.set hg).low hgw, (HE.out.set hg).low hgw, HB5.out.trans (h3.mono (by omega))⟩)
      obtain ⟨k0, k1⟩ := h3.get2
      simp [results, Tryz.results53, go_sem, k0, k1]
theorem srowsNot_do (A B : Option Addr) (c d : Nat) (l m : List SpanL) (w : World) (hl : Spans w A l) (_ : Spans w B m) (hfl : fitL l) (_ : fitL m) (hln : l.length + 2 * m.length ≤ 39999) : Calls Tryz.prog 57 #[.slice A l.length c, .slice B m.length d] w (RowN w (rnotL l)) := not1_any A B c d l m w hl hfl (by omega)
set_option maxRecDepth 100000 in
set_option maxHeartbeats 2000000 in
theorem srowsNot (A B C D : Option Addr) (c d c2 d2 : Nat) (l m p q : List SpanL) (w : World) (hg : First w) (hl : Spans w A l) (hm : Spans w B m) (hp : Spans w C p) (hq : Spans w D q) (hfl : fitL l) (hfm : fitL m) (hfp : fitL p) (hfq : fitL q)
    (hln : l.length ≤ 10000) (hmn : m.length ≤ 10000) (hpn : p.length ≤ 10000) (hqn : q.length ≤ 10000) :
    Calls Tryz.prog 53 #[setV A l.length c B m.length d, setV C p.length c2 D q.length d2, .func (.func 57) #[] #[]] w (SetPost w (if mayS l m && mayS p q then rnotL l else []) (if mayS l m && mayS p q then rnotL m else [])) := by
  have HB0 := hid (below_tr (below_tr (below_new w (.cells [.slice A l.length c, .slice B m.length d].toArray 25)) (below_new _ (.cells [.slice C p.length c2, .slice D q.length d2].toArray 25))) (below_new _ (.cells [Value.slice none 0 0, .slice none 0 0].toArray 25)))
  have HY := hid (smay_any A B c d l m _ (hg.below HB0.out) (hl.below HB0.out) (hm.below HB0.out) hfl hfm (by omega) (by omega))
  have HZ := hid (fun w' (h : Below w.heap.size w w') => smay_any C D c2 d2 p q w' (hg.below h) (hp.below h) (hq.below h) hfp hfq (by omega) (by omega))
  have HD1 := hid (fun w' (h : Below w.heap.size w w') => srowsNot_do A C c c2 l p w' (hl.below h) (hp.below h) hfl hfp (by omega))
  have HD2 := hid (fun w' (h : Below w.heap.size w w') => srowsNot_do B D d d2 m q w' (hm.below h) (hq.below h) hfm hfq (by omega))
  clear hg hl hm hp hq hfl hfm hfp hfq
  generalize l.length = n at *
  generalize m.length = n2 at *
  generalize p.length = n3 at *
  generalize q.length = n4 at *
  cases h1 : mayS l m
  · go_enter Tryz.func53, Tryz.ntmps53
    go_wp2_with fail
    refine HY.out.mono ?_
    rintro _ w1 ⟨rfl, hb1⟩
    rw [h1]
    obtain ⟨_, _, hy, hs, hb⟩ := box_3 (cs := [.slice A n c, .slice B n2 d]) (ds := [.slice C n3 c2, .slice D n4 d2]) (es := [.slice none 0 0, .slice none 0 0]) hb1
    have HX := hid hy
    have HS := hid hs
    have HB1 := hid hb
    clear hb1 hy hs hb
    go_wp2_with fail
    refine (snone_any _).mono ?_
    rintro _ w2 ⟨rfl, hb2⟩
    have HX2 := hid (HX.out.below hb2)
    have hf : ∀ j, w2.frozen? ⟨w.heap.size + 1 + 1, j, none⟩ = false := HS.out.below HX.out.1 hb2
    have HB2 := hid (below_tr HB1.out hb2)
    obtain ⟨y0, y1⟩ := HX2.out.get2
    have hlt := HX2.out.1
    clear hb2
    go_wp2_with fail
    refine ret2 HX2.out (v := setV none 0 0 none 0 0) (fun w3 h3 => ?_) rfl (fun h3 => NonePost.set ⟨rfl, HB2.out.trans (h3.mono (by omega))⟩)
    obtain ⟨k0, k1⟩ := h3.get2
    simp [results, Tryz.results53, go_sem, k0, k1]
  · cases h2 : mayS p q
    · go_enter Tryz.func53, Tryz.ntmps53
      go_wp2_with fail
      refine HY.out.mono ?_
      rintro _ w1 ⟨rfl, hb1⟩
      rw [h1]
      obtain ⟨_, hx, hy, hs, hb⟩ := box_3 (cs := [.slice A n c, .slice B n2 d]) (ds := [.slice C n3 c2, .slice D n4 d2]) (es := [.slice none 0 0, .slice none 0 0]) hb1
      have HX := hid hy
      have HS := hid hs
      have HB1 := hid hb
      obtain ⟨z0, z1⟩ := hx.get2
      clear hb1 hx hy hs hb
      go_wp2_with fail
      refine (HZ.out _ HB1.out).mono ?_
      rintro _ w2 ⟨rfl, hb2⟩
      rw [h2]
      have HX2 := hid (HX.out.below hb2)
      have HS2 := hid (HS.out.below HX.out.1 hb2)
      have HB2 := hid (below_tr HB1.out hb2)
      clear hb2 z0 z1
      go_wp2_with fail
      refine (snone_any _).mono ?_
      rintro _ w3 ⟨rfl, hb3⟩
      have HX3 := hid (HX2.out.below hb3)
      have hf : ∀ j, w3.frozen? ⟨w.heap.size + 1 + 1, j, none⟩ = false := HS2.out.below HX2.out.1 hb3
      have HB3 := hid (below_tr HB2.out hb3)
      obtain ⟨y0, y1⟩ := HX3.out.get2
      have hlt := HX3.out.1
      clear hb3
      go_wp2_with fail
      refine ret2 HX3.out (v := setV none 0 0 none 0 0) (fun w3 h3 => ?_) rfl (fun h3 => NonePost.set ⟨rfl, HB3.out.trans (h3.mono (by omega))⟩)
      obtain ⟨k0, k1⟩ := h3.get2
      simp [results, Tryz.results53, go_sem, k0, k1]
    · go_enter Tryz.func53, Tryz.ntmps53
      go_wp2_with fail
      refine HY.out.mono ?_
      rintro _ w1 ⟨rfl, hb1⟩
      rw [h1]
      obtain ⟨hw, hx, hy, hs, hb⟩ := box_3 (cs := [.slice A n c, .slice B n2 d]) (ds := [.slice C n3 c2, .slice D n4 d2]) (es := [.slice none 0 0, .slice none 0 0]) hb1
      have HW := hid hw
      have HV := hid hx
      have HX := hid hy
      have HS := hid hs
      have HB1 := hid hb
      obtain ⟨z0, z1⟩ := hx.get2
      clear hb1 hw hx hy hs hb
      go_wp2_with fail
      refine (HZ.out _ HB1.out).mono ?_
      rintro _ w2 ⟨rfl, hb2⟩
      rw [h2]
      have HX2 := hid (HX.out.below hb2)
      have HS2 := hid (HS.out.below HX.out.1 hb2)
      have HB2 := hid (below_tr HB1.out hb2)
      have HK := hid (fun w' (h : Below w2.heap.size w2 w') => ((fun (a : _ ∧ _) (b : _ ∧ _) => ⟨a.1, a.2, b.1, b.2⟩) ((HW.out.below hb2).below h).get2 ((HV.out.below hb2).below h).get2 : w'.cell? ⟨w.heap.size, 0, none⟩ = some (.slice A n c) ∧ w'.cell? ⟨w.heap.size, 1, none⟩ = some (.slice B n2 d) ∧ w'.cell? ⟨w.heap.size + 1, 0, none⟩ = some (.slice C n3 c2) ∧ w'.cell? ⟨w.heap.size + 1, 1, none⟩ = some (.slice D n4 d2)))
      have HR := hid (fun w' (h : Below w2.heap.size w2 w') => And.intro (HX2.out.below h) (HS2.out.below HX2.out.1 h))
      have HC1 := hid (fun w' (h : Below w2.heap.size w2 w') => HD1.out w' (below_tr HB2.out h))
      have HC2 := hid (fun w' (h : Below w2.heap.size w2 w') => HD2.out w' (below_tr HB2.out h))
      clear hb2 z0 z1 HD1 HD2 HZ HY HB1 HB0 HX HS HV HW
      have HG : Hid (w.heap.size + 1 + 1 < w2.heap.size) := hid HX2.out.1
      clear HX2 HS2
      go_wp2_with fail
      have q1 : ¬ w.heap.size + 1 + 1 = w.heap.size := by omega
      have q2 : ¬ w.heap.size + 1 + 1 = w.heap.size + 1 := by omega
      go_region_held3 (fun w' => w'.cell? ⟨w.heap.size, 0, none⟩ = some (.slice A n c) ∧ w'.cell? ⟨w.heap.size, 1, none⟩ = some (.slice B n2 d) ∧ w'.cell? ⟨w.heap.size + 1, 0, none⟩ = some (.slice C n3 c2) ∧ w'.cell? ⟨w.heap.size + 1, 1, none⟩ = some (.slice D n4 d2))
        (first | (exact HK.out _ (by first | assumption | exact (Below.refl _ _).drew)) | go_keep)
        (first
          | (go_at_call_of 57 A; (with_reducible refine (HC1.out _ (by first | assumption | exact (Below.refl _ _).drew)).mono ?_); rintro _ w4 ⟨A4, c4, rfl, s4, k4⟩; have hb4 : Below w2.heap.size w2 w4 := below_tr (by first | assumption | exact (Below.refl _ _).drew) k4; obtain ⟨a0, a1⟩ := (HR.out _ hb4).1.get2; have a2 : ∀ j, w4.frozen? ⟨w.heap.size + 1 + 1, j, none⟩ = false := (HR.out _ hb4).2)
          | (go_at_call_of 57 B; (with_reducible refine (HC2.out _ (by first | assumption | exact (Below.refl _ _).drew)).mono ?_); rintro _ w5 ⟨A5, c5, rfl, s5, k5⟩; have hb5 : Below w2.heap.size w2 w5 := below_tr (by first | assumption | exact (Below.refl _ _).drew) k5; obtain ⟨b0, b1⟩ := (HR.out _ hb5).1.get2; have b2 : ∀ j, w5.frozen? ⟨w.heap.size + 1 + 1, j, none⟩ = false := (HR.out _ hb5).2))
      have HA := hid (SpanB.low (s4.below k5) (show w2.heap.size ≤ _ from Nat.le_refl _))
      have HE := hid (SpanB.low s5 (show w2.heap.size ≤ _ from hb4.size))
      have HX5 := hid (HR.out _ hb5).1
      have HB5 := hid (below_tr HB2.out hb5)
      have hg := HG.out
      have hgw := HB2.out.size
      clear s4 s5 k4 k5 hb4 hb5 a0 a1 a2 b0 b1 b2 q1 q2
      go_wp2_with fail
      refine ret2 HX5.out (v := setV A4 _ c4 A5 _ c5) (fun w3 h3 => ?_) rfl (fun h3 => ⟨A4, c4, A5, c5, rfl, (HA.out.set hg).low hgw, (HE.out.set hg).low hgw, HB5.out.trans (h3.mono (by omega))⟩)
      obtain ⟨k0, k1⟩ := h3.get2
      simp [results, Tryz.results53, go_sem, k0, k1]
theorem srowsMinus_do (A B : Option Addr) (c d : Nat) (l m : List SpanL) (w : World) (hl : Spans w A l) (hm : Spans w B m) (hfl : fitL l) (hfm : fitL m) (hln : l.length + 2 * m.length ≤ 39999) : Calls Tryz.prog 68 #[.slice A l.length c, .slice B m.length d] w (RowN w (randL l (rnotL m))) := minus1_any A B c d l m w hl hm hfl hfm hln
set_option maxRecDepth 100000 in
set_option maxHeartbeats 2000000 in
theorem srowsMinus (A B C D : Option Addr) (c d c2 d2 : Nat) (l m p q : List SpanL) (w : World) (hg : First w) (hl : Spans w A l) (hm : Spans w B m) (hp : Spans w C p) (hq : Spans w D q) (hfl : fitL l) (hfm : fitL m) (hfp : fitL p) (hfq : fitL q)
    (hln : l.length ≤ 10000) (hmn : m.length ≤ 10000) (hpn : p.length ≤ 10000) (hqn : q.length ≤ 10000) :
    Calls Tryz.prog 53 #[setV A l.length c B m.length d, setV C p.length c2 D q.length d2, .func (.func 68) #[] #[]] w (SetPost w (if mayS l m && mayS p q then randL l (rnotL p) else []) (if mayS l m && mayS p q then randL m (rnotL q) else [])) := by
  have HB0 := hid (below_tr (below_tr (below_new w (.cells [.slice A l.length c, .slice B m.length d].toArray 25)) (below_new _ (.cells [.slice C p.length c2, .slice D q.length d2].toArray 25))) (below_new _ (.cells [Value.slice none 0 0, .slice none 0 0].toArray 25)))
  have HY := hid (smay_any A B c d l m _ (hg.below HB0.out) (hl.below HB0.out) (hm.below HB0.out) hfl hfm (by omega) (by omega))
  have HZ := hid (fun w' (h : Below w.heap.size w w') => smay_any C D c2 d2 p q w' (hg.below h) (hp.below h) (hq.below h) hfp hfq (by omega) (by omega))
  have HD1 := hid (fun w' (h : Below w.heap.size w w') => srowsMinus_do A C c c2 l p w' (hl.below h) (hp.below h) hfl hfp (by omega))
  have HD2 := hid (fun w' (h : Below w.heap.size w w') => srowsMinus_do B D d d2 m q w' (hm.below h) (hq.below h) hfm hfq (by omega))
  clear hg hl hm hp hq hfl hfm hfp hfq
  generalize l.length = n at *
  generalize m.length = n2 at *
  generalize p.length = n3 at *
  generalize q.length = n4 at *
  cases h1 : mayS l m
  · go_enter Tryz.func53, Tryz.ntmps53
    go_wp2_with fail
    refine HY.out.mono ?_
    rintro _ w1 ⟨rfl, hb1⟩
    rw [h1]
    obtain ⟨_, _, hy, hs, hb⟩ := box_3 (cs := [.slice A n c, .slice B n2 d]) (ds := [.slice C n3 c2, .slice D n4 d2]) (es := [.slice none 0 0, .slice none 0 0]) hb1
    have HX := hid hy
    have HS := hid hs
    have HB1 := hid hb
    clear hb1 hy hs hb
    go_wp2_with fail
    refine (snone_any _).mono ?_
    rintro _ w2 ⟨rfl, hb2⟩
    have HX2 := hid (HX.out.below hb2)
    have hf : ∀ j, w2.frozen? ⟨w.heap.size + 1 + 1, j, none⟩ = false := HS.out.below HX.out.1 hb2
    have HB2 := hid (below_tr HB1.out hb2)
    obtain ⟨y0, y1⟩ := HX2.out.get2
    have hlt := HX2.out.1
    clear hb2
    go_wp2_with fail
    refine ret2 HX2.out (v := setV none 0 0 none 0 0) (fun w3 h3 => ?_) rfl (fun h3 => NonePost.set ⟨rfl, HB2.out.trans (h3.mono (by omega))⟩)
    obtain ⟨k0, k1⟩ := h3.get2
    simp [results, Tryz.results53, go_sem, k0, k1]
  · cases h2 : mayS p q
    · go_enter Tryz.func53, Tryz.ntmps53
      go_wp2_with fail
      refine HY.out.mono ?_
      rintro _ w1 ⟨rfl, hb1⟩
      rw [h1]
      obtain ⟨_, hx, hy, hs, hb⟩ := box_3 (cs := [.slice A n c, .slice B n2 d]) (ds := [.slice C n3 c2, .slice D n4 d2]) (es := [.slice none 0 0, .slice none 0 0]) hb1
      have HX := hid hy
      have HS := hid hs
      have HB1 := hid hb
      obtain ⟨z0, z1⟩ := hx.get2
      clear hb1 hx hy hs hb
      go_wp2_with fail
      refine (HZ.out _ HB1.out).mono ?_
      rintro _ w2 ⟨rfl, hb2⟩
      rw [h2]
      have HX2 := hid (HX.out.below hb2)
      have HS2 := hid (HS.out.below HX.out.1 hb2)
      have HB2 := hid (below_tr HB1.out hb2)
      clear hb2 z0 z1
      go_wp2_with fail
      refine (snone_any _).mono ?_
      rintro _ w3 ⟨rfl, hb3⟩
      have HX3 := hid (HX2.out.below hb3)
      have hf : ∀ j, w3.frozen? ⟨w.heap.size + 1 + 1, j, none⟩ = false := HS2.out.below HX2.out.1 hb3
      have HB3 := hid (below_tr HB2.out hb3)
      obtain ⟨y0, y1⟩ := HX3.out.get2
      have hlt := HX3.out.1
      clear hb3
      go_wp2_with fail
      refine ret2 HX3.out (v := setV none 0 0 none 0 0) (fun w3 h3 => ?_) rfl (fun h3 => NonePost.set ⟨rfl, HB3.out.trans (h3.mono (by omega))⟩)
      obtain ⟨k0, k1⟩ := h3.get2
      simp [results, Tryz.results53, go_sem, k0, k1]
    · go_enter Tryz.func53, Tryz.ntmps53
      go_wp2_with fail
      refine HY.out.mono ?_
      rintro _ w1 ⟨rfl, hb1⟩
      rw [h1]
      obtain ⟨hw, hx, hy, hs, hb⟩ := box_3 (cs := [.slice A n c, .slice B n2 d]) (ds := [.slice C n3 c2, .slice D n4 d2]) (es := [.slice none 0 0, .slice none 0 0]) hb1
      have HW := hid hw
      have HV := hid hx
      have HX := hid hy
      have HS := hid hs
      have HB1 := hid hb
      obtain ⟨z0, z1⟩ := hx.get2
      clear hb1 hw hx hy hs hb
      go_wp2_with fail
      refine (HZ.out _ HB1.out).mono ?_
      rintro _ w2 ⟨rfl, hb2⟩
      rw [h2]
      have HX2 := hid (HX.out.below hb2)
      have HS2 := hid (HS.out.below HX.out.1 hb2)
      have HB2 := hid (below_tr HB1.out hb2)
      have HK := hid (fun w' (h : Below w2.heap.size w2 w') => ((fun (a : _ ∧ _) (b : _ ∧ _) => ⟨a.1, a.2, b.1, b.2⟩) ((HW.out.below hb2).below h).get2 ((HV.out.below hb2).below h).get2 : w'.cell? ⟨w.heap.size, 0, none⟩ = some (.slice A n c) ∧ w'.cell? ⟨w.heap.size, 1, none⟩ = some (.slice B n2 d) ∧ w'.cell? ⟨w.heap.size + 1, 0, none⟩ = some (.slice C n3 c2) ∧ w'.cell? ⟨w.heap.size + 1, 1, none⟩ = some (.slice D n4 d2)))
      have HR := hid (fun w' (h : Below w2.heap.size w2 w') => And.intro (HX2.out.below h) (HS2.out.below HX2.out.1 h))
      have HC1 := hid (fun w' (h : Below w2.heap.size w2 w') => HD1.out w' (below_tr HB2.out h))
      have HC2 := hid (fun w' (h : Below w2.heap.size w2 w') => HD2.out w' (below_tr HB2.out h))
      clear hb2 z0 z1 HD1 HD2 HZ HY HB1 HB0 HX HS HV HW
      have HG : Hid (w.heap.size + 1 + 1 < w2.heap.size) := hid HX2.out.1
      clear HX2 HS2
      go_wp2_with fail
      have q1 : ¬ w.heap.size + 1 + 1 = w.heap.size := by omega
      have q2 : ¬ w.heap.size + 1 + 1 = w.heap.size + 1 := by omega
      go_region_held3 (fun w' => w'.cell? ⟨w.heap.size, 0, none⟩ = some (.slice A n c) ∧ w'.cell? ⟨w.heap.size, 1, none⟩ = some (.slice B n2 d) ∧ w'.cell? ⟨w.heap.size + 1, 0, none⟩ = some (.slice C n3 c2) ∧ w'.cell? ⟨w.heap.size + 1, 1, none⟩ = some (.slice D n4 d2))
        (first | (exact HK.out _ (by first | assumption | exact (Below.refl _ _).drew)) | go_keep)
        (first
          | (go_at_call_of 68 A; (with_reducible refine (HC1.out _ (by first | assumption | exact (Below.refl _ _).drew)).mono ?_); rintro _ w4 ⟨A4, c4, rfl, s4, k4⟩; have hb4 : Below w2.heap.size w2 w4 := below_tr (by first | assumption | exact (Below.refl _ _).drew) k4; obtain ⟨a0, a1⟩ := (HR.out _ hb4).1.get2; have a2 : ∀ j, w4.frozen? ⟨w.heap.size + 1 + 1, j, none⟩ = false := (HR.out _ hb4).2)
          | (go_at_call_of 68 B; (with_reducible refine (HC2.out _ (by first | assumption | exact (Below.refl _ _).drew)).mono ?_); rintro _ w5 ⟨A5, c5, rfl, s5, k5⟩; have hb5 : Below w2.heap.size w2 w5 := below_tr (by first | assumption | exact (Below.refl _ _).drew) k5; obtain ⟨b0, b1⟩ := (HR.out _ hb5).1.get2; have b2 : ∀ j, w5.frozen? ⟨w.heap.size + 1 + 1, j, none⟩ = false := (HR.out _ hb5).2))
      have HA := hid (SpanB.low (s4.below k5) (show w2.heap.size ≤ _ from Nat.le_refl _))
      have HE := hid (SpanB.low s5 (show w2.heap.size ≤ _ from hb4.size))
      have HX5 := hid (HR.out _ hb5).1
      have HB5 := hid (below_tr HB2.out hb5)
      have hg := HG.out
      have hgw := HB2.out.size
      clear s4 s5 k4 k5 hb4 hb5 a0 a1 a2 b0 b1 b2 q1 q2
      go_wp2_with fail
      refine ret2 HX5.out (v := setV A4 _ c4 A5 _ c5) (fun w3 h3 => ?_) rfl (fun h3 => ⟨A4, c4, A5, c5, rfl, (HA.out.set hg).low hgw, (HE.out.set hg).low hgw, HB5.out.trans (h3.mono (by omega))⟩)
      obtain ⟨k0, k1⟩ := h3.get2
      simp [results, Tryz.results53, go_sem, k0, k1]
set_option maxHeartbeats 1000000 in
theorem sor_any (A B C D : Option Addr) (c d c2 d2 : Nat) (l m p q : List SpanL) (w : World) (hg : First w) (hl : Spans w A l) (hm : Spans w B m) (hp : Spans w C p) (hq : Spans w D q) (hfl : fitL l) (hfm : fitL m) (hfp : fitL p) (hfq : fitL q)
    (hln : l.length ≤ 10000) (hmn : m.length ≤ 10000) (hpn : p.length ≤ 10000) (hqn : q.length ≤ 10000) :
    Calls Tryz.prog 19 #[setV A l.length c B m.length d, setV C p.length c2 D q.length d2] w (SetPost w (if mayS l m && mayS p q then rorL l p else []) (if mayS l m && mayS p q then rorL m q else [])) := by
  have HB0 := hid (below_tr (below_tr (below_new w (.cells [.slice A l.length c, .slice B m.length d].toArray 25)) (below_new _ (.cells [.slice C p.length c2, .slice D q.length d2].toArray 25))) (below_new _ (.cells [Value.slice none 0 0, .slice none 0 0].toArray 25)))
  have HY := hid (srowsOr A B C D c d c2 d2 l m p q _ (hg.below HB0.out) (hl.below HB0.out) (hm.below HB0.out) (hp.below HB0.out) (hq.below HB0.out) hfl hfm hfp hfq hln hmn hpn hqn)
  clear hg hl hm hp hq hfl hfm hfp hfq
  generalize (if mayS l m && mayS p q then rorL l p else []) = x at *
  generalize (if mayS l m && mayS p q then rorL m q else []) = y at *
  generalize l.length = n at *
  generalize m.length = n2 at *
  generalize p.length = n3 at *
  generalize q.length = n4 at *
  go_enter Tryz.func19, Tryz.ntmps19
  go_wp2_with fail
  refine HY.out.mono ?_
  rintro _ w1 ⟨A1, c1, B1, d1, rfl, h1, h2, hb1⟩
  obtain ⟨_, _, hy, hs, hb⟩ := box_3 (cs := [.slice A n c, .slice B n2 d]) (ds := [.slice C n3 c2, .slice D n4 d2]) (es := [.slice none 0 0, .slice none 0 0]) hb1
  have HX := hid hy
  have hf : ∀ j, w1.frozen? ⟨w.heap.size + 1 + 1, j, none⟩ = false := hs
  have HB := hid hb
  have H1 := hid h1
  have H2 := hid h2
  obtain ⟨y0, y1⟩ := hy.get2
  have hlt := hy.1
  have hz : w.heap.size + 1 + 1 < (((w.alloc (.cells [.slice A n c, .slice B n2 d].toArray 25)).alloc (.cells [.slice C n3 c2, .slice D n4 d2].toArray 25)).alloc (.cells [Value.slice none 0 0, .slice none 0 0].toArray 25)).heap.size := by simp
  have HZ := hid hz
  have HB0s := hid HB0.out.size
  clear hb1 hy hs hb h1 h2 hz
  go_wp2_with fail
  refine ret2 HX.out (v := setV A1 _ c1 B1 _ d1) (fun w3 h3 => ?_) rfl (fun h3 => ⟨A1, c1, B1, d1, rfl, (H1.out.set HZ.out).low HB0s.out, (H2.out.set HZ.out).low HB0s.out, HB.out.trans (h3.mono (by omega))⟩)
  obtain ⟨k0, k1⟩ := h3.get2
  simp [results, Tryz.results19, go_sem, k0, k1]
set_option maxHeartbeats 1000000 in
theorem sand_any (A B C D : Option Addr) (c d c2 d2 : Nat) (l m p q : List SpanL) (w : World) (hg : First w) (hl : Spans w A l) (hm : Spans w B m) (hp : Spans w C p) (hq : Spans w D q) (hfl : fitL l) (hfm : fitL m) (hfp : fitL p) (hfq : fitL q)
    (hln : l.length ≤ 10000) (hmn : m.length ≤ 10000) (hpn : p.length ≤ 10000) (hqn : q.length ≤ 10000) :
    Calls Tryz.prog 17 #[setV A l.length c B m.length d, setV C p.length c2 D q.length d2] w (SetPost w (if mayS l m && mayS p q then randL l p else []) (if mayS l m && mayS p q then randL m q else [])) := by
  have HB0 := hid (below_tr (below_tr (below_new w (.cells [.slice A l.length c, .slice B m.length d].toArray 25)) (below_new _ (.cells [.slice C p.length c2, .slice D q.length d2].toArray 25))) (below_new _ (.cells [Value.slice none 0 0, .slice none 0 0].toArray 25)))
  have HY := hid (srowsAnd A B C D c d c2 d2 l m p q _ (hg.below HB0.out) (hl.below HB0.out) (hm.below HB0.out) (hp.below HB0.out) (hq.below HB0.out) hfl hfm hfp hfq hln hmn hpn hqn)
  clear hg hl hm hp hq hfl hfm hfp hfq
  generalize (if mayS l m && mayS p q then randL l p else []) = x at *
  generalize (if mayS l m && mayS p q then randL m q else []) = y at *
  generalize l.length = n at *
  generalize m.length = n2 at *
  generalize p.length = n3 at *
  generalize q.length = n4 at *
  go_enter Tryz.func17, Tryz.ntmps17
  go_wp2_with fail
  refine HY.out.mono ?_
  rintro _ w1 ⟨A1, c1, B1, d1, rfl, h1, h2, hb1⟩
  obtain ⟨_, _, hy, hs, hb⟩ := box_3 (cs := [.slice A n c, .slice B n2 d]) (ds := [.slice C n3 c2, .slice D n4 d2]) (es := [.slice none 0 0, .slice none 0 0]) hb1
  have HX := hid hy
  have hf : ∀ j, w1.frozen? ⟨w.heap.size + 1 + 1, j, none⟩ = false := hs
  have HB := hid hb
  have H1 := hid h1
  have H2 := hid h2
  obtain ⟨y0, y1⟩ := hy.get2
  have hlt := hy.1
  have hz : w.heap.size + 1 + 1 < (((w.alloc (.cells [.slice A n c, .slice B n2 d].toArray 25)).alloc (.cells [.slice C n3 c2, .slice D n4 d2].toArray 25)).alloc (.cells [Value.slice none 0 0, .slice none 0 0].toArray 25)).heap.size := by simp
  have HZ := hid hz
  have HB0s := hid HB0.out.size
  clear hb1 hy hs hb h1 h2 hz
  go_wp2_with fail
  refine ret2 HX.out (v := setV A1 _ c1 B1 _ d1) (fun w3 h3 => ?_) rfl (fun h3 => ⟨A1, c1, B1, d1, rfl, (H1.out.set HZ.out).low HB0s.out, (H2.out.set HZ.out).low HB0s.out, HB.out.trans (h3.mono (by omega))⟩)
  obtain ⟨k0, k1⟩ := h3.get2
  simp [results, Tryz.results17, go_sem, k0, k1]
set_option maxHeartbeats 1000000 in
theorem sminus_any (A B C D : Option Addr) (c d c2 d2 : Nat) (l m p q : List SpanL) (w : World) (hg : First w) (hl : Spans w A l) (hm : Spans w B m) (hp : Spans w C p) (hq : Spans w D q) (hfl : fitL l) (hfm : fitL m) (hfp : fitL p) (hfq : fitL q)
    (hln : l.length ≤ 10000) (hmn : m.length ≤ 10000) (hpn : p.length ≤ 10000) (hqn : q.length ≤ 10000) :
    Calls Tryz.prog 31 #[setV A l.length c B m.length d, setV C p.length c2 D q.length d2] w (SetPost w (if mayS l m && mayS p q then randL l (rnotL p) else []) (if mayS l m && mayS p q then randL m (rnotL q) else [])) := by
  have HB0 := hid (below_tr (below_tr (below_new w (.cells [.slice A l.length c, .slice B m.length d].toArray 25)) (below_new _ (.cells [.slice C p.length c2, .slice D q.length d2].toArray 25))) (below_new _ (.cells [Value.slice none 0 0, .slice none 0 0].toArray 25)))
  have HY := hid (srowsMinus A B C D c d c2 d2 l m p q _ (hg.below HB0.out) (hl.below HB0.out) (hm.below HB0.out) (hp.below HB0.out) (hq.below HB0.out) hfl hfm hfp hfq hln hmn hpn hqn)
  clear hg hl hm hp hq hfl hfm hfp hfq
  generalize (if mayS l m && mayS p q then randL l (rnotL p) else []) = x at *
  generalize (if mayS l m && mayS p q then randL m (rnotL q) else []) = y at *
  generalize l.length = n at *
  generalize m.length = n2 at *
  generalize p.length = n3 at *
  generalize q.length = n4 at *
  go_enter Tryz.func31, Tryz.ntmps31
  go_wp2_with fail
  refine HY.out.mono ?_
  rintro _ w1 ⟨A1, c1, B1, d1, rfl, h1, h2, hb1⟩
  obtain ⟨_, _, hy, hs, hb⟩ := box_3 (cs := [.slice A n c, .slice B n2 d]) (ds := [.slice C n3 c2, .slice D n4 d2]) (es := [.slice none 0 0, .slice none 0 0]) hb1
  have HX := hid hy
  have hf : ∀ j, w1.frozen? ⟨w.heap.size + 1 + 1, j, none⟩ = false := hs
  have HB := hid hb
  have H1 := hid h1
  have H2 := hid h2
  obtain ⟨y0, y1⟩ := hy.get2
  have hlt := hy.1
  have hz : w.heap.size + 1 + 1 < (((w.alloc (.cells [.slice A n c, .slice B n2 d].toArray 25)).alloc (.cells [.slice C n3 c2, .slice D n4 d2].toArray 25)).alloc (.cells [Value.slice none 0 0, .slice none 0 0].toArray 25)).heap.size := by simp
  have HZ := hid hz
  have HB0s := hid HB0.out.size
  clear hb1 hy hs hb h1 h2 hz
  go_wp2_with fail
  refine ret2 HX.out (v := setV A1 _ c1 B1 _ d1) (fun w3 h3 => ?_) rfl (fun h3 => ⟨A1, c1, B1, d1, rfl, (H1.out.set HZ.out).low HB0s.out, (H2.out.set HZ.out).low HB0s.out, HB.out.trans (h3.mono (by omega))⟩)
  obtain ⟨k0, k1⟩ := h3.get2
  simp [results, Tryz.results31, go_sem, k0, k1]
end Go.Proofs.YtmnjnoggchgnjaaGreatDoor
/- Sets: the walks of Not, Within, Apart, Exact. -/
namespace Go.Proofs.YtmnjnoggchgnjaaGreatDoor
open Go.RowKit Go.Lib
set_option linter.unusedVariables false
set_option linter.unusedSimpArgs false

def notS (l m : List SpanL) : List SpanL × List SpanL := if mayS l m then (rnotL l, rnotL m) else ([], [])
def andS (l m p q : List SpanL) : List SpanL × List SpanL := if mayS l m && mayS p q then (randL l p, randL m q) else ([], [])
def orS (l m p q : List SpanL) : List SpanL × List SpanL := if mayS l m && mayS p q then (rorL l p, rorL m q) else ([], [])
def minusS (l m p q : List SpanL) : List SpanL × List SpanL := if mayS l m && mayS p q then (randL l (rnotL p), randL m (rnotL q)) else ([], [])
def withinS (l m p q : List SpanL) : Bool := mayS l m && mayS p q && withinR l p && withinR m q
def apartS (l m p q : List SpanL) : Bool := mayS l m && mayS p q && sameS (andS l m p q).1 (andS l m p q).2 [] []
theorem if2 {α : Type} {b : Bool} {x y : α} (h : b = true) : (if b then x else y) = x := by rw [h]; rfl
set_option maxHeartbeats 1000000 in
theorem snot_any (A B : Option Addr) (c d : Nat) (l m : List SpanL) (w : World) (hg : First w) (hl : Spans w A l) (hm : Spans w B m) (hfl : fitL l) (hfm : fitL m)
    (hln : l.length ≤ 10000) (hmn : m.length ≤ 10000) :
    Calls Tryz.prog 21 #[setV A l.length c B m.length d] w (SetPost w (notS l m).1 (notS l m).2) := by
  have HB0 := hid (below_tr (below_new w (.cells [.slice A l.length c, .slice B m.length d].toArray 25)) (below_new _ (.cells [Value.slice none 0 0, .slice none 0 0].toArray 25)))
  have hy := srowsNot A B A B c d c d l m l m _ (hg.below HB0.out) (hl.below HB0.out) (hm.below HB0.out) (hl.below HB0.out) (hm.below HB0.out) hfl hfm hfl hfm hln hmn hln hmn
  have e1 : (if mayS l m && mayS l m then rnotL l else []) = (notS l m).1 := by cases h : mayS l m <;> simp [notS, h]
  have e2 : (if mayS l m && mayS l m then rnotL m else []) = (notS l m).2 := by cases h : mayS l m <;> simp [notS, h]
  rw [e1, e2] at hy
  have HY := hid hy
  clear hg hl hm hfl hfm e1 e2 hy
  generalize (notS l m).1 = x at *
  generalize (notS l m).2 = y at *
  generalize l.length = n at *
  generalize m.length = n2 at *
  go_enter Tryz.func21, Tryz.ntmps21
  go_wp2_with fail
  refine HY.out.mono ?_
  rintro _ w1 ⟨A1, c1, B1, d1, rfl, h1, h2, hb1⟩
  have hs := (soft_2 (cs := [.slice A n c, .slice B n2 d]) (ds := [.slice none 0 0, .slice none 0 0]) hb1).2
  obtain ⟨_, hy, hb⟩ := box_2 (cs := [.slice A n c, .slice B n2 d]) (ds := [.slice none 0 0, .slice none 0 0]) hb1
  have HX := hid hy
  have hf : ∀ j, w1.frozen? ⟨w.heap.size + 1, j, none⟩ = false := hs
  have HB := hid hb
  have H1 := hid h1
  have H2 := hid h2
  obtain ⟨y0, y1⟩ := hy.get2
  have hlt := hy.1
  have hz : w.heap.size + 1 < ((w.alloc (.cells [.slice A n c, .slice B n2 d].toArray 25)).alloc (.cells [Value.slice none 0 0, .slice none 0 0].toArray 25)).heap.size := by simp
  have HZ := hid hz
  have HB0s := hid HB0.out.size
  clear hb1 hy hs hb h1 h2 hz
  go_wp2_with fail
  refine ret2 HX.out (v := setV A1 _ c1 B1 _ d1) (fun w3 h3 => ?_) rfl (fun h3 => ⟨A1, c1, B1, d1, rfl, (H1.out.set HZ.out).low HB0s.out, (H2.out.set HZ.out).low HB0s.out, HB.out.trans (h3.mono (by omega))⟩)
  obtain ⟨k0, k1⟩ := h3.get2
  simp [results, Tryz.results21, go_sem, k0, k1]
set_option maxRecDepth 100000 in
set_option maxHeartbeats 1000000 in
theorem swithin_any (A B C D : Option Addr) (c d c2 d2 : Nat) (l m p q : List SpanL) (w : World) (hg : First w) (hl : Spans w A l) (hm : Spans w B m) (hp : Spans w C p) (hq : Spans w D q) (hfl : fitL l) (hfm : fitL m) (hfp : fitL p) (hfq : fitL q)
    (hln : l.length ≤ 10000) (hmn : m.length ≤ 10000) (hpn : p.length ≤ 10000) (hqn : q.length ≤ 10000) :
    Calls Tryz.prog 24 #[setV A l.length c B m.length d, setV C p.length c2 D q.length d2] w (BoolPost w (withinS l m p q)) := by
  generalize hr : withinS l m p q = r
  have HR := hid hr
  have HB0 := hid (below_tr (below_new w (.cells [.slice A l.length c, .slice B m.length d].toArray 25)) (below_new _ (.cells [.slice C p.length c2, .slice D q.length d2].toArray 25)))
  have HY := hid (smay_any A B c d l m _ (hg.below HB0.out) (hl.below HB0.out) (hm.below HB0.out) hfl hfm (by omega) (by omega))
  have HZ := hid (fun w' (h : Below w.heap.size w w') => smay_any C D c2 d2 p q w' (hg.below h) (hp.below h) (hq.below h) hfp hfq (by omega) (by omega))
  have HW1 := hid (fun w' (h : Below w.heap.size w w') => within_any A C c c2 l p w' (hl.below h) (hp.below h) hfl hfp (by omega))
  have HW2 := hid (fun w' (h : Below w.heap.size w w') => within_any B D d d2 m q w' (hm.below h) (hq.below h) hfm hfq (by omega))
  clear hr hg hl hm hp hq hfl hfm hfp hfq
  generalize l.length = n at *
  generalize m.length = n2 at *
  generalize p.length = n3 at *
  generalize q.length = n4 at *
  cases h1 : mayS l m
  · go_enter Tryz.func24, Tryz.ntmps24
    go_wp2_with fail
    refine HY.out.mono ?_
    rintro _ w1 ⟨rfl, hb1⟩
    rw [h1]
    go_wp2_with fail
    go_ret
    exact ⟨by rw [← HR.out, withinS, h1]; rfl, below_tr HB0.out hb1⟩
  · cases h2 : mayS p q
    · go_enter Tryz.func24, Tryz.ntmps24
      go_wp2_with fail
      refine HY.out.mono ?_
      rintro _ w1 ⟨rfl, hb1⟩
      rw [h1]
      obtain ⟨hx, hy, hb1'⟩ := box_2 (cs := [.slice A n c, .slice B n2 d]) (ds := [.slice C n3 c2, .slice D n4 d2]) hb1
      have HX := hid hx
      have HV := hid hy
      have HB1 := hid hb1'
      obtain ⟨z0, z1⟩ := hy.get2
      clear hx hy hb1 hb1'
      go_wp2_with fail
      refine (HZ.out _ HB1.out).mono ?_
      rintro _ w2 ⟨rfl, hb2⟩
      rw [h2]
      have HB2 := hid (below_tr HB1.out hb2)
      clear z0 z1
      go_wp2_with fail
      go_ret
      exact ⟨by rw [← HR.out, withinS, h1, h2]; rfl, HB2.out⟩
    · cases h3 : withinR l p
      · go_enter Tryz.func24, Tryz.ntmps24
        go_wp2_with fail
        refine HY.out.mono ?_
        rintro _ w1 ⟨rfl, hb1⟩
        rw [h1]
        obtain ⟨hx, hy, hb1'⟩ := box_2 (cs := [.slice A n c, .slice B n2 d]) (ds := [.slice C n3 c2, .slice D n4 d2]) hb1
        have HX := hid hx
        have HV := hid hy
        have HB1 := hid hb1'
        obtain ⟨z0, z1⟩ := hy.get2
        clear hx hy hb1 hb1'
        go_wp2_with fail
        refine (HZ.out _ HB1.out).mono ?_
        rintro _ w2 ⟨rfl, hb2⟩
        rw [h2]
        have HB2 := hid (below_tr HB1.out hb2)
        clear z0 z1
        obtain ⟨y0, y1⟩ := (HX.out.below hb2).get2
        obtain ⟨z0, z1⟩ := (HV.out.below hb2).get2
        clear hb2
        go_wp2_with fail
        refine (HW1.out _ HB2.out).mono ?_
        rintro _ w3 ⟨rfl, hb3⟩
        rw [h3]
        clear y0 y1 z0 z1
        go_wp2_with fail
        go_ret
        exact ⟨by rw [← HR.out, withinS, h1, h2, h3]; rfl, below_tr HB2.out hb3⟩
      · go_enter Tryz.func24, Tryz.ntmps24
        go_wp2_with fail
        refine HY.out.mono ?_
        rintro _ w1 ⟨rfl, hb1⟩
        rw [h1]
        obtain ⟨hx, hy, hb1'⟩ := box_2 (cs := [.slice A n c, .slice B n2 d]) (ds := [.slice C n3 c2, .slice D n4 d2]) hb1
        have HX := hid hx
        have HV := hid hy
        have HB1 := hid hb1'
        obtain ⟨z0, z1⟩ := hy.get2
        clear hx hy hb1 hb1'
        go_wp2_with fail
        refine (HZ.out _ HB1.out).mono ?_
        rintro _ w2 ⟨rfl, hb2⟩
        rw [h2]
        have HB2 := hid (below_tr HB1.out hb2)
        clear z0 z1
        have HX2 := hid (HX.out.below hb2)
        have HV2 := hid (HV.out.below hb2)
        obtain ⟨y0, y1⟩ := HX2.out.get2
        obtain ⟨z0, z1⟩ := HV2.out.get2
        clear hb2
        go_wp2_with fail
        refine (HW1.out _ HB2.out).mono ?_
        rintro _ w3 ⟨rfl, hb3⟩
        rw [h3]
        clear y0 y1 z0 z1
        have HB3 := hid (below_tr HB2.out hb3)
        obtain ⟨y0, y1⟩ := (HX2.out.below hb3).get2
        obtain ⟨z0, z1⟩ := (HV2.out.below hb3).get2
        clear hb3
        go_wp2_with fail
        refine (HW2.out _ HB3.out).mono ?_
        rintro _ w4 ⟨rfl, hb4⟩
        clear y0 y1 z0 z1
        go_wp2_with fail
        go_ret
        exact ⟨by rw [← HR.out, withinS, h1, h2, h3]; rfl, below_tr HB3.out hb4⟩
set_option maxRecDepth 100000 in
set_option maxHeartbeats 1000000 in
theorem sapart_any (A B C D : Option Addr) (c d c2 d2 : Nat) (l m p q : List SpanL) (w : World) (hg : First w) (hl : Spans w A l) (hm : Spans w B m) (hp : Spans w C p) (hq : Spans w D q) (hfl : fitL l) (hfm : fitL m) (hfp : fitL p) (hfq : fitL q)
    (hln : l.length ≤ 10000) (hmn : m.length ≤ 10000) (hpn : p.length ≤ 10000) (hqn : q.length ≤ 10000) :
    Calls Tryz.prog 25 #[setV A l.length c B m.length d, setV C p.length c2 D q.length d2] w (BoolPost w (apartS l m p q)) := by
  generalize hr : apartS l m p q = r
  have HR := hid hr
  have HB0 := hid (below_tr (below_new w (.cells [.slice A l.length c, .slice B m.length d].toArray 25)) (below_new _ (.cells [.slice C p.length c2, .slice D q.length d2].toArray 25)))
  have HY := hid (smay_any A B c d l m _ (hg.below HB0.out) (hl.below HB0.out) (hm.below HB0.out) hfl hfm (by omega) (by omega))
  have HZ := hid (fun w' (h : Below w.heap.size w w') => smay_any C D c2 d2 p q w' (hg.below h) (hp.below h) (hq.below h) hfp hfq (by omega) (by omega))
  have HAL : Hid ((andS l m p q).1.length ≤ 4398046511104 ∧ (andS l m p q).2.length ≤ 4398046511104) := hid (by
    have g1 := (randL_good hfl hfp).2
    have g2 := (randL_good hfm hfq).2
    unfold andS
    split
    · simp only; omega
    · simp)
  have HAND := hid (fun w' (h : Below w.heap.size w w') => (sand_any A B C D c d c2 d2 l m p q w' (hg.below h) (hl.below h) (hm.below h) (hp.below h) (hq.below h) hfl hfm hfp hfq hln hmn hpn hqn))
  have hand1 : (if mayS l m && mayS p q then randL l p else []) = (andS l m p q).1 := by cases h : (mayS l m && mayS p q) <;> simp [andS, h]
  have hand2 : (if mayS l m && mayS p q then randL m q else []) = (andS l m p q).2 := by cases h : (mayS l m && mayS p q) <;> simp [andS, h]
  have HAND := hid (fun w' h => by have k := HAND.out w' h; rw [hand1, hand2] at k; exact k)
  clear hand1 hand2
  clear hr hg hl hm hp hq hfl hfm hfp hfq
  generalize l.length = n at *
  generalize m.length = n2 at *
  generalize p.length = n3 at *
  generalize q.length = n4 at *
  cases h1 : mayS l m
  · go_enter Tryz.func25, Tryz.ntmps25
    go_wp2_with fail
    refine HY.out.mono ?_
    rintro _ w1 ⟨rfl, hb1⟩
    rw [h1]
    go_wp2_with fail
    go_ret
    exact ⟨by rw [← HR.out, apartS, h1]; rfl, below_tr HB0.out hb1⟩
  · cases h2 : mayS p q
    · go_enter Tryz.func25, Tryz.ntmps25
      go_wp2_with fail
      refine HY.out.mono ?_
      rintro _ w1 ⟨rfl, hb1⟩
      rw [h1]
      obtain ⟨hx, hy, hb1'⟩ := box_2 (cs := [.slice A n c, .slice B n2 d]) (ds := [.slice C n3 c2, .slice D n4 d2]) hb1
      have HX := hid hx
      have HV := hid hy
      have HB1 := hid hb1'
      obtain ⟨z0, z1⟩ := hy.get2
      clear hx hy hb1 hb1'
      go_wp2_with fail
      refine (HZ.out _ HB1.out).mono ?_
      rintro _ w2 ⟨rfl, hb2⟩
      rw [h2]
      have HB2 := hid (below_tr HB1.out hb2)
      clear z0 z1
      go_wp2_with fail
      go_ret
      exact ⟨by rw [← HR.out, apartS, h1, h2]; rfl, HB2.out⟩
    · go_enter Tryz.func25, Tryz.ntmps25
      go_wp2_with fail
      refine HY.out.mono ?_
      rintro _ w1 ⟨rfl, hb1⟩
      rw [h1]
      obtain ⟨hx, hy, hb1'⟩ := box_2 (cs := [.slice A n c, .slice B n2 d]) (ds := [.slice C n3 c2, .slice D n4 d2]) hb1
      have HX := hid hx
      have HV := hid hy
      have HB1 := hid hb1'
      obtain ⟨z0, z1⟩ := hy.get2
      clear hx hy hb1 hb1'
      go_wp2_with fail
      refine (HZ.out _ HB1.out).mono ?_
      rintro _ w2 ⟨rfl, hb2⟩
      rw [h2]
      have HB2 := hid (below_tr HB1.out hb2)
      clear z0 z1
      obtain ⟨y0, y1⟩ := (HX.out.below hb2).get2
      obtain ⟨z0, z1⟩ := (HV.out.below hb2).get2
      clear hb2
      go_wp2_with fail
      refine (HAND.out _ HB2.out).mono ?_
      rintro _ w3 ⟨A3, c3, B3, d3, rfl, h3, h4, hb3⟩
      clear y0 y1 z0 z1
      have HB3 := hid (below_tr HB2.out hb3)
      have H3 := hid h3.1
      have H4 := hid h4.1
      clear h3 h4 hb3
      go_wp2_with fail
      refine (snone_any _).mono ?_
      rintro _ w4 ⟨rfl, hb4⟩
      have HB4 := hid (below_tr HB3.out hb4)
      have HSM := hid (ssame_any A3 B3 none none c3 d3 0 0 _ _ [] [] w4 (H3.out.below hb4) (H4.out.below hb4) (.inl rfl) (.inl rfl) HAL.out.1 HAL.out.2 (by simp) (by simp))
      clear hb4
      go_wp2_with fail
      refine HSM.out.mono ?_
      rintro _ w5 ⟨rfl, hb5⟩
      go_wp2_with fail
      go_ret
      exact ⟨by rw [← HR.out, apartS, h1, h2]; rfl, below_tr HB4.out hb5⟩
end Go.Proofs.YtmnjnoggchgnjaaGreatDoor
/- Sets: the walk of Exact. -/
namespace Go.Proofs.YtmnjnoggchgnjaaGreatDoor
open Go.RowKit Go.Lib
set_option linter.unusedVariables false
set_option linter.unusedSimpArgs false

def exactS (v : Ver) : List SpanL × List SpanL := if mayV v = false then ([], []) else if (bts v.pre).isEmpty then ([⟨aheadR v, uptoL (relV v)⟩], []) else ([], [⟨⟨0, bareV v, false⟩, ⟨0, bareV v, true⟩⟩])
theorem core_bare (v : Ver) : v.core = bareV v := rfl
theorem Box.set5 {w : World} {g : Nat} {v : Ver} (u : Ver) (h : Box w g v.cells) : Box (w.setCells g 0 u.cells) g u.cells := h.set (o := 0) (vs := u.cells) (by simp)
/-- a row laid, then a set's two cells written -/
theorem ret2n {P : Program} {fn : Func} {R : Ending → World → Prop} {a : Act} {w : World} {v : Value} {g : Nat} {x0 x1 y0 y1 : Value} {o : Obj} (hx : Box w g [x0, x1]) (hr : ∀ w3, Box w3 g [y0, y1] → (results fn a.tmps).run P w3 = .ok v w3) (hd : a.defers = [])
    (hR : Below g w ((w.setCells g 0 [y0, y1]).alloc o) → R (.returned v) ((w.setCells g 0 [y0, y1]).alloc o)) : bodyPost P fn R .ret a (((w.setCell ⟨g, 0, none⟩ y0).setCell ⟨g, 1, none⟩ y1).alloc o) := by
  rw [show ((w.setCell ⟨g, 0, none⟩ y0).setCell ⟨g, 1, none⟩ y1) = w.setCells g 0 [y0, y1] from rfl]
  have hb : Box (w.setCells g 0 [y0, y1]) g [y0, y1] := hx.set (o := 0) (vs := [y0, y1]) (by simp)
  exact bodyPost_ret (hr _ (hb.below (below_new _ _))) hd (hR ((Below.setCells (Nat.le_refl _) _ _ (Below.refl _ _)).alloc (Nat.le_of_lt hb.1) _))
theorem keep5n {w : World} {k g : Nat} {x0 x1 x2 x3 x4 : Value} (h : Box w k [x0, x1, x2, x3, x4]) (hne : k ≠ g) (y0 y1 : Value) (o : Obj) : let w' := ((w.setCell ⟨g, 0, none⟩ y0).setCell ⟨g, 1, none⟩ y1).alloc o
    w'.cell? ⟨k, 0, none⟩ = some x0 ∧ w'.cell? ⟨k, 1, none⟩ = some x1 ∧ w'.cell? ⟨k, 2, none⟩ = some x2 ∧ w'.cell? ⟨k, 3, none⟩ = some x3 ∧ w'.cell? ⟨k, 4, none⟩ = some x4 :=
  ((Box.setOther (o := 0) (vs := [y0, y1]) h hne).below (below_new _ _)).get5
theorem SpanB.fresh (w : World) (s : SpanL) (t : TypeId) : SpanB (w.alloc (.cells s.cells.toArray t)) w.heap.size (some ⟨w.heap.size, 0, none⟩) [s] :=
  ⟨Spans.one (Box.new w s.cells t), fun ad e => by injection e with e; rw [← e]; exact Nat.le_refl _⟩

set_option maxRecDepth 100000 in
set_option maxHeartbeats 2000000 in
theorem sexact_any (v : Ver) (w : World) (hg : First w) (hv : v.fit) : Calls Tryz.prog 40 #[v.val] w (SetPost w (exactS v).1 (exactS v).2) := by
  have HB0 := hid (below_tr (below_new w (.cells v.cells.toArray 28)) (below_new _ (.cells [Value.slice none 0 0, .slice none 0 0].toArray 25)))
  have HG := hid (fun w' h => hg.below (w' := w') h)
  have hM := may_any v
  cases h1 : mayV v
  · have HE := hid (show exactS v = ([], []) by rw [exactS, if_pos h1])
    go_enter Tryz.func40, Tryz.ntmps40
    go_wp2_with fail
    refine (hM _ hv).mono ?_
    rintro _ w1 ⟨rfl, hb1⟩
    rw [h1]
    have hs := (soft_2 (cs := v.cells) (ds := [.slice none 0 0, .slice none 0 0]) hb1).2
    obtain ⟨_, hy, hb⟩ := box_2 (cs := v.cells) (ds := [.slice none 0 0, .slice none 0 0]) hb1
    have HX := hid hy
    have HS := hid hs
    have HB := hid hb
    clear hb1 hy hs hb hM
    go_wp2_with fail
    refine (snone_any _).mono ?_
    rintro _ w2 ⟨rfl, hb2⟩
    have HX2 := hid (HX.out.below hb2)
    have hf : ∀ j, w2.frozen? ⟨w.heap.size + 1, j, none⟩ = false := HS.out.below HX.out.1 hb2
    have HB2 := hid (below_tr HB.out hb2)
    obtain ⟨y0, y1⟩ := HX2.out.get2
    have hlt := HX2.out.1
    clear hb2
    go_wp2_with fail
    refine ret2 HX2.out (v := setV none 0 0 none 0 0) (fun w3 h3 => ?_) rfl (fun h3 => by rw [HE.out]; exact NonePost.set ⟨rfl, HB2.out.trans (h3.mono (by omega))⟩)
    obtain ⟨k0, k1⟩ := h3.get2
    simp [results, Tryz.results40, go_sem, k0, k1]
  · have HC := hid (fun w' => core_any v w')
    go_enter Tryz.func40, Tryz.ntmps40
    go_wp2_with fail
    refine (hM _ hv).mono ?_
    rintro _ w1 ⟨rfl, hb1⟩
    rw [h1]
    have hs := soft_2 (cs := v.cells) (ds := [.slice none 0 0, .slice none 0 0]) hb1
    obtain ⟨hx, hy, hb⟩ := box_2 (cs := v.cells) (ds := [.slice none 0 0, .slice none 0 0]) hb1
    have HV := hid hx
    have HX := hid hy
    have HS := hid hs
    have HB := hid hb
    obtain ⟨t0, t1, t2, t3, t4⟩ := hx.get5
    clear hb1 hx hy hs hb hM
    go_wp2_with fail
    refine (HC.out _).mono ?_
    rename_i K1 hK1 _ _
    have HK1 := hid hK1
    clear hK1
    rintro _ w2 ⟨rfl, hb2⟩
    rw [core_bare]
    have HV2 := hid (HV.out.below hb2)
    have HX2 := hid (HX.out.below hb2)
    have HS2 := hid (And.intro (HS.out.1.below HV.out.1 hb2) (HS.out.2.below HX.out.1 hb2))
    have HB2 := hid (below_tr HB.out hb2)
    clear hb2 t0 t1 t2 t3 t4
    have HEQ := hid (show exactS v = (if (bts (bareV v).pre).isEmpty then ([⟨aheadR v, uptoL (relV v)⟩], []) else ([], [⟨⟨0, bareV v, false⟩, ⟨0, bareV v, true⟩⟩])) by rw [exactS, if_neg (by simp [h1])]; rfl)
    have HU := hid (show (bts (bareV v).pre).isEmpty = true → bareV v = relV v from fun h => relV_bare (List.isEmpty_iff.1 h))
    have HUF : Hid (bareV v).fit := hid (by have := hv; simp only [Ver.fit, bareV] at this ⊢; exact ⟨this.1, by decide⟩)
    have hf : ∀ j, w2.frozen? ⟨w.heap.size, j, none⟩ = false := HS2.out.1
    obtain ⟨t0, t1, t2, t3, t4⟩ := HV2.out.get5
    have hlt := HV2.out.1
    generalize hu : bareV v = u at *
    clear h1 hu
    go_wp2_with fail
    refine HK1.out _ _ ?_
    clear t0 t1 t2 t3 t4 hf
    refine wp_name ?_
    intro w3 hw3
    rw [show (((((w2.setCell ⟨w.heap.size, 0, none⟩ (.int .i64 u.maj)).setCell ⟨w.heap.size, 1, none⟩ (.int .i64 u.min)).setCell ⟨w.heap.size, 2, none⟩ (.int .i64 u.pat)).setCell ⟨w.heap.size, 3, none⟩ (.string u.pre)).setCell ⟨w.heap.size, 4, none⟩ (.string u.bld)) = w2.setCells w.heap.size 0 u.cells from rfl] at hw3
    have HV3 : Hid (Box w3 w.heap.size u.cells) := hid (by rw [hw3]; exact HV2.out.set5 u)
    have HX3 : Hid (Box w3 (w.heap.size + 1) [.slice none 0 0, .slice none 0 0]) := hid (by rw [hw3]; exact HX2.out.setOther (by omega))
    have HS3 : Hid (Soft w3 (w.heap.size + 1)) := hid (by rw [hw3]; exact HS2.out.2.set)
    have HB3 : Hid (Below w.heap.size w w3) := hid (by rw [hw3]; exact HB2.out.setCells (Nat.le_refl _) _ _)
    clear hw3 HV2 HX2 HS2 HB2 hlt HV HX HS HB HC HB0 HK1
    obtain ⟨t0, t1, t2, t3, t4⟩ := HV3.out.get5
    have hl3 := HX3.out.1
    by_cases h4 : 0 < u.pre.size
    · obtain ⟨e4, n4⟩ := ne_of_size h4
      have HE := hid (show exactS v = ([], [⟨⟨0, u, false⟩, ⟨0, u, true⟩⟩]) by rw [HEQ.out, bts, e4]; rfl)
      obtain ⟨y0, y1⟩ := HX3.out.get2
      have hf : ∀ j, w3.frozen? ⟨w.heap.size + 1, j, none⟩ = false := HS3.out
      go_wp2_with fail
      refine ret2n HX3.out (v := setV none 0 0 (some ⟨w3.heap.size, 0, none⟩) 1 1) (fun w5 h5 => ?_) rfl (fun h5 => ?_)
      · obtain ⟨k0, k1⟩ := h5.get2
        simp [results, Tryz.results40, go_sem, k0, k1]
      · rw [HE.out]
        have hq := SpanB.fresh (w3.setCells (w.heap.size + 1) 0 [.slice none 0 0, .slice (some ⟨w3.heap.size, 0, none⟩) 1 1]) ⟨⟨0, u, false⟩, ⟨0, u, true⟩⟩ 60
        rw [setCells_size] at hq
        exact ⟨none, 0, _, 1, rfl, SpanB.nil _ _, hq.low HB3.out.size, HB3.out.trans (h5.mono (by omega))⟩
    · have e4 := isEmpty_of h4
      have HE := hid (show exactS v = ([⟨aheadP u, uptoL u⟩], []) by
        rw [HEQ.out, bts, e4, HU.out (by rw [bts, e4]; rfl), ahead_same]; rfl)
      have CA := hid (fun w' h => sahead_any u w' h)
      have CB := hid (fun w' => upto_any u w' HUF.out)
      have HK := hid (fun w' (h : Below w3.heap.size w3 w') => (HV3.out.below h).get5)
      have HR := hid (fun w' (h : Below w3.heap.size w3 w') => And.intro (HX3.out.below h) (HS3.out.below HX3.out.1 h))
      have HF := hid (fun w' (h : Below w3.heap.size w3 w') => HG.out w' (below_tr HB3.out h))
      generalize aheadP u = ca at *
      generalize uptoL u = cb at *
      clear HEQ HU HUF HG
      go_wp2_with fail
      have q1 : ¬ w.heap.size + 1 = w.heap.size := by omega
      go_region_held3 (fun w' => w'.cell? ⟨w.heap.size, 0, none⟩ = some (.int .i64 u.maj) ∧ w'.cell? ⟨w.heap.size, 1, none⟩ = some (.int .i64 u.min) ∧ w'.cell? ⟨w.heap.size, 2, none⟩ = some (.int .i64 u.pat) ∧ w'.cell? ⟨w.heap.size, 3, none⟩ = some (.string u.pre) ∧ w'.cell? ⟨w.heap.size, 4, none⟩ = some (.string u.bld))
        (first | (exact HK.out _ (by first | assumption | exact (Below.refl _ _).drew | exact below_alloc (by assumption) _)) | (exact keep5n HV5.out (by omega) _ _ _) | go_keep)
        (first
          | (go_at_call 83; (with_reducible refine (CA.out _ (HF.out _ (by first | assumption | exact (Below.refl _ _).drew | exact below_alloc (by assumption) _))).mono ?_); rintro _ w4 ⟨rfl, k4⟩; have hb4 : Below w3.heap.size w3 w4 := below_tr (by first | assumption | exact (Below.refl _ _).drew | exact below_alloc (by assumption) _) k4)
          | (go_at_call 84; (with_reducible refine (CB.out _).mono ?_); rintro _ w5 ⟨rfl, k5⟩; have hb5 : Below w3.heap.size w3 w5 := below_tr (by first | assumption | exact (Below.refl _ _).drew | exact below_alloc (by assumption) _) k5; obtain ⟨b0, b1⟩ := (HR.out _ hb5).1.get2; have b2 : ∀ j, w5.frozen? ⟨w.heap.size + 1, j, none⟩ = false := (HR.out _ hb5).2; have b3 := (HR.out _ hb5).1.1; have HV5 := hid (HV3.out.below hb5)))
      have HX5 := hid (HR.out _ hb5).1
      have HB5 := hid (below_tr HB3.out hb5)
      clear t0 t1 t2 t3 t4 b0 b1 b2 b3 k4 k5 hb4 hb5
      go_wp2_with fail
      refine ret2n HX5.out (v := setV (some ⟨w5.heap.size, 0, none⟩) 1 1 none 0 0) (fun w6 h6 => ?_) rfl (fun h6 => ?_)
      · obtain ⟨k0, k1⟩ := h6.get2
        simp [results, Tryz.results40, go_sem, k0, k1]
      · rw [HE.out]
        have hq := SpanB.fresh (w5.setCells (w.heap.size + 1) 0 [.slice (some ⟨w5.heap.size, 0, none⟩) 1 1, .slice none 0 0]) ⟨ca, cb⟩ 60
        rw [setCells_size] at hq
        exact ⟨_, 1, none, 0, rfl, hq.low HB5.out.size, SpanB.nil _ _, HB5.out.trans (h6.mono (by omega))⟩
end Go.Proofs.YtmnjnoggchgnjaaGreatDoor
