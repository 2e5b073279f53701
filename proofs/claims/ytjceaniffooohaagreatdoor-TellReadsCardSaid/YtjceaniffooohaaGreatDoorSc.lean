/- Sets: the walks of rows, Or, And, Not, Minus. -/
import Derived.Test.YtjceaniffooohaaGreatDoorSb
import Derived.Test.YtjceaniffooohaaGreatDoorBh
import Derived.Test.YtjceaniffooohaaGreatDoorBb
namespace Go.Proofs.YtjceaniffooohaaGreatDoor
open Go.RowKit Go.Lib
set_option linter.unusedVariables false
set_option linter.unusedSimpArgs false

/-- a row has come back in memory of the call's own -/
def RowN (w : World) (l : List SpanL) (e : Ending) (w' : World) : Prop := ∃ A c, e = .returned (.slice A l.length c) ∧ SpanB w' w.heap.size A l ∧ Below w.heap.size w w'
theorem RowPost.n {w : World} {l : List SpanL} {e : Ending} {w' : World} (h : RowPost w w.heap.size l e w') : RowN w l e w' := by
  obtain ⟨v, rfl, h1, h2, _⟩ := h
  obtain ⟨A, c, rfl, h3⟩ := SpanB.own h1
  exact ⟨A, c, rfl, h3, h2⟩
theorem callN {P : Program} {f : FuncId} {args : Array Value} {w : World} {l : List SpanL} (h : Calls P f args w (RowPost w w.heap.size l)) : Calls P f args w (RowN w l) := h.mono fun _ _ h => RowPost.n h
theorem srowsOr_do (A B : Option Addr) (c d : Nat) (l m : List SpanL) (w : World) (hl : Spans w A l) (hm : Spans w B m) (hfl : fitL l) (hfm : fitL m) (hln : l.length + 2 * m.length ≤ 39999) : Calls Tryz.prog 97 #[.slice A l.length c, .slice B m.length d] w (RowN w (rorL l m)) := callN (por_any w.heap.size A B c d l m w hl hm hfl hfm (by omega) (Nat.le_refl _))
set_option maxRecDepth 100000 in
set_option maxHeartbeats 2000000 in
theorem srowsOr (A B C D : Option Addr) (c d c2 d2 : Nat) (l m p q : List SpanL) (w : World) (hg : First w) (hl : Spans w A l) (hm : Spans w B m) (hp : Spans w C p) (hq : Spans w D q) (hfl : fitL l) (hfm : fitL m) (hfp : fitL p) (hfq : fitL q)
    (hln : l.length ≤ 10000) (hmn : m.length ≤ 10000) (hpn : p.length ≤ 10000) (hqn : q.length ≤ 10000) :
    Calls Tryz.prog 156 #[setV A l.length c B m.length d, setV C p.length c2 D q.length d2, .func (.func 97) #[] #[]] w (SetPost w (if mayS l m && mayS p q then rorL l p else []) (if mayS l m && mayS p q then rorL m q else [])) := by
  have HB0 := hid (below_tr (below_tr (below_new w (.cells [.slice A l.length c, .slice B m.length d].toArray 31)) (below_new _ (.cells [.slice C p.length c2, .slice D q.length d2].toArray 31))) (below_new _ (.cells [Value.slice none 0 0, .slice none 0 0].toArray 31)))
  have HY := hid (smay_any A B c d l m _ (hg.below HB0.out) (hl.below HB0.out) (hm.below HB0.out) hfl hfm (by omega) (by omega))
  have HZ := hid (fun w' (h : Below w.heap.size w w') => smay_any C D c2 d2 p q w' (hg.below h) (hp.below h) (hq.below h) hfp hfq (by omega) (by omega))
  have HD1 := hid (fun w' (h : Below w.heap.size w w') => srowsOr_do A C c c2 l p w' (hl.below h) (hp.below h) hfl hfp (by omega))
  have HD2 := hid (fun w' (h : Below w.heap.size w w') => srowsOr_do B D d d2 m q w' (hm.below h) (hq.below h) hfm hfq (by omega))
  clear hg hl hm hp hq hfl hfm hfp hfq
  generalize l.length = n at *
  generalize m.length = n2 at *
  generalize p.length = n3 at *
  generalize q.length = n4 at *
  cases h1 : mayS l m
  · go_enter Tryz.func156, Tryz.ntmps156
    go_wp2_with fail
    refine HY.out.mono ?_
    rintro _ w1 ⟨rfl, hb1⟩
    rw [h1]
    obtain ⟨_, _, hy, hs, hb⟩ := box_3 (cs := [.slice A n c, .slice B n2 d]) (ds := [.slice C n3 c2, .slice D n4 d2]) (es := [.slice none 0 0, .slice none 0 0]) hb1
    have HX := hid hy
    have HS := hid hs
    have HB1 := hid hb
    clear hb1 hy hs hb
    go_wp2_with fail
    refine (snone_any _).mono ?_
    rintro _ w2 ⟨rfl, hb2⟩
    have HX2 := hid (HX.out.below hb2)
    have hf : ∀ j, w2.frozen? ⟨w.heap.size + 1 + 1, j, none⟩ = false := HS.out.below HX.out.1 hb2
    have HB2 := hid (below_tr HB1.out hb2)
    obtain ⟨y0, y1⟩ := HX2.out.get2
    have hlt := HX2.out.1
    clear hb2
    go_wp2_with fail
    refine ret2 HX2.out (v := setV none 0 0 none 0 0) (fun w3 h3 => ?_) rfl (fun h3 => NonePost.set ⟨rfl, HB2.out.trans (h3.mono (by omega))⟩)
    obtain ⟨k0, k1⟩ := h3.get2
    simp [results, Tryz.results156, go_sem, k0, k1]
  · cases h2 : mayS p q
    · go_enter Tryz.func156, Tryz.ntmps156
      go_wp2_with fail
      refine HY.out.mono ?_
      rintro _ w1 ⟨rfl, hb1⟩
      rw [h1]
      obtain ⟨_, hx, hy, hs, hb⟩ := box_3 (cs := [.slice A n c, .slice B n2 d]) (ds := [.slice C n3 c2, .slice D n4 d2]) (es := [.slice none 0 0, .slice none 0 0]) hb1
      have HX := hid hy
      have HS := hid hs
      have HB1 := hid hb
      obtain ⟨z0, z1⟩ := hx.get2
      clear hb1 hx hy hs hb
      go_wp2_with fail
      refine (HZ.out _ HB1.out).mono ?_
      rintro _ w2 ⟨rfl, hb2⟩
      rw [h2]
      have HX2 := hid (HX.out.below hb2)
      have HS2 := hid (HS.out.below HX.out.1 hb2)
      have HB2 := hid (below_tr HB1.out hb2)
      clear hb2 z0 z1
      go_wp2_with fail
      refine (snone_any _).mono ?_
      rintro _ w3 ⟨rfl, hb3⟩
      have HX3 := hid (HX2.out.below hb3)
      have hf : ∀ j, w3.frozen? ⟨w.heap.size + 1 + 1, j, none⟩ = false := HS2.out.below HX2.out.1 hb3
      have HB3 := hid (below_tr HB2.out hb3)
      obtain ⟨y0, y1⟩ := HX3.out.get2
      have hlt := HX3.out.1
      clear hb3
      go_wp2_with fail
      refine ret2 HX3.out (v := setV none 0 0 none 0 0) (fun w3 h3 => ?_) rfl (fun h3 => NonePost.set ⟨rfl, HB3.out.trans (h3.mono (by omega))⟩)
      obtain ⟨k0, k1⟩ := h3.get2
      simp [results, Tryz.results156, go_sem, k0, k1]
    · go_enter Tryz.func156, Tryz.ntmps156
      go_wp2_with fail
      refine HY.out.mono ?_
      rintro _ w1 ⟨rfl, hb1⟩
      rw [h1]
      obtain ⟨hw, hx, hy, hs, hb⟩ := box_3 (cs := [.slice A n c, .slice B n2 d]) (ds := [.slice C n3 c2, .slice D n4 d2]) (es := [.slice none 0 0, .slice none 0 0]) hb1
      have HW := hid hw
      have HV := hid hx
      have HX := hid hy
      have HS := hid hs
      have HB1 := hid hb
      obtain ⟨z0, z1⟩ := hx.get2
      clear hb1 hw hx hy hs hb
      go_wp2_with fail
      refine (HZ.out _ HB1.out).mono ?_
      rintro _ w2 ⟨rfl, hb2⟩
      rw [h2]
      have HX2 := hid (HX.out.below hb2)
      have HS2 := hid (HS.out.below HX.out.1 hb2)
      have HB2 := hid (below_tr HB1.out hb2)
      have HK := hid (fun w' (h : Below w2.heap.size w2 w') => ((fun (a : _ ∧ _) (b : _ ∧ _) => ⟨a.1, a.2, b.1, b.2⟩) ((HW.out.below hb2).below h).get2 ((HV.out.below hb2).below h).get2 : w'.cell? ⟨w.heap.size, 0, none⟩ = some (.slice A n c) ∧ w'.cell? ⟨w.heap.size, 1, none⟩ = some (.slice B n2 d) ∧ w'.cell? ⟨w.heap.size + 1, 0, none⟩ = some (.slice C n3 c2) ∧ w'.cell? ⟨w.heap.size + 1, 1, none⟩ = some (.slice D n4 d2)))
      have HR := hid (fun w' (h : Below w2.heap.size w2 w') => And.intro (HX2.out.below h) (HS2.out.below HX2.out.1 h))
      have HC1 := hid (fun w' (h : Below w2.heap.size w2 w') => HD1.out w' (below_tr HB2.out h))
      have HC2 := hid (fun w' (h : Below w2.heap.size w2 w') => HD2.out w' (below_tr HB2.out h))
      clear hb2 z0 z1 HD1 HD2 HZ HY HB1 HB0 HX HS HV HW
      have HG : Hid (w.heap.size + 1 + 1 < w2.heap.size) := hid HX2.out.1
      clear HX2 HS2
      go_wp2_with fail
      have q1 : ¬ w.heap.size + 1 + 1 = w.heap.size := by omega
      have q2 : ¬ w.heap.size + 1 + 1 = w.heap.size + 1 := by omega
      go_region_held3 (fun w' => w'.cell? ⟨w.heap.size, 0, none⟩ = some (.slice A n c) ∧ w'.cell? ⟨w.heap.size, 1, none⟩ = some (.slice B n2 d) ∧ w'.cell? ⟨w.heap.size + 1, 0, none⟩ = some (.slice C n3 c2) ∧ w'.cell? ⟨w.heap.size + 1, 1, none⟩ = some (.slice D n4 d2))
        (first | (exact HK.out _ (by first | assumption | exact (Below.refl _ _).drew)) | go_keep)
        (first
          | (go_at_call_of 97 A; (with_reducible refine (HC1.out _ (by first | assumption | exact (Below.refl _ _).drew)).mono ?_); rintro _ w4 ⟨A4, c4, rfl, s4, k4⟩; have hb4 : Below w2.heap.size w2 w4 := below_tr (by first | assumption | exact (Below.refl _ _).drew) k4; obtain ⟨a0, a1⟩ := (HR.out _ hb4).1.get2; have a2 : ∀ j, w4.frozen? ⟨w.heap.size + 1 + 1, j, none⟩ = false := (HR.out _ hb4).2)
          | (go_at_call_of 97 B; (with_reducible refine (HC2.out _ (by first | assumption | exact (Below.refl _ _).drew)).mono ?_); rintro _ w5 ⟨A5, c5, rfl, s5, k5⟩; have hb5 : Below w2.heap.size w2 w5 := below_tr (by first | assumption | exact (Below.refl _ _).drew) k5; obtain ⟨b0, b1⟩ := (HR.out _ hb5).1.get2; have b2 : ∀ j, w5.frozen? ⟨w.heap.size + 1 + 1, j, none⟩ = false := (HR.out _ hb5).2))
      have HA := hid (SpanB.low (s4.below k5) (show w2.heap.size ≤ _ from Nat.le_refl _))
      have HE := hid (SpanB.low s5 (show w2.heap.size ≤ _ from hb4.size))
      have HX5 := hid (HR.out _ hb5).1
      have HB5 := hid (below_tr HB2.out hb5)
      have hg := HG.out
      have hgw := HB2.out.size
      clear s4 s5 k4 k5 hb4 hb5 a0 a1 a2 b0 b1 b2 q1 q2
      go_wp2_with fail
      refine ret2 HX5.out (v := setV A4 _ c4 A5 _ c5) (fun w3 h3 => ?_) rfl (fun h3 => ⟨A4, c4, A5, c5, rfl, (HA.out.set hg).low hgw, (HE.out.set hg).low hgw, HB5.out.trans (h3.mono (by omega))⟩)
      obtain ⟨k0, k1⟩ := h3.get2
      simp [results, Tryz.results156, go_sem, k0, k1]
theorem srowsAnd_do (A B : Option Addr) (c d : Nat) (l m : List SpanL) (w : World) (hl : Spans w A l) (hm : Spans w B m) (hfl : fitL l) (hfm : fitL m) (hln : l.length + 2 * m.length ≤ 39999) : Calls Tryz.prog 95 #[.slice A l.length c, .slice B m.length d] w (RowN w (randL l m)) := callN (and_any w.heap.size A B c d l m w hl hm hfl hfm (by omega) (Nat.le_refl _))
set_option maxRecDepth 100000 in
set_option maxHeartbeats 2000000 in
theorem srowsAnd (A B C D : Option Addr) (c d c2 d2 : Nat) (l m p q : List SpanL) (w : World) (hg : First w) (hl : Spans w A l) (hm : Spans w B m) (hp : Spans w C p) (hq : Spans w D q) (hfl : fitL l) (hfm : fitL m) (hfp : fitL p) (hfq : fitL q)
    (hln : l.length ≤ 10000) (hmn : m.length ≤ 10000) (hpn : p.length ≤ 10000) (hqn : q.length ≤ 10000) :
    Calls Tryz.prog 156 #[setV A l.length c B m.length d, setV C p.length c2 D q.length d2, .func (.func 95) #[] #[]] w (SetPost w (if mayS l m && mayS p q then randL l p else []) (if mayS l m && mayS p q then randL m q else [])) := by
  have HB0 := hid (below_tr (below_tr (below_new w (.cells [.slice A l.length c, .slice B m.length d].toArray 31)) (below_new _ (.cells [.slice C p.length c2, .slice D q.length d2].toArray 31))) (below_new _ (.cells [Value.slice none 0 0, .slice none 0 0].toArray 31)))
  have HY := hid (smay_any A B c d l m _ (hg.below HB0.out) (hl.below HB0.out) (hm.below HB0.out) hfl hfm (by omega) (by omega))
  have HZ := hid (fun w' (h : Below w.heap.size w w') => smay_any C D c2 d2 p q w' (hg.below h) (hp.below h) (hq.below h) hfp hfq (by omega) (by omega))
  have HD1 := hid (fun w' (h : Below w.heap.size w w') => srowsAnd_do A C c c2 l p w' (hl.below h) (hp.below h) hfl hfp (by omega))
  have HD2 := hid (fun w' (h : Below w.heap.size w w') => srowsAnd_do B D d d2 m q w' (hm.below h) (hq.below h) hfm hfq (by omega))
  clear hg hl hm hp hq hfl hfm hfp hfq
  generalize l.length = n at *
  generalize m.length = n2 at *
  generalize p.length = n3 at *
  generalize q.length = n4 at *
  cases h1 : mayS l m
  · go_enter Tryz.func156, Tryz.ntmps156
    go_wp2_with fail
    refine HY.out.mono ?_
    rintro _ w1 ⟨rfl, hb1⟩
    rw [h1]
    obtain ⟨_, _, hy, hs, hb⟩ := box_3 (cs := [.slice A n c, .slice B n2 d]) (ds := [.slice C n3 c2, .slice D n4 d2]) (es := [.slice none 0 0, .slice none 0 0]) hb1
    have HX := hid hy
    have HS := hid hs
    have HB1 := hid hb
    clear hb1 hy hs hb
    go_wp2_with fail
    refine (snone_any _).mono ?_
    rintro _ w2 ⟨rfl, hb2⟩
    have HX2 := hid (HX.out.below hb2)
    have hf : ∀ j, w2.frozen? ⟨w.heap.size + 1 + 1, j, none⟩ = false := HS.out.below HX.out.1 hb2
    have HB2 := hid (below_tr HB1.out hb2)
    obtain ⟨y0, y1⟩ := HX2.out.get2
    have hlt := HX2.out.1
    clear hb2
    go_wp2_with fail
    refine ret2 HX2.out (v := setV none 0 0 none 0 0) (fun w3 h3 => ?_) rfl (fun h3 => NonePost.set ⟨rfl, HB2.out.trans (h3.mono (by omega))⟩)
    obtain ⟨k0, k1⟩ := h3.get2
    simp [results, Tryz.results156, go_sem, k0, k1]
  · cases h2 : mayS p q
    · go_enter Tryz.func156, Tryz.ntmps156
      go_wp2_with fail
      refine HY.out.mono ?_
      rintro _ w1 ⟨rfl, hb1⟩
      rw [h1]
      obtain ⟨_, hx, hy, hs, hb⟩ := box_3 (cs := [.slice A n c, .slice B n2 d]) (ds := [.slice C n3 c2, .slice D n4 d2]) (es := [.slice none 0 0, .slice none 0 0]) hb1
      have HX := hid hy
      have HS := hid hs
      have HB1 := hid hb
      obtain ⟨z0, z1⟩ := hx.get2
      clear hb1 hx hy hs hb
      go_wp2_with fail
      refine (HZ.out _ HB1.out).mono ?_
      rintro _ w2 ⟨rfl, hb2⟩
      rw [h2]
      have HX2 := hid (HX.out.below hb2)
      have HS2 := hid (HS.out.below HX.out.1 hb2)
      have HB2 := hid (below_tr HB1.out hb2)
      clear hb2 z0 z1
      go_wp2_with fail
      refine (snone_any _).mono ?_
      rintro _ w3 ⟨rfl, hb3⟩
      have HX3 := hid (HX2.out.below hb3)
      have hf : ∀ j, w3.frozen? ⟨w.heap.size + 1 + 1, j, none⟩ = false := HS2.out.below HX2.out.1 hb3
      have HB3 := hid (below_tr HB2.out hb3)
      obtain ⟨y0, y1⟩ := HX3.out.get2
      have hlt := HX3.out.1
      clear hb3
      go_wp2_with fail
      refine ret2 HX3.out (v := setV none 0 0 none 0 0) (fun w3 h3 => ?_) rfl (fun h3 => NonePost.set ⟨rfl, HB3.out.trans (h3.mono (by omega))⟩)
      obtain ⟨k0, k1⟩ := h3.get2
      simp [results, Tryz.results156, go_sem, k0, k1]
    · go_enter Tryz.func156, Tryz.ntmps156
      go_wp2_with fail
      refine HY.out.mono ?_
      rintro _ w1 ⟨rfl, hb1⟩
      rw [h1]
      obtain ⟨hw, hx, hy, hs, hb⟩ := box_3 (cs := [.slice A n c, .slice B n2 d]) (ds := [.slice C n3 c2, .slice D n4 d2]) (es := [.slice none 0 0, .slice none 0 0]) hb1
      have HW := hid hw
      have HV := hid hx
      have HX := hid hy
      have HS := hid hs
      have HB1 := hid hb
      obtain ⟨z0, z1⟩ := hx.get2
      clear hb1 hw hx hy hs hb
      go_wp2_with fail
      refine (HZ.out _ HB1.out).mono ?_
      rintro _ w2 ⟨rfl, hb2⟩
      rw [h2]
      have HX2 := hid (HX.out.below hb2)
      have HS2 := hid (HS.out.below HX.out.1 hb2)
      have HB2 := hid (below_tr HB1.out hb2)
      have HK := hid (fun w' (h : Below w2.heap.size w2 w') => ((fun (a : _ ∧ _) (b : _ ∧ _) => ⟨a.1, a.2, b.1, b.2⟩) ((HW.out.below hb2).below h).get2 ((HV.out.below hb2).below h).get2 : w'.cell? ⟨w.heap.size, 0, none⟩ = some (.slice A n c) ∧ w'.cell? ⟨w.heap.size, 1, none⟩ = some (.slice B n2 d) ∧ w'.cell? ⟨w.heap.size + 1, 0, none⟩ = some (.slice C n3 c2) ∧ w'.cell? ⟨w.heap.size + 1, 1, none⟩ = some (.slice D n4 d2)))
      have HR := hid (fun w' (h : Below w2.heap.size w2 w') => And.intro (HX2.out.below h) (HS2.out.below HX2.out.1 h))
      have HC1 := hid (fun w' (h : Below w2.heap.size w2 w') => HD1.out w' (below_tr HB2.out h))
      have HC2 := hid (fun w' (h : Below w2.heap.size w2 w') => HD2.out w' (below_tr HB2.out h))
      clear hb2 z0 z1 HD1 HD2 HZ HY HB1 HB0 HX HS HV HW
      have HG : Hid (w.heap.size + 1 + 1 < w2.heap.size) := hid HX2.out.1
      clear HX2 HS2
      go_wp2_with fail
      have q1 : ¬ w.heap.size + 1 + 1 = w.heap.size := by omega
      have q2 : ¬ w.heap.size + 1 + 1 = w.heap.size + 1 := by omega
      go_region_held3 (fun w' => w'.cell? ⟨w.heap.size, 0, none⟩ = some (.slice A n c) ∧ w'.cell? ⟨w.heap.size, 1, none⟩ = some (.slice B n2 d) ∧ w'.cell? ⟨w.heap.size + 1, 0, none⟩ = some (.slice C n3 c2) ∧ w'.cell? ⟨w.heap.size + 1, 1, none⟩ = some (.slice D n4 d2))
        (first | (exact HK.out _ (by first | assumption | exact (Below.refl _ _).drew)) | go_keep)
        (first
          | (go_at_call_of 95 A; (with_reducible refine (HC1.out _ (by first | assumption | exact (Below.refl _ _).drew)).mono ?_); rintro _ w4 ⟨A4, c4, rfl, s4, k4⟩; have hb4 : Below w2.heap.size w2 w4 := below_tr (by first | assumption | exact (Below.refl _ _).drew) k4; obtain ⟨a0, a1⟩ := (HR.out _ hb4).1.get2; have a2 : ∀ j, w4.frozen? ⟨w.heap.size + 1 + 1, j, none⟩ = false := (HR.out _ hb4).2)
          | (go_at_call_of 95 B; (with_reducible refine (HC2.out _ (by first | assumption | exact (Below.refl _ _).drew)).mono ?_); rintro _ w5 ⟨A5, c5, rfl, s5, k5⟩; have hb5 : Below w2.heap.size w2 w5 := below_tr (by first | assumption | exact (Below.refl _ _).drew) k5; obtain ⟨b0, b1⟩ := (HR.out _ hb5).1.get2; have b2 : ∀ j, w5.frozen? ⟨w.heap.size + 1 + 1, j, none⟩ = false := (HR.out _ hb5).2))
      have HA := hid (SpanB.low (s4.below k5) (show w2.heap.size ≤ _ from Nat.le_refl _))
      have HE := hid (SpanB.low s5 (show w2.heap.size ≤ _ from hb4.size))
      have HX5 := hid (HR.out _ hb5).1
      have HB5 := hid (below_tr HB2.out hb5)
      have hg := HG.out
      have hgw := HB2.out.size
      clear s4 s5 k4 k5 hb4 hb5 a0 a1 a2 b0 b1 b2 q1 q2
      go_wp2_with fail
      refine ret2 HX5.out (v := setV A4 _ c4 A5 _ c5) (fun w3 h3 => ?_) rfl (fun h3 => ⟨A4, c4, A5, c5, rfl, (HA.out.set hg).low hgw, (HE.out.set hg).low hgw, HB5.out.trans (h3.mono (by omega))⟩)
      obtain ⟨k0, k1⟩ := h3.get2
      simp [results, Tryz.results156, go_sem, k0, k1]
set_option maxHeartbeats 1000000 in
theorem sor_any (A B C D : Option Addr) (c d c2 d2 : Nat) (l m p q : List SpanL) (w : World) (hg : First w) (hl : Spans w A l) (hm : Spans w B m) (hp : Spans w C p) (hq : Spans w D q) (hfl : fitL l) (hfm : fitL m) (hfp : fitL p) (hfq : fitL q)
    (hln : l.length ≤ 10000) (hmn : m.length ≤ 10000) (hpn : p.length ≤ 10000) (hqn : q.length ≤ 10000) :
    Calls Tryz.prog 100 #[setV A l.length c B m.length d, setV C p.length c2 D q.length d2] w (SetPost w (if mayS l m && mayS p q then rorL l p else []) (if mayS l m && mayS p q then rorL m q else [])) := by
  have HB0 := hid (below_tr (below_tr (below_new w (.cells [.slice A l.length c, .slice B m.length d].toArray 31)) (below_new _ (.cells [.slice C p.length c2, .slice D q.length d2].toArray 31))) (below_new _ (.cells [Value.slice none 0 0, .slice none 0 0].toArray 31)))
  have HY := hid (srowsOr A B C D c d c2 d2 l m p q _ (hg.below HB0.out) (hl.below HB0.out) (hm.below HB0.out) (hp.below HB0.out) (hq.below HB0.out) hfl hfm hfp hfq hln hmn hpn hqn)
  clear hg hl hm hp hq hfl hfm hfp hfq
  generalize (if mayS l m && mayS p q then rorL l p else []) = x at *
  generalize (if mayS l m && mayS p q then rorL m q else []) = y at *
  generalize l.length = n at *
  generalize m.length = n2 at *
  generalize p.length = n3 at *
  generalize q.length = n4 at *
  go_enter Tryz.func100, Tryz.ntmps100
  go_wp2_with fail
  refine HY.out.mono ?_
  rintro _ w1 ⟨A1, c1, B1, d1, rfl, h1, h2, hb1⟩
  obtain ⟨_, _, hy, hs, hb⟩ := box_3 (cs := [.slice A n c, .slice B n2 d]) (ds := [.slice C n3 c2, .slice D n4 d2]) (es := [.slice none 0 0, .slice none 0 0]) hb1
  have HX := hid hy
  have hf : ∀ j, w1.frozen? ⟨w.heap.size + 1 + 1, j, none⟩ = false := hs
  have HB := hid hb
  have H1 := hid h1
  have H2 := hid h2
  obtain ⟨y0, y1⟩ := hy.get2
  have hlt := hy.1
  have hz : w.heap.size + 1 + 1 < (((w.alloc (.cells [.slice A n c, .slice B n2 d].toArray 31)).alloc (.cells [.slice C n3 c2, .slice D n4 d2].toArray 31)).alloc (.cells [Value.slice none 0 0, .slice none 0 0].toArray 31)).heap.size := by simp
  have HZ := hid hz
  have HB0s := hid HB0.out.size
  clear hb1 hy hs hb h1 h2 hz
  go_wp2_with fail
  refine ret2 HX.out (v := setV A1 _ c1 B1 _ d1) (fun w3 h3 => ?_) rfl (fun h3 => ⟨A1, c1, B1, d1, rfl, (H1.out.set HZ.out).low HB0s.out, (H2.out.set HZ.out).low HB0s.out, HB.out.trans (h3.mono (by omega))⟩)
  obtain ⟨k0, k1⟩ := h3.get2
  simp [results, Tryz.results100, go_sem, k0, k1]
end Go.Proofs.YtjceaniffooohaaGreatDoor
/- Sets: the walks of Not, Within, Apart, Exact. -/
namespace Go.Proofs.YtjceaniffooohaaGreatDoor
open Go.RowKit Go.Lib
set_option linter.unusedVariables false
set_option linter.unusedSimpArgs false

def notS (l m : List SpanL) : List SpanL × List SpanL := if mayS l m then (rnotL l, rnotL m) else ([], [])
def andS (l m p q : List SpanL) : List SpanL × List SpanL := if mayS l m && mayS p q then (randL l p, randL m q) else ([], [])
def orS (l m p q : List SpanL) : List SpanL × List SpanL := if mayS l m && mayS p q then (rorL l p, rorL m q) else ([], [])
def minusS (l m p q : List SpanL) : List SpanL × List SpanL := if mayS l m && mayS p q then (randL l (rnotL p), randL m (rnotL q)) else ([], [])
def withinS (l m p q : List SpanL) : Bool := mayS l m && mayS p q && withinR l p && withinR m q
def apartS (l m p q : List SpanL) : Bool := mayS l m && mayS p q && sameS (andS l m p q).1 (andS l m p q).2 [] []
theorem if2 {α : Type} {b : Bool} {x y : α} (h : b = true) : (if b then x else y) = x := by rw [h]; rfl
end Go.Proofs.YtjceaniffooohaaGreatDoor
/- Sets: the walk of Exact. -/
namespace Go.Proofs.YtjceaniffooohaaGreatDoor
open Go.RowKit Go.Lib
set_option linter.unusedVariables false
set_option linter.unusedSimpArgs false

def exactS (v : Ver) : List SpanL × List SpanL := if mayV v = false then ([], []) else if (bts v.pre).isEmpty then ([⟨aheadR v, uptoL (relV v)⟩], []) else ([], [⟨⟨0, bareV v, false⟩, ⟨0, bareV v, true⟩⟩])
theorem core_bare (v : Ver) : v.core = bareV v := rfl
theorem Box.set5 {w : World} {g : Nat} {v : Ver} (u : Ver) (h : Box w g v.cells) : Box (w.setCells g 0 u.cells) g u.cells := h.set (o := 0) (vs := u.cells) (by simp)
/-- a row laid, then a set's two cells written -/
theorem ret2n {P : Program} {fn : Func} {R : Ending → World → Prop} {a : Act} {w : World} {v : Value} {g : Nat} {x0 x1 y0 y1 : Value} {o : Obj} (hx : Box w g [x0, x1]) (hr : ∀ w3, Box w3 g [y0, y1] → (results fn a.tmps).run P w3 = .ok v w3) (hd : a.defers = [])
    (hR : Below g w ((w.setCells g 0 [y0, y1]).alloc o) → R (.returned v) ((w.setCells g 0 [y0, y1]).alloc o)) : bodyPost P fn R .ret a (((w.setCell ⟨g, 0, none⟩ y0).setCell ⟨g, 1, none⟩ y1).alloc o) := by
  rw [show ((w.setCell ⟨g, 0, none⟩ y0).setCell ⟨g, 1, none⟩ y1) = w.setCells g 0 [y0, y1] from rfl]
  have hb : Box (w.setCells g 0 [y0, y1]) g [y0, y1] := hx.set (o := 0) (vs := [y0, y1]) (by simp)
  exact bodyPost_ret (hr _ (hb.below (below_new _ _))) hd (hR ((Below.setCells (Nat.le_refl _) _ _ (Below.refl _ _)).alloc (Nat.le_of_lt hb.1) _))
theorem keep5n {w : World} {k g : Nat} {x0 x1 x2 x3 x4 : Value} (h : Box w k [x0, x1, x2, x3, x4]) (hne : k ≠ g) (y0 y1 : Value) (o : Obj) : let w' := ((w.setCell ⟨g, 0, none⟩ y0).setCell ⟨g, 1, none⟩ y1).alloc o
    w'.cell? ⟨k, 0, none⟩ = some x0 ∧ w'.cell? ⟨k, 1, none⟩ = some x1 ∧ w'.cell? ⟨k, 2, none⟩ = some x2 ∧ w'.cell? ⟨k, 3, none⟩ = some x3 ∧ w'.cell? ⟨k, 4, none⟩ = some x4 :=
  ((Box.setOther (o := 0) (vs := [y0, y1]) h hne).below (below_new _ _)).get5
theorem SpanB.fresh (w : World) (s : SpanL) (t : TypeId) : SpanB (w.alloc (.cells s.cells.toArray t)) w.heap.size (some ⟨w.heap.size, 0, none⟩) [s] :=
  ⟨Spans.one (Box.new w s.cells t), fun ad e => by injection e with e; rw [← e]; exact Nat.le_refl _⟩

end Go.Proofs.YtjceaniffooohaaGreatDoor
