/- Sets: the reference's Minus, Exact; its functions in one form for the laws. -/
import Derived.Test.YtmnjnoggchgnjaaGreatDoorSetR
namespace Go.Proofs.YtmnjnoggchgnjaaGreatDoor
open Go.RowKit Go.Lib
open Rw
set_option linter.unusedVariables false
set_option linter.unusedSimpArgs false

set_option maxHeartbeats 1000000 in
theorem rbehind3_any (v : Ver) (w : World) : Calls Tryz.prog 86 #[v.val] w (CutPost w ⟨0, bareV v, true⟩) := by
  go_enter Tryz.func86, Tryz.ntmps86
  go_wp2_with fail
  refine (rcore_any v _).mono ?_
  rintro _ w1 ⟨rfl, hb1⟩
  have hs1 := (soft_2 (cs := v.cells) (ds := zeroC.cells) hb1).2
  obtain ⟨hx1, hy1, hbw1⟩ := box_2 (cs := v.cells) (ds := zeroC.cells) hb1
  have HX := hid hx1
  have HY := hid hy1
  have HS := hid hs1
  have HBW := hid hbw1
  have hl0 := hx1.1
  have hl1 := hy1.1
  clear hb1 hx1 hy1 hbw1 hs1
  generalize bareV v = u at *
  have hf : ∀ j, w1.frozen? ⟨w.heap.size + 1, j, none⟩ = false := HS.out
  obtain ⟨t0, t1, t2, t3, t4, t5, t6⟩ := HY.out.get7
  have hlr := HY.out.1
  go_wp2_with fail
  refine ret7 HY.out (v := (CutL.val ⟨0, u, true⟩)) (fun w3 h3 => ?_) rfl (fun w3 h3 => CutPost.of rfl rfl (HBW.out.trans (h3.mono (by omega))))
  obtain ⟨k0, k1, k2, k3, k4, k5, k6⟩ := h3.get7
  simp [results, Tryz.results86, go_sem, k0, k1, k2, k3, k4, k5, k6]
set_option maxRecDepth 100000 in
set_option maxHeartbeats 2000000 in
theorem rsminus_yes (A B C D : Option Addr) (c d c2 d2 : Nat) (l m p q : List SpanL) (w : World) (hl : Spans w A l) (hm : Spans w B m) (hp : Spans w C p) (hq : Spans w D q) (hfl : fitL l) (hfm : fitL m) (hfp : fitL p) (hfq : fitL q)
    (hln : l.length ≤ 4000) (hmn : m.length ≤ 4000) (hpn : p.length ≤ 4000) (hqn : q.length ≤ 4000) (V1 : ValS l m) (V2 : ValS p q) :
    Calls Tryz.prog 32 #[setV A l.length c B m.length d, setV C p.length c2 D q.length d2] w (SetPost w (randL l (rnotL p)) (randL m (rnotL q))) := by
  have HB0 := hid (below_tr (below_tr (below_new w (.cells [.slice A l.length c, .slice B m.length d].toArray 25)) (below_new _ (.cells [.slice C p.length c2, .slice D q.length d2].toArray 25))) (below_new _ (.cells [Value.slice none 0 0, .slice none 0 0].toArray 25)))
  have HY := hid (rsmay_any A B c d l m _ (hl.below HB0.out) (hm.below HB0.out) hfl hfm (by omega) (by omega))
  have HZ := hid (fun w' (h : Below w.heap.size w w') => rsmay_any C D c2 d2 p q w' (hp.below h) (hq.below h) hfp hfq (by omega) (by omega))
  have HD1 := hid (fun w' (h : Below w.heap.size w w') => rsnot_any C D c2 d2 p q w' (hp.below h) (hq.below h) hfp hfq (by omega) (by omega))
  have g1 := rnotL_good hfp
  have g2 := rnotL_good hfq
  have HD2 := hid (fun w' (h : Below w.heap.size w w') (E G : Option Addr) (e f : Nat) (hE : Spans w' E (rnotL p)) (hF : Spans w' G (rnotL q)) => rsand_any A B E G c d e f l m (rnotL p) (rnotL q) w' (hl.below h) (hm.below h) hE hF hfl hfm g1.1 g2.1 (by omega) (by omega) (by omega) (by omega))
  simp only [notS_val V2, V1.ok, V2.not.ok, Bool.and_self, if_true] at HD1 HD2
  rw [V1.ok] at HY
  simp only [V2.ok] at HZ
  clear hl hm hp hq hfl hfm hfp hfq g1 g2 V1 V2
  generalize randL l (rnotL p) = x at *
  generalize randL m (rnotL q) = y at *
  generalize rnotL p = np at *
  generalize rnotL q = nq at *
  generalize l.length = n at *
  generalize m.length = n2 at *
  generalize p.length = n3 at *
  generalize q.length = n4 at *
  go_enter Tryz.func32, Tryz.ntmps32
  go_wp2_with fail
  refine HY.out.mono ?_
  rintro _ w1 ⟨rfl, hb1⟩
  obtain ⟨hw, hx, hy, hs, hb⟩ := box_3 (cs := [.slice A n c, .slice B n2 d]) (ds := [.slice C n3 c2, .slice D n4 d2]) (es := [.slice none 0 0, .slice none 0 0]) hb1
  have HW := hid hw
  have HV := hid hx
  have HX := hid hy
  have HS := hid hs
  have HB1 := hid hb
  obtain ⟨z0, z1⟩ := hx.get2
  clear hb1 hw hx hy hs hb
  go_wp2_with fail
  refine (HZ.out _ HB1.out).mono ?_
  rintro _ w2 ⟨rfl, hb2⟩
  have HX2 := hid (HX.out.below hb2)
  have HS2 := hid (HS.out.below HX.out.1 hb2)
  have HB2 := hid (below_tr HB1.out hb2)
  have HK := hid (fun w' (h : Below w2.heap.size w2 w') => ((fun (a : _ ∧ _) (b : _ ∧ _) => ⟨a.1, a.2, b.1, b.2⟩) ((HW.out.below hb2).below h).get2 ((HV.out.below hb2).below h).get2 : w'.cell? ⟨w.heap.size, 0, none⟩ = some (.slice A n c) ∧ w'.cell? ⟨w.heap.size, 1, none⟩ = some (.slice B n2 d) ∧ w'.cell? ⟨w.heap.size + 1, 0, none⟩ = some (.slice C n3 c2) ∧ w'.cell? ⟨w.heap.size + 1, 1, none⟩ = some (.slice D n4 d2)))
  have HR := hid (fun w' (h : Below w2.heap.size w2 w') => And.intro (HX2.out.below h) (HS2.out.below HX2.out.1 h))
  have HC1 := hid (fun w' (h : Below w2.heap.size w2 w') => HD1.out w' (below_tr HB2.out h))
  have HC2 := hid (fun w' (h : Below w2.heap.size w2 w') => HD2.out w' (below_tr HB2.out h))
  clear hb2 z0 z1 HD1 HD2 HZ HY HB1 HB0 HX HS HV HW
  have HG : Hid (w.heap.size + 1 + 1 < w2.heap.size) := hid HX2.out.1
  clear HX2 HS2
  go_wp2_with fail
  have q1 : ¬ w.heap.size + 1 + 1 = w.heap.size := by omega
  have q2 : ¬ w.heap.size + 1 + 1 = w.heap.size + 1 := by omega
  go_region_held3 (fun w' => w'.cell? ⟨w.heap.size, 0, none⟩ = some (.slice A n c) ∧ w'.cell? ⟨w.heap.size, 1, none⟩ = some (.slice B n2 d) ∧ w'.cell? ⟨w.heap.size + 1, 0, none⟩ = some (.slice C n3 c2) ∧ w'.cell? ⟨w.heap.size + 1, 1, none⟩ = some (.slice D n4 d2))
    (first | (exact HK.out _ (by first | assumption | exact (Below.refl _ _).drew)) | go_keep)
    (first
      | (go_at_call 30; (with_reducible refine (HC1.out _ (by first | assumption | exact (Below.refl _ _).drew)).mono ?_); rintro _ w4 ⟨A4, c4, B4, d4, rfl, s4, t4, k4⟩; have hb4 : Below w2.heap.size w2 w4 := below_tr (by first | assumption | exact (Below.refl _ _).drew) k4; have p4 := s4.1; have r4 := t4.1)
      | (go_at_call 29; (with_reducible refine (HC2.out _ (by first | assumption | exact (Below.refl _ _).drew) _ _ _ _ p4 r4).mono ?_); rintro _ w5 ⟨A5, c5, B5, d5, rfl, s5, t5, k5⟩; have hb5 : Below w2.heap.size w2 w5 := below_tr (by first | assumption | exact (Below.refl _ _).drew) k5; obtain ⟨b0, b1⟩ := (HR.out _ hb5).1.get2; have b2 : ∀ j, w5.frozen? ⟨w.heap.size + 1 + 1, j, none⟩ = false := (HR.out _ hb5).2))
  have HA := hid (SpanB.low s5 (show w2.heap.size ≤ _ from hb4.size))
  have HE := hid (SpanB.low t5 (show w2.heap.size ≤ _ from hb4.size))
  have HX5 := hid (HR.out _ hb5).1
  have HB5 := hid (below_tr HB2.out hb5)
  have hg := HG.out
  have hgw := HB2.out.size
  clear s4 t4 p4 r4 s5 t5 k4 k5 hb4 hb5 b0 b1 b2 q1 q2
  go_wp2_with fail
  refine ret2 HX5.out (v := setV A5 _ c5 B5 _ d5) (fun w3 h3 => ?_) rfl (fun h3 => ⟨A5, c5, B5, d5, rfl, (HA.out.set hg).low hgw, (HE.out.set hg).low hgw, HB5.out.trans (h3.mono (by omega))⟩)
  obtain ⟨k0, k1⟩ := h3.get2
  simp [results, Tryz.results32, go_sem, k0, k1]
set_option maxHeartbeats 1000000 in
theorem rsexact_any (v : Ver) (w : World) (hv : v.fit) : Calls Tryz.prog 41 #[v.val] w (SetPost w (exactS v).1 (exactS v).2) := by
  have HB0 := hid (below_tr (below_new w (.cells v.cells.toArray 28)) (below_new _ (.cells [Value.slice none 0 0, .slice none 0 0].toArray 25)))
  have hM := rmay_any v
  have CA := hid (fun w' => rsahead_any v w')
  have CB := hid (fun w' => rbehind_any v w')
  have CC := hid (fun w' => rbefore_any v w')
  have CD := hid (fun w' => rbehind3_any v w')
  cases h1 : mayV v
  · have HE := hid (show exactS v = ([], []) by rw [exactS, if_pos h1])
    go_enter Tryz.func41, Tryz.ntmps41
    go_wp2_with fail
    refine (hM _ hv).mono ?_
    rintro _ w1 ⟨rfl, hb1⟩
    rw [h1]
    have hs := (soft_2 (cs := v.cells) (ds := [.slice none 0 0, .slice none 0 0]) hb1).2
    obtain ⟨_, hy, hb⟩ := box_2 (cs := v.cells) (ds := [.slice none 0 0, .slice none 0 0]) hb1
    have HX := hid hy
    have HS := hid hs
    have HB := hid hb
    clear hb1 hy hs hb hM
    go_wp2_with fail
    refine (rsnone_any _).mono ?_
    rintro _ w2 ⟨rfl, hb2⟩
    have HX2 := hid (HX.out.below hb2)
    have hf : ∀ j, w2.frozen? ⟨w.heap.size + 1, j, none⟩ = false := HS.out.below HX.out.1 hb2
    have HB2 := hid (below_tr HB.out hb2)
    obtain ⟨y0, y1⟩ := HX2.out.get2
    have hlt := HX2.out.1
    clear hb2
    go_wp2_with fail
    refine ret2 HX2.out (v := setV none 0 0 none 0 0) (fun w3 h3 => ?_) rfl (fun h3 => by rw [HE.out]; exact NonePost.set ⟨rfl, HB2.out.trans (h3.mono (by omega))⟩)
    obtain ⟨k0, k1⟩ := h3.get2
    simp [results, Tryz.results41, go_sem, k0, k1]
  · by_cases h4 : 0 < v.pre.size
    · obtain ⟨e4, n4⟩ := ne_of_size h4
      have HE := hid (show exactS v = ([], [⟨⟨0, bareV v, false⟩, ⟨0, bareV v, true⟩⟩]) by rw [exactS, if_neg (by simp [h1]), bts, e4]; rfl)
      go_enter Tryz.func41, Tryz.ntmps41
      go_wp2_with fail
      refine (hM _ hv).mono ?_
      rintro _ w3 ⟨rfl, hb1⟩
      rw [h1]
      have hs := (soft_2 (cs := v.cells) (ds := [.slice none 0 0, .slice none 0 0]) hb1).2
      obtain ⟨hx, hy, hb⟩ := box_2 (cs := v.cells) (ds := [.slice none 0 0, .slice none 0 0]) hb1
      have HV3 := hid hx
      have HX3 := hid hy
      have HS3 := hid hs
      have HB3 := hid hb
      have HK := hid (fun w' (h : Below w3.heap.size w3 w') => (HV3.out.below h).get5)
      have HR := hid (fun w' (h : Below w3.heap.size w3 w') => And.intro (HX3.out.below h) (HS3.out.below HX3.out.1 h))
      obtain ⟨t0, t1, t2, t3, t4⟩ := hx.get5
      clear hb1 hx hy hs hb hM
      go_wp2_with fail
      have q1 : ¬ w.heap.size + 1 = w.heap.size := by omega
      go_region_held3 (fun w' => w'.cell? ⟨w.heap.size, 0, none⟩ = some (.int .i64 v.maj) ∧ w'.cell? ⟨w.heap.size, 1, none⟩ = some (.int .i64 v.min) ∧ w'.cell? ⟨w.heap.size, 2, none⟩ = some (.int .i64 v.pat) ∧ w'.cell? ⟨w.heap.size, 3, none⟩ = some (.string v.pre) ∧ w'.cell? ⟨w.heap.size, 4, none⟩ = some (.string v.bld))
        (first | (exact HK.out _ (by first | assumption | exact (Below.refl _ _).drew | exact below_alloc (by assumption) _)) | (exact keep5n HV5.out (by omega) _ _ _) | go_keep)
        (first
          | (go_at_call 85; (with_reducible refine (CC.out _).mono ?_); rintro _ w4 ⟨rfl, k4⟩; have hb4 : Below w3.heap.size w3 w4 := below_tr (by first | assumption | exact (Below.refl _ _).drew | exact below_alloc (by assumption) _) k4)
          | (go_at_call 86; (with_reducible refine (CD.out _).mono ?_); rintro _ w5 ⟨rfl, k5⟩; have hb5 : Below w3.heap.size w3 w5 := below_tr (by first | assumption | exact (Below.refl _ _).drew | exact below_alloc (by assumption) _) k5; obtain ⟨b0, b1⟩ := (HR.out _ hb5).1.get2; have b2 : ∀ j, w5.frozen? ⟨w.heap.size + 1, j, none⟩ = false := (HR.out _ hb5).2; have b3 := (HR.out _ hb5).1.1; have HV5 := hid (HV3.out.below hb5)))
      have HX5 := hid (HR.out _ hb5).1
      have HB5 := hid (below_tr HB3.out hb5)
      clear t0 t1 t2 t3 t4 b0 b1 b2 b3 k4 k5 hb4 hb5
      go_wp2_with fail
      refine ret2n HX5.out (v := setV none 0 0 (some ⟨w5.heap.size, 0, none⟩) 1 1) (fun w6 h6 => ?_) rfl (fun h6 => ?_)
      · obtain ⟨k0, k1⟩ := h6.get2
        simp [results, Tryz.results41, go_sem, k0, k1]
      · rw [HE.out]
        have hq := SpanB.fresh (w5.setCells (w.heap.size + 1) 0 [.slice none 0 0, .slice (some ⟨w5.heap.size, 0, none⟩) 1 1]) ⟨⟨0, bareV v, false⟩, ⟨0, bareV v, true⟩⟩ 60
        rw [setCells_size] at hq
        exact ⟨none, 0, _, 1, rfl, SpanB.nil _ _, hq.low HB5.out.size, HB5.out.trans (h6.mono (by omega))⟩
    · have e4 := isEmpty_of h4
      have HE := hid (show exactS v = ([⟨aheadR v, uptoL (relV v)⟩], []) by rw [exactS, if_neg (by simp [h1]), bts, e4]; rfl)
      generalize aheadR v = ca at *
      generalize uptoL (relV v) = cb at *
      go_enter Tryz.func41, Tryz.ntmps41
      go_wp2_with fail
      refine (hM _ hv).mono ?_
      rintro _ w3 ⟨rfl, hb1⟩
      rw [h1]
      have hs := (soft_2 (cs := v.cells) (ds := [.slice none 0 0, .slice none 0 0]) hb1).2
      obtain ⟨hx, hy, hb⟩ := box_2 (cs := v.cells) (ds := [.slice none 0 0, .slice none 0 0]) hb1
      have HV3 := hid hx
      have HX3 := hid hy
      have HS3 := hid hs
      have HB3 := hid hb
      have HK := hid (fun w' (h : Below w3.heap.size w3 w') => (HV3.out.below h).get5)
      have HR := hid (fun w' (h : Below w3.heap.size w3 w') => And.intro (HX3.out.below h) (HS3.out.below HX3.out.1 h))
      obtain ⟨t0, t1, t2, t3, t4⟩ := hx.get5
      clear hb1 hx hy hs hb hM
      go_wp2_with fail
      have q1 : ¬ w.heap.size + 1 = w.heap.size := by omega
      go_region_held3 (fun w' => w'.cell? ⟨w.heap.size, 0, none⟩ = some (.int .i64 v.maj) ∧ w'.cell? ⟨w.heap.size, 1, none⟩ = some (.int .i64 v.min) ∧ w'.cell? ⟨w.heap.size, 2, none⟩ = some (.int .i64 v.pat) ∧ w'.cell? ⟨w.heap.size, 3, none⟩ = some (.string v.pre) ∧ w'.cell? ⟨w.heap.size, 4, none⟩ = some (.string v.bld))
        (first | (exact HK.out _ (by first | assumption | exact (Below.refl _ _).drew | exact below_alloc (by assumption) _)) | (exact keep5n HV5.out (by omega) _ _ _) | go_keep)
        (first
          | (go_at_call 87; (with_reducible refine (CA.out _).mono ?_); rintro _ w4 ⟨rfl, k4⟩; have hb4 : Below w3.heap.size w3 w4 := below_tr (by first | assumption | exact (Below.refl _ _).drew | exact below_alloc (by assumption) _) k4)
          | (go_at_call 88; (with_reducible refine (CB.out _).mono ?_); rintro _ w5 ⟨rfl, k5⟩; have hb5 : Below w3.heap.size w3 w5 := below_tr (by first | assumption | exact (Below.refl _ _).drew | exact below_alloc (by assumption) _) k5; obtain ⟨b0, b1⟩ := (HR.out _ hb5).1.get2; have b2 : ∀ j, w5.frozen? ⟨w.heap.size + 1, j, none⟩ = false := (HR.out _ hb5).2; have b3 := (HR.out _ hb5).1.1; have HV5 := hid (HV3.out.below hb5)))
      have HX5 := hid (HR.out _ hb5).1
      have HB5 := hid (below_tr HB3.out hb5)
      clear t0 t1 t2 t3 t4 b0 b1 b2 b3 k4 k5 hb4 hb5
      go_wp2_with fail
      refine ret2n HX5.out (v := setV (some ⟨w5.heap.size, 0, none⟩) 1 1 none 0 0) (fun w6 h6 => ?_) rfl (fun h6 => ?_)
      · obtain ⟨k0, k1⟩ := h6.get2
        simp [results, Tryz.results41, go_sem, k0, k1]
      · rw [HE.out]
        have hq := SpanB.fresh (w5.setCells (w.heap.size + 1) 0 [.slice (some ⟨w5.heap.size, 0, none⟩) 1 1, .slice none 0 0]) ⟨ca, cb⟩ 60
        rw [setCells_size] at hq
        exact ⟨_, 1, none, 0, rfl, hq.low HB5.out.size, SpanB.nil _ _, HB5.out.trans (h6.mono (by omega))⟩
section
variable {n n2 : Nat} {w : World} {A B C D : Option Addr} {l m p q : List SpanL} {v : Ver}
theorem law_orR (N : Nat) (c d c2 d2 : Nat) (_ : First w) (h : SetAt n w A l B m) (k : SetAt n2 w C p D q) (hN : 1 + 2 * (n + n2) ≤ N) (hn : n + n2 ≤ 5000) : Calls Tryz.prog 28 #[setV A l.length c B m.length d, setV C p.length c2 D q.length d2] w (SetBack N w (orS l m p q).1 (orS l m p q).2) := by
  have h1 := h.nrel; have h2 := h.npre; have h3 := k.nrel; have h4 := k.npre
  refine (rsor_any A B C D c d c2 d2 l m p q w h.rel h.pre k.rel k.pre h.frel h.fpre k.frel k.fpre (by omega) (by omega) (by omega) (by omega)).mono fun e w' hp => ?_
  rw [h.val.ok, k.val.ok] at hp
  rw [orS_val h.val k.val]
  dsimp only
  have g1 := rorL_good h.frel k.frel
  have g2 := rorL_good h.fpre k.fpre
  exact SetBack.of hp g1.1 g2.1 (by omega) (by omega) (h.val.or k.val)
theorem law_andR (N : Nat) (c d c2 d2 : Nat) (_ : First w) (h : SetAt n w A l B m) (k : SetAt n2 w C p D q) (hN : 1 + 2 * (n + n2) ≤ N) (hn : n + n2 ≤ 5000) : Calls Tryz.prog 29 #[setV A l.length c B m.length d, setV C p.length c2 D q.length d2] w (SetBack N w (andS l m p q).1 (andS l m p q).2) := by
  have h1 := h.nrel; have h2 := h.npre; have h3 := k.nrel; have h4 := k.npre
  refine (rsand_any A B C D c d c2 d2 l m p q w h.rel h.pre k.rel k.pre h.frel h.fpre k.frel k.fpre (by omega) (by omega) (by omega) (by omega)).mono fun e w' hp => ?_
  rw [h.val.ok, k.val.ok] at hp
  rw [andS_val h.val k.val]
  dsimp only
  have g1 := randL_good h.frel k.frel
  have g2 := randL_good h.fpre k.fpre
  exact SetBack.of hp g1.1 g2.1 (by omega) (by omega) (h.val.and k.val)
theorem law_minusR (N : Nat) (c d c2 d2 : Nat) (_ : First w) (h : SetAt n w A l B m) (k : SetAt n2 w C p D q) (hN : 3 + 2 * n + 4 * n2 ≤ N) (hn : n + n2 ≤ 4000) : Calls Tryz.prog 32 #[setV A l.length c B m.length d, setV C p.length c2 D q.length d2] w (SetBack N w (minusS l m p q).1 (minusS l m p q).2) := by
  have h1 := h.nrel; have h2 := h.npre; have h3 := k.nrel; have h4 := k.npre
  refine (rsminus_yes A B C D c d c2 d2 l m p q w h.rel h.pre k.rel k.pre h.frel h.fpre k.frel k.fpre (by omega) (by omega) (by omega) (by omega) h.val k.val).mono fun e w' hp => ?_
  rw [minusS_val h.val k.val]
  dsimp only
  have j1 := rnotL_good k.frel
  have j2 := rnotL_good k.fpre
  have g1 := randL_good h.frel j1.1
  have g2 := randL_good h.fpre j2.1
  exact SetBack.of hp g1.1 g2.1 (by omega) (by omega) (h.val.minus k.val)
theorem law_notR (N : Nat) (c d : Nat) (_ : First w) (h : SetAt n w A l B m) (hN : 1 + 2 * n ≤ N) (hn : n ≤ 5000) : Calls Tryz.prog 30 #[setV A l.length c B m.length d] w (SetBack N w (notS l m).1 (notS l m).2) := by
  have h1 := h.nrel; have h2 := h.npre
  refine (rsnot_any A B c d l m w h.rel h.pre h.frel h.fpre (by omega) (by omega)).mono fun e w' hp => ?_
  rw [notS_val h.val] at hp ⊢
  dsimp only at hp ⊢
  have g1 := rnotL_good h.frel
  have g2 := rnotL_good h.fpre
  exact SetBack.of hp g1.1 g2.1 (by omega) (by omega) h.val.not
theorem law_withinR (c d c2 d2 : Nat) (_ : First w) (h : SetAt n w A l B m) (k : SetAt n2 w C p D q) (hn : n + n2 ≤ 5000) : Calls Tryz.prog 33 #[setV A l.length c B m.length d, setV C p.length c2 D q.length d2] w (BoolPost w (withinS l m p q)) := by
  have h1 := h.nrel; have h2 := h.npre; have h3 := k.nrel; have h4 := k.npre
  exact rswithin_any A B C D c d c2 d2 l m p q w h.rel h.pre k.rel k.pre h.frel h.fpre k.frel k.fpre (by omega) (by omega) (by omega) (by omega)
theorem law_apartR (c d c2 d2 : Nat) (_ : First w) (h : SetAt n w A l B m) (k : SetAt n2 w C p D q) (hn : n + n2 ≤ 5000) : Calls Tryz.prog 34 #[setV A l.length c B m.length d, setV C p.length c2 D q.length d2] w (BoolPost w (apartS l m p q)) := by
  have h1 := h.nrel; have h2 := h.npre; have h3 := k.nrel; have h4 := k.npre
  exact rsapart_any A B C D c d c2 d2 l m p q w h.rel h.pre k.rel k.pre h.frel h.fpre k.frel k.fpre (by omega) (by omega) (by omega) (by omega)
theorem law_sameR (c d c2 d2 : Nat) (h : SetAt n w A l B m) (k : SetAt n2 w C p D q) (hn : n + n2 ≤ 5000) : Calls Tryz.prog 27 #[setV A l.length c B m.length d, setV C p.length c2 D q.length d2] w (BoolPost w (sameS l m p q)) := by
  have h1 := h.nrel; have h2 := h.npre; have h3 := k.nrel; have h4 := k.npre
  exact rssame_any A B C D c d c2 d2 l m p q w h.rel h.pre k.rel k.pre (by omega) (by omega) (by omega) (by omega)
theorem law_mayR (c d : Nat) (_ : First w) (h : SetAt n w A l B m) (hn : n ≤ 5000) : Calls Tryz.prog 38 #[setV A l.length c B m.length d] w (BoolPost w true) := by
  have h1 := h.nrel; have h2 := h.npre
  have k := rsmay_any A B c d l m w h.rel h.pre h.frel h.fpre (by omega) (by omega)
  rw [h.val.ok] at k
  exact k
theorem law_hasR (c d : Nat) (_ : First w) (h : SetAt n w A l B m) (hv : v.fit) (hn : n ≤ 5000) : Calls Tryz.prog 39 #[setV A l.length c B m.length d, v.val] w (BoolPost w (hasS l m v)) := by
  have h1 := h.nrel; have h2 := h.npre
  exact rshas_any A B c d l m v w h.rel h.pre h.frel h.fpre (by omega) (by omega) hv
theorem law_noneR (w : World) : Calls Tryz.prog 64 #[] w (SetBack 0 w [] []) := (rsnone_any w).mono fun _ _ h => SetBack.of h.set fit_nil fit_nil (Nat.le_refl _) (Nat.le_refl _) ValS.nil
theorem law_exactR (w : World) (_ : First w) (hv : v.fit) (ho : mayV v = true) : Calls Tryz.prog 41 #[v.val] w (SetBack 1 w (exactS v).1 (exactS v).2) := by
  have g := exact_good hv
  exact (rsexact_any v w hv).mono fun e w' hp => SetBack.of hp g.1.1 g.1.2 g.2.1 g.2.2 (exact_val ho)
end
end Go.Proofs.YtmnjnoggchgnjaaGreatDoor
