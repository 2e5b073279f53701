import Derived.Test.YtplmlahpmnjneaaGreatDoorNSe
import Derived.Test.YtplmlahpmnjneaaGreatDoorNBh
import Derived.Laws.OwnMore
import Derived.Deep.AppendLies
namespace Go.Proofs.YtplmlahpmnjneaaGreatDoor
open Go.RowKit Go.Lib
open Rw
set_option linter.unusedVariables false
set_option linter.unusedSimpArgs false
theorem spanMay_dec {a b : CutL} (ha : mayC a = true) (hb : mayC b = true) : spanMay ⟨a, b⟩ = decide (cmpC a b < 0) := by rw [spanMay, ha, hb]; rfl
set_option maxRecDepth 100000 in
set_option maxHeartbeats 2000000 in
theorem smk_no (A B : Option Addr) (c d : Nat) (l m : List SpanL) (w : World) (hg : First w) (hl : Spans w A l) (hm : Spans w B m) (hfl : fitL l) (hfm : fitL m) (hln : l.length ≤ 10000) (hmn : m.length ≤ 10000) (hno : (mayR l && mayR m) = false) :
    Calls Tryz.prog 111 #[.slice A l.length c, .slice B m.length d] w (SetOk w (smakeL l m)) := by
  have HE := hid (show smakeL l m = (([], []), false) by rw [smakeL, hno]; rfl)
  have HB0 := hid (below_new w (.cells [Value.slice none 0 0, .slice none 0 0].toArray 24))
  have HX := hid (Box.new w [Value.slice none 0 0, .slice none 0 0] 24)
  have HS := hid (Soft.new w [Value.slice none 0 0, .slice none 0 0].toArray 24)
  have HC := hid (rowmay_any A c l _ (hl.below HB0.out) hfl (by omega))
  have HD := hid (fun w' (h : Below w.heap.size w w') => rowmay_any B d m w' (hm.below h) hfm (by omega))
  clear hg hl hm hfl hfm
  generalize l.length = n at *
  generalize m.length = n2 at *
  cases h1 : mayR l
  · go_enter Tryz.func111, Tryz.ntmps111
    go_wp2_with fail
    refine HC.out.mono ?_
    rintro _ w1 ⟨rfl, hb1⟩
    rw [h1]
    have HX1 := hid (HX.out.below hb1)
    have hf : ∀ j, w1.frozen? ⟨w.heap.size, j, none⟩ = false := HS.out.below HX.out.1 hb1
    have HB1 := hid (below_tr HB0.out hb1)
    obtain ⟨y0, y1⟩ := HX1.out.get2
    have hlt := HX1.out.1
    clear hb1
    go_wp2_with fail
    refine ret2 HX1.out (v := .tuple #[setV none 0 0 none 0 0, .bool false]) (fun w3 h3 => ?_) rfl (fun h3 => by rw [HE.out]; exact ⟨none, 0, none, 0, rfl, SpanB.nil _ _, SpanB.nil _ _, HB1.out.trans h3⟩)
    obtain ⟨k0, k1⟩ := h3.get2
    simp [results, Tryz.results111, go_sem, k0, k1]
  · have h2 : mayR m = false := by rw [h1] at hno; simpa using hno
    go_enter Tryz.func111, Tryz.ntmps111
    go_wp2_with fail
    refine HC.out.mono ?_
    rintro _ w1 ⟨rfl, hb1⟩
    rw [h1]
    have HX1 := hid (HX.out.below hb1)
    have HS1 := hid (HS.out.below HX.out.1 hb1)
    have HB1 := hid (below_tr HB0.out hb1)
    clear hb1
    go_wp2_with fail
    refine (HD.out _ HB1.out).mono ?_
    rintro _ w2 ⟨rfl, hb2⟩
    rw [h2]
    have HX2 := hid (HX1.out.below hb2)
    have hf : ∀ j, w2.frozen? ⟨w.heap.size, j, none⟩ = false := HS1.out.below HX1.out.1 hb2
    have HB2 := hid (below_tr HB1.out hb2)
    obtain ⟨y0, y1⟩ := HX2.out.get2
    have hlt := HX2.out.1
    clear hb2
    go_wp2_with fail
    refine ret2 HX2.out (v := .tuple #[setV none 0 0 none 0 0, .bool false]) (fun w3 h3 => ?_) rfl (fun h3 => by rw [HE.out]; exact ⟨none, 0, none, 0, rfl, SpanB.nil _ _, SpanB.nil _ _, HB2.out.trans h3⟩)
    obtain ⟨k0, k1⟩ := h3.get2
    simp [results, Tryz.results111, go_sem, k0, k1]
set_option maxRecDepth 100000 in
set_option maxHeartbeats 4000000 in
theorem smk_yes (A B : Option Addr) (c d : Nat) (l m : List SpanL) (w : World) (hg : First w) (hl : Spans w A l) (hm : Spans w B m) (hfl : fitL l) (hfm : fitL m) (hln : l.length ≤ 10000) (hmn : m.length ≤ 10000) (h1 : mayR l = true) (h2 : mayR m = true) :
    Calls Tryz.prog 111 #[.slice A l.length c, .slice B m.length d] w (SetOk w (smakeL l m)) := by
  have hM : maxLen = 9223372036854775807 := rfl
  have HE := hid (show smakeL l m = (((rmakeL (turnedR l)).1, m), true) by rw [smakeL, h1, h2]; rfl)
  have HVL := hid (mayR_val.1 h1)
  have HB0 := hid (below_new w (.cells [Value.slice none 0 0, .slice none 0 0].toArray 24))
  have HX := hid (Box.new w [Value.slice none 0 0, .slice none 0 0] 24)
  have HS := hid (Soft.new w [Value.slice none 0 0, .slice none 0 0].toArray 24)
  have HC := hid (rowmay_any A c l _ (hl.below HB0.out) hfl (by omega))
  have HD := hid (fun w' (h : Below w.heap.size w w') => rowmay_any B d m w' (hm.below h) hfm (by omega))
  have HLF := hid hfl
  have HFG := hid hg
  have HL := hid hl
  have HM := hid hm
  clear hg hl hm hfl hfm
  generalize hn : l.length = n at *
  have HN := hid hn
  generalize hn2 : m.length = n2 at *
  have HN2 := hid hn2
  clear hn hn2
  go_enter Tryz.func111, Tryz.ntmps111
  go_wp2_with fail
  refine HC.out.mono ?_
  rintro _ w1 ⟨rfl, hb1⟩
  rw [h1]
  have HX1 := hid (HX.out.below hb1)
  have HS1 := hid (HS.out.below HX.out.1 hb1)
  have HB1 := hid (below_tr HB0.out hb1)
  clear hb1
  go_wp2_with fail
  refine (HD.out _ HB1.out).mono ?_
  rintro _ w2 ⟨rfl, hb2⟩
  rw [h2]
  have HX2 := hid (HX1.out.below hb2)
  have HS2 := hid (HS1.out.below HX1.out.1 hb2)
  have HB2 := hid (below_tr HB1.out hb2)
  have HL2 := hid (HL.out.below HB2.out)
  have HM2 := hid (HM.out.below HB2.out)
  have HG2 := hid (HFG.out.below HB2.out)
  clear hb2 HX1 HS1 HB1 HX HS HL HM HC HD h1 h2 HFG
  go_wp2_with fail
  go_loopw [8, 9, 6, 21] (fun _ _ o i wr => ∃ (k : Nat) (v : Value), i = .int .i64 k ∧ v = o ∧ k ≤ n ∧ Hid (HasRow wr w2.heap.size v (turnedTo l k) k) ∧ Hid (Below w2.heap.size w2 wr)) (fun _ _ _ i _ => n - (intOf i).toNat)
  case atStart => exact ⟨0, _, rfl, rfl, Nat.zero_le _, ⟨OwnS.nil _ _, (fun s h => by cases h), by simp [turnedTo, turnedR]⟩, Below.refl _ _⟩
  case round =>
    obtain ⟨k, v, rfl, rfl, hk, HR, HBR⟩ := hrel
    by_cases hlt : k < n
    · have hlt' : k < l.length := by rw [HN.out]; exact hlt
      have HLr := hid (HL2.out.below HBR.out)
      have HT := hid (turnedTo_succ hlt')
      have HSF0 := hid (HLF.out k hlt')
      have HSP := hid (HVL.out.span _ (List.getElem_mem hlt'))
      rw [← nth_lt hlt'] at HSP
      obtain ⟨b, off, hA, hbl, hx14⟩ := HLr.out.at_ (k := k) hlt'
      generalize nth l k = s at *
      obtain ⟨cf, ct⟩ := s
      obtain ⟨⟨x0, x1, x2, x3, x4, x5, x6⟩, z0, z1, z2, z3, z4, z5, z6⟩ := hx14
      subst hA
      have i0 : (0 : Int) ≤ (k : Int) := by omega
      have i1 : (k : Int) < (n : Int) := by omega
      have HGr := hid (HG2.out.below HBR.out)
      have CA := hid (fun w' (h : First w') => turned_any cf w' HSP.out.okl HSF0.out.1 h)
      have CB := hid (fun w' (h : First w') => turned_any ct w' HSP.out.okr HSF0.out.2 h)
      have HTS : Hid (turnedS ⟨cf, ct⟩ = ⟨turnedL cf, turnedL ct⟩) := hid rfl
      have HSF := hid (turnedS_fit HSF0.out)
      have HMA := hid (turned_may HSP.out.okl).1
      have HMB := hid (turned_may HSP.out.okr).1
      rw [HTS.out] at HT HSF
      dsimp only at HMA HMB
      generalize turnedL cf = tf at *
      generalize turnedL ct = tt at *
      have HDE := hid (spanMay_dec HMA.out HMB.out)
      clear HTS HSP HSF0 HMA HMB
      go_wp2_with fail
      refine wp_name ?_
      intro wq hwq
      have hbq : Below wr.heap.size wr wq := by rw [hwq]; exact below_new _ _
      have HX8 : Hid (Box wq wr.heap.size (SpanL.cells ⟨cf, ct⟩)) := hid (by rw [hwq]; exact Box.new wr (SpanL.cells ⟨cf, ct⟩) _)
      have HGq := hid (HGr.out.below hbq)
      have HRq := hid (HR.out.own.below hbq)
      have HBq := hid (HBR.out.trans (hbq.mono HBR.out.size))
      have HRF := hid HR.out.fit
      have HRL := HR.out.len
      clear hwq hbq HGr HR HBR HLr x0 x1 x2 x3 x4 x5 x6 z0 z1 z2 z3 z4 z5 z6
      generalize wr.heap.size = g8 at *
      have HSB : Hid (∀ w', Below wq.heap.size wq w' → w'.cell? ⟨g8, 0, none⟩ = some (.int .i64 cf.en) ∧ w'.cell? ⟨g8, 1, none⟩ = some (.int .i64 cf.v.maj) ∧ w'.cell? ⟨g8, 2, none⟩ = some (.int .i64 cf.v.min) ∧ w'.cell? ⟨g8, 3, none⟩ = some (.int .i64 cf.v.pat) ∧ w'.cell? ⟨g8, 4, none⟩ = some (.string cf.v.pre) ∧ w'.cell? ⟨g8, 5, none⟩ = some (.string cf.v.bld) ∧ w'.cell? ⟨g8, 6, none⟩ = some (.bool cf.aft) ∧ w'.cell? ⟨g8, 7, none⟩ = some (.int .i64 ct.en) ∧ w'.cell? ⟨g8, 7 + 1, none⟩ = some (.int .i64 ct.v.maj) ∧ w'.cell? ⟨g8, 7 + 2, none⟩ = some (.int .i64 ct.v.min) ∧ w'.cell? ⟨g8, 7 + 3, none⟩ = some (.int .i64 ct.v.pat) ∧ w'.cell? ⟨g8, 7 + 4, none⟩ = some (.string ct.v.pre) ∧ w'.cell? ⟨g8, 7 + 5, none⟩ = some (.string ct.v.bld) ∧ w'.cell? ⟨g8, 7 + 6, none⟩ = some (.bool ct.aft)) := hid (fun w' h => by
        obtain ⟨⟨a0, a1, a2, a3, a4, a5, a6⟩, c0, c1, c2, c3, c4, c5, c6⟩ := (HX8.out.below h).get14
        exact ⟨a0, a1, a2, a3, a4, a5, a6, c0, c1, c2, c3, c4, c5, c6⟩)
      have hg0 : wq.heap.size ≤ wq.drew.heap.size := Nat.le_refl _
      go_wp2_with fail
      go_region_held3 (fun w' => w'.cell? ⟨g8, 0, none⟩ = some (.int .i64 cf.en) ∧ w'.cell? ⟨g8, 1, none⟩ = some (.int .i64 cf.v.maj) ∧ w'.cell? ⟨g8, 2, none⟩ = some (.int .i64 cf.v.min) ∧ w'.cell? ⟨g8, 3, none⟩ = some (.int .i64 cf.v.pat) ∧ w'.cell? ⟨g8, 4, none⟩ = some (.string cf.v.pre) ∧ w'.cell? ⟨g8, 5, none⟩ = some (.string cf.v.bld) ∧ w'.cell? ⟨g8, 6, none⟩ = some (.bool cf.aft) ∧ w'.cell? ⟨g8, 7, none⟩ = some (.int .i64 ct.en) ∧ w'.cell? ⟨g8, 7 + 1, none⟩ = some (.int .i64 ct.v.maj) ∧ w'.cell? ⟨g8, 7 + 2, none⟩ = some (.int .i64 ct.v.min) ∧ w'.cell? ⟨g8, 7 + 3, none⟩ = some (.int .i64 ct.v.pat) ∧ w'.cell? ⟨g8, 7 + 4, none⟩ = some (.string ct.v.pre) ∧ w'.cell? ⟨g8, 7 + 5, none⟩ = some (.string ct.v.bld) ∧ w'.cell? ⟨g8, 7 + 6, none⟩ = some (.bool ct.aft))
        (first | (exact HSB.out _ (by with_reducible (first | assumption | exact (Below.refl _ _).drew | exact below_alloc (by assumption) _ | exact below_alloc (Below.refl _ _).drew _ | exact (below_alloc (Below.refl _ _) _).drew | exact below_alloc (Below.refl _ _) _))) | (exact HSB.out _ (by with_reducible (exact keep14 hb5 (by first | exact hb4.size | exact hg0 | exact Nat.le_refl _) tf tt))))
        (first
          | (go_at_call_of 165 cf; (with_reducible refine (CA.out _ (HGq.out.below (by first | assumption | exact (Below.refl _ _).drew | exact (below_alloc (Below.refl _ _) _).drew | exact below_alloc (by assumption) _ | exact below_alloc (Below.refl _ _).drew _))).mono ?_); rintro _ w4 ⟨rfl, k4⟩; have hb4 : Below wq.heap.size wq w4 := below_tr (by first | assumption | exact (Below.refl _ _).drew | exact (below_alloc (Below.refl _ _) _).drew | exact below_alloc (by assumption) _ | exact below_alloc (Below.refl _ _).drew _) k4; (try (with_reducible have zb4 := newbox14d k4)))
          | (go_at_call_of 165 ct; (with_reducible refine (CB.out _ (HGq.out.below (by first | assumption | exact (Below.refl _ _).drew | exact (below_alloc (Below.refl _ _) _).drew | exact below_alloc (by assumption) _ | exact below_alloc (Below.refl _ _).drew _))).mono ?_); rintro _ w5 ⟨rfl, k5⟩; have hb5 : Below wq.heap.size wq w5 := below_tr (by first | assumption | exact (Below.refl _ _).drew | exact (below_alloc (Below.refl _ _) _).drew | exact below_alloc (by assumption) _ | exact below_alloc (Below.refl _ _).drew _) k5; (try (first | (with_reducible have zb5 := newbox14 k5) | (have zb5 := And.intro (zb4.1.below k5) (zb4.2.below zb4.1.1 k5)))); (try (obtain ⟨⟨⟨y0, y1, y2, y3, y4, y5, y6⟩, y7, y8, y9, y10, y11, y12, y13⟩, yl⟩ := And.intro zb5.1.get14 zb5.1.1)); (try (have yf : ∀ j, w5.frozen? ⟨_, j, none⟩ = false := zb5.2))))
      · refine pname ?_
        intro w6 hw6
        have HX6 : Hid (Box w6 w5.heap.size (SpanL.cells ⟨tf, tt⟩)) := hid (by rw [hw6]; exact Box.new w5 (SpanL.cells ⟨tf, tt⟩) _)
        have HB6 : Hid (Below wq.heap.size wq w6) := hid (by rw [hw6]; exact below_alloc hb5 _)
        have HO6 : Hid (OwnS w6 w2.heap.size v (turnedTo l k)) := hid (HRq.out.below HB6.out)
        generalize w5.heap.size = g at *
        clear hw6 hb5 hb4 k4 k5
        obtain ⟨⟨⟨x0, x1, x2, x3, x4, x5, x6⟩, z0, z1, z2, z3, z4, z5, z6⟩, hgx⟩ := And.intro HX6.out.get14 HX6.out.1
        have HSM := hid (fun w' => ccompare_any tf tt w' HSF.out.1 HSF.out.2)
        have HTO := hid (show turnedTo l (k + 1) = _ from HT.out)
        rw [HDE.out] at HTO
        clear HT HSB CA CB HDE
        generalize turnedTo l k = o at *
        generalize cmpC tf tt = x at *
        cases hd : decide (x < 0)
        · rw [hd] at HTO
          go_wp2_with fail
          refine (HSM.out _).mono ?_
          rintro _ w7 ⟨rfl, hb7⟩
          have HB7 := hid (below_tr HB6.out hb7)
          have HO7 := hid (HO6.out.below hb7)
          clear hb7 x0 x1 x2 x3 x4 x5 x6 z0 z1 z2 z3 z4 z5 z6 hgx
          go_wp2_with fail
          go_roundw
          case rel => exact ⟨k + 1, v, by go_num, rfl, by omega, by rw [HTO.out]; exact ⟨HO7.out, HRF.out, by simp; omega⟩, HBq.out.trans (HB7.out.mono HBq.out.size)⟩
          case measure => simp [intOf]; omega
        · rw [hd] at HTO
          go_wp2_with fail
          refine (HSM.out _).mono ?_
          rintro _ w7 ⟨rfl, hb7⟩
          have HB7 := hid (below_tr HB6.out hb7)
          have HO7 := hid (HO6.out.below hb7)
          have hgx := (HX6.out.below hb7).1
          have hz7 := hid (Nat.le_trans HBq.out.size HB7.out.size)
          clear x0 x1 x2 x3 x4 x5 x6 z0 z1 z2 z3 z4 z5 z6
          obtain ⟨⟨x0, x1, x2, x3, x4, x5, x6⟩, z0, z1, z2, z3, z4, z5, z6⟩ := (HX6.out.below hb7).get14
          clear hb7
          go_wp2_with (first | (at_builtin; refine wpList_app1g EKspans rfl (.tmp 38) (.tmp 40) rfl (SpanL.cells ⟨tf, tt⟩) HO7.out rfl rfl rfl (oneS1 _) (by omega) (by omega) hz7.out ?_; intro v' w8 h2 h3 h4; clear x0 x1 x2 x3 x4 x5 x6 z0 z1 z2 z3 z4 z5 z6))
          go_roundw
          case rel => exact ⟨k + 1, v', by go_num, rfl, by omega, by rw [HTO.out]; exact ⟨OwnS.app h2, (fun t ht => by rcases List.mem_append.1 ht with ht | ht; exact HRF.out t ht; rw [List.mem_singleton] at ht; subst ht; exact HSF.out), by simp; omega⟩, (HBq.out.trans (HB7.out.mono HBq.out.size)).trans h3⟩
          case measure => simp [intOf]; omega
      · have hgw : wq.heap.size ≤ w4.heap.size := hb4.size
        refine pname ?_
        intro w6 hw6
        rw [put14] at hw6
        have HX6 : Hid (Box w6 w4.heap.size (SpanL.cells ⟨tf, tt⟩)) := hid (by rw [hw6]; exact zb5.1.set14 ⟨tf, tt⟩)
        have HB6 : Hid (Below wq.heap.size wq w6) := hid (by rw [hw6]; exact Below.setCells hgw _ _ hb5)
        have HO6 : Hid (OwnS w6 w2.heap.size v (turnedTo l k)) := hid (by rw [hw6]; exact own_set (HRq.out.below hb5) (fun r hr => Nat.lt_of_lt_of_le (own_bound HRq.out r hr).2 hgw))
        generalize w4.heap.size = g at *
        clear hw6 hb5 hb4 k4 k5 zb5 yl yf y0 y1 y2 y3 y4 y5 y6 y7 y8 y9 y10 y11 y12 y13 hgw
        obtain ⟨⟨⟨x0, x1, x2, x3, x4, x5, x6⟩, z0, z1, z2, z3, z4, z5, z6⟩, hgx⟩ := And.intro HX6.out.get14 HX6.out.1
        have HSM := hid (fun w' => ccompare_any tf tt w' HSF.out.1 HSF.out.2)
        have HTO := hid (show turnedTo l (k + 1) = _ from HT.out)
        rw [HDE.out] at HTO
        clear HT HSB CA CB HDE
        generalize turnedTo l k = o at *
        generalize cmpC tf tt = x at *
        cases hd : decide (x < 0)
        · rw [hd] at HTO
          go_wp2_with fail
          refine (HSM.out _).mono ?_
          rintro _ w7 ⟨rfl, hb7⟩
          have HB7 := hid (below_tr HB6.out hb7)
          have HO7 := hid (HO6.out.below hb7)
          clear hb7 x0 x1 x2 x3 x4 x5 x6 z0 z1 z2 z3 z4 z5 z6 hgx
          go_wp2_with fail
          go_roundw
          case rel => exact ⟨k + 1, v, by go_num, rfl, by omega, by rw [HTO.out]; exact ⟨HO7.out, HRF.out, by simp; omega⟩, HBq.out.trans (HB7.out.mono HBq.out.size)⟩
          case measure => simp [intOf]; omega
        · rw [hd] at HTO
          go_wp2_with fail
          refine (HSM.out _).mono ?_
          rintro _ w7 ⟨rfl, hb7⟩
          have HB7 := hid (below_tr HB6.out hb7)
          have HO7 := hid (HO6.out.below hb7)
          have hgx := (HX6.out.below hb7).1
          have hz7 := hid (Nat.le_trans HBq.out.size HB7.out.size)
          clear x0 x1 x2 x3 x4 x5 x6 z0 z1 z2 z3 z4 z5 z6
          obtain ⟨⟨x0, x1, x2, x3, x4, x5, x6⟩, z0, z1, z2, z3, z4, z5, z6⟩ := (HX6.out.below hb7).get14
          clear hb7
          go_wp2_with (first | (at_builtin; refine wpList_app1g EKspans rfl (.tmp 38) (.tmp 40) rfl (SpanL.cells ⟨tf, tt⟩) HO7.out rfl rfl rfl (oneS1 _) (by omega) (by omega) hz7.out ?_; intro v' w8 h2 h3 h4; clear x0 x1 x2 x3 x4 x5 x6 z0 z1 z2 z3 z4 z5 z6))
          go_roundw
          case rel => exact ⟨k + 1, v', by go_num, rfl, by omega, by rw [HTO.out]; exact ⟨OwnS.app h2, (fun t ht => by rcases List.mem_append.1 ht with ht | ht; exact HRF.out t ht; rw [List.mem_singleton] at ht; subst ht; exact HSF.out), by simp; omega⟩, (HBq.out.trans (HB7.out.mono HBq.out.size)).trans h3⟩
          case measure => simp [intOf]; omega
      · have hgw : wq.heap.size ≤ wq.heap.size := Nat.le_refl _
        refine pname ?_
        intro w6 hw6
        rw [put14] at hw6
        have HX6 : Hid (Box w6 wq.heap.size (SpanL.cells ⟨tf, tt⟩)) := hid (by rw [hw6]; exact zb5.1.set14 ⟨tf, tt⟩)
        have HB6 : Hid (Below wq.heap.size wq w6) := hid (by rw [hw6]; exact Below.setCells hgw _ _ hb5)
        have HO6 : Hid (OwnS w6 w2.heap.size v (turnedTo l k)) := hid (by rw [hw6]; exact own_set (HRq.out.below hb5) (fun r hr => Nat.lt_of_lt_of_le (own_bound HRq.out r hr).2 hgw))
        clear hw6 hb5 hb4 k4 k5 zb5 zb4 yl yf y0 y1 y2 y3 y4 y5 y6 y7 y8 y9 y10 y11 y12 y13 hgw
        obtain ⟨⟨⟨x0, x1, x2, x3, x4, x5, x6⟩, z0, z1, z2, z3, z4, z5, z6⟩, hgx⟩ := And.intro HX6.out.get14 HX6.out.1
        have HSM := hid (fun w' => ccompare_any tf tt w' HSF.out.1 HSF.out.2)
        have HTO := hid (show turnedTo l (k + 1) = _ from HT.out)
        rw [HDE.out] at HTO
        clear HT HSB CA CB HDE
        generalize turnedTo l k = o at *
        generalize cmpC tf tt = x at *
        cases hd : decide (x < 0)
        · rw [hd] at HTO
          go_wp2_with fail
          refine (HSM.out _).mono ?_
          rintro _ w7 ⟨rfl, hb7⟩
          have HB7 := hid (below_tr HB6.out hb7)
          have HO7 := hid (HO6.out.below hb7)
          clear hb7 x0 x1 x2 x3 x4 x5 x6 z0 z1 z2 z3 z4 z5 z6 hgx
          go_wp2_with fail
          go_roundw
          case rel => exact ⟨k + 1, v, by go_num, rfl, by omega, by rw [HTO.out]; exact ⟨HO7.out, HRF.out, by simp; omega⟩, HBq.out.trans (HB7.out.mono HBq.out.size)⟩
          case measure => simp [intOf]; omega
        · rw [hd] at HTO
          go_wp2_with fail
          refine (HSM.out _).mono ?_
          rintro _ w7 ⟨rfl, hb7⟩
          have HB7 := hid (below_tr HB6.out hb7)
          have HO7 := hid (HO6.out.below hb7)
          have hgx := (HX6.out.below hb7).1
          have hz7 := hid (Nat.le_trans HBq.out.size HB7.out.size)
          clear x0 x1 x2 x3 x4 x5 x6 z0 z1 z2 z3 z4 z5 z6
          obtain ⟨⟨x0, x1, x2, x3, x4, x5, x6⟩, z0, z1, z2, z3, z4, z5, z6⟩ := (HX6.out.below hb7).get14
          clear hb7
          go_wp2_with (first | (at_builtin; refine wpList_app1g EKspans rfl (.tmp 38) (.tmp 40) rfl (SpanL.cells ⟨tf, tt⟩) HO7.out rfl rfl rfl (oneS1 _) (by omega) (by omega) hz7.out ?_; intro v' w8 h2 h3 h4; clear x0 x1 x2 x3 x4 x5 x6 z0 z1 z2 z3 z4 z5 z6))
          go_roundw
          case rel => exact ⟨k + 1, v', by go_num, rfl, by omega, by rw [HTO.out]; exact ⟨OwnS.app h2, (fun t ht => by rcases List.mem_append.1 ht with ht | ht; exact HRF.out t ht; rw [List.mem_singleton] at ht; subst ht; exact HSF.out), by simp; omega⟩, (HBq.out.trans (HB7.out.mono HBq.out.size)).trans h3⟩
          case measure => simp [intOf]; omega
    · obtain rfl : k = n := by omega
      have HTA := hid (show turnedTo l k = turnedR l by rw [← HN.out, turnedTo_all])
      have HRL := HR.out.len
      have HFT : Hid (fitL (turnedTo l k)) := hid fun i hi => by rw [nth_lt hi]; exact HR.out.fit _ (List.getElem_mem _)
      obtain ⟨A3, c3, e3, hs3⟩ := HR.out.own.spans
      subst e3
      have HMK := hid (make_any w2.heap.size A3 c3 (turnedTo l k) wr hs3 HFT.out (by omega) HBR.out.size)
      clear hs3 HFT HR HRL
      rw [HTA.out] at HMK ⊢
      generalize rmakeL (turnedR l) = rm at *
      generalize (turnedR l).length = nt at *
      go_wp2_with fail
      refine HMK.out.mono ?_
      rintro _ w3 ⟨v3, e3, o3, k3, _⟩
      obtain rfl := e3
      obtain ⟨A4, c4, rfl, S4⟩ := SpanB.own o3
      have HB23 := hid (HBR.out.trans k3)
      have HX3 := hid (HX2.out.below HB23.out)
      have HS3 := hid (HS2.out.below HX2.out.1 HB23.out)
      have HCL := hid (clone_any w3.heap.size B d m w3 (HM2.out.below HB23.out) (by have := HN2.out; omega) (Nat.le_refl _))
      rw [HN2.out] at HCL
      have HB3 := hid (below_tr HB2.out HB23.out)
      have HS4 := hid S4
      clear k3 o3 S4 HMK
      go_wp2_with fail
      refine HCL.out.mono ?_
      rintro _ w5 ⟨v5, rfl, h5, hb5, _⟩
      obtain ⟨B5, d5, rfl, S5'⟩ := SpanB.own h5
      have S5 := hid S5'
      rw [HN2.out]
      obtain ⟨y0, y1⟩ := (HX3.out.below hb5).get2
      have hf : ∀ j, w5.frozen? ⟨w.heap.size, j, none⟩ = false := HS3.out.below HX3.out.1 hb5
      have hlt := (HX3.out.below hb5).1
      clear h5 S5'
      go_wp2_with fail
      refine ret2 (HX3.out.below hb5) (v := .tuple #[setV A4 rm.1.length c4 B5 n2 d5, .bool true]) (fun w6 h6 => ?_) rfl (fun h6 => ?_)
      · obtain ⟨k0, k1⟩ := h6.get2
        simp [results, Tryz.results111, go_sem, k0, k1]
      · rw [HE.out]
        exact ⟨A4, c4, B5, d5, by rw [← HN2.out], ((HS4.out.below hb5).set HX2.out.1).low HB2.out.size, (S5.out.set HX3.out.1).low HB3.out.size, (below_tr HB3.out hb5).trans (h6.mono (Nat.le_refl _))⟩
theorem smake_any (A B : Option Addr) (c d : Nat) (l m : List SpanL) (w : World) (hg : First w) (hl : Spans w A l) (hm : Spans w B m) (hfl : fitL l) (hfm : fitL m) (hln : l.length ≤ 10000) (hmn : m.length ≤ 10000) :
    Calls Tryz.prog 111 #[.slice A l.length c, .slice B m.length d] w (SetOk w (smakeL l m)) := by
  cases h1 : mayR l
  · exact smk_no A B c d l m w hg hl hm hfl hfm hln hmn (by rw [h1]; rfl)
  · cases h2 : mayR m
    · exact smk_no A B c d l m w hg hl hm hfl hfm hln hmn (by rw [h2, Bool.and_false])
    · exact smk_yes A B c d l m w hg hl hm hfl hfm hln hmn h1 h2
end Go.Proofs.YtplmlahpmnjneaaGreatDoor
namespace Go.Proofs.YtplmlahpmnjneaaGreatDoor
open Go.RowKit Go.Lib
open Rw
set_option linter.unusedVariables false
set_option linter.unusedSimpArgs false
def nthV (l : List Ver) (i : Nat) : Ver := l.getD i zeroV
def cellsR (l : List Ver) : List Value := l.flatMap fun v => v.cells
theorem cellsR_len (l : List Ver) : (cellsR l).length = l.length * 5 := by
  induction l with
  | nil => rfl
  | cons s l ih => simp only [cellsR, List.flatMap_cons, List.length_append] at ih ⊢; rw [ih]; simp only [List.length_cons, List.length_nil]; omega
theorem cellsR_append (l m : List Ver) : cellsR (l ++ m) = cellsR l ++ cellsR m := by simp [cellsR]
theorem cellsR_get : ∀ (l : List Ver) (i j : Nat), i < l.length → j < 5 → (cellsR l)[i * 5 + j]? = (nthV l i).cells[j]?
  | [], i, j, h, _ => by simp at h
  | s :: l, 0, j, _, hj => by
    rw [cellsR, List.flatMap_cons, List.getElem?_append_left (by simp; omega)]
    simp [nthV]
  | s :: l, i + 1, j, h, hj => by
    have ih := cellsR_get l i j (by simpa using h) hj
    rw [cellsR, List.flatMap_cons, List.getElem?_append_right (by simp; omega)]
    have e : (i + 1) * 5 + j - s.cells.length = i * 5 + j := by simp; omega
    rw [e]
    exact ih.trans (by simp [nthV])
theorem Tryz.info46 : (Tryz.prog.info? 46).map (fun i => (i.zero, i.size, i.bytes)) = some (some zeroV.val, 5, 56) := by kernel_rfl
def OwnR (w : World) (base : Nat) (v : Value) (l : List Ver) : Prop := w.ownsRow base 46 5 v l.length (cellsR l)
theorem OwnR.nil (w : World) (base : Nat) : OwnR w base (.slice none 0 0) [] := World.ownsRow_nil _ _ _ _
theorem OwnR.form {w : World} {base : Nat} {v : Value} {l : List Ver} (h : OwnR w base v l) : (v = .slice none 0 0 ∧ l = []) ∨ ∃ g cap, v = .slice (some ⟨g, 0, none⟩) l.length cap ∧ base ≤ g ∧ g < w.heap.size ∧ l.length ≤ cap := by
  obtain ⟨_, h2⟩ := h
  rcases h2 with ⟨h2, h3⟩ | ⟨g, cap, cur, hv, hg, hh, hle, r⟩
  · exact .inl ⟨h2, List.eq_nil_of_length_eq_zero h3⟩
  · refine .inr ⟨g, cap, hv, hg, ?_, hle⟩
    rcases Nat.lt_or_ge g w.heap.size with h | h
    · exact h
    · rw [Array.getElem?_eq_none h] at hh; cases hh
def Vers (w : World) (A : Option Addr) (l : List Ver) : Prop :=
  l = [] ∨ ∃ b off, A = some ⟨b, off, none⟩ ∧ b < w.heap.size ∧ ∀ i, i < l.length → ∀ j u, (nthV l i).cells[j]? = some u → w.cell? ⟨b, off + i * 5 + j, none⟩ = some u
theorem Vers.below {w w' : World} {A : Option Addr} {l : List Ver} (h : Vers w A l) (hb : Below w.heap.size w w') : Vers w' A l := by
  rcases h with h | ⟨b, off, rfl, hlt, hc⟩
  · exact .inl h
  · exact .inr ⟨b, off, rfl, Nat.lt_of_lt_of_le hlt hb.size, fun i hi j u hj => (hb.cell (p := ⟨b, _, none⟩) hlt).trans (hc i hi j u hj)⟩
theorem Vers.at_ {w : World} {A : Option Addr} {l : List Ver} {k : Nat} (h : Vers w A l) (hk : k < l.length) :
    ∃ b off, A = some ⟨b, off, none⟩ ∧ b < w.heap.size ∧ w.cell? ⟨b, off + k * 5, none⟩ = some (.int .i64 (nthV l k).maj) ∧ w.cell? ⟨b, off + k * 5 + 1, none⟩ = some (.int .i64 (nthV l k).min) ∧ w.cell? ⟨b, off + k * 5 + 2, none⟩ = some (.int .i64 (nthV l k).pat) ∧ w.cell? ⟨b, off + k * 5 + 3, none⟩ = some (.string (nthV l k).pre) ∧ w.cell? ⟨b, off + k * 5 + 4, none⟩ = some (.string (nthV l k).bld) := by
  rcases h with rfl | ⟨b, off, rfl, hb, hc⟩
  · simp at hk
  · exact ⟨b, off, rfl, hb, hc k hk 0 _ rfl, hc k hk 1 _ rfl, hc k hk 2 _ rfl, hc k hk 3 _ rfl, hc k hk 4 _ rfl⟩
theorem OwnR.below {w w' : World} {base : Nat} {v : Value} {l : List Ver} (h : OwnR w base v l) (hb : Below w.heap.size w w') : OwnR w' base v l := own_below h hb
theorem Vers.src {w : World} {A : Option Addr} {l : List Ver} (h : Vers w A l) : SrcOf w A l.length 5 (cellsR l) := by
  refine ⟨cellsR_len l, ?_, ?_⟩
  · rintro rfl
    rcases h with rfl | ⟨b, off, e, _⟩
    · rfl
    · cases e
  · rintro ad rfl j u hj
    have hjl : j < l.length * 5 := by
      rcases Nat.lt_or_ge j (l.length * 5) with h' | h'
      · exact h'
      · rw [List.getElem?_eq_none (by rw [cellsR_len]; exact h')] at hj; cases hj
    rcases h with rfl | ⟨b, off, e, hlt, hc⟩
    · simp at hjl
    · injection e with e; subst e
      have ej : j / 5 * 5 + j % 5 = j := by omega
      rw [← ej, cellsR_get _ _ _ (by omega) (Nat.mod_lt _ (by omega))] at hj
      have := hc (j / 5) (by omega) (j % 5) u hj
      rw [addr_add, ← ej]
      rw [← this]
      congr 2
      omega
theorem OwnR.app {w' : World} {base : Nat} {v' : Value} {l : List Ver} {s : Ver} (h : w'.ownsRow base 46 5 v' (l.length + 1) (cellsR l ++ s.cells)) : OwnR w' base v' (l ++ [s]) := by
  simp only [OwnR, List.length_append, List.length_singleton]
  rw [cellsR_append, show cellsR [s] = s.cells from by simp [cellsR]]
  exact h
theorem OwnR.cat {w : World} {base : Nat} {v : Value} {l m : List Ver} (h : w.ownsRow base 46 5 v (l.length + m.length) (cellsR l ++ cellsR m)) : OwnR w base v (l ++ m) := by
  rw [OwnR, List.length_append, cellsR_append]; exact h
theorem OwnR.lit (w : World) (v : Ver) : OwnR (w.alloc (.cells v.cells.toArray 46)) w.heap.size (.slice (some ⟨w.heap.size, 0, none⟩) 1 1) [v] := by
  have := World.ownsRow_lit (base := w.heap.size) (e := 46) (size := 5) w v.cells.toArray 1 (Nat.le_refl _) (by decide) rfl
  simpa [OwnR, cellsR] using this
theorem OwnR.low {w : World} {base b : Nat} {v : Value} {l : List Ver} (h : OwnR w base v l) (hb : b ≤ base) : OwnR w b v l := by
  obtain ⟨h1, h2⟩ := h
  refine ⟨h1, ?_⟩
  rcases h2 with h2 | ⟨g, cap, cur, hv, hg, r⟩
  · exact .inl h2
  · exact .inr ⟨g, cap, cur, hv, Nat.le_trans hb hg, r⟩
set_option maxRecDepth 100000 in
set_option maxHeartbeats 2000000 in
section
variable {P : Program} {w : World} {base size n bytes : Nat} {t e : TypeId} {v : Value} {xs : List Value}
theorem run_appy (E : EK P t e size bytes) (ty : TypeId) (hown : w.ownsRow base e size v n xs) {ad : Addr} {m c : Nat} {news : List Value} (hl : news.length = m * size) (hnews : ∀ j u, news[j]? = some u → w.cell? (ad.add j) = some u) (h1 : ∀ u ∈ news, u.oneCell' = true)
    (hm : 0 < m) (h63 : n + m ≤ maxLen) (hb : (n + m) * bytes ≤ 140737488355328) (hbase : base ≤ w.heap.size) :
    ∃ v' w', (Builtin.append_ #[t, t] ty #[v, .slice (some ad) m c]).run P w = .ok v' w' ∧ w'.ownsRow base e size v' (n + m) (xs ++ news) ∧ Below base w w' ∧ w.grownBy w' v.ownBlock ∧ (∀ k, v'.ownBlock = some k → v.ownBlock = some k ∨ k = w.heap.size) := by
  obtain ⟨i, z, hi, hz0, hz1, hz2, hz3⟩ := E.info
  obtain ⟨g, cap, w', hr, h2, h3, h4, _⟩ := run_append_lies (P := P) w t ty base e i z size bytes E.ht hi hz0 hz1 hz2 hz3 E.pos v n xs hown ad m c news hl hnews h1 hm h63 hb hbase _ rfl
  refine ⟨_, w', hr, h2, (Below.refl _ _).grown h3 (append_drawn E ty hown hl hnews h1 h63 hb hr) hbase (fun k hk => (hown.lt k hk).1), h3, fun k hk => ?_⟩
  have : k = g := by simpa [Value.ownBlock, eq_comm] using hk
  rw [this]; exact h4
theorem wpList_app1y (E : EK P t e size bytes) {ops : Array Oper} {rest : List Oper} {o : Oper} {a : Act} {Q : Exit → Act → World → Prop} (hgd : o.guard = none) (s x : Operand)
    (ho : o.op = .call { callee := .builtin .append, args := #[s, x], argTypes := #[t, t] }) (news : List Value)
    (hown : w.ownsRow base e size v n xs) (hs : a.eval s = v) (hx : a.eval x = .slice (some ⟨w.heap.size, 0, none⟩) 1 1) (hl : news.length = size) (h1 : ∀ u ∈ news, u.oneCell' = true)
    (hm : n + 1 ≤ maxLen) (hn : (n + 1) * bytes ≤ 140737488355328) (hbase : base ≤ w.heap.size)
    (h : ∀ v' w', w'.ownsRow base e size v' (n + 1) (xs ++ news) → Below base w w' → w.grownBy w' v.ownBlock → (∀ k, v'.ownBlock = some k → v.ownBlock = some k ∨ w.heap.size ≤ k) → wpList P ops Q rest (a.put o.dst v') w') :
    wpList P ops Q (o :: rest) a (w.alloc (.cells news.toArray e)) := by
  refine wpList_plain hgd fun _ hK => ?_
  obtain ⟨v', w', hrun, h2, h3, h4, h5⟩ := run_appy (P := P) (w := w.alloc (.cells news.toArray e)) E o.type (hown.alloc _) (ad := ⟨w.heap.size, 0, none⟩) (m := 1) (c := 1) (news := news) (by omega) (fun j u hj => by
    have hz : (⟨w.heap.size, 0, none⟩ : Addr).add j = ⟨w.heap.size, j, none⟩ := by
      unfold Addr.add
      split <;> simp_all
    rw [hz, World.cell?_alloc_at _ _ _ _ rfl]
    simpa using hj) h1 (by omega) hm hn (by simp; omega)
  unfold Oper.wp execOp
  simp only [ho, resolve, invoke, builtin, Sem.run_bind, Sem.run_pure, Result.andThen_ok, List.map_toArray, List.map_cons, List.map_nil, hs, hx, hrun]
  refine hK _ _ (h v' w' h2 (((Below.refl _ _).alloc hbase _).trans h3) (grown_tr (World.grownBy_alloc w _ _) h4) fun k hk => (h5 k hk).imp id fun h => ?_)
  rw [h]; simp
end
theorem CutsAt.grown {w w' : World} {row : Option Nat} {b off : Nat} {l : List CutL} (h : CutsAt w (some ⟨b, off, none⟩) l) (hg : w.grownBy w' row) (hne : some b ≠ row) : CutsAt w' (some ⟨b, off, none⟩) l := by
  rcases h with h | ⟨b', off', e, hlt, hc⟩
  · exact .inl h
  · injection e with e
    injection e with e1 e2
    subst e1 e2
    refine .inr ⟨b, off, rfl, Nat.lt_of_lt_of_le hlt hg.size, fun i hi => ?_⟩
    have e : ∀ o, w'.cell? ⟨b, o, none⟩ = w.cell? ⟨b, o, none⟩ := fun o => hg.cell_far _ hlt hne
    simp only [Row7, e]
    exact hc i hi
end Go.Proofs.YtplmlahpmnjneaaGreatDoor
