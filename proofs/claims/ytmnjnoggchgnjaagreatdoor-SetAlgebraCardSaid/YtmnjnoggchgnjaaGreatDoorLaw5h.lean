/- Sets: the walk of linchpinlaw5.SetAlgebra. -/
import Derived.Test.YtmnjnoggchgnjaaGreatDoorSetP
import Derived.Test.YtmnjnoggchgnjaaGreatDoorSd
namespace Go.Proofs.YtmnjnoggchgnjaaGreatDoor
open Go.RowKit Go.Lib
open Rw
set_option linter.unusedVariables false
set_option linter.unusedSimpArgs false

set_option maxRecDepth 100000 in
set_option maxHeartbeats 4000000 in
theorem algebra_no1 (Aa : Option Addr) (ca : Nat) (Ba : Option Addr) (da : Nat) (al am : List SpanL) (Ab : Option Addr) (cb : Nat) (Bb : Option Addr) (db : Nat) (bl bm : List SpanL) (w : World) (Sa : Spans w Aa al) (Ta : Spans w Ba am) (pa : al.length ≤ 9223372036854775807) (qa : am.length ≤ 9223372036854775807) (Sb : Spans w Ab bl) (Tb : Spans w Bb bm) (pb : bl.length ≤ 9223372036854775807) (qb : bm.length ≤ 9223372036854775807) (hg : First w) (Q : (fewR 8 al && fewR 8 am) = false) : Calls Tryz.prog 4 #[setV Aa al.length ca Ba am.length da, setV Ab bl.length cb Bb bm.length db] w (BoolPost w true) := by
  have HBB := hid (below_tr (below_new w (.cells [Value.slice Aa al.length ca, .slice Ba am.length da].toArray 25)) (below_new _ (.cells [Value.slice Ab bl.length cb, .slice Bb bm.length db].toArray 25)))
  have HFA := hid (fun w' (h : Below w.heap.size w w') => fews_any Aa Ba ca da al am w' (Sa.below h) (Ta.below h) pa qa)
  have HFB := hid (fun w' (h : Below w.heap.size w w') => fews_any Ab Bb cb db bl bm w' (Sb.below h) (Tb.below h) pb qb)
  have HAW := hid (fun w' (h : Below w.heap.size w w') => s5awake_any w' (hg.below h))
  rw [Q] at HFA
  clear Sa Ta Sb Tb hg HFB
  generalize hna : al.length = na at *
  generalize hma : am.length = ma at *
  generalize hnb : bl.length = nb at *
  generalize hmb : bm.length = mb at *
  go_enter Tryz.func4, Tryz.ntmps4
  go_wp2_with fail
  refine (HFA.out _ HBB.out).mono ?_
  rintro _ w1 ⟨rfl, hb1⟩
  have HB1 := hid (below_tr HBB.out hb1)
  clear hb1
  go_wp2_with fail
  refine (HAW.out _ HB1.out).mono ?_
  rintro _ w2 ⟨rfl, hb2⟩
  go_wp2_with fail
  go_ret
  exact ⟨rfl, below_tr HB1.out hb2⟩
set_option maxRecDepth 100000 in
set_option maxHeartbeats 4000000 in
theorem algebra_no2 (Aa : Option Addr) (ca : Nat) (Ba : Option Addr) (da : Nat) (al am : List SpanL) (Ab : Option Addr) (cb : Nat) (Bb : Option Addr) (db : Nat) (bl bm : List SpanL) (w : World) (Sa : Spans w Aa al) (Ta : Spans w Ba am) (pa : al.length ≤ 9223372036854775807) (qa : am.length ≤ 9223372036854775807) (Sb : Spans w Ab bl) (Tb : Spans w Bb bm) (pb : bl.length ≤ 9223372036854775807) (qb : bm.length ≤ 9223372036854775807) (hg : First w) (Q : (fewR 8 al && fewR 8 am) = true) (Q2 : (fewR 8 bl && fewR 8 bm) = false) : Calls Tryz.prog 4 #[setV Aa al.length ca Ba am.length da, setV Ab bl.length cb Bb bm.length db] w (BoolPost w true) := by
  have HBB := hid (below_tr (below_new w (.cells [Value.slice Aa al.length ca, .slice Ba am.length da].toArray 25)) (below_new _ (.cells [Value.slice Ab bl.length cb, .slice Bb bm.length db].toArray 25)))
  have HFA := hid (fun w' (h : Below w.heap.size w w') => fews_any Aa Ba ca da al am w' (Sa.below h) (Ta.below h) pa qa)
  have HFB := hid (fun w' (h : Below w.heap.size w w') => fews_any Ab Bb cb db bl bm w' (Sb.below h) (Tb.below h) pb qb)
  have HAW := hid (fun w' (h : Below w.heap.size w w') => s5awake_any w' (hg.below h))
  rw [Q] at HFA
  rw [Q2] at HFB
  clear Sa Ta Sb Tb hg
  generalize hna : al.length = na at *
  generalize hma : am.length = ma at *
  generalize hnb : bl.length = nb at *
  generalize hmb : bm.length = mb at *
  go_enter Tryz.func4, Tryz.ntmps4
  go_wp2_with fail
  refine (HFA.out _ HBB.out).mono ?_
  rintro _ w1 ⟨rfl, hb1⟩
  obtain ⟨hx0, hx1, hb⟩ := box_2 (cs := [Value.slice Aa na ca, .slice Ba ma da]) (ds := [Value.slice Ab nb cb, .slice Bb mb db]) hb1
  have HB1 := hid hb
  obtain ⟨z0, z1⟩ := hx1.get2
  clear hb1 hb hx0 hx1
  go_wp2_with fail
  refine (HFB.out _ HB1.out).mono ?_
  rintro _ w2 ⟨rfl, hb2⟩
  have HB2 := hid (below_tr HB1.out hb2)
  clear hb2 z0 z1
  go_wp2_with fail
  refine (HAW.out _ HB2.out).mono ?_
  rintro _ w3 ⟨rfl, hb3⟩
  go_wp2_with fail
  go_ret
  exact ⟨rfl, below_tr HB2.out hb3⟩
set_option maxRecDepth 100000 in
set_option maxHeartbeats 4000000 in
theorem algebra_yes (Aa : Option Addr) (ca : Nat) (Ba : Option Addr) (da : Nat) (al am : List SpanL) (Ab : Option Addr) (cb : Nat) (Bb : Option Addr) (db : Nat) (bl bm : List SpanL) (w : World) (Sa : Spans w Aa al) (Ta : Spans w Ba am) (pa : al.length ≤ 9223372036854775807) (qa : am.length ≤ 9223372036854775807) (Sb : Spans w Ab bl) (Tb : Spans w Bb bm) (pb : bl.length ≤ 9223372036854775807) (qb : bm.length ≤ 9223372036854775807) (hg : First w) (Q : (fewR 8 al && fewR 8 am) = true) (Q2 : (fewR 8 bl && fewR 8 bm) = true) : Calls Tryz.prog 4 #[setV Aa al.length ca Ba am.length da, setV Ab bl.length cb Bb bm.length db] w (BoolPost w true) := by
  have HBB := hid (below_tr (below_new w (.cells [Value.slice Aa al.length ca, .slice Ba am.length da].toArray 25)) (below_new _ (.cells [Value.slice Ab bl.length cb, .slice Bb bm.length db].toArray 25)))
  have HFA := hid (fun w' (h : Below w.heap.size w w') => fews_any Aa Ba ca da al am w' (Sa.below h) (Ta.below h) pa qa)
  have HFB := hid (fun w' (h : Below w.heap.size w w') => fews_any Ab Bb cb db bl bm w' (Sb.below h) (Tb.below h) pb qb)
  have HAW := hid (fun w' (h : Below w.heap.size w w') => s5awake_any w' (hg.below h))
  rw [Q] at HFA
  rw [Q2] at HFB
  rw [Bool.and_eq_true] at Q Q2
  have ga := few_fit Q.1
  have gb := few_fit Q.2
  have gc := few_fit Q2.1
  have gd := few_fit Q2.2
  have HSa : Hid (SetAg 8 w Aa al Ba am) := hid ⟨Sa, Ta, ga.2, gb.2, ga.1, gb.1⟩
  have HSb : Hid (SetAg 8 w Ab bl Bb bm) := hid ⟨Sb, Tb, gc.2, gd.2, gc.1, gd.1⟩
  have HG := hid hg
  have HB : Hid (Below w.heap.size w w) := hid (Below.refl _ _)
  clear Sa Ta Sb Tb hg ga gb gc gd Q Q2 pa qa pb qb
  generalize hna : al.length = na at *
  generalize hma : am.length = ma at *
  generalize hnb : bl.length = nb at *
  generalize hmb : bm.length = mb at *
  have LLa := hid hna
  have LMa := hid hma
  have LLb := hid hnb
  have LMb := hid hmb
  clear hna hma hnb hmb
  go_enter Tryz.func4, Tryz.ntmps4
  go_wp2_with fail
  refine (HFA.out _ HBB.out).mono ?_
  rintro _ w1 ⟨rfl, hb1⟩
  obtain ⟨hx0, hx1, hb⟩ := box_2 (cs := [Value.slice Aa na ca, .slice Ba ma da]) (ds := [Value.slice Ab nb cb, .slice Bb mb db]) hb1
  have HB1 := hid hb
  have hx2 := hx1
  obtain ⟨z0, z1⟩ := hx2.get2
  have HX0 := hid hx0
  have HX1 := hid hx1
  clear hb1 hb hx0 hx1 hx2
  go_wp2_with fail
  refine (HFB.out _ HB1.out).mono ?_
  rintro _ w2 ⟨rfl, hb2⟩
  have HB2 := hid (below_tr HB1.out hb2)
  have HXa := hid (HX0.out.below hb2)
  have HXb := hid (HX1.out.below hb2)
  have HSa := hid (HSa.out.below HB2.out)
  have HSb := hid (HSb.out.below HB2.out)
  have HG := hid (HG.out.below HB2.out)
  have HB := hid (below_tr HB.out HB2.out)
  clear hb2 z0 z1 HX0 HX1 HFA HFB HAW HBB
  go_wp2_with fail
  have Fr12 : Hid (sameS (orS al am bl bm).1 (orS al am bl bm).2 (orS al am bl bm).1 (orS al am bl bm).2 = true) := hid (by exact sameS_self)
  have Fr15 : Hid (sameS (andS al am bl bm).1 (andS al am bl bm).2 (andS al am bl bm).1 (andS al am bl bm).2 = true) := hid (by exact sameS_self)
  have HCk := hid (fun wx (h : Below w2.heap.size w2 wx) => law_orG 33 ca da cb db (HG.out.below h) (HSa.out.below h) (HSb.out.below h) (by decide) (by decide))
  simp only [LLa.out, LMa.out, LLb.out, LMb.out] at HCk
  generalize hz1 : (orS al am bl bm).1 = kl at *
  generalize hz2 : (orS al am bl bm).2 = km at *
  have HEkl := hid hz1
  have HEkm := hid hz2
  clear hz1 hz2
  have HCkr := hid (fun wx (h : Below w2.heap.size w2 wx) => law_orRG 33 ca da cb db (HG.out.below h) (HSa.out.below h) (HSb.out.below h) (by decide) (by decide))
  simp only [LLa.out, LMa.out, LLb.out, LMb.out] at HCkr
  simp only [HEkl.out, HEkm.out] at HCkr
  have HCe := hid (fun wx (h : Below w2.heap.size w2 wx) => law_andG 33 ca da cb db (HG.out.below h) (HSa.out.below h) (HSb.out.below h) (by decide) (by decide))
  simp only [LLa.out, LMa.out, LLb.out, LMb.out] at HCe
  generalize hz1 : (andS al am bl bm).1 = el at *
  generalize hz2 : (andS al am bl bm).2 = em at *
  have HEel := hid hz1
  have HEem := hid hz2
  clear hz1 hz2
  have HCer := hid (fun wx (h : Below w2.heap.size w2 wx) => law_andRG 33 ca da cb db (HG.out.below h) (HSa.out.below h) (HSb.out.below h) (by decide) (by decide))
  simp only [LLa.out, LMa.out, LLb.out, LMb.out] at HCer
  simp only [HEel.out, HEem.out] at HCer
  have HQr12 := hid (fun wx (h : Below w2.heap.size w2 wx) (Ck : Option Addr) (ek : Nat) (Dk : Option Addr) (fk : Nat) (jk : SetAg 33 wx Ck kl Dk km) (Ckr : Option Addr) (ekr : Nat) (Dkr : Option Addr) (fkr : Nat) (jkr : SetAg 33 wx Ckr kl Dkr km) => law_sameRG ek fk ekr fkr jk jkr (by decide))
  simp only [Fr12.out, Bool.or_self, Bool.or_true, Bool.true_or, Bool.false_or, Bool.or_false, Bool.and_self, Bool.and_true, Bool.true_and, Bool.false_and, Bool.and_false, Bool.not_true, Bool.not_false] at HQr12
  have HQr15 := hid (fun wx (h : Below w2.heap.size w2 wx) (Ce : Option Addr) (ee : Nat) (De : Option Addr) (fe : Nat) (je : SetAg 33 wx Ce el De em) (Cer : Option Addr) (eer : Nat) (Der : Option Addr) (fer : Nat) (jer : SetAg 33 wx Cer el Der em) => law_sameRG ee fe eer fer je jer (by decide))
  simp only [Fr15.out, Bool.or_self, Bool.or_true, Bool.true_or, Bool.false_or, Bool.or_false, Bool.and_self, Bool.and_true, Bool.true_and, Bool.false_and, Bool.and_false, Bool.not_true, Bool.not_false] at HQr15
  generalize hq : kl.length = nk at *
  have LLk := hid hq
  clear hq
  generalize hq : km.length = mk at *
  have LMk := hid hq
  clear hq
  generalize hq : el.length = ne at *
  have LLe := hid hq
  clear hq
  generalize hq : em.length = me at *
  have LMe := hid hq
  clear hq
  have HCk := hid (fun wx (h : Below w2.heap.size w2 wx) => callBg LLk.out LMk.out (HCk.out wx h))
  have HCkr := hid (fun wx (h : Below w2.heap.size w2 wx) => callBg LLk.out LMk.out (HCkr.out wx h))
  have HCe := hid (fun wx (h : Below w2.heap.size w2 wx) => callBg LLe.out LMe.out (HCe.out wx h))
  have HCer := hid (fun wx (h : Below w2.heap.size w2 wx) => callBg LLe.out LMe.out (HCer.out wx h))
  have HSB : Hid (∀ w', Below w2.heap.size w2 w' → w'.cell? ⟨w.heap.size, 0, none⟩ = some (.slice Aa na ca) ∧ w'.cell? ⟨w.heap.size, 1, none⟩ = some (.slice Ba ma da) ∧ w'.cell? ⟨w.heap.size + 1, 0, none⟩ = some (.slice Ab nb cb) ∧ w'.cell? ⟨w.heap.size + 1, 1, none⟩ = some (.slice Bb mb db)) := hid (fun w' h => by
    obtain ⟨a0, a1⟩ := (HXa.out.below h).get2
    obtain ⟨a2, a3⟩ := (HXb.out.below h).get2
    exact ⟨a0, a1, a2, a3⟩)
  go_region_held3 (fun w' => w'.cell? ⟨w.heap.size, 0, none⟩ = some (.slice Aa na ca) ∧ w'.cell? ⟨w.heap.size, 1, none⟩ = some (.slice Ba ma da) ∧ w'.cell? ⟨w.heap.size + 1, 0, none⟩ = some (.slice Ab nb cb) ∧ w'.cell? ⟨w.heap.size + 1, 1, none⟩ = some (.slice Bb mb db))
    (first | (exact HSB.out _ (by first | assumption | exact (Below.refl _ _).drew)) | go_keep)
    (first
      | (go_at_call_of 27 Ar1k; (with_reducible refine (HQr12.out _ (by first | assumption | exact (Below.refl _ _).drew) _ _ _ _ (sr1k.below kr1kr) _ _ _ _ sr1kr).mono ?_); rintro _ r1_2 ⟨rfl, kr1_2⟩; have hbr1_2 : Below w2.heap.size w2 r1_2 := below_tr (by first | assumption | exact (Below.refl _ _).drew) kr1_2)
      | (go_at_call 19; (with_reducible refine (HCk.out _ (by first | assumption | exact (Below.refl _ _).drew)).mono ?_); rintro _ r1k ⟨Ar1k, cr1k, Br1k, dr1k, rfl, sr1k, -, -, kr1k⟩; have hbr1k : Below w2.heap.size w2 r1k := below_tr (by first | assumption | exact (Below.refl _ _).drew) kr1k)
      | (go_at_call 28; (with_reducible refine (HCkr.out _ (by first | assumption | exact (Below.refl _ _).drew)).mono ?_); rintro _ r1kr ⟨Ar1kr, cr1kr, Br1kr, dr1kr, rfl, sr1kr, -, -, kr1kr⟩; have hbr1kr : Below w2.heap.size w2 r1kr := below_tr (by first | assumption | exact (Below.refl _ _).drew) kr1kr)
      | (go_at_call 17; (with_reducible refine (HCe.out _ (by first | assumption | exact (Below.refl _ _).drew)).mono ?_); rintro _ r1e ⟨Ar1e, cr1e, Br1e, dr1e, rfl, sr1e, -, -, kr1e⟩; have hbr1e : Below w2.heap.size w2 r1e := below_tr (by first | assumption | exact (Below.refl _ _).drew) kr1e)
      | (go_at_call 29; (with_reducible refine (HCer.out _ (by first | assumption | exact (Below.refl _ _).drew)).mono ?_); rintro _ r1er ⟨Ar1er, cr1er, Br1er, dr1er, rfl, sr1er, -, -, kr1er⟩; have hbr1er : Below w2.heap.size w2 r1er := below_tr (by first | assumption | exact (Below.refl _ _).drew) kr1er)
      | (go_at_call 27; (with_reducible refine (HQr15.out _ (by first | assumption | exact (Below.refl _ _).drew) _ _ _ _ (sr1e.below kr1er) _ _ _ _ sr1er).mono ?_); rintro _ r1_5 ⟨rfl, kr1_5⟩; have hbr1_5 : Below w2.heap.size w2 r1_5 := below_tr (by first | assumption | exact (Below.refl _ _).drew) kr1_5))
  have HSa := hid (HSa.out.below hbr1_5)
  have HSb := hid (HSb.out.below hbr1_5)
  have HXa := hid (HXa.out.below hbr1_5)
  have HXb := hid (HXb.out.below hbr1_5)
  have HG := hid (HG.out.below hbr1_5)
  have HB := hid (below_tr HB.out hbr1_5)
  clear HSB Fr12 Fr15 HCk HEkl HEkm HCkr HCe HEel HEem HCer HQr12 HQr15 LLk LMk LLe LMe kr1k kr1kr kr1_2 kr1e kr1er kr1_5 hbr1k hbr1kr hbr1_2 hbr1e hbr1er hbr1_5 sr1k sr1kr sr1e sr1er
  go_wp2_with fail
  have Fr22 : Hid (sameS (notS al am).1 (notS al am).2 (notS al am).1 (notS al am).2 = true) := hid (by exact sameS_self)
  have Fr25 : Hid (sameS (minusS al am bl bm).1 (minusS al am bl bm).2 (minusS al am bl bm).1 (minusS al am bl bm).2 = true) := hid (by exact sameS_self)
  have HCk := hid (fun wx (h : Below r1_5.heap.size r1_5 wx) => law_notG 17 ca da (HG.out.below h) (HSa.out.below h) (by decide) (by decide))
  simp only [LLa.out, LMa.out] at HCk
  generalize hz1 : (notS al am).1 = kl at *
  generalize hz2 : (notS al am).2 = km at *
  have HEkl := hid hz1
  have HEkm := hid hz2
  clear hz1 hz2
  have HCkr := hid (fun wx (h : Below r1_5.heap.size r1_5 wx) => law_notRG 17 ca da (HG.out.below h) (HSa.out.below h) (by decide) (by decide))
  simp only [LLa.out, LMa.out] at HCkr
  simp only [HEkl.out, HEkm.out] at HCkr
  have HCe := hid (fun wx (h : Below r1_5.heap.size r1_5 wx) => law_minusG 51 ca da cb db (HG.out.below h) (HSa.out.below h) (HSb.out.below h) (by decide) (by decide))
  simp only [LLa.out, LMa.out, LLb.out, LMb.out] at HCe
  generalize hz1 : (minusS al am bl bm).1 = el at *
  generalize hz2 : (minusS al am bl bm).2 = em at *
  have HEel := hid hz1
  have HEem := hid hz2
  clear hz1 hz2
  have HCer := hid (fun wx (h : Below r1_5.heap.size r1_5 wx) => law_minusRG 51 ca da cb db (HG.out.below h) (HSa.out.below h) (HSb.out.below h) (by decide) (by decide))
  simp only [LLa.out, LMa.out, LLb.out, LMb.out] at HCer
  simp only [HEel.out, HEem.out] at HCer
  have HQr22 := hid (fun wx (h : Below r1_5.heap.size r1_5 wx) (Ck : Option Addr) (ek : Nat) (Dk : Option Addr) (fk : Nat) (jk : SetAg 17 wx Ck kl Dk km) (Ckr : Option Addr) (ekr : Nat) (Dkr : Option Addr) (fkr : Nat) (jkr : SetAg 17 wx Ckr kl Dkr km) => law_sameRG ek fk ekr fkr jk jkr (by decide))
  simp only [Fr22.out, Bool.or_self, Bool.or_true, Bool.true_or, Bool.false_or, Bool.or_false, Bool.and_self, Bool.and_true, Bool.true_and, Bool.false_and, Bool.and_false, Bool.not_true, Bool.not_false] at HQr22
  have HQr25 := hid (fun wx (h : Below r1_5.heap.size r1_5 wx) (Ce : Option Addr) (ee : Nat) (De : Option Addr) (fe : Nat) (je : SetAg 51 wx Ce el De em) (Cer : Option Addr) (eer : Nat) (Der : Option Addr) (fer : Nat) (jer : SetAg 51 wx Cer el Der em) => law_sameRG ee fe eer fer je jer (by decide))
  simp only [Fr25.out, Bool.or_self, Bool.or_true, Bool.true_or, Bool.false_or, Bool.or_false, Bool.and_self, Bool.and_true, Bool.true_and, Bool.false_and, Bool.and_false, Bool.not_true, Bool.not_false] at HQr25
  generalize hq : kl.length = nk at *
  have LLk := hid hq
  clear hq
  generalize hq : km.length = mk at *
  have LMk := hid hq
  clear hq
  generalize hq : el.length = ne at *
  have LLe := hid hq
  clear hq
  generalize hq : em.length = me at *
  have LMe := hid hq
  clear hq
  have HCk := hid (fun wx (h : Below r1_5.heap.size r1_5 wx) => callBg LLk.out LMk.out (HCk.out wx h))
  have HCkr := hid (fun wx (h : Below r1_5.heap.size r1_5 wx) => callBg LLk.out LMk.out (HCkr.out wx h))
  have HCe := hid (fun wx (h : Below r1_5.heap.size r1_5 wx) => callBg LLe.out LMe.out (HCe.out wx h))
  have HCer := hid (fun wx (h : Below r1_5.heap.size r1_5 wx) => callBg LLe.out LMe.out (HCer.out wx h))
  have HSB : Hid (∀ w', Below r1_5.heap.size r1_5 w' → w'.cell? ⟨w.heap.size, 0, none⟩ = some (.slice Aa na ca) ∧ w'.cell? ⟨w.heap.size, 1, none⟩ = some (.slice Ba ma da) ∧ w'.cell? ⟨w.heap.size + 1, 0, none⟩ = some (.slice Ab nb cb) ∧ w'.cell? ⟨w.heap.size + 1, 1, none⟩ = some (.slice Bb mb db)) := hid (fun w' h => by
    obtain ⟨a0, a1⟩ := (HXa.out.below h).get2
    obtain ⟨a2, a3⟩ := (HXb.out.below h).get2
    exact ⟨a0, a1, a2, a3⟩)
  go_region_held3 (fun w' => w'.cell? ⟨w.heap.size, 0, none⟩ = some (.slice Aa na ca) ∧ w'.cell? ⟨w.heap.size, 1, none⟩ = some (.slice Ba ma da) ∧ w'.cell? ⟨w.heap.size + 1, 0, none⟩ = some (.slice Ab nb cb) ∧ w'.cell? ⟨w.heap.size + 1, 1, none⟩ = some (.slice Bb mb db))
    (first | (exact HSB.out _ (by first | assumption | exact (Below.refl _ _).drew)) | go_keep)
    (first
      | (go_at_call_of 27 Ar2k; (with_reducible refine (HQr22.out _ (by first | assumption | exact (Below.refl _ _).drew) _ _ _ _ (sr2k.below kr2kr) _ _ _ _ sr2kr).mono ?_); rintro _ r2_2 ⟨rfl, kr2_2⟩; have hbr2_2 : Below r1_5.heap.size r1_5 r2_2 := below_tr (by first | assumption | exact (Below.refl _ _).drew) kr2_2)
      | (go_at_call 21; (with_reducible refine (HCk.out _ (by first | assumption | exact (Below.refl _ _).drew)).mono ?_); rintro _ r2k ⟨Ar2k, cr2k, Br2k, dr2k, rfl, sr2k, -, -, kr2k⟩; have hbr2k : Below r1_5.heap.size r1_5 r2k := below_tr (by first | assumption | exact (Below.refl _ _).drew) kr2k)
      | (go_at_call 30; (with_reducible refine (HCkr.out _ (by first | assumption | exact (Below.refl _ _).drew)).mono ?_); rintro _ r2kr ⟨Ar2kr, cr2kr, Br2kr, dr2kr, rfl, sr2kr, -, -, kr2kr⟩; have hbr2kr : Below r1_5.heap.size r1_5 r2kr := below_tr (by first | assumption | exact (Below.refl _ _).drew) kr2kr)
      | (go_at_call 31; (with_reducible refine (HCe.out _ (by first | assumption | exact (Below.refl _ _).drew)).mono ?_); rintro _ r2e ⟨Ar2e, cr2e, Br2e, dr2e, rfl, sr2e, -, -, kr2e⟩; have hbr2e : Below r1_5.heap.size r1_5 r2e := below_tr (by first | assumption | exact (Below.refl _ _).drew) kr2e)
      | (go_at_call 32; (with_reducible refine (HCer.out _ (by first | assumption | exact (Below.refl _ _).drew)).mono ?_); rintro _ r2er ⟨Ar2er, cr2er, Br2er, dr2er, rfl, sr2er, -, -, kr2er⟩; have hbr2er : Below r1_5.heap.size r1_5 r2er := below_tr (by first | assumption | exact (Below.refl _ _).drew) kr2er)
      | (go_at_call 27; (with_reducible refine (HQr25.out _ (by first | assumption | exact (Below.refl _ _).drew) _ _ _ _ (sr2e.below kr2er) _ _ _ _ sr2er).mono ?_); rintro _ r2_5 ⟨rfl, kr2_5⟩; have hbr2_5 : Below r1_5.heap.size r1_5 r2_5 := below_tr (by first | assumption | exact (Below.refl _ _).drew) kr2_5))
  have HSa := hid (HSa.out.below hbr2_5)
  have HSb := hid (HSb.out.below hbr2_5)
  have HXa := hid (HXa.out.below hbr2_5)
  have HXb := hid (HXb.out.below hbr2_5)
  have HG := hid (HG.out.below hbr2_5)
  have HB := hid (below_tr HB.out hbr2_5)
  clear HSB Fr22 Fr25 HCk HEkl HEkm HCkr HCe HEel HEem HCer HQr22 HQr25 LLk LMk LLe LMe kr2k kr2kr kr2_2 kr2e kr2er kr2_5 hbr2k hbr2kr hbr2_2 hbr2e hbr2er hbr2_5 sr2k sr2kr sr2e sr2er
  generalize hp : withinS al am bl bm = bp at *
  generalize hq : apartS al am bl bm = bq at *
  generalize hr : sameS al am bl bm = br at *
  have HP := hid hp
  have HQ := hid hq
  have HRR := hid hr
  clear hp hq hr
  go_wp2_with fail
  have Fr31 := hid (HP.out)
  have Fr32 := hid (HP.out)
  have Fr33 := hid (HQ.out)
  have Fr34 := hid (HQ.out)
  have Fr35 := hid (HRR.out)
  have Fr36 := hid (HRR.out)
  have HQr30 := hid (fun wx (h : Below r2_5.heap.size r2_5 wx) => s5awake_any wx (HG.out.below h))
  have HQr31 := hid (fun wx (h : Below r2_5.heap.size r2_5 wx) => law_withinG ca da cb db (HG.out.below h) (HSa.out.below h) (HSb.out.below h) (by decide))
  simp only [LLa.out, LMa.out, LLb.out, LMb.out, Fr31.out, Bool.or_self, Bool.or_true, Bool.true_or, Bool.false_or, Bool.or_false, Bool.and_self, Bool.and_true, Bool.true_and, Bool.false_and, Bool.and_false, Bool.not_true, Bool.not_false] at HQr31
  have HQr32 := hid (fun wx (h : Below r2_5.heap.size r2_5 wx) => law_withinRG ca da cb db (HG.out.below h) (HSa.out.below h) (HSb.out.below h) (by decide))
  simp only [LLa.out, LMa.out, LLb.out, LMb.out, Fr32.out, Bool.or_self, Bool.or_true, Bool.true_or, Bool.false_or, Bool.or_false, Bool.and_self, Bool.and_true, Bool.true_and, Bool.false_and, Bool.and_false, Bool.not_true, Bool.not_false] at HQr32
  have HQr33 := hid (fun wx (h : Below r2_5.heap.size r2_5 wx) => law_apartG ca da cb db (HG.out.below h) (HSa.out.below h) (HSb.out.below h) (by decide))
  simp only [LLa.out, LMa.out, LLb.out, LMb.out, Fr33.out, Bool.or_self, Bool.or_true, Bool.true_or, Bool.false_or, Bool.or_false, Bool.and_self, Bool.and_true, Bool.true_and, Bool.false_and, Bool.and_false, Bool.not_true, Bool.not_false] at HQr33
  have HQr34 := hid (fun wx (h : Below r2_5.heap.size r2_5 wx) => law_apartRG ca da cb db (HG.out.below h) (HSa.out.below h) (HSb.out.below h) (by decide))
  simp only [LLa.out, LMa.out, LLb.out, LMb.out, Fr34.out, Bool.or_self, Bool.or_true, Bool.true_or, Bool.false_or, Bool.or_false, Bool.and_self, Bool.and_true, Bool.true_and, Bool.false_and, Bool.and_false, Bool.not_true, Bool.not_false] at HQr34
  have HQr35 := hid (fun wx (h : Below r2_5.heap.size r2_5 wx) => law_sameG ca da cb db (HSa.out.below h) (HSb.out.below h) (by decide))
  simp only [LLa.out, LMa.out, LLb.out, LMb.out, Fr35.out, Bool.or_self, Bool.or_true, Bool.true_or, Bool.false_or, Bool.or_false, Bool.and_self, Bool.and_true, Bool.true_and, Bool.false_and, Bool.and_false, Bool.not_true, Bool.not_false] at HQr35
  have HQr36 := hid (fun wx (h : Below r2_5.heap.size r2_5 wx) => law_sameRG ca da cb db (HSa.out.below h) (HSb.out.below h) (by decide))
  simp only [LLa.out, LMa.out, LLb.out, LMb.out, Fr36.out, Bool.or_self, Bool.or_true, Bool.true_or, Bool.false_or, Bool.or_false, Bool.and_self, Bool.and_true, Bool.true_and, Bool.false_and, Bool.and_false, Bool.not_true, Bool.not_false] at HQr36
  have HSB : Hid (∀ w', Below r2_5.heap.size r2_5 w' → w'.cell? ⟨w.heap.size, 0, none⟩ = some (.slice Aa na ca) ∧ w'.cell? ⟨w.heap.size, 1, none⟩ = some (.slice Ba ma da) ∧ w'.cell? ⟨w.heap.size + 1, 0, none⟩ = some (.slice Ab nb cb) ∧ w'.cell? ⟨w.heap.size + 1, 1, none⟩ = some (.slice Bb mb db)) := hid (fun w' h => by
    obtain ⟨a0, a1⟩ := (HXa.out.below h).get2
    obtain ⟨a2, a3⟩ := (HXb.out.below h).get2
    exact ⟨a0, a1, a2, a3⟩)
  cases bp <;> cases bq <;> cases br
  all_goals
    go_region_held3 (fun w' => w'.cell? ⟨w.heap.size, 0, none⟩ = some (.slice Aa na ca) ∧ w'.cell? ⟨w.heap.size, 1, none⟩ = some (.slice Ba ma da) ∧ w'.cell? ⟨w.heap.size + 1, 0, none⟩ = some (.slice Ab nb cb) ∧ w'.cell? ⟨w.heap.size + 1, 1, none⟩ = some (.slice Bb mb db))
      (first | (exact HSB.out _ (by first | assumption | exact (Below.refl _ _).drew)) | go_keep)
      (first
        | (go_at_call 22; (with_reducible refine (HQr30.out _ (by first | assumption | exact (Below.refl _ _).drew)).mono ?_); rintro _ r3_0 ⟨rfl, kr3_0⟩; have hbr3_0 : Below r2_5.heap.size r2_5 r3_0 := below_tr (by first | assumption | exact (Below.refl _ _).drew) kr3_0)
        | (go_at_call 24; (with_reducible refine (HQr31.out _ (by first | assumption | exact (Below.refl _ _).drew)).mono ?_); rintro _ r3_1 ⟨rfl, kr3_1⟩; have hbr3_1 : Below r2_5.heap.size r2_5 r3_1 := below_tr (by first | assumption | exact (Below.refl _ _).drew) kr3_1)
        | (go_at_call 33; (with_reducible refine (HQr32.out _ (by first | assumption | exact (Below.refl _ _).drew)).mono ?_); rintro _ r3_2 ⟨rfl, kr3_2⟩; have hbr3_2 : Below r2_5.heap.size r2_5 r3_2 := below_tr (by first | assumption | exact (Below.refl _ _).drew) kr3_2)
        | (go_at_call 25; (with_reducible refine (HQr33.out _ (by first | assumption | exact (Below.refl _ _).drew)).mono ?_); rintro _ r3_3 ⟨rfl, kr3_3⟩; have hbr3_3 : Below r2_5.heap.size r2_5 r3_3 := below_tr (by first | assumption | exact (Below.refl _ _).drew) kr3_3)
        | (go_at_call 34; (with_reducible refine (HQr34.out _ (by first | assumption | exact (Below.refl _ _).drew)).mono ?_); rintro _ r3_4 ⟨rfl, kr3_4⟩; have hbr3_4 : Below r2_5.heap.size r2_5 r3_4 := below_tr (by first | assumption | exact (Below.refl _ _).drew) kr3_4)
        | (go_at_call 16; (with_reducible refine (HQr35.out _ (by first | assumption | exact (Below.refl _ _).drew)).mono ?_); rintro _ r3_5 ⟨rfl, kr3_5⟩; have hbr3_5 : Below r2_5.heap.size r2_5 r3_5 := below_tr (by first | assumption | exact (Below.refl _ _).drew) kr3_5)
        | (go_at_call 27; (with_reducible refine (HQr36.out _ (by first | assumption | exact (Below.refl _ _).drew)).mono ?_); rintro _ r3_6 ⟨rfl, kr3_6⟩; have hbr3_6 : Below r2_5.heap.size r2_5 r3_6 := below_tr (by first | assumption | exact (Below.refl _ _).drew) kr3_6))
    have HSa := hid (HSa.out.below hbr3_6)
    have HSb := hid (HSb.out.below hbr3_6)
    have HXa := hid (HXa.out.below hbr3_6)
    have HXb := hid (HXb.out.below hbr3_6)
    have HG := hid (HG.out.below hbr3_6)
    have HB := hid (below_tr HB.out hbr3_6)
    clear HSB Fr31 Fr32 Fr33 Fr34 Fr35 Fr36 HQr30 HQr31 HQr32 HQr33 HQr34 HQr35 HQr36 kr3_0 kr3_1 kr3_2 kr3_3 kr3_4 kr3_5 kr3_6 hbr3_0 hbr3_1 hbr3_2 hbr3_3 hbr3_4 hbr3_5 hbr3_6
    go_wp2_with fail
    go_ret
    exact ⟨rfl, HB.out⟩
theorem walk_SetAlgebra (Aa : Option Addr) (ca : Nat) (Ba : Option Addr) (da : Nat) (al am : List SpanL) (Ab : Option Addr) (cb : Nat) (Bb : Option Addr) (db : Nat) (bl bm : List SpanL) (w : World) (Sa : Spans w Aa al) (Ta : Spans w Ba am) (pa : al.length ≤ 9223372036854775807) (qa : am.length ≤ 9223372036854775807) (Sb : Spans w Ab bl) (Tb : Spans w Bb bm) (pb : bl.length ≤ 9223372036854775807) (qb : bm.length ≤ 9223372036854775807) (hg : First w) : Calls Tryz.prog 4 #[setV Aa al.length ca Ba am.length da, setV Ab bl.length cb Bb bm.length db] w (BoolPost w true) := by
  cases Q : (fewR 8 al && fewR 8 am)
  · exact algebra_no1 Aa ca Ba da al am Ab cb Bb db bl bm w Sa Ta pa qa Sb Tb pb qb hg Q
  · cases Q2 : (fewR 8 bl && fewR 8 bm)
    · exact algebra_no2 Aa ca Ba da al am Ab cb Bb db bl bm w Sa Ta pa qa Sb Tb pb qb hg Q Q2
    · exact algebra_yes Aa ca Ba da al am Ab cb Bb db bl bm w Sa Ta pa qa Sb Tb pb qb hg Q Q2
end Go.Proofs.YtmnjnoggchgnjaaGreatDoor
