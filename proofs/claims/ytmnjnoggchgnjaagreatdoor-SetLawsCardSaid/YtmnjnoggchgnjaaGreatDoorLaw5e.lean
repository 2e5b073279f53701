/- Sets: the walk of linchpinlaw5.SetLaws. -/
import Derived.Test.YtmnjnoggchgnjaaGreatDoorSe
namespace Go.Proofs.YtmnjnoggchgnjaaGreatDoor
open Go.RowKit Go.Lib
open Rw
set_option linter.unusedVariables false
set_option linter.unusedSimpArgs false

set_option maxRecDepth 100000 in
set_option maxHeartbeats 4000000 in
theorem walk_SetLaws (A0 : Option Addr) (c0 : Nat) (z0 : List Int) (A1 : Option Addr) (c1 : Nat) (z1 : List Int) (w : World) (h0 : IntsAt w A0 z0) (l0 : z0.length ≤ 9223372036854775807) (h1 : IntsAt w A1 z1) (l1 : z1.length ≤ 9223372036854775807) (hg : First w) : Calls Tryz.prog 6 #[.slice A0 z0.length c0, .slice A1 z1.length c1] w (BoolPost w true) := by
  have HI0 := hid h0
  have HL0 := hid l0
  have HI1 := hid h1
  have HL1 := hid l1
  have HG := hid hg
  have HB : Hid (Below w.heap.size w w) := hid (Below.refl _ _)
  clear hg h0 l0 h1 l1
  go_enter Tryz.func6, Tryz.ntmps6
  go_wp2_with fail
  refine (lawset_any A0 c0 z0 0 w HI0.out (by omega) (by omega) HL0.out).mono ?_
  rintro _ w1 ⟨al, am, Aa, ca, Ba, da, rfl, Sa, -, -, hb⟩
  have HI0 := hid (HI0.out.below hb)
  have HI1 := hid (HI1.out.below hb)
  have HG := hid (HG.out.below hb)
  have HB := hid (below_tr HB.out hb)
  have HSa := hid Sa
  have HVa := hid Sa.val
  clear Sa hb
  generalize hna : al.length = na at *
  generalize hma : am.length = ma at *
  have LLa := hid hna
  have LMa := hid hma
  clear hna hma
  go_wp2_with fail
  refine (lawset_any A1 c1 z1 0 w1 HI1.out (by omega) (by omega) HL1.out).mono ?_
  rintro _ w2 ⟨bl, bm, Ab, cb, Bb, db, rfl, Sb, -, -, hb⟩
  have HI0 := hid (HI0.out.below hb)
  have HI1 := hid (HI1.out.below hb)
  have HSa := hid (HSa.out.below hb)
  have HG := hid (HG.out.below hb)
  have HB := hid (below_tr HB.out hb)
  have HSb := hid Sb
  have HVb := hid Sb.val
  clear Sb hb
  generalize hnb : bl.length = nb at *
  generalize hmb : bm.length = mb at *
  have LLb := hid hnb
  have LMb := hid hmb
  clear hnb hmb
  have HC := hid (fun wx (h : Below w2.heap.size w2 wx) => law_minus 117 ca da cb db (HG.out.below h) (HSa.out.below h) (HSb.out.below h) (by decide) (by decide))
  simp only [LLa.out, LMa.out, LLb.out, LMb.out] at HC
  generalize hz1 : (minusS al am bl bm).1 = sl at *
  generalize hz2 : (minusS al am bl bm).2 = sm at *
  have HEsl := hid hz1
  have HEsm := hid hz2
  clear hz1 hz2
  generalize hq : sl.length = ns at *
  have LLs := hid hq
  clear hq
  generalize hq : sm.length = ms at *
  have LMs := hid hq
  clear hq
  have HC := hid (fun wx (h : Below w2.heap.size w2 wx) => callBk LLs.out LMs.out (HC.out wx h))
  go_wp2_with fail
  refine (HC.out _ (below_tr (below_new _ _) (below_new _ _))).mono ?_
  rintro _ w3 ⟨As, cs, Bs, ds, rfl, Ss, -, -, hbz⟩
  obtain ⟨hx0, hx1, hb⟩ := box_2 (cs := [Value.slice Aa na ca, .slice Ba ma da]) (ds := [Value.slice Ab nb cb, .slice Bb mb db]) hbz
  have HI0 := hid (HI0.out.below hb)
  have HI1 := hid (HI1.out.below hb)
  have HSa := hid (HSa.out.below hb)
  have HSb := hid (HSb.out.below hb)
  have HG := hid (HG.out.below hb)
  have HB := hid (below_tr HB.out hb)
  have HXa := hid hx0
  have HXb := hid hx1
  have HSs := hid Ss
  have HVs := hid Ss.val
  clear hx0 hx1 hb hbz Ss HC
  go_wp2_with fail
  refine wp_name ?_
  intro w4 hwn
  have hb : Below w3.heap.size w3 w4 := by rw [hwn]; exact below_new _ _
  have hx0 : Box w4 w3.heap.size [Value.slice As ns cs, .slice Bs ms ds] := by rw [hwn]; exact Box.new w3 [Value.slice As ns cs, .slice Bs ms ds] _
  have HI0 := hid (HI0.out.below hb)
  have HI1 := hid (HI1.out.below hb)
  have HSa := hid (HSa.out.below hb)
  have HSb := hid (HSb.out.below hb)
  have HSs := hid (HSs.out.below hb)
  have HXa := hid (HXa.out.below hb)
  have HXb := hid (HXb.out.below hb)
  have HG := hid (HG.out.below hb)
  have HB := hid (below_tr HB.out hb)
  have HXs := hid hx0
  clear hwn hb hx0
  go_wp2_with fail
  have Fr12 : Hid (sameS (orS sl sm (andS al am bl bm).1 (andS al am bl bm).2).1 (orS sl sm (andS al am bl bm).1 (andS al am bl bm).2).2 al am = true) := hid (by rw [← HEsl.out, ← HEsm.out, less_or HVa.out HVb.out]; exact sameS_self)
  have Fr13 : Hid (apartS sl sm bl bm = true) := hid (by rw [← HEsl.out, ← HEsm.out]; exact less_apart HVa.out HVb.out)
  have Fr14 : Hid (withinS sl sm al am = true) := hid (by rw [← HEsl.out, ← HEsm.out]; exact less_within HVa.out HVb.out)
  have HCk := hid (fun wx (h : Below w4.heap.size w4 wx) => law_and 77 ca da cb db (HG.out.below h) (HSa.out.below h) (HSb.out.below h) (by decide) (by decide))
  simp only [LLa.out, LMa.out, LLb.out, LMb.out] at HCk
  generalize hz1 : (andS al am bl bm).1 = kl at *
  generalize hz2 : (andS al am bl bm).2 = km at *
  clear hz1 hz2
  have HCq := hid (fun wx (h : Below w4.heap.size w4 wx) (Ck : Option Addr) (ek : Nat) (Dk : Option Addr) (fk : Nat) (jk : SetAt 77 wx Ck kl Dk km) => law_or 389 cs ds ek fk (HG.out.below h) (HSs.out.below h) jk (by decide) (by decide))
  simp only [LLs.out, LMs.out] at HCq
  generalize hz1 : (orS sl sm kl km).1 = ql at *
  generalize hz2 : (orS sl sm kl km).2 = qm at *
  clear hz1 hz2
  have HQr12 := hid (fun wx (h : Below w4.heap.size w4 wx) (Cq : Option Addr) (eq : Nat) (Dq : Option Addr) (fq : Nat) (jq : SetAt 389 wx Cq ql Dq qm) => law_same eq fq ca da jq (HSa.out.below h) (by decide))
  simp only [LLa.out, LMa.out, Fr12.out, Bool.or_self, Bool.or_true, Bool.true_or, Bool.false_or, Bool.or_false, Bool.and_self, Bool.and_true, Bool.true_and, Bool.false_and, Bool.and_false, Bool.not_true, Bool.not_false] at HQr12
  have HQr13 := hid (fun wx (h : Below w4.heap.size w4 wx) => law_apart cs ds cb db (HG.out.below h) (HSs.out.below h) (HSb.out.below h) (by decide))
  simp only [LLs.out, LMs.out, LLb.out, LMb.out, Fr13.out, Bool.or_self, Bool.or_true, Bool.true_or, Bool.false_or, Bool.or_false, Bool.and_self, Bool.and_true, Bool.true_and, Bool.false_and, Bool.and_false, Bool.not_true, Bool.not_false] at HQr13
  have HQr14 := hid (fun wx (h : Below w4.heap.size w4 wx) => law_within cs ds ca da (HG.out.below h) (HSs.out.below h) (HSa.out.below h) (by decide))
  simp only [LLs.out, LMs.out, LLa.out, LMa.out, Fr14.out, Bool.or_self, Bool.or_true, Bool.true_or, Bool.false_or, Bool.or_false, Bool.and_self, Bool.and_true, Bool.true_and, Bool.false_and, Bool.and_false, Bool.not_true, Bool.not_false] at HQr14
  generalize hq : kl.length = nk at *
  have LLk := hid hq
  clear hq
  generalize hq : km.length = mk at *
  have LMk := hid hq
  clear hq
  generalize hq : ql.length = nq at *
  have LLq := hid hq
  clear hq
  generalize hq : qm.length = mq at *
  have LMq := hid hq
  clear hq
  have HCk := hid (fun wx (h : Below w4.heap.size w4 wx) => callBk LLk.out LMk.out (HCk.out wx h))
  have HCq := hid (fun wx (h : Below w4.heap.size w4 wx) (Ck : Option Addr) (ek : Nat) (Dk : Option Addr) (fk : Nat) (jk : SetAt 77 wx Ck kl Dk km) => callBk LLq.out LMq.out (HCq.out wx h Ck ek Dk fk jk))
  have HSB : Hid (∀ w', Below w4.heap.size w4 w' → w'.cell? ⟨w2.heap.size, 0, none⟩ = some (.slice Aa na ca) ∧ w'.cell? ⟨w2.heap.size, 1, none⟩ = some (.slice Ba ma da) ∧ w'.cell? ⟨w2.heap.size + 1, 0, none⟩ = some (.slice Ab nb cb) ∧ w'.cell? ⟨w2.heap.size + 1, 1, none⟩ = some (.slice Bb mb db) ∧ w'.cell? ⟨w3.heap.size, 0, none⟩ = some (.slice As ns cs) ∧ w'.cell? ⟨w3.heap.size, 1, none⟩ = some (.slice Bs ms ds)) := hid (fun w' h => by
    obtain ⟨a0, a1⟩ := (HXa.out.below h).get2
    obtain ⟨a2, a3⟩ := (HXb.out.below h).get2
    obtain ⟨a4, a5⟩ := (HXs.out.below h).get2
    exact ⟨a0, a1, a2, a3, a4, a5⟩)
  go_region_held3 (fun w' => w'.cell? ⟨w2.heap.size, 0, none⟩ = some (.slice Aa na ca) ∧ w'.cell? ⟨w2.heap.size, 1, none⟩ = some (.slice Ba ma da) ∧ w'.cell? ⟨w2.heap.size + 1, 0, none⟩ = some (.slice Ab nb cb) ∧ w'.cell? ⟨w2.heap.size + 1, 1, none⟩ = some (.slice Bb mb db) ∧ w'.cell? ⟨w3.heap.size, 0, none⟩ = some (.slice As ns cs) ∧ w'.cell? ⟨w3.heap.size, 1, none⟩ = some (.slice Bs ms ds))
    (first | (exact HSB.out _ (by first | assumption | exact (Below.refl _ _).drew)) | go_keep)
    (first
      | (go_at_call 17; (with_reducible refine (HCk.out _ (by first | assumption | exact (Below.refl _ _).drew)).mono ?_); rintro _ r1k ⟨Ar1k, cr1k, Br1k, dr1k, rfl, sr1k, -, -, kr1k⟩; have hbr1k : Below w4.heap.size w4 r1k := below_tr (by first | assumption | exact (Below.refl _ _).drew) kr1k)
      | (go_at_call 19; (with_reducible refine (HCq.out _ (by first | assumption | exact (Below.refl _ _).drew) _ _ _ _ sr1k).mono ?_); rintro _ r1q ⟨Ar1q, cr1q, Br1q, dr1q, rfl, sr1q, -, -, kr1q⟩; have hbr1q : Below w4.heap.size w4 r1q := below_tr (by first | assumption | exact (Below.refl _ _).drew) kr1q)
      | (go_at_call 16; (with_reducible refine (HQr12.out _ (by first | assumption | exact (Below.refl _ _).drew) _ _ _ _ sr1q).mono ?_); rintro _ r1_2 ⟨rfl, kr1_2⟩; have hbr1_2 : Below w4.heap.size w4 r1_2 := below_tr (by first | assumption | exact (Below.refl _ _).drew) kr1_2)
      | (go_at_call 25; (with_reducible refine (HQr13.out _ (by first | assumption | exact (Below.refl _ _).drew)).mono ?_); rintro _ r1_3 ⟨rfl, kr1_3⟩; have hbr1_3 : Below w4.heap.size w4 r1_3 := below_tr (by first | assumption | exact (Below.refl _ _).drew) kr1_3)
      | (go_at_call 24; (with_reducible refine (HQr14.out _ (by first | assumption | exact (Below.refl _ _).drew)).mono ?_); rintro _ r1_4 ⟨rfl, kr1_4⟩; have hbr1_4 : Below w4.heap.size w4 r1_4 := below_tr (by first | assumption | exact (Below.refl _ _).drew) kr1_4))
  have HI0 := hid (HI0.out.below hbr1_4)
  have HI1 := hid (HI1.out.below hbr1_4)
  have HSa := hid (HSa.out.below hbr1_4)
  have HSb := hid (HSb.out.below hbr1_4)
  have HSs := hid (HSs.out.below hbr1_4)
  have HXa := hid (HXa.out.below hbr1_4)
  have HXb := hid (HXb.out.below hbr1_4)
  have HXs := hid (HXs.out.below hbr1_4)
  have HG := hid (HG.out.below hbr1_4)
  have HB := hid (below_tr HB.out hbr1_4)
  clear HSB Fr12 Fr13 Fr14 HCk HCq HQr12 HQr13 HQr14 LLk LMk LLq LMq kr1k kr1q kr1_2 kr1_3 kr1_4 hbr1k hbr1q hbr1_2 hbr1_3 hbr1_4 sr1k sr1q
  have H1 := hid (within_less HVa.out HVb.out)
  have H2 := hid (apart_withinS HVa.out HVb.out)
  rw [HEsl.out, HEsm.out] at H1
  generalize hp : withinS al am bl bm = bp at *
  generalize hq : apartS al am bl bm = bq at *
  have HP := hid hp
  have HQ := hid hq
  clear hp hq
  go_wp2_with fail
  have Fr20 := hid (HP.out)
  have Fr22 := hid (H1.out.symm)
  have Fr23 := hid (HQ.out)
  have Fr25 := hid (H2.out.symm)
  have HCe := hid (fun wx (h : Below r1_4.heap.size r1_4 wx) => law_not 39 cb db (HG.out.below h) (HSb.out.below h) (by decide) (by decide))
  simp only [LLb.out, LMb.out] at HCe
  generalize hz1 : (notS bl bm).1 = el at *
  generalize hz2 : (notS bl bm).2 = em at *
  clear hz1 hz2
  have HQr20 := hid (fun wx (h : Below r1_4.heap.size r1_4 wx) => law_within ca da cb db (HG.out.below h) (HSa.out.below h) (HSb.out.below h) (by decide))
  simp only [LLa.out, LMa.out, LLb.out, LMb.out, Fr20.out, Bool.or_self, Bool.or_true, Bool.true_or, Bool.false_or, Bool.or_false, Bool.and_self, Bool.and_true, Bool.true_and, Bool.false_and, Bool.and_false, Bool.not_true, Bool.not_false] at HQr20
  have HQr22 := hid (fun wx (h : Below r1_4.heap.size r1_4 wx) => law_same cs ds 0 0 (HSs.out.below h) (SetAt.none wx) (by decide))
  simp only [LLs.out, LMs.out, Fr22.out, Bool.or_self, Bool.or_true, Bool.true_or, Bool.false_or, Bool.or_false, Bool.and_self, Bool.and_true, Bool.true_and, Bool.false_and, Bool.and_false, Bool.not_true, Bool.not_false] at HQr22
  have HQr23 := hid (fun wx (h : Below r1_4.heap.size r1_4 wx) => law_apart ca da cb db (HG.out.below h) (HSa.out.below h) (HSb.out.below h) (by decide))
  simp only [LLa.out, LMa.out, LLb.out, LMb.out, Fr23.out, Bool.or_self, Bool.or_true, Bool.true_or, Bool.false_or, Bool.or_false, Bool.and_self, Bool.and_true, Bool.true_and, Bool.false_and, Bool.and_false, Bool.not_true, Bool.not_false] at HQr23
  have HQr25 := hid (fun wx (h : Below r1_4.heap.size r1_4 wx) (Ce : Option Addr) (ee : Nat) (De : Option Addr) (fe : Nat) (je : SetAt 39 wx Ce el De em) => law_within ca da ee fe (HG.out.below h) (HSa.out.below h) je (by decide))
  simp only [LLa.out, LMa.out, Fr25.out, Bool.or_self, Bool.or_true, Bool.true_or, Bool.false_or, Bool.or_false, Bool.and_self, Bool.and_true, Bool.true_and, Bool.false_and, Bool.and_false, Bool.not_true, Bool.not_false] at HQr25
  generalize hq : el.length = ne at *
  have LLe := hid hq
  clear hq
  generalize hq : em.length = me at *
  have LMe := hid hq
  clear hq
  simp only [List.length_nil] at HQr22
  have HCe := hid (fun wx (h : Below r1_4.heap.size r1_4 wx) => callBk LLe.out LMe.out (HCe.out wx h))
  have HSB : Hid (∀ w', Below r1_4.heap.size r1_4 w' → w'.cell? ⟨w2.heap.size, 0, none⟩ = some (.slice Aa na ca) ∧ w'.cell? ⟨w2.heap.size, 1, none⟩ = some (.slice Ba ma da) ∧ w'.cell? ⟨w2.heap.size + 1, 0, none⟩ = some (.slice Ab nb cb) ∧ w'.cell? ⟨w2.heap.size + 1, 1, none⟩ = some (.slice Bb mb db) ∧ w'.cell? ⟨w3.heap.size, 0, none⟩ = some (.slice As ns cs) ∧ w'.cell? ⟨w3.heap.size, 1, none⟩ = some (.slice Bs ms ds)) := hid (fun w' h => by
    obtain ⟨a0, a1⟩ := (HXa.out.below h).get2
    obtain ⟨a2, a3⟩ := (HXb.out.below h).get2
    obtain ⟨a4, a5⟩ := (HXs.out.below h).get2
    exact ⟨a0, a1, a2, a3, a4, a5⟩)
  cases bp <;> cases bq
  all_goals
    go_region_held3 (fun w' => w'.cell? ⟨w2.heap.size, 0, none⟩ = some (.slice Aa na ca) ∧ w'.cell? ⟨w2.heap.size, 1, none⟩ = some (.slice Ba ma da) ∧ w'.cell? ⟨w2.heap.size + 1, 0, none⟩ = some (.slice Ab nb cb) ∧ w'.cell? ⟨w2.heap.size + 1, 1, none⟩ = some (.slice Bb mb db) ∧ w'.cell? ⟨w3.heap.size, 0, none⟩ = some (.slice As ns cs) ∧ w'.cell? ⟨w3.heap.size, 1, none⟩ = some (.slice Bs ms ds))
      (first | (exact HSB.out _ (by first | assumption | exact (Below.refl _ _).drew)) | go_keep)
      (first
        | (go_at_call_of 24 Ab; (with_reducible refine (HQr20.out _ (by first | assumption | exact (Below.refl _ _).drew)).mono ?_); rintro _ r2_0 ⟨rfl, kr2_0⟩; have hbr2_0 : Below r1_4.heap.size r1_4 r2_0 := below_tr (by first | assumption | exact (Below.refl _ _).drew) kr2_0)
        | (go_at_call 20; (with_reducible refine (snone_any _).mono ?_); rintro _ r2none ⟨rfl, kr2none⟩; have hbr2none : Below r1_4.heap.size r1_4 r2none := below_tr (by first | assumption | exact (Below.refl _ _).drew) kr2none)
        | (go_at_call 16; (with_reducible refine (HQr22.out _ (by first | assumption | exact (Below.refl _ _).drew)).mono ?_); rintro _ r2_2 ⟨rfl, kr2_2⟩; have hbr2_2 : Below r1_4.heap.size r1_4 r2_2 := below_tr (by first | assumption | exact (Below.refl _ _).drew) kr2_2)
        | (go_at_call 25; (with_reducible refine (HQr23.out _ (by first | assumption | exact (Below.refl _ _).drew)).mono ?_); rintro _ r2_3 ⟨rfl, kr2_3⟩; have hbr2_3 : Below r1_4.heap.size r1_4 r2_3 := below_tr (by first | assumption | exact (Below.refl _ _).drew) kr2_3)
        | (go_at_call 21; (with_reducible refine (HCe.out _ (by first | assumption | exact (Below.refl _ _).drew)).mono ?_); rintro _ r2e ⟨Ar2e, cr2e, Br2e, dr2e, rfl, sr2e, -, -, kr2e⟩; have hbr2e : Below r1_4.heap.size r1_4 r2e := below_tr (by first | assumption | exact (Below.refl _ _).drew) kr2e)
        | (go_at_call 24; (with_reducible refine (HQr25.out _ (by first | assumption | exact (Below.refl _ _).drew) _ _ _ _ sr2e).mono ?_); rintro _ r2_5 ⟨rfl, kr2_5⟩; have hbr2_5 : Below r1_4.heap.size r1_4 r2_5 := below_tr (by first | assumption | exact (Below.refl _ _).drew) kr2_5))
    have HI0 := hid (HI0.out.below hbr2_5)
    have HI1 := hid (HI1.out.below hbr2_5)
    have HSa := hid (HSa.out.below hbr2_5)
    have HSb := hid (HSb.out.below hbr2_5)
    have HSs := hid (HSs.out.below hbr2_5)
    have HXa := hid (HXa.out.below hbr2_5)
    have HXb := hid (HXb.out.below hbr2_5)
    have HXs := hid (HXs.out.below hbr2_5)
    have HG := hid (HG.out.below hbr2_5)
    have HB := hid (below_tr HB.out hbr2_5)
    clear HSB Fr20 Fr22 Fr23 Fr25 HCe HQr20 HQr22 HQr23 HQr25 LLe LMe kr2_0 kr2none kr2_2 kr2_3 kr2e kr2_5 hbr2_0 hbr2none hbr2_2 hbr2_3 hbr2e hbr2_5 sr2e
    go_wp2_with fail
    have Fr36 : Hid (sameS (notS (andS al am bl bm).1 (andS al am bl bm).2).1 (notS (andS al am bl bm).1 (andS al am bl bm).2).2 (orS (notS al am).1 (notS al am).2 (notS bl bm).1 (notS bl bm).2).1 (orS (notS al am).1 (notS al am).2 (notS bl bm).1 (notS bl bm).2).2 = true) := hid (by rw [de_morganS HVa.out HVb.out]; exact sameS_self)
    have HCk := hid (fun wx (h : Below r2_5.heap.size r2_5 wx) => law_and 77 ca da cb db (HG.out.below h) (HSa.out.below h) (HSb.out.below h) (by decide) (by decide))
    simp only [LLa.out, LMa.out, LLb.out, LMb.out] at HCk
    generalize hz1 : (andS al am bl bm).1 = kl at *
    generalize hz2 : (andS al am bl bm).2 = km at *
    clear hz1 hz2
    have HCf := hid (fun wx (h : Below r2_5.heap.size r2_5 wx) (Ck : Option Addr) (ek : Nat) (Dk : Option Addr) (fk : Nat) (jk : SetAt 77 wx Ck kl Dk km) => law_not 155 ek fk (HG.out.below h) jk (by decide) (by decide))
    generalize hz1 : (notS kl km).1 = fl at *
    generalize hz2 : (notS kl km).2 = fm at *
    clear hz1 hz2
    have HCi := hid (fun wx (h : Below r2_5.heap.size r2_5 wx) => law_not 39 ca da (HG.out.below h) (HSa.out.below h) (by decide) (by decide))
    simp only [LLa.out, LMa.out] at HCi
    generalize hz1 : (notS al am).1 = il at *
    generalize hz2 : (notS al am).2 = im at *
    clear hz1 hz2
    have HCj := hid (fun wx (h : Below r2_5.heap.size r2_5 wx) => law_not 39 cb db (HG.out.below h) (HSb.out.below h) (by decide) (by decide))
    simp only [LLb.out, LMb.out] at HCj
    generalize hz1 : (notS bl bm).1 = jl at *
    generalize hz2 : (notS bl bm).2 = jm at *
    clear hz1 hz2
    have HCo := hid (fun wx (h : Below r2_5.heap.size r2_5 wx) (Ci : Option Addr) (ei : Nat) (Di : Option Addr) (fi : Nat) (ji : SetAt 39 wx Ci il Di im) (Cj : Option Addr) (ej : Nat) (Dj : Option Addr) (fj : Nat) (jj : SetAt 39 wx Cj jl Dj jm) => law_or 157 ei fi ej fj (HG.out.below h) ji jj (by decide) (by decide))
    generalize hz1 : (orS il im jl jm).1 = ol at *
    generalize hz2 : (orS il im jl jm).2 = om at *
    clear hz1 hz2
    have HQr30 := hid (fun wx (h : Below r2_5.heap.size r2_5 wx) => s5awake_any wx (HG.out.below h))
    have HQr36 := hid (fun wx (h : Below r2_5.heap.size r2_5 wx) (Cf : Option Addr) (ef : Nat) (Df : Option Addr) (ff : Nat) (jf : SetAt 155 wx Cf fl Df fm) (Co : Option Addr) (eo : Nat) (Do : Option Addr) (fo : Nat) (jo : SetAt 157 wx Co ol Do om) => law_same ef ff eo fo jf jo (by decide))
    simp only [Fr36.out, Bool.or_self, Bool.or_true, Bool.true_or, Bool.false_or, Bool.or_false, Bool.and_self, Bool.and_true, Bool.true_and, Bool.false_and, Bool.and_false, Bool.not_true, Bool.not_false] at HQr36
    have HQr37 := hid (fun wx (h : Below r2_5.heap.size r2_5 wx) => law_may cs ds (HG.out.below h) (HSs.out.below h) (by decide))
    simp only [LLs.out, LMs.out, Bool.or_self, Bool.or_true, Bool.true_or, Bool.false_or, Bool.or_false, Bool.and_self, Bool.and_true, Bool.true_and, Bool.false_and, Bool.and_false, Bool.not_true, Bool.not_false] at HQr37
    generalize hq : kl.length = nk at *
    have LLk := hid hq
    clear hq
    generalize hq : km.length = mk at *
    have LMk := hid hq
    clear hq
    generalize hq : fl.length = nf at *
    have LLf := hid hq
    clear hq
    generalize hq : fm.length = mf at *
    have LMf := hid hq
    clear hq
    generalize hq : il.length = ni at *
    have LLi := hid hq
    clear hq
    generalize hq : im.length = mi at *
    have LMi := hid hq
    clear hq
    generalize hq : jl.length = nj at *
    have LLj := hid hq
    clear hq
    generalize hq : jm.length = mj at *
    have LMj := hid hq
    clear hq
    generalize hq : ol.length = no at *
    have LLo := hid hq
    clear hq
    generalize hq : om.length = mo at *
    have LMo := hid hq
    clear hq
    have HCk := hid (fun wx (h : Below r2_5.heap.size r2_5 wx) => callBk LLk.out LMk.out (HCk.out wx h))
    have HCf := hid (fun wx (h : Below r2_5.heap.size r2_5 wx) (Ck : Option Addr) (ek : Nat) (Dk : Option Addr) (fk : Nat) (jk : SetAt 77 wx Ck kl Dk km) => callBk LLf.out LMf.out (HCf.out wx h Ck ek Dk fk jk))
    have HCi := hid (fun wx (h : Below r2_5.heap.size r2_5 wx) => callBk LLi.out LMi.out (HCi.out wx h))
    have HCj := hid (fun wx (h : Below r2_5.heap.size r2_5 wx) => callBk LLj.out LMj.out (HCj.out wx h))
    have HCo := hid (fun wx (h : Below r2_5.heap.size r2_5 wx) (Ci : Option Addr) (ei : Nat) (Di : Option Addr) (fi : Nat) (ji : SetAt 39 wx Ci il Di im) (Cj : Option Addr) (ej : Nat) (Dj : Option Addr) (fj : Nat) (jj : SetAt 39 wx Cj jl Dj jm) => callBk LLo.out LMo.out (HCo.out wx h Ci ei Di fi ji Cj ej Dj fj jj))
    have HSB : Hid (∀ w', Below r2_5.heap.size r2_5 w' → w'.cell? ⟨w2.heap.size, 0, none⟩ = some (.slice Aa na ca) ∧ w'.cell? ⟨w2.heap.size, 1, none⟩ = some (.slice Ba ma da) ∧ w'.cell? ⟨w2.heap.size + 1, 0, none⟩ = some (.slice Ab nb cb) ∧ w'.cell? ⟨w2.heap.size + 1, 1, none⟩ = some (.slice Bb mb db) ∧ w'.cell? ⟨w3.heap.size, 0, none⟩ = some (.slice As ns cs) ∧ w'.cell? ⟨w3.heap.size, 1, none⟩ = some (.slice Bs ms ds)) := hid (fun w' h => by
      obtain ⟨a0, a1⟩ := (HXa.out.below h).get2
      obtain ⟨a2, a3⟩ := (HXb.out.below h).get2
      obtain ⟨a4, a5⟩ := (HXs.out.below h).get2
      exact ⟨a0, a1, a2, a3, a4, a5⟩)
    go_region_held3 (fun w' => w'.cell? ⟨w2.heap.size, 0, none⟩ = some (.slice Aa na ca) ∧ w'.cell? ⟨w2.heap.size, 1, none⟩ = some (.slice Ba ma da) ∧ w'.cell? ⟨w2.heap.size + 1, 0, none⟩ = some (.slice Ab nb cb) ∧ w'.cell? ⟨w2.heap.size + 1, 1, none⟩ = some (.slice Bb mb db) ∧ w'.cell? ⟨w3.heap.size, 0, none⟩ = some (.slice As ns cs) ∧ w'.cell? ⟨w3.heap.size, 1, none⟩ = some (.slice Bs ms ds))
      (first | (exact HSB.out _ (by first | assumption | exact (Below.refl _ _).drew)) | go_keep)
      (first
        | (go_at_call_of 21 Ar3k; (with_reducible refine (HCf.out _ (by first | assumption | exact (Below.refl _ _).drew) _ _ _ _ sr3k).mono ?_); rintro _ r3f ⟨Ar3f, cr3f, Br3f, dr3f, rfl, sr3f, -, -, kr3f⟩; have hbr3f : Below r2_5.heap.size r2_5 r3f := below_tr (by first | assumption | exact (Below.refl _ _).drew) kr3f)
        | (go_at_call_of 21 Aa; (with_reducible refine (HCi.out _ (by first | assumption | exact (Below.refl _ _).drew)).mono ?_); rintro _ r3i ⟨Ar3i, cr3i, Br3i, dr3i, rfl, sr3i, -, -, kr3i⟩; have hbr3i : Below r2_5.heap.size r2_5 r3i := below_tr (by first | assumption | exact (Below.refl _ _).drew) kr3i)
        | (go_at_call 22; (with_reducible refine (HQr30.out _ (by first | assumption | exact (Below.refl _ _).drew)).mono ?_); rintro _ r3_0 ⟨rfl, kr3_0⟩; have hbr3_0 : Below r2_5.heap.size r2_5 r3_0 := below_tr (by first | assumption | exact (Below.refl _ _).drew) kr3_0)
        | (go_at_call 17; (with_reducible refine (HCk.out _ (by first | assumption | exact (Below.refl _ _).drew)).mono ?_); rintro _ r3k ⟨Ar3k, cr3k, Br3k, dr3k, rfl, sr3k, -, -, kr3k⟩; have hbr3k : Below r2_5.heap.size r2_5 r3k := below_tr (by first | assumption | exact (Below.refl _ _).drew) kr3k)
        | (go_at_call 21; (with_reducible refine (HCj.out _ (by first | assumption | exact (Below.refl _ _).drew)).mono ?_); rintro _ r3j ⟨Ar3j, cr3j, Br3j, dr3j, rfl, sr3j, -, -, kr3j⟩; have hbr3j : Below r2_5.heap.size r2_5 r3j := below_tr (by first | assumption | exact (Below.refl _ _).drew) kr3j)
        | (go_at_call 19; (with_reducible refine (HCo.out _ (by first | assumption | exact (Below.refl _ _).drew) _ _ _ _ (sr3i.below kr3j) _ _ _ _ sr3j).mono ?_); rintro _ r3o ⟨Ar3o, cr3o, Br3o, dr3o, rfl, sr3o, -, -, kr3o⟩; have hbr3o : Below r2_5.heap.size r2_5 r3o := below_tr (by first | assumption | exact (Below.refl _ _).drew) kr3o)
        | (go_at_call 16; (with_reducible refine (HQr36.out _ (by first | assumption | exact (Below.refl _ _).drew) _ _ _ _ (((sr3f.below kr3i).below kr3j).below kr3o) _ _ _ _ sr3o).mono ?_); rintro _ r3_6 ⟨rfl, kr3_6⟩; have hbr3_6 : Below r2_5.heap.size r2_5 r3_6 := below_tr (by first | assumption | exact (Below.refl _ _).drew) kr3_6)
        | (go_at_call 35; (with_reducible refine (HQr37.out _ (by first | assumption | exact (Below.refl _ _).drew)).mono ?_); rintro _ r3_7 ⟨rfl, kr3_7⟩; have hbr3_7 : Below r2_5.heap.size r2_5 r3_7 := below_tr (by first | assumption | exact (Below.refl _ _).drew) kr3_7))
    have HI0 := hid (HI0.out.below hbr3_7)
    have HI1 := hid (HI1.out.below hbr3_7)
    have HSa := hid (HSa.out.below hbr3_7)
    have HSb := hid (HSb.out.below hbr3_7)
    have HSs := hid (HSs.out.below hbr3_7)
    have HXa := hid (HXa.out.below hbr3_7)
    have HXb := hid (HXb.out.below hbr3_7)
    have HXs := hid (HXs.out.below hbr3_7)
    have HG := hid (HG.out.below hbr3_7)
    have HB := hid (below_tr HB.out hbr3_7)
    clear HSB Fr36 HCk HCf HCi HCj HCo HQr30 HQr36 HQr37 LLk LMk LLf LMf LLi LMi LLj LMj LLo LMo kr3_0 kr3k kr3f kr3i kr3j kr3o kr3_6 kr3_7 hbr3_0 hbr3k hbr3f hbr3i hbr3j hbr3o hbr3_6 hbr3_7 sr3k sr3f sr3i sr3j sr3o
    go_wp2_with fail
    go_ret
    exact ⟨rfl, HB.out⟩
end Go.Proofs.YtmnjnoggchgnjaaGreatDoor
