/- Sets: the walk of linchpinlaw5.SetEnds. -/
import Derived.Test.YtmnjnoggchgnjaaGreatDoorSe
namespace Go.Proofs.YtmnjnoggchgnjaaGreatDoor
open Go.RowKit Go.Lib
open Rw
set_option linter.unusedVariables false
set_option linter.unusedSimpArgs false

set_option maxRecDepth 100000 in
set_option maxHeartbeats 4000000 in
theorem walk_SetEnds (A0 : Option Addr) (c0 : Nat) (z0 : List Int) (w : World) (h0 : IntsAt w A0 z0) (l0 : z0.length ≤ 9223372036854775807) (hg : First w) : Calls Tryz.prog 3 #[.slice A0 z0.length c0] w (BoolPost w true) := by
  have HI0 := hid h0
  have HL0 := hid l0
  have HG := hid hg
  have HB : Hid (Below w.heap.size w w) := hid (Below.refl _ _)
  clear hg h0 l0
  go_enter Tryz.func3, Tryz.ntmps3
  go_wp2_with fail
  refine (lawset_any A0 c0 z0 0 w HI0.out (by omega) (by omega) HL0.out).mono ?_
  rintro _ w1 ⟨al, am, Aa, ca, Ba, da, rfl, Sa, -, -, hb⟩
  have HI0 := hid (HI0.out.below hb)
  have HG := hid (HG.out.below hb)
  have HB := hid (below_tr HB.out hb)
  have HSa := hid Sa
  have HVa := hid Sa.val
  clear Sa hb
  generalize hna : al.length = na at *
  generalize hma : am.length = ma at *
  have LLa := hid hna
  have LMa := hid hma
  clear hna hma
  go_wp2_with fail
  refine (version_any A0 c0 z0 98 w1 HI0.out (by omega) (by omega) HL0.out).mono ?_
  rintro _ w2 ⟨rfl, hb⟩
  have HOv := hid (versionL_ok z0 98)
  generalize versionL z0 98 = v at *
  have HI0 := hid (HI0.out.below hb)
  have HSa := hid (HSa.out.below hb)
  have HG := hid (HG.out.below hb)
  have HB := hid (below_tr HB.out hb)
  clear hb
  go_wp2_with fail
  refine wp_name ?_
  intro w3 hwn
  obtain ⟨hx0, hx1, hb0⟩ := box_2 (cs := [Value.slice Aa na ca, .slice Ba ma da]) (ds := v.cells) (w := w2) (w1 := w3) (s := 28) (t := 25) (by rw [hwn]; exact Below.refl _ _)
  have hb : Below w2.heap.size w2 w3 := hb0
  have HI0 := hid (HI0.out.below hb)
  have HSa := hid (HSa.out.below hb)
  have HG := hid (HG.out.below hb)
  have HB := hid (below_tr HB.out hb)
  have HXa := hid hx0
  have HXv := hid hx1
  clear hwn hb hx0 hx1 hb0
  go_wp2_with fail
  have Fr12 : Hid (sameS (andS al am wholeL wholeL).1 (andS al am wholeL wholeL).2 al am = true) := hid (by exact ends_and HVa.out)
  have Fr15 : Hid (sameS (orS al am [] []).1 (orS al am [] []).2 al am = true) := hid (by exact ends_or HVa.out)
  have Fr19 : Hid (sameS (notS wholeL wholeL).1 (notS wholeL wholeL).2 [] [] = true) := hid (by rw [ends_not]; exact sameS_self)
  have HCall : Hid (∀ wx, Calls Tryz.prog 18 #[] wx (SetBack 1 wx wholeL wholeL)) := hid law_all
  generalize hz1 : wholeL = allL at *
  clear hz1
  have HCh := hid (fun wx (h : Below w3.heap.size w3 wx) (Call : Option Addr) (eall : Nat) (Dall : Option Addr) (fall : Nat) (jall : SetAt 1 wx Call allL Dall allL) => law_and 41 ca da eall fall (HG.out.below h) (HSa.out.below h) jall (by decide) (by decide))
  simp only [LLa.out, LMa.out] at HCh
  generalize hz1 : (andS al am allL allL).1 = hl at *
  generalize hz2 : (andS al am allL allL).2 = hm at *
  clear hz1 hz2
  have HCk := hid (fun wx (h : Below w3.heap.size w3 wx) => law_or 39 ca da 0 0 (HG.out.below h) (HSa.out.below h) (SetAt.none wx) (by decide) (by decide))
  simp only [LLa.out, LMa.out] at HCk
  generalize hz1 : (orS al am [] []).1 = kl at *
  generalize hz2 : (orS al am [] []).2 = km at *
  clear hz1 hz2
  have HCq := hid (fun wx (h : Below w3.heap.size w3 wx) (Call : Option Addr) (eall : Nat) (Dall : Option Addr) (fall : Nat) (jall : SetAt 1 wx Call allL Dall allL) => law_not 3 eall fall (HG.out.below h) jall (by decide) (by decide))
  generalize hz1 : (notS allL allL).1 = ql at *
  generalize hz2 : (notS allL allL).2 = qm at *
  clear hz1 hz2
  have HQr12 := hid (fun wx (h : Below w3.heap.size w3 wx) (Ch : Option Addr) (eh : Nat) (Dh : Option Addr) (fh : Nat) (jh : SetAt 41 wx Ch hl Dh hm) => law_same eh fh ca da jh (HSa.out.below h) (by decide))
  simp only [LLa.out, LMa.out, Fr12.out, Bool.or_self, Bool.or_true, Bool.true_or, Bool.false_or, Bool.or_false, Bool.and_self, Bool.and_true, Bool.true_and, Bool.false_and, Bool.and_false, Bool.not_true, Bool.not_false] at HQr12
  have HQr15 := hid (fun wx (h : Below w3.heap.size w3 wx) (Ck : Option Addr) (ek : Nat) (Dk : Option Addr) (fk : Nat) (jk : SetAt 39 wx Ck kl Dk km) => law_same ek fk ca da jk (HSa.out.below h) (by decide))
  simp only [LLa.out, LMa.out, Fr15.out, Bool.or_self, Bool.or_true, Bool.true_or, Bool.false_or, Bool.or_false, Bool.and_self, Bool.and_true, Bool.true_and, Bool.false_and, Bool.and_false, Bool.not_true, Bool.not_false] at HQr15
  have HQr19 := hid (fun wx (h : Below w3.heap.size w3 wx) (Cq : Option Addr) (eq : Nat) (Dq : Option Addr) (fq : Nat) (jq : SetAt 3 wx Cq ql Dq qm) => law_same eq fq 0 0 jq (SetAt.none wx) (by decide))
  simp only [Fr19.out, Bool.or_self, Bool.or_true, Bool.true_or, Bool.false_or, Bool.or_false, Bool.and_self, Bool.and_true, Bool.true_and, Bool.false_and, Bool.and_false, Bool.not_true, Bool.not_false] at HQr19
  generalize hq : allL.length = nall at *
  have Lall := hid hq
  clear hq
  have HCall := hid (fun wx => callBk Lall.out Lall.out (HCall.out wx))
  generalize hq : hl.length = nh at *
  have LLh := hid hq
  clear hq
  generalize hq : hm.length = mh at *
  have LMh := hid hq
  clear hq
  generalize hq : kl.length = nk at *
  have LLk := hid hq
  clear hq
  generalize hq : km.length = mk at *
  have LMk := hid hq
  clear hq
  generalize hq : ql.length = nq at *
  have LLq := hid hq
  clear hq
  generalize hq : qm.length = mq at *
  have LMq := hid hq
  clear hq
  simp only [List.length_nil] at HCk
  simp only [List.length_nil] at HQr19
  have HCh := hid (fun wx (h : Below w3.heap.size w3 wx) (Call : Option Addr) (eall : Nat) (Dall : Option Addr) (fall : Nat) (jall : SetAt 1 wx Call allL Dall allL) => callBk LLh.out LMh.out (HCh.out wx h Call eall Dall fall jall))
  have HCk := hid (fun wx (h : Below w3.heap.size w3 wx) => callBk LLk.out LMk.out (HCk.out wx h))
  have HCq := hid (fun wx (h : Below w3.heap.size w3 wx) (Call : Option Addr) (eall : Nat) (Dall : Option Addr) (fall : Nat) (jall : SetAt 1 wx Call allL Dall allL) => callBk LLq.out LMq.out (HCq.out wx h Call eall Dall fall jall))
  have HSB : Hid (∀ w', Below w3.heap.size w3 w' → w'.cell? ⟨w2.heap.size, 0, none⟩ = some (.slice Aa na ca) ∧ w'.cell? ⟨w2.heap.size, 1, none⟩ = some (.slice Ba ma da) ∧ w'.cell? ⟨w2.heap.size + 1, 0, none⟩ = some (.int .i64 v.maj) ∧ w'.cell? ⟨w2.heap.size + 1, 1, none⟩ = some (.int .i64 v.min) ∧ w'.cell? ⟨w2.heap.size + 1, 2, none⟩ = some (.int .i64 v.pat) ∧ w'.cell? ⟨w2.heap.size + 1, 3, none⟩ = some (.string v.pre) ∧ w'.cell? ⟨w2.heap.size + 1, 4, none⟩ = some (.string v.bld)) := hid (fun w' h => by
    obtain ⟨a0, a1⟩ := (HXa.out.below h).get2
    obtain ⟨a2, a3, a4, a5, a6⟩ := (HXv.out.below h).get5
    exact ⟨a0, a1, a2, a3, a4, a5, a6⟩)
  go_region_held3 (fun w' => w'.cell? ⟨w2.heap.size, 0, none⟩ = some (.slice Aa na ca) ∧ w'.cell? ⟨w2.heap.size, 1, none⟩ = some (.slice Ba ma da) ∧ w'.cell? ⟨w2.heap.size + 1, 0, none⟩ = some (.int .i64 v.maj) ∧ w'.cell? ⟨w2.heap.size + 1, 1, none⟩ = some (.int .i64 v.min) ∧ w'.cell? ⟨w2.heap.size + 1, 2, none⟩ = some (.int .i64 v.pat) ∧ w'.cell? ⟨w2.heap.size + 1, 3, none⟩ = some (.string v.pre) ∧ w'.cell? ⟨w2.heap.size + 1, 4, none⟩ = some (.string v.bld))
    (first | (exact HSB.out _ (by first | assumption | exact (Below.refl _ _).drew)) | go_keep)
    (first
      | (go_at_call_of 16 Ar1h; (with_reducible refine (HQr12.out _ (by first | assumption | exact (Below.refl _ _).drew) _ _ _ _ sr1h).mono ?_); rintro _ r1_2 ⟨rfl, kr1_2⟩; have hbr1_2 : Below w3.heap.size w3 r1_2 := below_tr (by first | assumption | exact (Below.refl _ _).drew) kr1_2)
      | (go_at_call_of 16 Ar1k; (with_reducible refine (HQr15.out _ (by first | assumption | exact (Below.refl _ _).drew) _ _ _ _ sr1k).mono ?_); rintro _ r1_5 ⟨rfl, kr1_5⟩; have hbr1_5 : Below w3.heap.size w3 r1_5 := below_tr (by first | assumption | exact (Below.refl _ _).drew) kr1_5)
      | (go_at_call 18; (with_reducible refine (HCall.out _).mono ?_); rintro _ r1all ⟨Ar1all, cr1all, Br1all, dr1all, rfl, sr1all, -, -, kr1all⟩; have hbr1all : Below w3.heap.size w3 r1all := below_tr (by first | assumption | exact (Below.refl _ _).drew) kr1all)
      | (go_at_call 17; (with_reducible refine (HCh.out _ (by first | assumption | exact (Below.refl _ _).drew) _ _ _ _ sr1all).mono ?_); rintro _ r1h ⟨Ar1h, cr1h, Br1h, dr1h, rfl, sr1h, -, -, kr1h⟩; have hbr1h : Below w3.heap.size w3 r1h := below_tr (by first | assumption | exact (Below.refl _ _).drew) kr1h)
      | (go_at_call 20; (with_reducible refine (snone_any _).mono ?_); rintro _ r1none ⟨rfl, kr1none⟩; have hbr1none : Below w3.heap.size w3 r1none := below_tr (by first | assumption | exact (Below.refl _ _).drew) kr1none)
      | (go_at_call 19; (with_reducible refine (HCk.out _ (by first | assumption | exact (Below.refl _ _).drew)).mono ?_); rintro _ r1k ⟨Ar1k, cr1k, Br1k, dr1k, rfl, sr1k, -, -, kr1k⟩; have hbr1k : Below w3.heap.size w3 r1k := below_tr (by first | assumption | exact (Below.refl _ _).drew) kr1k)
      | (go_at_call 21; (with_reducible refine (HCq.out _ (by first | assumption | exact (Below.refl _ _).drew) _ _ _ _ sr1all).mono ?_); rintro _ r1q ⟨Ar1q, cr1q, Br1q, dr1q, rfl, sr1q, -, -, kr1q⟩; have hbr1q : Below w3.heap.size w3 r1q := below_tr (by first | assumption | exact (Below.refl _ _).drew) kr1q)
      | (go_at_call 16; (with_reducible refine (HQr19.out _ (by first | assumption | exact (Below.refl _ _).drew) _ _ _ _ (sr1q.below kr1none)).mono ?_); rintro _ r1_9 ⟨rfl, kr1_9⟩; have hbr1_9 : Below w3.heap.size w3 r1_9 := below_tr (by first | assumption | exact (Below.refl _ _).drew) kr1_9))
  have HI0 := hid (HI0.out.below hbr1_9)
  have HSa := hid (HSa.out.below hbr1_9)
  have HXa := hid (HXa.out.below hbr1_9)
  have HXv := hid (HXv.out.below hbr1_9)
  have HG := hid (HG.out.below hbr1_9)
  have HB := hid (below_tr HB.out hbr1_9)
  clear HSB Fr12 Fr15 Fr19 HCall HCh HCk HCq HQr12 HQr15 HQr19 Lall LLh LMh LLk LMk LLq LMq kr1all kr1h kr1_2 kr1none kr1k kr1_5 kr1q kr1_9 hbr1all hbr1h hbr1_2 hbr1none hbr1k hbr1_5 hbr1q hbr1_9 sr1all sr1h sr1k sr1q
  go_wp2_with fail
  have Fr22 : Hid (hasS [] [] v = false) := hid (by exact none_has)
  have Fr24 : Hid (hasS wholeL wholeL v = true) := hid (by exact all_has HOv.out.1)
  have Fr26 : Hid (withinS [] [] al am = true) := hid (by exact ends_none HVa.out)
  have Fr28 : Hid (withinS al am wholeL wholeL = true) := hid (by exact ends_all HVa.out)
  have Fr210 : Hid (apartS al am [] [] = true) := hid (by exact ends_apart HVa.out)
  have HCall : Hid (∀ wx, Calls Tryz.prog 18 #[] wx (SetBack 1 wx wholeL wholeL)) := hid law_all
  generalize hz1 : wholeL = allL at *
  clear hz1
  have HQr20 := hid (fun wx (h : Below r1_9.heap.size r1_9 wx) => s5awake_any wx (HG.out.below h))
  have HQr22 := hid (fun wx (h : Below r1_9.heap.size r1_9 wx) => law_has (v := v) 0 0 (HG.out.below h) (SetAt.none wx) HOv.out.2 (by decide))
  simp only [Fr22.out, Bool.or_self, Bool.or_true, Bool.true_or, Bool.false_or, Bool.or_false, Bool.and_self, Bool.and_true, Bool.true_and, Bool.false_and, Bool.and_false, Bool.not_true, Bool.not_false] at HQr22
  have HQr24 := hid (fun wx (h : Below r1_9.heap.size r1_9 wx) (Call : Option Addr) (eall : Nat) (Dall : Option Addr) (fall : Nat) (jall : SetAt 1 wx Call allL Dall allL) => law_has (v := v) eall fall (HG.out.below h) jall HOv.out.2 (by decide))
  simp only [Fr24.out, Bool.or_self, Bool.or_true, Bool.true_or, Bool.false_or, Bool.or_false, Bool.and_self, Bool.and_true, Bool.true_and, Bool.false_and, Bool.and_false, Bool.not_true, Bool.not_false] at HQr24
  have HQr26 := hid (fun wx (h : Below r1_9.heap.size r1_9 wx) => law_within 0 0 ca da (HG.out.below h) (SetAt.none wx) (HSa.out.below h) (by decide))
  simp only [LLa.out, LMa.out, Fr26.out, Bool.or_self, Bool.or_true, Bool.true_or, Bool.false_or, Bool.or_false, Bool.and_self, Bool.and_true, Bool.true_and, Bool.false_and, Bool.and_false, Bool.not_true, Bool.not_false] at HQr26
  have HQr28 := hid (fun wx (h : Below r1_9.heap.size r1_9 wx) (Call : Option Addr) (eall : Nat) (Dall : Option Addr) (fall : Nat) (jall : SetAt 1 wx Call allL Dall allL) => law_within ca da eall fall (HG.out.below h) (HSa.out.below h) jall (by decide))
  simp only [LLa.out, LMa.out, Fr28.out, Bool.or_self, Bool.or_true, Bool.true_or, Bool.false_or, Bool.or_false, Bool.and_self, Bool.and_true, Bool.true_and, Bool.false_and, Bool.and_false, Bool.not_true, Bool.not_false] at HQr28
  have HQr210 := hid (fun wx (h : Below r1_9.heap.size r1_9 wx) => law_apart ca da 0 0 (HG.out.below h) (HSa.out.below h) (SetAt.none wx) (by decide))
  simp only [LLa.out, LMa.out, Fr210.out, Bool.or_self, Bool.or_true, Bool.true_or, Bool.false_or, Bool.or_false, Bool.and_self, Bool.and_true, Bool.true_and, Bool.false_and, Bool.and_false, Bool.not_true, Bool.not_false] at HQr210
  generalize hq : allL.length = nall at *
  have Lall := hid hq
  clear hq
  have HCall := hid (fun wx => callBk Lall.out Lall.out (HCall.out wx))
  simp only [List.length_nil] at HQr22
  simp only [List.length_nil] at HQr26
  simp only [List.length_nil] at HQr210
  have HSB : Hid (∀ w', Below r1_9.heap.size r1_9 w' → w'.cell? ⟨w2.heap.size, 0, none⟩ = some (.slice Aa na ca) ∧ w'.cell? ⟨w2.heap.size, 1, none⟩ = some (.slice Ba ma da) ∧ w'.cell? ⟨w2.heap.size + 1, 0, none⟩ = some (.int .i64 v.maj) ∧ w'.cell? ⟨w2.heap.size + 1, 1, none⟩ = some (.int .i64 v.min) ∧ w'.cell? ⟨w2.heap.size + 1, 2, none⟩ = some (.int .i64 v.pat) ∧ w'.cell? ⟨w2.heap.size + 1, 3, none⟩ = some (.string v.pre) ∧ w'.cell? ⟨w2.heap.size + 1, 4, none⟩ = some (.string v.bld)) := hid (fun w' h => by
    obtain ⟨a0, a1⟩ := (HXa.out.below h).get2
    obtain ⟨a2, a3, a4, a5, a6⟩ := (HXv.out.below h).get5
    exact ⟨a0, a1, a2, a3, a4, a5, a6⟩)
  go_region_held3 (fun w' => w'.cell? ⟨w2.heap.size, 0, none⟩ = some (.slice Aa na ca) ∧ w'.cell? ⟨w2.heap.size, 1, none⟩ = some (.slice Ba ma da) ∧ w'.cell? ⟨w2.heap.size + 1, 0, none⟩ = some (.int .i64 v.maj) ∧ w'.cell? ⟨w2.heap.size + 1, 1, none⟩ = some (.int .i64 v.min) ∧ w'.cell? ⟨w2.heap.size + 1, 2, none⟩ = some (.int .i64 v.pat) ∧ w'.cell? ⟨w2.heap.size + 1, 3, none⟩ = some (.string v.pre) ∧ w'.cell? ⟨w2.heap.size + 1, 4, none⟩ = some (.string v.bld))
    (first | (exact HSB.out _ (by first | assumption | exact (Below.refl _ _).drew)) | go_keep)
    (first
      | (go_at_call_of 23 Ar2all; (with_reducible refine (HQr24.out _ (by first | assumption | exact (Below.refl _ _).drew) _ _ _ _ sr2all).mono ?_); rintro _ r2_4 ⟨rfl, kr2_4⟩; have hbr2_4 : Below r1_9.heap.size r1_9 r2_4 := below_tr (by first | assumption | exact (Below.refl _ _).drew) kr2_4)
      | (go_at_call_of 24 Ar2all; (with_reducible refine (HQr28.out _ (by first | assumption | exact (Below.refl _ _).drew) _ _ _ _ sr2all).mono ?_); rintro _ r2_8 ⟨rfl, kr2_8⟩; have hbr2_8 : Below r1_9.heap.size r1_9 r2_8 := below_tr (by first | assumption | exact (Below.refl _ _).drew) kr2_8)
      | (go_at_call 22; (with_reducible refine (HQr20.out _ (by first | assumption | exact (Below.refl _ _).drew)).mono ?_); rintro _ r2_0 ⟨rfl, kr2_0⟩; have hbr2_0 : Below r1_9.heap.size r1_9 r2_0 := below_tr (by first | assumption | exact (Below.refl _ _).drew) kr2_0)
      | (go_at_call 20; (with_reducible refine (snone_any _).mono ?_); rintro _ r2none ⟨rfl, kr2none⟩; have hbr2none : Below r1_9.heap.size r1_9 r2none := below_tr (by first | assumption | exact (Below.refl _ _).drew) kr2none)
      | (go_at_call 23; (with_reducible refine (HQr22.out _ (by first | assumption | exact (Below.refl _ _).drew)).mono ?_); rintro _ r2_2 ⟨rfl, kr2_2⟩; have hbr2_2 : Below r1_9.heap.size r1_9 r2_2 := below_tr (by first | assumption | exact (Below.refl _ _).drew) kr2_2)
      | (go_at_call 18; (with_reducible refine (HCall.out _).mono ?_); rintro _ r2all ⟨Ar2all, cr2all, Br2all, dr2all, rfl, sr2all, -, -, kr2all⟩; have hbr2all : Below r1_9.heap.size r1_9 r2all := below_tr (by first | assumption | exact (Below.refl _ _).drew) kr2all)
      | (go_at_call 24; (with_reducible refine (HQr26.out _ (by first | assumption | exact (Below.refl _ _).drew)).mono ?_); rintro _ r2_6 ⟨rfl, kr2_6⟩; have hbr2_6 : Below r1_9.heap.size r1_9 r2_6 := below_tr (by first | assumption | exact (Below.refl _ _).drew) kr2_6)
      | (go_at_call 25; (with_reducible refine (HQr210.out _ (by first | assumption | exact (Below.refl _ _).drew)).mono ?_); rintro _ r2_10 ⟨rfl, kr2_10⟩; have hbr2_10 : Below r1_9.heap.size r1_9 r2_10 := below_tr (by first | assumption | exact (Below.refl _ _).drew) kr2_10))
  have HI0 := hid (HI0.out.below hbr2_10)
  have HSa := hid (HSa.out.below hbr2_10)
  have HXa := hid (HXa.out.below hbr2_10)
  have HXv := hid (HXv.out.below hbr2_10)
  have HG := hid (HG.out.below hbr2_10)
  have HB := hid (below_tr HB.out hbr2_10)
  clear HSB Fr22 Fr24 Fr26 Fr28 Fr210 HCall HQr20 HQr22 HQr24 HQr26 HQr28 HQr210 Lall kr2_0 kr2none kr2_2 kr2all kr2_4 kr2_6 kr2_8 kr2_10 hbr2_0 hbr2none hbr2_2 hbr2all hbr2_4 hbr2_6 hbr2_8 hbr2_10 sr2all
  go_wp2_with fail
  go_ret
  exact ⟨rfl, HB.out⟩
end Go.Proofs.YtmnjnoggchgnjaaGreatDoor
