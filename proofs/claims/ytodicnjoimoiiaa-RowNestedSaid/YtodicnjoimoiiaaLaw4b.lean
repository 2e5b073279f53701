/- The walks of the laws of rows, call by call. -/
import Derived.Test.YtodicnjoimoiiaaAwake
import Derived.Test.YtodicnjoimoiiaaLawS
import Derived.Test.YtodicnjoimoiiaaRowThm
namespace Go.Proofs.Ytodicnjoimoiiaa
open Go.RowKit Go.Lib
set_option linter.unusedVariables false
set_option linter.unusedSimpArgs false

set_option maxRecDepth 100000 in
set_option maxHeartbeats 2000000 in
theorem walk_RowNested (A0 : Option Addr) (c0 : Nat) (z0 : List Int) (A1 : Option Addr) (c1 : Nat) (z1 : List Int) (A2 : Option Addr) (c2 : Nat) (z2 : List Int) (w : World) (h0 : IntsAt w A0 z0) (l0 : z0.length ≤ 9223372036854775807) (h1 : IntsAt w A1 z1) (l1 : z1.length ≤ 9223372036854775807) (h2 : IntsAt w A2 z2) (l2 : z2.length ≤ 9223372036854775807) : Calls Try.prog 10 #[.slice A0 z0.length c0, .slice A1 z1.length c1, .slice A2 z2.length c2] w (BoolPost w true) := by
  have HI0 := hid h0
  have HL0 := hid l0
  have HI1 := hid h1
  have HL1 := hid l1
  have HI2 := hid h2
  have HL2 := hid l2
  have HB : Hid (Below w.heap.size w w) := hid (Below.refl _ _)
  clear h0 l0 h1 l1 h2 l2
  go_enter Try.func10, Try.ntmps10
  go_wp2_with fail
  refine (row_any w.heap.size A0 c0 z0 0 w HI0.out (by omega) (by omega) HL0.out (Nat.le_refl _)).mono ?_
  rintro _ w1 ⟨v, a, rfl, o, Fa, Va, na, hb⟩
  obtain ⟨Aa, ca, rfl, Sa⟩ := o.spans
  have HI0 := hid (HI0.out.below hb)
  have HI1 := hid (HI1.out.below hb)
  have HI2 := hid (HI2.out.below hb)
  have HB := hid (below_tr HB.out hb)
  have HSa := hid Sa
  have HFa := hid Fa
  have HVa := hid Va
  clear o Sa Fa Va hb
  go_wp2_with fail
  refine (row_any w1.heap.size A1 c1 z1 0 w1 HI1.out (by omega) (by omega) HL1.out (Nat.le_refl _)).mono ?_
  rintro _ w2 ⟨v, b, rfl, o, Fb, Vb, nb, hb⟩
  obtain ⟨Ab, cb, rfl, Sb⟩ := o.spans
  have HSa := hid (HSa.out.below hb)
  have HI0 := hid (HI0.out.below hb)
  have HI1 := hid (HI1.out.below hb)
  have HI2 := hid (HI2.out.below hb)
  have HB := hid (below_tr HB.out hb)
  have HSb := hid Sb
  have HFb := hid Fb
  have HVb := hid Vb
  clear o Sb Fb Vb hb
  go_wp2_with fail
  refine (row_any w2.heap.size A2 c2 z2 0 w2 HI2.out (by omega) (by omega) HL2.out (Nat.le_refl _)).mono ?_
  rintro _ w3 ⟨v, c, rfl, o, Fc, Vc, nc, hb⟩
  obtain ⟨Ac, cc, rfl, Sc⟩ := o.spans
  have HSa := hid (HSa.out.below hb)
  have HSb := hid (HSb.out.below hb)
  have HI0 := hid (HI0.out.below hb)
  have HI1 := hid (HI1.out.below hb)
  have HI2 := hid (HI2.out.below hb)
  have HB := hid (below_tr HB.out hb)
  have HSc := hid Sc
  have HFc := hid Fc
  have HVc := hid Vc
  clear o Sc Fc Vc hb
  go_wp2_with fail
  refine (por_any w3.heap.size Aa Ab ca cb a b w3 HSa.out HSb.out HFa.out HFb.out (by omega) (Nat.le_refl _)).mono ?_
  rintro _ w4 ⟨v, rfl, o, hb, _⟩
  obtain ⟨Ap1, cp1, rfl, Sp1⟩ := o.spans
  generalize hz : rorL a b = p1 at Sp1 ⊢
  have HEp1 := hid hz
  have HFp1 : Hid (fitL p1) := hid (hz ▸ (rorL_good HFa.out HFb.out).1)
  have np1 : p1.length ≤ 1 + 2 * (a.length + b.length) := hz ▸ (rorL_good HFa.out HFb.out).2
  have HVp1 : Hid (Rw.Val p1) := hid (hz ▸ Rw.v_or HVa.out HVb.out)
  have HSa := hid (HSa.out.below hb)
  have HSb := hid (HSb.out.below hb)
  have HSc := hid (HSc.out.below hb)
  have HI0 := hid (HI0.out.below hb)
  have HI1 := hid (HI1.out.below hb)
  have HI2 := hid (HI2.out.below hb)
  have HB := hid (below_tr HB.out hb)
  have HSp1 := hid Sp1
  clear o Sp1 hb hz
  go_wp2_with fail
  refine (and_any w4.heap.size Aa Ap1 ca cp1 a p1 w4 HSa.out HSp1.out HFa.out HFp1.out (by omega) (Nat.le_refl _)).mono ?_
  rintro _ w5 ⟨v, rfl, o, hb, _⟩
  obtain ⟨Ap2, cp2, rfl, Sp2⟩ := o.spans
  generalize hz : randL a p1 = p2 at Sp2 ⊢
  have HEp2 := hid hz
  have HFp2 : Hid (fitL p2) := hid (hz ▸ (randL_good HFa.out HFp1.out).1)
  have np2 : p2.length ≤ 1 + 2 * (a.length + p1.length) := hz ▸ (randL_good HFa.out HFp1.out).2
  have HVp2 : Hid (Rw.Val p2) := hid (hz ▸ Rw.v_and HVa.out HVp1.out)
  have HSa := hid (HSa.out.below hb)
  have HSb := hid (HSb.out.below hb)
  have HSc := hid (HSc.out.below hb)
  have HSp1 := hid (HSp1.out.below hb)
  have HI0 := hid (HI0.out.below hb)
  have HI1 := hid (HI1.out.below hb)
  have HI2 := hid (HI2.out.below hb)
  have HB := hid (below_tr HB.out hb)
  have HSp2 := hid Sp2
  clear o Sp2 hb hz
  go_wp2_with fail
  have hq : sameR p2 a = true := by rw [← HEp2.out, ← HEp1.out, Rw.absorb1 HVa.out HVb.out]; exact Rw.same_refl
  refine (same_any Ap2 Aa cp2 ca p2 a w5 HSp2.out HSa.out (by omega) (by omega)).mono ?_
  rintro _ w6 ⟨rfl, hb⟩
  rw [hq]
  have HSa := hid (HSa.out.below hb)
  have HSb := hid (HSb.out.below hb)
  have HSc := hid (HSc.out.below hb)
  have HSp1 := hid (HSp1.out.below hb)
  have HSp2 := hid (HSp2.out.below hb)
  have HI0 := hid (HI0.out.below hb)
  have HI1 := hid (HI1.out.below hb)
  have HI2 := hid (HI2.out.below hb)
  have HB := hid (below_tr HB.out hb)
  clear hb hq
  go_wp2_with fail
  refine (and_any w6.heap.size Aa Ab ca cb a b w6 HSa.out HSb.out HFa.out HFb.out (by omega) (Nat.le_refl _)).mono ?_
  rintro _ w7 ⟨v, rfl, o, hb, _⟩
  obtain ⟨Aq1, cq1, rfl, Sq1⟩ := o.spans
  generalize hz : randL a b = q1 at Sq1 ⊢
  have HEq1 := hid hz
  have HFq1 : Hid (fitL q1) := hid (hz ▸ (randL_good HFa.out HFb.out).1)
  have nq1 : q1.length ≤ 1 + 2 * (a.length + b.length) := hz ▸ (randL_good HFa.out HFb.out).2
  have HVq1 : Hid (Rw.Val q1) := hid (hz ▸ Rw.v_and HVa.out HVb.out)
  have HSa := hid (HSa.out.below hb)
  have HSb := hid (HSb.out.below hb)
  have HSc := hid (HSc.out.below hb)
  have HSp1 := hid (HSp1.out.below hb)
  have HSp2 := hid (HSp2.out.below hb)
  have HI0 := hid (HI0.out.below hb)
  have HI1 := hid (HI1.out.below hb)
  have HI2 := hid (HI2.out.below hb)
  have HB := hid (below_tr HB.out hb)
  have HSq1 := hid Sq1
  clear o Sq1 hb hz
  go_wp2_with fail
  refine (por_any w7.heap.size Aa Aq1 ca cq1 a q1 w7 HSa.out HSq1.out HFa.out HFq1.out (by omega) (Nat.le_refl _)).mono ?_
  rintro _ w8 ⟨v, rfl, o, hb, _⟩
  obtain ⟨Aq2, cq2, rfl, Sq2⟩ := o.spans
  generalize hz : rorL a q1 = q2 at Sq2 ⊢
  have HEq2 := hid hz
  have HFq2 : Hid (fitL q2) := hid (hz ▸ (rorL_good HFa.out HFq1.out).1)
  have nq2 : q2.length ≤ 1 + 2 * (a.length + q1.length) := hz ▸ (rorL_good HFa.out HFq1.out).2
  have HVq2 : Hid (Rw.Val q2) := hid (hz ▸ Rw.v_or HVa.out HVq1.out)
  have HSa := hid (HSa.out.below hb)
  have HSb := hid (HSb.out.below hb)
  have HSc := hid (HSc.out.below hb)
  have HSp1 := hid (HSp1.out.below hb)
  have HSp2 := hid (HSp2.out.below hb)
  have HSq1 := hid (HSq1.out.below hb)
  have HI0 := hid (HI0.out.below hb)
  have HI1 := hid (HI1.out.below hb)
  have HI2 := hid (HI2.out.below hb)
  have HB := hid (below_tr HB.out hb)
  have HSq2 := hid Sq2
  clear o Sq2 hb hz
  go_wp2_with fail
  have hq : sameR q2 a = true := by rw [← HEq2.out, ← HEq1.out, Rw.absorb2 HVa.out HVb.out]; exact Rw.same_refl
  refine (same_any Aq2 Aa cq2 ca q2 a w8 HSq2.out HSa.out (by omega) (by omega)).mono ?_
  rintro _ w9 ⟨rfl, hb⟩
  rw [hq]
  have HSa := hid (HSa.out.below hb)
  have HSb := hid (HSb.out.below hb)
  have HSc := hid (HSc.out.below hb)
  have HSp1 := hid (HSp1.out.below hb)
  have HSp2 := hid (HSp2.out.below hb)
  have HSq1 := hid (HSq1.out.below hb)
  have HSq2 := hid (HSq2.out.below hb)
  have HI0 := hid (HI0.out.below hb)
  have HI1 := hid (HI1.out.below hb)
  have HI2 := hid (HI2.out.below hb)
  have HB := hid (below_tr HB.out hb)
  clear hb hq
  go_wp2_with fail
  refine (awake_any w9).mono ?_
  rintro _ w10 ⟨rfl, hb⟩
  have HSa := hid (HSa.out.below hb)
  have HSb := hid (HSb.out.below hb)
  have HSc := hid (HSc.out.below hb)
  have HSp1 := hid (HSp1.out.below hb)
  have HSp2 := hid (HSp2.out.below hb)
  have HSq1 := hid (HSq1.out.below hb)
  have HSq2 := hid (HSq2.out.below hb)
  have HI0 := hid (HI0.out.below hb)
  have HI1 := hid (HI1.out.below hb)
  have HI2 := hid (HI2.out.below hb)
  have HB := hid (below_tr HB.out hb)
  clear hb
  go_wp2_with fail
  refine (and_any w10.heap.size Aa Ab ca cb a b w10 HSa.out HSb.out HFa.out HFb.out (by omega) (Nat.le_refl _)).mono ?_
  rintro _ w11 ⟨v, rfl, o, hb, _⟩
  obtain ⟨Ar1, cr1, rfl, Sr1⟩ := o.spans
  generalize hz : randL a b = r1 at Sr1 ⊢
  have HEr1 := hid hz
  have HFr1 : Hid (fitL r1) := hid (hz ▸ (randL_good HFa.out HFb.out).1)
  have nr1 : r1.length ≤ 1 + 2 * (a.length + b.length) := hz ▸ (randL_good HFa.out HFb.out).2
  have HVr1 : Hid (Rw.Val r1) := hid (hz ▸ Rw.v_and HVa.out HVb.out)
  have HSa := hid (HSa.out.below hb)
  have HSb := hid (HSb.out.below hb)
  have HSc := hid (HSc.out.below hb)
  have HSp1 := hid (HSp1.out.below hb)
  have HSp2 := hid (HSp2.out.below hb)
  have HSq1 := hid (HSq1.out.below hb)
  have HSq2 := hid (HSq2.out.below hb)
  have HI0 := hid (HI0.out.below hb)
  have HI1 := hid (HI1.out.below hb)
  have HI2 := hid (HI2.out.below hb)
  have HB := hid (below_tr HB.out hb)
  have HSr1 := hid Sr1
  clear o Sr1 hb hz
  go_wp2_with fail
  refine (and_any w11.heap.size Ar1 Ac cr1 cc r1 c w11 HSr1.out HSc.out HFr1.out HFc.out (by omega) (Nat.le_refl _)).mono ?_
  rintro _ w12 ⟨v, rfl, o, hb, _⟩
  obtain ⟨Ar2, cr2, rfl, Sr2⟩ := o.spans
  generalize hz : randL r1 c = r2 at Sr2 ⊢
  have HEr2 := hid hz
  have HFr2 : Hid (fitL r2) := hid (hz ▸ (randL_good HFr1.out HFc.out).1)
  have nr2 : r2.length ≤ 1 + 2 * (r1.length + c.length) := hz ▸ (randL_good HFr1.out HFc.out).2
  have HVr2 : Hid (Rw.Val r2) := hid (hz ▸ Rw.v_and HVr1.out HVc.out)
  have HSa := hid (HSa.out.below hb)
  have HSb := hid (HSb.out.below hb)
  have HSc := hid (HSc.out.below hb)
  have HSp1 := hid (HSp1.out.below hb)
  have HSp2 := hid (HSp2.out.below hb)
  have HSq1 := hid (HSq1.out.below hb)
  have HSq2 := hid (HSq2.out.below hb)
  have HSr1 := hid (HSr1.out.below hb)
  have HI0 := hid (HI0.out.below hb)
  have HI1 := hid (HI1.out.below hb)
  have HI2 := hid (HI2.out.below hb)
  have HB := hid (below_tr HB.out hb)
  have HSr2 := hid Sr2
  clear o Sr2 hb hz
  go_wp2_with fail
  refine (and_any w12.heap.size Ab Ac cb cc b c w12 HSb.out HSc.out HFb.out HFc.out (by omega) (Nat.le_refl _)).mono ?_
  rintro _ w13 ⟨v, rfl, o, hb, _⟩
  obtain ⟨Ar3, cr3, rfl, Sr3⟩ := o.spans
  generalize hz : randL b c = r3 at Sr3 ⊢
  have HEr3 := hid hz
  have HFr3 : Hid (fitL r3) := hid (hz ▸ (randL_good HFb.out HFc.out).1)
  have nr3 : r3.length ≤ 1 + 2 * (b.length + c.length) := hz ▸ (randL_good HFb.out HFc.out).2
  have HVr3 : Hid (Rw.Val r3) := hid (hz ▸ Rw.v_and HVb.out HVc.out)
  have HSa := hid (HSa.out.below hb)
  have HSb := hid (HSb.out.below hb)
  have HSc := hid (HSc.out.below hb)
  have HSp1 := hid (HSp1.out.below hb)
  have HSp2 := hid (HSp2.out.below hb)
  have HSq1 := hid (HSq1.out.below hb)
  have HSq2 := hid (HSq2.out.below hb)
  have HSr1 := hid (HSr1.out.below hb)
  have HSr2 := hid (HSr2.out.below hb)
  have HI0 := hid (HI0.out.below hb)
  have HI1 := hid (HI1.out.below hb)
  have HI2 := hid (HI2.out.below hb)
  have HB := hid (below_tr HB.out hb)
  have HSr3 := hid Sr3
  clear o Sr3 hb hz
  go_wp2_with fail
  refine (and_any w13.heap.size Aa Ar3 ca cr3 a r3 w13 HSa.out HSr3.out HFa.out HFr3.out (by omega) (Nat.le_refl _)).mono ?_
  rintro _ w14 ⟨v, rfl, o, hb, _⟩
  obtain ⟨Ar4, cr4, rfl, Sr4⟩ := o.spans
  generalize hz : randL a r3 = r4 at Sr4 ⊢
  have HEr4 := hid hz
  have HFr4 : Hid (fitL r4) := hid (hz ▸ (randL_good HFa.out HFr3.out).1)
  have nr4 : r4.length ≤ 1 + 2 * (a.length + r3.length) := hz ▸ (randL_good HFa.out HFr3.out).2
  have HVr4 : Hid (Rw.Val r4) := hid (hz ▸ Rw.v_and HVa.out HVr3.out)
  have HSa := hid (HSa.out.below hb)
  have HSb := hid (HSb.out.below hb)
  have HSc := hid (HSc.out.below hb)
  have HSp1 := hid (HSp1.out.below hb)
  have HSp2 := hid (HSp2.out.below hb)
  have HSq1 := hid (HSq1.out.below hb)
  have HSq2 := hid (HSq2.out.below hb)
  have HSr1 := hid (HSr1.out.below hb)
  have HSr2 := hid (HSr2.out.below hb)
  have HSr3 := hid (HSr3.out.below hb)
  have HI0 := hid (HI0.out.below hb)
  have HI1 := hid (HI1.out.below hb)
  have HI2 := hid (HI2.out.below hb)
  have HB := hid (below_tr HB.out hb)
  have HSr4 := hid Sr4
  clear o Sr4 hb hz
  go_wp2_with fail
  have hq : sameR r2 r4 = true := by rw [← HEr2.out, ← HEr1.out, ← HEr4.out, ← HEr3.out, Rw.and_assoc' HVa.out HVb.out HVc.out]; exact Rw.same_refl
  refine (same_any Ar2 Ar4 cr2 cr4 r2 r4 w14 HSr2.out HSr4.out (by omega) (by omega)).mono ?_
  rintro _ w15 ⟨rfl, hb⟩
  rw [hq]
  have HSa := hid (HSa.out.below hb)
  have HSb := hid (HSb.out.below hb)
  have HSc := hid (HSc.out.below hb)
  have HSp1 := hid (HSp1.out.below hb)
  have HSp2 := hid (HSp2.out.below hb)
  have HSq1 := hid (HSq1.out.below hb)
  have HSq2 := hid (HSq2.out.below hb)
  have HSr1 := hid (HSr1.out.below hb)
  have HSr2 := hid (HSr2.out.below hb)
  have HSr3 := hid (HSr3.out.below hb)
  have HSr4 := hid (HSr4.out.below hb)
  have HI0 := hid (HI0.out.below hb)
  have HI1 := hid (HI1.out.below hb)
  have HI2 := hid (HI2.out.below hb)
  have HB := hid (below_tr HB.out hb)
  clear hb hq
  go_wp2_with fail
  refine (por_any w15.heap.size Aa Ab ca cb a b w15 HSa.out HSb.out HFa.out HFb.out (by omega) (Nat.le_refl _)).mono ?_
  rintro _ w16 ⟨v, rfl, o, hb, _⟩
  obtain ⟨As1, cs1, rfl, Ss1⟩ := o.spans
  generalize hz : rorL a b = s1 at Ss1 ⊢
  have HEs1 := hid hz
  have HFs1 : Hid (fitL s1) := hid (hz ▸ (rorL_good HFa.out HFb.out).1)
  have ns1 : s1.length ≤ 1 + 2 * (a.length + b.length) := hz ▸ (rorL_good HFa.out HFb.out).2
  have HVs1 : Hid (Rw.Val s1) := hid (hz ▸ Rw.v_or HVa.out HVb.out)
  have HSa := hid (HSa.out.below hb)
  have HSb := hid (HSb.out.below hb)
  have HSc := hid (HSc.out.below hb)
  have HSp1 := hid (HSp1.out.below hb)
  have HSp2 := hid (HSp2.out.below hb)
  have HSq1 := hid (HSq1.out.below hb)
  have HSq2 := hid (HSq2.out.below hb)
  have HSr1 := hid (HSr1.out.below hb)
  have HSr2 := hid (HSr2.out.below hb)
  have HSr3 := hid (HSr3.out.below hb)
  have HSr4 := hid (HSr4.out.below hb)
  have HI0 := hid (HI0.out.below hb)
  have HI1 := hid (HI1.out.below hb)
  have HI2 := hid (HI2.out.below hb)
  have HB := hid (below_tr HB.out hb)
  have HSs1 := hid Ss1
  clear o Ss1 hb hz
  go_wp2_with fail
  refine (por_any w16.heap.size As1 Ac cs1 cc s1 c w16 HSs1.out HSc.out HFs1.out HFc.out (by omega) (Nat.le_refl _)).mono ?_
  rintro _ w17 ⟨v, rfl, o, hb, _⟩
  obtain ⟨As2, cs2, rfl, Ss2⟩ := o.spans
  generalize hz : rorL s1 c = s2 at Ss2 ⊢
  have HEs2 := hid hz
  have HFs2 : Hid (fitL s2) := hid (hz ▸ (rorL_good HFs1.out HFc.out).1)
  have ns2 : s2.length ≤ 1 + 2 * (s1.length + c.length) := hz ▸ (rorL_good HFs1.out HFc.out).2
  have HVs2 : Hid (Rw.Val s2) := hid (hz ▸ Rw.v_or HVs1.out HVc.out)
  have HSa := hid (HSa.out.below hb)
  have HSb := hid (HSb.out.below hb)
  have HSc := hid (HSc.out.below hb)
  have HSp1 := hid (HSp1.out.below hb)
  have HSp2 := hid (HSp2.out.below hb)
  have HSq1 := hid (HSq1.out.below hb)
  have HSq2 := hid (HSq2.out.below hb)
  have HSr1 := hid (HSr1.out.below hb)
  have HSr2 := hid (HSr2.out.below hb)
  have HSr3 := hid (HSr3.out.below hb)
  have HSr4 := hid (HSr4.out.below hb)
  have HSs1 := hid (HSs1.out.below hb)
  have HI0 := hid (HI0.out.below hb)
  have HI1 := hid (HI1.out.below hb)
  have HI2 := hid (HI2.out.below hb)
  have HB := hid (below_tr HB.out hb)
  have HSs2 := hid Ss2
  clear o Ss2 hb hz
  go_wp2_with fail
  refine (por_any w17.heap.size Ab Ac cb cc b c w17 HSb.out HSc.out HFb.out HFc.out (by omega) (Nat.le_refl _)).mono ?_
  rintro _ w18 ⟨v, rfl, o, hb, _⟩
  obtain ⟨As3, cs3, rfl, Ss3⟩ := o.spans
  generalize hz : rorL b c = s3 at Ss3 ⊢
  have HEs3 := hid hz
  have HFs3 : Hid (fitL s3) := hid (hz ▸ (rorL_good HFb.out HFc.out).1)
  have ns3 : s3.length ≤ 1 + 2 * (b.length + c.length) := hz ▸ (rorL_good HFb.out HFc.out).2
  have HVs3 : Hid (Rw.Val s3) := hid (hz ▸ Rw.v_or HVb.out HVc.out)
  have HSa := hid (HSa.out.below hb)
  have HSb := hid (HSb.out.below hb)
  have HSc := hid (HSc.out.below hb)
  have HSp1 := hid (HSp1.out.below hb)
  have HSp2 := hid (HSp2.out.below hb)
  have HSq1 := hid (HSq1.out.below hb)
  have HSq2 := hid (HSq2.out.below hb)
  have HSr1 := hid (HSr1.out.below hb)
  have HSr2 := hid (HSr2.out.below hb)
  have HSr3 := hid (HSr3.out.below hb)
  have HSr4 := hid (HSr4.out.below hb)
  have HSs1 := hid (HSs1.out.below hb)
  have HSs2 := hid (HSs2.out.below hb)
  have HI0 := hid (HI0.out.below hb)
  have HI1 := hid (HI1.out.below hb)
  have HI2 := hid (HI2.out.below hb)
  have HB := hid (below_tr HB.out hb)
  have HSs3 := hid Ss3
  clear o Ss3 hb hz
  go_wp2_with fail
  refine (por_any w18.heap.size Aa As3 ca cs3 a s3 w18 HSa.out HSs3.out HFa.out HFs3.out (by omega) (Nat.le_refl _)).mono ?_
  rintro _ w19 ⟨v, rfl, o, hb, _⟩
  obtain ⟨As4, cs4, rfl, Ss4⟩ := o.spans
  generalize hz : rorL a s3 = s4 at Ss4 ⊢
  have HEs4 := hid hz
  have HFs4 : Hid (fitL s4) := hid (hz ▸ (rorL_good HFa.out HFs3.out).1)
  have ns4 : s4.length ≤ 1 + 2 * (a.length + s3.length) := hz ▸ (rorL_good HFa.out HFs3.out).2
  have HVs4 : Hid (Rw.Val s4) := hid (hz ▸ Rw.v_or HVa.out HVs3.out)
  have HSa := hid (HSa.out.below hb)
  have HSb := hid (HSb.out.below hb)
  have HSc := hid (HSc.out.below hb)
  have HSp1 := hid (HSp1.out.below hb)
  have HSp2 := hid (HSp2.out.below hb)
  have HSq1 := hid (HSq1.out.below hb)
  have HSq2 := hid (HSq2.out.below hb)
  have HSr1 := hid (HSr1.out.below hb)
  have HSr2 := hid (HSr2.out.below hb)
  have HSr3 := hid (HSr3.out.below hb)
  have HSr4 := hid (HSr4.out.below hb)
  have HSs1 := hid (HSs1.out.below hb)
  have HSs2 := hid (HSs2.out.below hb)
  have HSs3 := hid (HSs3.out.below hb)
  have HI0 := hid (HI0.out.below hb)
  have HI1 := hid (HI1.out.below hb)
  have HI2 := hid (HI2.out.below hb)
  have HB := hid (below_tr HB.out hb)
  have HSs4 := hid Ss4
  clear o Ss4 hb hz
  go_wp2_with fail
  have hq : sameR s2 s4 = true := by rw [← HEs2.out, ← HEs1.out, ← HEs4.out, ← HEs3.out, Rw.or_assoc' HVa.out HVb.out HVc.out]; exact Rw.same_refl
  refine (same_any As2 As4 cs2 cs4 s2 s4 w19 HSs2.out HSs4.out (by omega) (by omega)).mono ?_
  rintro _ w20 ⟨rfl, hb⟩
  rw [hq]
  have HSa := hid (HSa.out.below hb)
  have HSb := hid (HSb.out.below hb)
  have HSc := hid (HSc.out.below hb)
  have HSp1 := hid (HSp1.out.below hb)
  have HSp2 := hid (HSp2.out.below hb)
  have HSq1 := hid (HSq1.out.below hb)
  have HSq2 := hid (HSq2.out.below hb)
  have HSr1 := hid (HSr1.out.below hb)
  have HSr2 := hid (HSr2.out.below hb)
  have HSr3 := hid (HSr3.out.below hb)
  have HSr4 := hid (HSr4.out.below hb)
  have HSs1 := hid (HSs1.out.below hb)
  have HSs2 := hid (HSs2.out.below hb)
  have HSs3 := hid (HSs3.out.below hb)
  have HSs4 := hid (HSs4.out.below hb)
  have HI0 := hid (HI0.out.below hb)
  have HI1 := hid (HI1.out.below hb)
  have HI2 := hid (HI2.out.below hb)
  have HB := hid (below_tr HB.out hb)
  clear hb hq
  go_wp2_with fail
  go_ret
  exact ⟨rfl, HB.out⟩
end Go.Proofs.Ytodicnjoimoiiaa
