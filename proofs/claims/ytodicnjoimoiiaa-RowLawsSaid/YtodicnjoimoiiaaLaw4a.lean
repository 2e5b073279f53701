/- The walks of the laws of rows, call by call. -/
import Derived.Test.YtodicnjoimoiiaaAwake
import Derived.Test.YtodicnjoimoiiaaLawS
import Derived.Test.YtodicnjoimoiiaaRowThm
namespace Go.Proofs.Ytodicnjoimoiiaa
open Go.RowKit Go.Lib
set_option linter.unusedVariables false
set_option linter.unusedSimpArgs false

set_option maxRecDepth 100000 in
set_option maxHeartbeats 2000000 in
theorem walk_RowLaws (A0 : Option Addr) (c0 : Nat) (z0 : List Int) (A1 : Option Addr) (c1 : Nat) (z1 : List Int) (A2 : Option Addr) (c2 : Nat) (z2 : List Int) (w : World) (h0 : IntsAt w A0 z0) (l0 : z0.length ≤ 9223372036854775807) (h1 : IntsAt w A1 z1) (l1 : z1.length ≤ 9223372036854775807) (h2 : IntsAt w A2 z2) (l2 : z2.length ≤ 9223372036854775807) : Calls Try.prog 7 #[.slice A0 z0.length c0, .slice A1 z1.length c1, .slice A2 z2.length c2] w (BoolPost w true) := by
  have HI0 := hid h0
  have HL0 := hid l0
  have HI1 := hid h1
  have HL1 := hid l1
  have HI2 := hid h2
  have HL2 := hid l2
  have HB : Hid (Below w.heap.size w w) := hid (Below.refl _ _)
  clear h0 l0 h1 l1 h2 l2
  go_enter Try.func7, Try.ntmps7
  go_wp2_with fail
  refine (row_any w.heap.size A0 c0 z0 0 w HI0.out (by omega) (by omega) HL0.out (Nat.le_refl _)).mono ?_
  rintro _ w1 ⟨v, a, rfl, o, Fa, Va, na, hb⟩
  obtain ⟨Aa, ca, rfl, Sa⟩ := o.spans
  have HI0 := hid (HI0.out.below hb)
  have HI1 := hid (HI1.out.below hb)
  have HI2 := hid (HI2.out.below hb)
  have HB := hid (below_tr HB.out hb)
  have HSa := hid Sa
  have HFa := hid Fa
  have HVa := hid Va
  clear o Sa Fa Va hb
  go_wp2_with fail
  refine (row_any w1.heap.size A1 c1 z1 0 w1 HI1.out (by omega) (by omega) HL1.out (Nat.le_refl _)).mono ?_
  rintro _ w2 ⟨v, b, rfl, o, Fb, Vb, nb, hb⟩
  obtain ⟨Ab, cb, rfl, Sb⟩ := o.spans
  have HSa := hid (HSa.out.below hb)
  have HI0 := hid (HI0.out.below hb)
  have HI1 := hid (HI1.out.below hb)
  have HI2 := hid (HI2.out.below hb)
  have HB := hid (below_tr HB.out hb)
  have HSb := hid Sb
  have HFb := hid Fb
  have HVb := hid Vb
  clear o Sb Fb Vb hb
  go_wp2_with fail
  refine (row_any w2.heap.size A2 c2 z2 0 w2 HI2.out (by omega) (by omega) HL2.out (Nat.le_refl _)).mono ?_
  rintro _ w3 ⟨v, c, rfl, o, Fc, Vc, nc, hb⟩
  obtain ⟨Ac, cc, rfl, Sc⟩ := o.spans
  have HSa := hid (HSa.out.below hb)
  have HSb := hid (HSb.out.below hb)
  have HI0 := hid (HI0.out.below hb)
  have HI1 := hid (HI1.out.below hb)
  have HI2 := hid (HI2.out.below hb)
  have HB := hid (below_tr HB.out hb)
  have HSc := hid Sc
  have HFc := hid Fc
  have HVc := hid Vc
  clear o Sc Fc Vc hb
  go_wp2_with fail
  refine (not_any w3.heap.size Aa ca a w3 HSa.out HFa.out (by omega) (Nat.le_refl _)).mono ?_
  rintro _ w4 ⟨v, rfl, o, hb, _⟩
  obtain ⟨Ap1, cp1, rfl, Sp1⟩ := o.spans
  generalize hz : rnotL a = p1 at Sp1 ⊢
  have HEp1 := hid hz
  have HFp1 : Hid (fitL p1) := hid (hz ▸ (rnotL_good HFa.out).1)
  have np1 : p1.length ≤ 1 + 2 * a.length := hz ▸ (rnotL_good HFa.out).2
  have HVp1 : Hid (Rw.Val p1) := hid (hz ▸ Rw.v_not HVa.out)
  have HSa := hid (HSa.out.below hb)
  have HSb := hid (HSb.out.below hb)
  have HSc := hid (HSc.out.below hb)
  have HI0 := hid (HI0.out.below hb)
  have HI1 := hid (HI1.out.below hb)
  have HI2 := hid (HI2.out.below hb)
  have HB := hid (below_tr HB.out hb)
  have HSp1 := hid Sp1
  clear o Sp1 hb hz
  go_wp2_with fail
  refine (not_any w4.heap.size Ap1 cp1 p1 w4 HSp1.out HFp1.out (by omega) (Nat.le_refl _)).mono ?_
  rintro _ w5 ⟨v, rfl, o, hb, _⟩
  obtain ⟨Ap2, cp2, rfl, Sp2⟩ := o.spans
  generalize hz : rnotL p1 = p2 at Sp2 ⊢
  have HEp2 := hid hz
  have HFp2 : Hid (fitL p2) := hid (hz ▸ (rnotL_good HFp1.out).1)
  have np2 : p2.length ≤ 1 + 2 * p1.length := hz ▸ (rnotL_good HFp1.out).2
  have HVp2 : Hid (Rw.Val p2) := hid (hz ▸ Rw.v_not HVp1.out)
  have HSa := hid (HSa.out.below hb)
  have HSb := hid (HSb.out.below hb)
  have HSc := hid (HSc.out.below hb)
  have HSp1 := hid (HSp1.out.below hb)
  have HI0 := hid (HI0.out.below hb)
  have HI1 := hid (HI1.out.below hb)
  have HI2 := hid (HI2.out.below hb)
  have HB := hid (below_tr HB.out hb)
  have HSp2 := hid Sp2
  clear o Sp2 hb hz
  go_wp2_with fail
  have hq : sameR p2 a = true := by rw [← HEp2.out, ← HEp1.out, Rw.not_not HVa.out]; exact Rw.same_refl
  refine (same_any Ap2 Aa cp2 ca p2 a w5 HSp2.out HSa.out (by omega) (by omega)).mono ?_
  rintro _ w6 ⟨rfl, hb⟩
  rw [hq]
  have HSa := hid (HSa.out.below hb)
  have HSb := hid (HSb.out.below hb)
  have HSc := hid (HSc.out.below hb)
  have HSp1 := hid (HSp1.out.below hb)
  have HSp2 := hid (HSp2.out.below hb)
  have HI0 := hid (HI0.out.below hb)
  have HI1 := hid (HI1.out.below hb)
  have HI2 := hid (HI2.out.below hb)
  have HB := hid (below_tr HB.out hb)
  clear hb hq
  go_wp2_with fail
  refine (por_any w6.heap.size Aa Ab ca cb a b w6 HSa.out HSb.out HFa.out HFb.out (by omega) (Nat.le_refl _)).mono ?_
  rintro _ w7 ⟨v, rfl, o, hb, _⟩
  obtain ⟨Aq1, cq1, rfl, Sq1⟩ := o.spans
  generalize hz : rorL a b = q1 at Sq1 ⊢
  have HEq1 := hid hz
  have HFq1 : Hid (fitL q1) := hid (hz ▸ (rorL_good HFa.out HFb.out).1)
  have nq1 : q1.length ≤ 1 + 2 * (a.length + b.length) := hz ▸ (rorL_good HFa.out HFb.out).2
  have HVq1 : Hid (Rw.Val q1) := hid (hz ▸ Rw.v_or HVa.out HVb.out)
  have HSa := hid (HSa.out.below hb)
  have HSb := hid (HSb.out.below hb)
  have HSc := hid (HSc.out.below hb)
  have HSp1 := hid (HSp1.out.below hb)
  have HSp2 := hid (HSp2.out.below hb)
  have HI0 := hid (HI0.out.below hb)
  have HI1 := hid (HI1.out.below hb)
  have HI2 := hid (HI2.out.below hb)
  have HB := hid (below_tr HB.out hb)
  have HSq1 := hid Sq1
  clear o Sq1 hb hz
  go_wp2_with fail
  refine (not_any w7.heap.size Aq1 cq1 q1 w7 HSq1.out HFq1.out (by omega) (Nat.le_refl _)).mono ?_
  rintro _ w8 ⟨v, rfl, o, hb, _⟩
  obtain ⟨Aq2, cq2, rfl, Sq2⟩ := o.spans
  generalize hz : rnotL q1 = q2 at Sq2 ⊢
  have HEq2 := hid hz
  have HFq2 : Hid (fitL q2) := hid (hz ▸ (rnotL_good HFq1.out).1)
  have nq2 : q2.length ≤ 1 + 2 * q1.length := hz ▸ (rnotL_good HFq1.out).2
  have HVq2 : Hid (Rw.Val q2) := hid (hz ▸ Rw.v_not HVq1.out)
  have HSa := hid (HSa.out.below hb)
  have HSb := hid (HSb.out.below hb)
  have HSc := hid (HSc.out.below hb)
  have HSp1 := hid (HSp1.out.below hb)
  have HSp2 := hid (HSp2.out.below hb)
  have HSq1 := hid (HSq1.out.below hb)
  have HI0 := hid (HI0.out.below hb)
  have HI1 := hid (HI1.out.below hb)
  have HI2 := hid (HI2.out.below hb)
  have HB := hid (below_tr HB.out hb)
  have HSq2 := hid Sq2
  clear o Sq2 hb hz
  go_wp2_with fail
  refine (not_any w8.heap.size Aa ca a w8 HSa.out HFa.out (by omega) (Nat.le_refl _)).mono ?_
  rintro _ w9 ⟨v, rfl, o, hb, _⟩
  obtain ⟨Aq3, cq3, rfl, Sq3⟩ := o.spans
  generalize hz : rnotL a = q3 at Sq3 ⊢
  have HEq3 := hid hz
  have HFq3 : Hid (fitL q3) := hid (hz ▸ (rnotL_good HFa.out).1)
  have nq3 : q3.length ≤ 1 + 2 * a.length := hz ▸ (rnotL_good HFa.out).2
  have HVq3 : Hid (Rw.Val q3) := hid (hz ▸ Rw.v_not HVa.out)
  have HSa := hid (HSa.out.below hb)
  have HSb := hid (HSb.out.below hb)
  have HSc := hid (HSc.out.below hb)
  have HSp1 := hid (HSp1.out.below hb)
  have HSp2 := hid (HSp2.out.below hb)
  have HSq1 := hid (HSq1.out.below hb)
  have HSq2 := hid (HSq2.out.below hb)
  have HI0 := hid (HI0.out.below hb)
  have HI1 := hid (HI1.out.below hb)
  have HI2 := hid (HI2.out.below hb)
  have HB := hid (below_tr HB.out hb)
  have HSq3 := hid Sq3
  clear o Sq3 hb hz
  go_wp2_with fail
  refine (not_any w9.heap.size Ab cb b w9 HSb.out HFb.out (by omega) (Nat.le_refl _)).mono ?_
  rintro _ w10 ⟨v, rfl, o, hb, _⟩
  obtain ⟨Aq4, cq4, rfl, Sq4⟩ := o.spans
  generalize hz : rnotL b = q4 at Sq4 ⊢
  have HEq4 := hid hz
  have HFq4 : Hid (fitL q4) := hid (hz ▸ (rnotL_good HFb.out).1)
  have nq4 : q4.length ≤ 1 + 2 * b.length := hz ▸ (rnotL_good HFb.out).2
  have HVq4 : Hid (Rw.Val q4) := hid (hz ▸ Rw.v_not HVb.out)
  have HSa := hid (HSa.out.below hb)
  have HSb := hid (HSb.out.below hb)
  have HSc := hid (HSc.out.below hb)
  have HSp1 := hid (HSp1.out.below hb)
  have HSp2 := hid (HSp2.out.below hb)
  have HSq1 := hid (HSq1.out.below hb)
  have HSq2 := hid (HSq2.out.below hb)
  have HSq3 := hid (HSq3.out.below hb)
  have HI0 := hid (HI0.out.below hb)
  have HI1 := hid (HI1.out.below hb)
  have HI2 := hid (HI2.out.below hb)
  have HB := hid (below_tr HB.out hb)
  have HSq4 := hid Sq4
  clear o Sq4 hb hz
  go_wp2_with fail
  refine (and_any w10.heap.size Aq3 Aq4 cq3 cq4 q3 q4 w10 HSq3.out HSq4.out HFq3.out HFq4.out (by omega) (Nat.le_refl _)).mono ?_
  rintro _ w11 ⟨v, rfl, o, hb, _⟩
  obtain ⟨Aq5, cq5, rfl, Sq5⟩ := o.spans
  generalize hz : randL q3 q4 = q5 at Sq5 ⊢
  have HEq5 := hid hz
  have HFq5 : Hid (fitL q5) := hid (hz ▸ (randL_good HFq3.out HFq4.out).1)
  have nq5 : q5.length ≤ 1 + 2 * (q3.length + q4.length) := hz ▸ (randL_good HFq3.out HFq4.out).2
  have HVq5 : Hid (Rw.Val q5) := hid (hz ▸ Rw.v_and HVq3.out HVq4.out)
  have HSa := hid (HSa.out.below hb)
  have HSb := hid (HSb.out.below hb)
  have HSc := hid (HSc.out.below hb)
  have HSp1 := hid (HSp1.out.below hb)
  have HSp2 := hid (HSp2.out.below hb)
  have HSq1 := hid (HSq1.out.below hb)
  have HSq2 := hid (HSq2.out.below hb)
  have HSq3 := hid (HSq3.out.below hb)
  have HSq4 := hid (HSq4.out.below hb)
  have HI0 := hid (HI0.out.below hb)
  have HI1 := hid (HI1.out.below hb)
  have HI2 := hid (HI2.out.below hb)
  have HB := hid (below_tr HB.out hb)
  have HSq5 := hid Sq5
  clear o Sq5 hb hz
  go_wp2_with fail
  have hq : sameR q2 q5 = true := by rw [← HEq2.out, ← HEq1.out, ← HEq5.out, ← HEq3.out, ← HEq4.out, Rw.de_morgan HVa.out HVb.out]; exact Rw.same_refl
  refine (same_any Aq2 Aq5 cq2 cq5 q2 q5 w11 HSq2.out HSq5.out (by omega) (by omega)).mono ?_
  rintro _ w12 ⟨rfl, hb⟩
  rw [hq]
  have HSa := hid (HSa.out.below hb)
  have HSb := hid (HSb.out.below hb)
  have HSc := hid (HSc.out.below hb)
  have HSp1 := hid (HSp1.out.below hb)
  have HSp2 := hid (HSp2.out.below hb)
  have HSq1 := hid (HSq1.out.below hb)
  have HSq2 := hid (HSq2.out.below hb)
  have HSq3 := hid (HSq3.out.below hb)
  have HSq4 := hid (HSq4.out.below hb)
  have HSq5 := hid (HSq5.out.below hb)
  have HI0 := hid (HI0.out.below hb)
  have HI1 := hid (HI1.out.below hb)
  have HI2 := hid (HI2.out.below hb)
  have HB := hid (below_tr HB.out hb)
  clear hb hq
  go_wp2_with fail
  refine (por_any w12.heap.size Aa Ab ca cb a b w12 HSa.out HSb.out HFa.out HFb.out (by omega) (Nat.le_refl _)).mono ?_
  rintro _ w13 ⟨v, rfl, o, hb, _⟩
  obtain ⟨Ar1, cr1, rfl, Sr1⟩ := o.spans
  generalize hz : rorL a b = r1 at Sr1 ⊢
  have HEr1 := hid hz
  have HFr1 : Hid (fitL r1) := hid (hz ▸ (rorL_good HFa.out HFb.out).1)
  have nr1 : r1.length ≤ 1 + 2 * (a.length + b.length) := hz ▸ (rorL_good HFa.out HFb.out).2
  have HVr1 : Hid (Rw.Val r1) := hid (hz ▸ Rw.v_or HVa.out HVb.out)
  have HSa := hid (HSa.out.below hb)
  have HSb := hid (HSb.out.below hb)
  have HSc := hid (HSc.out.below hb)
  have HSp1 := hid (HSp1.out.below hb)
  have HSp2 := hid (HSp2.out.below hb)
  have HSq1 := hid (HSq1.out.below hb)
  have HSq2 := hid (HSq2.out.below hb)
  have HSq3 := hid (HSq3.out.below hb)
  have HSq4 := hid (HSq4.out.below hb)
  have HSq5 := hid (HSq5.out.below hb)
  have HI0 := hid (HI0.out.below hb)
  have HI1 := hid (HI1.out.below hb)
  have HI2 := hid (HI2.out.below hb)
  have HB := hid (below_tr HB.out hb)
  have HSr1 := hid Sr1
  clear o Sr1 hb hz
  go_wp2_with fail
  refine (por_any w13.heap.size Ab Aa cb ca b a w13 HSb.out HSa.out HFb.out HFa.out (by omega) (Nat.le_refl _)).mono ?_
  rintro _ w14 ⟨v, rfl, o, hb, _⟩
  obtain ⟨Ar2, cr2, rfl, Sr2⟩ := o.spans
  generalize hz : rorL b a = r2 at Sr2 ⊢
  have HEr2 := hid hz
  have HFr2 : Hid (fitL r2) := hid (hz ▸ (rorL_good HFb.out HFa.out).1)
  have nr2 : r2.length ≤ 1 + 2 * (b.length + a.length) := hz ▸ (rorL_good HFb.out HFa.out).2
  have HVr2 : Hid (Rw.Val r2) := hid (hz ▸ Rw.v_or HVb.out HVa.out)
  have HSa := hid (HSa.out.below hb)
  have HSb := hid (HSb.out.below hb)
  have HSc := hid (HSc.out.below hb)
  have HSp1 := hid (HSp1.out.below hb)
  have HSp2 := hid (HSp2.out.below hb)
  have HSq1 := hid (HSq1.out.below hb)
  have HSq2 := hid (HSq2.out.below hb)
  have HSq3 := hid (HSq3.out.below hb)
  have HSq4 := hid (HSq4.out.below hb)
  have HSq5 := hid (HSq5.out.below hb)
  have HSr1 := hid (HSr1.out.below hb)
  have HI0 := hid (HI0.out.below hb)
  have HI1 := hid (HI1.out.below hb)
  have HI2 := hid (HI2.out.below hb)
  have HB := hid (below_tr HB.out hb)
  have HSr2 := hid Sr2
  clear o Sr2 hb hz
  go_wp2_with fail
  have hq : sameR r1 r2 = true := by rw [← HEr1.out, ← HEr2.out, Rw.or_swap HVa.out HVb.out]; exact Rw.same_refl
  refine (same_any Ar1 Ar2 cr1 cr2 r1 r2 w14 HSr1.out HSr2.out (by omega) (by omega)).mono ?_
  rintro _ w15 ⟨rfl, hb⟩
  rw [hq]
  have HSa := hid (HSa.out.below hb)
  have HSb := hid (HSb.out.below hb)
  have HSc := hid (HSc.out.below hb)
  have HSp1 := hid (HSp1.out.below hb)
  have HSp2 := hid (HSp2.out.below hb)
  have HSq1 := hid (HSq1.out.below hb)
  have HSq2 := hid (HSq2.out.below hb)
  have HSq3 := hid (HSq3.out.below hb)
  have HSq4 := hid (HSq4.out.below hb)
  have HSq5 := hid (HSq5.out.below hb)
  have HSr1 := hid (HSr1.out.below hb)
  have HSr2 := hid (HSr2.out.below hb)
  have HI0 := hid (HI0.out.below hb)
  have HI1 := hid (HI1.out.below hb)
  have HI2 := hid (HI2.out.below hb)
  have HB := hid (below_tr HB.out hb)
  clear hb hq
  go_wp2_with fail
  refine (and_any w15.heap.size Aa Ab ca cb a b w15 HSa.out HSb.out HFa.out HFb.out (by omega) (Nat.le_refl _)).mono ?_
  rintro _ w16 ⟨v, rfl, o, hb, _⟩
  obtain ⟨As1, cs1, rfl, Ss1⟩ := o.spans
  generalize hz : randL a b = s1 at Ss1 ⊢
  have HEs1 := hid hz
  have HFs1 : Hid (fitL s1) := hid (hz ▸ (randL_good HFa.out HFb.out).1)
  have ns1 : s1.length ≤ 1 + 2 * (a.length + b.length) := hz ▸ (randL_good HFa.out HFb.out).2
  have HVs1 : Hid (Rw.Val s1) := hid (hz ▸ Rw.v_and HVa.out HVb.out)
  have HSa := hid (HSa.out.below hb)
  have HSb := hid (HSb.out.below hb)
  have HSc := hid (HSc.out.below hb)
  have HSp1 := hid (HSp1.out.below hb)
  have HSp2 := hid (HSp2.out.below hb)
  have HSq1 := hid (HSq1.out.below hb)
  have HSq2 := hid (HSq2.out.below hb)
  have HSq3 := hid (HSq3.out.below hb)
  have HSq4 := hid (HSq4.out.below hb)
  have HSq5 := hid (HSq5.out.below hb)
  have HSr1 := hid (HSr1.out.below hb)
  have HSr2 := hid (HSr2.out.below hb)
  have HI0 := hid (HI0.out.below hb)
  have HI1 := hid (HI1.out.below hb)
  have HI2 := hid (HI2.out.below hb)
  have HB := hid (below_tr HB.out hb)
  have HSs1 := hid Ss1
  clear o Ss1 hb hz
  go_wp2_with fail
  refine (and_any w16.heap.size Ab Aa cb ca b a w16 HSb.out HSa.out HFb.out HFa.out (by omega) (Nat.le_refl _)).mono ?_
  rintro _ w17 ⟨v, rfl, o, hb, _⟩
  obtain ⟨As2, cs2, rfl, Ss2⟩ := o.spans
  generalize hz : randL b a = s2 at Ss2 ⊢
  have HEs2 := hid hz
  have HFs2 : Hid (fitL s2) := hid (hz ▸ (randL_good HFb.out HFa.out).1)
  have ns2 : s2.length ≤ 1 + 2 * (b.length + a.length) := hz ▸ (randL_good HFb.out HFa.out).2
  have HVs2 : Hid (Rw.Val s2) := hid (hz ▸ Rw.v_and HVb.out HVa.out)
  have HSa := hid (HSa.out.below hb)
  have HSb := hid (HSb.out.below hb)
  have HSc := hid (HSc.out.below hb)
  have HSp1 := hid (HSp1.out.below hb)
  have HSp2 := hid (HSp2.out.below hb)
  have HSq1 := hid (HSq1.out.below hb)
  have HSq2 := hid (HSq2.out.below hb)
  have HSq3 := hid (HSq3.out.below hb)
  have HSq4 := hid (HSq4.out.below hb)
  have HSq5 := hid (HSq5.out.below hb)
  have HSr1 := hid (HSr1.out.below hb)
  have HSr2 := hid (HSr2.out.below hb)
  have HSs1 := hid (HSs1.out.below hb)
  have HI0 := hid (HI0.out.below hb)
  have HI1 := hid (HI1.out.below hb)
  have HI2 := hid (HI2.out.below hb)
  have HB := hid (below_tr HB.out hb)
  have HSs2 := hid Ss2
  clear o Ss2 hb hz
  go_wp2_with fail
  have hq : sameR s1 s2 = true := by rw [← HEs1.out, ← HEs2.out, Rw.and_swap HVa.out HVb.out]; exact Rw.same_refl
  refine (same_any As1 As2 cs1 cs2 s1 s2 w17 HSs1.out HSs2.out (by omega) (by omega)).mono ?_
  rintro _ w18 ⟨rfl, hb⟩
  rw [hq]
  have HSa := hid (HSa.out.below hb)
  have HSb := hid (HSb.out.below hb)
  have HSc := hid (HSc.out.below hb)
  have HSp1 := hid (HSp1.out.below hb)
  have HSp2 := hid (HSp2.out.below hb)
  have HSq1 := hid (HSq1.out.below hb)
  have HSq2 := hid (HSq2.out.below hb)
  have HSq3 := hid (HSq3.out.below hb)
  have HSq4 := hid (HSq4.out.below hb)
  have HSq5 := hid (HSq5.out.below hb)
  have HSr1 := hid (HSr1.out.below hb)
  have HSr2 := hid (HSr2.out.below hb)
  have HSs1 := hid (HSs1.out.below hb)
  have HSs2 := hid (HSs2.out.below hb)
  have HI0 := hid (HI0.out.below hb)
  have HI1 := hid (HI1.out.below hb)
  have HI2 := hid (HI2.out.below hb)
  have HB := hid (below_tr HB.out hb)
  clear hb hq
  go_wp2_with fail
  refine (por_any w18.heap.size Ab Ac cb cc b c w18 HSb.out HSc.out HFb.out HFc.out (by omega) (Nat.le_refl _)).mono ?_
  rintro _ w19 ⟨v, rfl, o, hb, _⟩
  obtain ⟨At1, ct1, rfl, St1⟩ := o.spans
  generalize hz : rorL b c = t1 at St1 ⊢
  have HEt1 := hid hz
  have HFt1 : Hid (fitL t1) := hid (hz ▸ (rorL_good HFb.out HFc.out).1)
  have nt1 : t1.length ≤ 1 + 2 * (b.length + c.length) := hz ▸ (rorL_good HFb.out HFc.out).2
  have HVt1 : Hid (Rw.Val t1) := hid (hz ▸ Rw.v_or HVb.out HVc.out)
  have HSa := hid (HSa.out.below hb)
  have HSb := hid (HSb.out.below hb)
  have HSc := hid (HSc.out.below hb)
  have HSp1 := hid (HSp1.out.below hb)
  have HSp2 := hid (HSp2.out.below hb)
  have HSq1 := hid (HSq1.out.below hb)
  have HSq2 := hid (HSq2.out.below hb)
  have HSq3 := hid (HSq3.out.below hb)
  have HSq4 := hid (HSq4.out.below hb)
  have HSq5 := hid (HSq5.out.below hb)
  have HSr1 := hid (HSr1.out.below hb)
  have HSr2 := hid (HSr2.out.below hb)
  have HSs1 := hid (HSs1.out.below hb)
  have HSs2 := hid (HSs2.out.below hb)
  have HI0 := hid (HI0.out.below hb)
  have HI1 := hid (HI1.out.below hb)
  have HI2 := hid (HI2.out.below hb)
  have HB := hid (below_tr HB.out hb)
  have HSt1 := hid St1
  clear o St1 hb hz
  go_wp2_with fail
  refine (and_any w19.heap.size Aa At1 ca ct1 a t1 w19 HSa.out HSt1.out HFa.out HFt1.out (by omega) (Nat.le_refl _)).mono ?_
  rintro _ w20 ⟨v, rfl, o, hb, _⟩
  obtain ⟨At2, ct2, rfl, St2⟩ := o.spans
  generalize hz : randL a t1 = t2 at St2 ⊢
  have HEt2 := hid hz
  have HFt2 : Hid (fitL t2) := hid (hz ▸ (randL_good HFa.out HFt1.out).1)
  have nt2 : t2.length ≤ 1 + 2 * (a.length + t1.length) := hz ▸ (randL_good HFa.out HFt1.out).2
  have HVt2 : Hid (Rw.Val t2) := hid (hz ▸ Rw.v_and HVa.out HVt1.out)
  have HSa := hid (HSa.out.below hb)
  have HSb := hid (HSb.out.below hb)
  have HSc := hid (HSc.out.below hb)
  have HSp1 := hid (HSp1.out.below hb)
  have HSp2 := hid (HSp2.out.below hb)
  have HSq1 := hid (HSq1.out.below hb)
  have HSq2 := hid (HSq2.out.below hb)
  have HSq3 := hid (HSq3.out.below hb)
  have HSq4 := hid (HSq4.out.below hb)
  have HSq5 := hid (HSq5.out.below hb)
  have HSr1 := hid (HSr1.out.below hb)
  have HSr2 := hid (HSr2.out.below hb)
  have HSs1 := hid (HSs1.out.below hb)
  have HSs2 := hid (HSs2.out.below hb)
  have HSt1 := hid (HSt1.out.below hb)
  have HI0 := hid (HI0.out.below hb)
  have HI1 := hid (HI1.out.below hb)
  have HI2 := hid (HI2.out.below hb)
  have HB := hid (below_tr HB.out hb)
  have HSt2 := hid St2
  clear o St2 hb hz
  go_wp2_with fail
  refine (and_any w20.heap.size Aa Ab ca cb a b w20 HSa.out HSb.out HFa.out HFb.out (by omega) (Nat.le_refl _)).mono ?_
  rintro _ w21 ⟨v, rfl, o, hb, _⟩
  obtain ⟨At3, ct3, rfl, St3⟩ := o.spans
  generalize hz : randL a b = t3 at St3 ⊢
  have HEt3 := hid hz
  have HFt3 : Hid (fitL t3) := hid (hz ▸ (randL_good HFa.out HFb.out).1)
  have nt3 : t3.length ≤ 1 + 2 * (a.length + b.length) := hz ▸ (randL_good HFa.out HFb.out).2
  have HVt3 : Hid (Rw.Val t3) := hid (hz ▸ Rw.v_and HVa.out HVb.out)
  have HSa := hid (HSa.out.below hb)
  have HSb := hid (HSb.out.below hb)
  have HSc := hid (HSc.out.below hb)
  have HSp1 := hid (HSp1.out.below hb)
  have HSp2 := hid (HSp2.out.below hb)
  have HSq1 := hid (HSq1.out.below hb)
  have HSq2 := hid (HSq2.out.below hb)
  have HSq3 := hid (HSq3.out.below hb)
  have HSq4 := hid (HSq4.out.below hb)
  have HSq5 := hid (HSq5.out.below hb)
  have HSr1 := hid (HSr1.out.below hb)
  have HSr2 := hid (HSr2.out.below hb)
  have HSs1 := hid (HSs1.out.below hb)
  have HSs2 := hid (HSs2.out.below hb)
  have HSt1 := hid (HSt1.out.below hb)
  have HSt2 := hid (HSt2.out.below hb)
  have HI0 := hid (HI0.out.below hb)
  have HI1 := hid (HI1.out.below hb)
  have HI2 := hid (HI2.out.below hb)
  have HB := hid (below_tr HB.out hb)
  have HSt3 := hid St3
  clear o St3 hb hz
  go_wp2_with fail
  refine (and_any w21.heap.size Aa Ac ca cc a c w21 HSa.out HSc.out HFa.out HFc.out (by omega) (Nat.le_refl _)).mono ?_
  rintro _ w22 ⟨v, rfl, o, hb, _⟩
  obtain ⟨At4, ct4, rfl, St4⟩ := o.spans
  generalize hz : randL a c = t4 at St4 ⊢
  have HEt4 := hid hz
  have HFt4 : Hid (fitL t4) := hid (hz ▸ (randL_good HFa.out HFc.out).1)
  have nt4 : t4.length ≤ 1 + 2 * (a.length + c.length) := hz ▸ (randL_good HFa.out HFc.out).2
  have HVt4 : Hid (Rw.Val t4) := hid (hz ▸ Rw.v_and HVa.out HVc.out)
  have HSa := hid (HSa.out.below hb)
  have HSb := hid (HSb.out.below hb)
  have HSc := hid (HSc.out.below hb)
  have HSp1 := hid (HSp1.out.below hb)
  have HSp2 := hid (HSp2.out.below hb)
  have HSq1 := hid (HSq1.out.below hb)
  have HSq2 := hid (HSq2.out.below hb)
  have HSq3 := hid (HSq3.out.below hb)
  have HSq4 := hid (HSq4.out.below hb)
  have HSq5 := hid (HSq5.out.below hb)
  have HSr1 := hid (HSr1.out.below hb)
  have HSr2 := hid (HSr2.out.below hb)
  have HSs1 := hid (HSs1.out.below hb)
  have HSs2 := hid (HSs2.out.below hb)
  have HSt1 := hid (HSt1.out.below hb)
  have HSt2 := hid (HSt2.out.below hb)
  have HSt3 := hid (HSt3.out.below hb)
  have HI0 := hid (HI0.out.below hb)
  have HI1 := hid (HI1.out.below hb)
  have HI2 := hid (HI2.out.below hb)
  have HB := hid (below_tr HB.out hb)
  have HSt4 := hid St4
  clear o St4 hb hz
  go_wp2_with fail
  refine (por_any w22.heap.size At3 At4 ct3 ct4 t3 t4 w22 HSt3.out HSt4.out HFt3.out HFt4.out (by omega) (Nat.le_refl _)).mono ?_
  rintro _ w23 ⟨v, rfl, o, hb, _⟩
  obtain ⟨At5, ct5, rfl, St5⟩ := o.spans
  generalize hz : rorL t3 t4 = t5 at St5 ⊢
  have HEt5 := hid hz
  have HFt5 : Hid (fitL t5) := hid (hz ▸ (rorL_good HFt3.out HFt4.out).1)
  have nt5 : t5.length ≤ 1 + 2 * (t3.length + t4.length) := hz ▸ (rorL_good HFt3.out HFt4.out).2
  have HVt5 : Hid (Rw.Val t5) := hid (hz ▸ Rw.v_or HVt3.out HVt4.out)
  have HSa := hid (HSa.out.below hb)
  have HSb := hid (HSb.out.below hb)
  have HSc := hid (HSc.out.below hb)
  have HSp1 := hid (HSp1.out.below hb)
  have HSp2 := hid (HSp2.out.below hb)
  have HSq1 := hid (HSq1.out.below hb)
  have HSq2 := hid (HSq2.out.below hb)
  have HSq3 := hid (HSq3.out.below hb)
  have HSq4 := hid (HSq4.out.below hb)
  have HSq5 := hid (HSq5.out.below hb)
  have HSr1 := hid (HSr1.out.below hb)
  have HSr2 := hid (HSr2.out.below hb)
  have HSs1 := hid (HSs1.out.below hb)
  have HSs2 := hid (HSs2.out.below hb)
  have HSt1 := hid (HSt1.out.below hb)
  have HSt2 := hid (HSt2.out.below hb)
  have HSt3 := hid (HSt3.out.below hb)
  have HSt4 := hid (HSt4.out.below hb)
  have HI0 := hid (HI0.out.below hb)
  have HI1 := hid (HI1.out.below hb)
  have HI2 := hid (HI2.out.below hb)
  have HB := hid (below_tr HB.out hb)
  have HSt5 := hid St5
  clear o St5 hb hz
  go_wp2_with fail
  have hq : sameR t2 t5 = true := by rw [← HEt2.out, ← HEt1.out, ← HEt5.out, ← HEt3.out, ← HEt4.out, Rw.distr HVa.out HVb.out HVc.out]; exact Rw.same_refl
  refine (same_any At2 At5 ct2 ct5 t2 t5 w23 HSt2.out HSt5.out (by omega) (by omega)).mono ?_
  rintro _ w24 ⟨rfl, hb⟩
  rw [hq]
  have HSa := hid (HSa.out.below hb)
  have HSb := hid (HSb.out.below hb)
  have HSc := hid (HSc.out.below hb)
  have HSp1 := hid (HSp1.out.below hb)
  have HSp2 := hid (HSp2.out.below hb)
  have HSq1 := hid (HSq1.out.below hb)
  have HSq2 := hid (HSq2.out.below hb)
  have HSq3 := hid (HSq3.out.below hb)
  have HSq4 := hid (HSq4.out.below hb)
  have HSq5 := hid (HSq5.out.below hb)
  have HSr1 := hid (HSr1.out.below hb)
  have HSr2 := hid (HSr2.out.below hb)
  have HSs1 := hid (HSs1.out.below hb)
  have HSs2 := hid (HSs2.out.below hb)
  have HSt1 := hid (HSt1.out.below hb)
  have HSt2 := hid (HSt2.out.below hb)
  have HSt3 := hid (HSt3.out.below hb)
  have HSt4 := hid (HSt4.out.below hb)
  have HSt5 := hid (HSt5.out.below hb)
  have HI0 := hid (HI0.out.below hb)
  have HI1 := hid (HI1.out.below hb)
  have HI2 := hid (HI2.out.below hb)
  have HB := hid (below_tr HB.out hb)
  clear hb hq
  go_wp2_with fail
  refine (awake_any w24).mono ?_
  rintro _ w25 ⟨rfl, hb⟩
  have HSa := hid (HSa.out.below hb)
  have HSb := hid (HSb.out.below hb)
  have HSc := hid (HSc.out.below hb)
  have HSp1 := hid (HSp1.out.below hb)
  have HSp2 := hid (HSp2.out.below hb)
  have HSq1 := hid (HSq1.out.below hb)
  have HSq2 := hid (HSq2.out.below hb)
  have HSq3 := hid (HSq3.out.below hb)
  have HSq4 := hid (HSq4.out.below hb)
  have HSq5 := hid (HSq5.out.below hb)
  have HSr1 := hid (HSr1.out.below hb)
  have HSr2 := hid (HSr2.out.below hb)
  have HSs1 := hid (HSs1.out.below hb)
  have HSs2 := hid (HSs2.out.below hb)
  have HSt1 := hid (HSt1.out.below hb)
  have HSt2 := hid (HSt2.out.below hb)
  have HSt3 := hid (HSt3.out.below hb)
  have HSt4 := hid (HSt4.out.below hb)
  have HSt5 := hid (HSt5.out.below hb)
  have HI0 := hid (HI0.out.below hb)
  have HI1 := hid (HI1.out.below hb)
  have HI2 := hid (HI2.out.below hb)
  have HB := hid (below_tr HB.out hb)
  clear hb
  go_wp2_with fail
  refine (and_any w25.heap.size Aa Ab ca cb a b w25 HSa.out HSb.out HFa.out HFb.out (by omega) (Nat.le_refl _)).mono ?_
  rintro _ w26 ⟨v, rfl, o, hb, _⟩
  obtain ⟨Au1, cu1, rfl, Su1⟩ := o.spans
  generalize hz : randL a b = u1 at Su1 ⊢
  have HEu1 := hid hz
  have HFu1 : Hid (fitL u1) := hid (hz ▸ (randL_good HFa.out HFb.out).1)
  have nu1 : u1.length ≤ 1 + 2 * (a.length + b.length) := hz ▸ (randL_good HFa.out HFb.out).2
  have HVu1 : Hid (Rw.Val u1) := hid (hz ▸ Rw.v_and HVa.out HVb.out)
  have HSa := hid (HSa.out.below hb)
  have HSb := hid (HSb.out.below hb)
  have HSc := hid (HSc.out.below hb)
  have HSp1 := hid (HSp1.out.below hb)
  have HSp2 := hid (HSp2.out.below hb)
  have HSq1 := hid (HSq1.out.below hb)
  have HSq2 := hid (HSq2.out.below hb)
  have HSq3 := hid (HSq3.out.below hb)
  have HSq4 := hid (HSq4.out.below hb)
  have HSq5 := hid (HSq5.out.below hb)
  have HSr1 := hid (HSr1.out.below hb)
  have HSr2 := hid (HSr2.out.below hb)
  have HSs1 := hid (HSs1.out.below hb)
  have HSs2 := hid (HSs2.out.below hb)
  have HSt1 := hid (HSt1.out.below hb)
  have HSt2 := hid (HSt2.out.below hb)
  have HSt3 := hid (HSt3.out.below hb)
  have HSt4 := hid (HSt4.out.below hb)
  have HSt5 := hid (HSt5.out.below hb)
  have HI0 := hid (HI0.out.below hb)
  have HI1 := hid (HI1.out.below hb)
  have HI2 := hid (HI2.out.below hb)
  have HB := hid (below_tr HB.out hb)
  have HSu1 := hid Su1
  clear o Su1 hb hz
  go_wp2_with fail
  have hq : withinR u1 a = true := by rw [← HEu1.out]; exact Rw.within_and HVa.out HVb.out
  refine (within_any Au1 Aa cu1 ca u1 a w26 HSu1.out HSa.out HFu1.out HFa.out (by omega)).mono ?_
  rintro _ w27 ⟨rfl, hb⟩
  rw [hq]
  have HSa := hid (HSa.out.below hb)
  have HSb := hid (HSb.out.below hb)
  have HSc := hid (HSc.out.below hb)
  have HSp1 := hid (HSp1.out.below hb)
  have HSp2 := hid (HSp2.out.below hb)
  have HSq1 := hid (HSq1.out.below hb)
  have HSq2 := hid (HSq2.out.below hb)
  have HSq3 := hid (HSq3.out.below hb)
  have HSq4 := hid (HSq4.out.below hb)
  have HSq5 := hid (HSq5.out.below hb)
  have HSr1 := hid (HSr1.out.below hb)
  have HSr2 := hid (HSr2.out.below hb)
  have HSs1 := hid (HSs1.out.below hb)
  have HSs2 := hid (HSs2.out.below hb)
  have HSt1 := hid (HSt1.out.below hb)
  have HSt2 := hid (HSt2.out.below hb)
  have HSt3 := hid (HSt3.out.below hb)
  have HSt4 := hid (HSt4.out.below hb)
  have HSt5 := hid (HSt5.out.below hb)
  have HSu1 := hid (HSu1.out.below hb)
  have HI0 := hid (HI0.out.below hb)
  have HI1 := hid (HI1.out.below hb)
  have HI2 := hid (HI2.out.below hb)
  have HB := hid (below_tr HB.out hb)
  clear hb hq
  go_wp2_with fail
  refine (por_any w27.heap.size Aa Ab ca cb a b w27 HSa.out HSb.out HFa.out HFb.out (by omega) (Nat.le_refl _)).mono ?_
  rintro _ w28 ⟨v, rfl, o, hb, _⟩
  obtain ⟨Au2, cu2, rfl, Su2⟩ := o.spans
  generalize hz : rorL a b = u2 at Su2 ⊢
  have HEu2 := hid hz
  have HFu2 : Hid (fitL u2) := hid (hz ▸ (rorL_good HFa.out HFb.out).1)
  have nu2 : u2.length ≤ 1 + 2 * (a.length + b.length) := hz ▸ (rorL_good HFa.out HFb.out).2
  have HVu2 : Hid (Rw.Val u2) := hid (hz ▸ Rw.v_or HVa.out HVb.out)
  have HSa := hid (HSa.out.below hb)
  have HSb := hid (HSb.out.below hb)
  have HSc := hid (HSc.out.below hb)
  have HSp1 := hid (HSp1.out.below hb)
  have HSp2 := hid (HSp2.out.below hb)
  have HSq1 := hid (HSq1.out.below hb)
  have HSq2 := hid (HSq2.out.below hb)
  have HSq3 := hid (HSq3.out.below hb)
  have HSq4 := hid (HSq4.out.below hb)
  have HSq5 := hid (HSq5.out.below hb)
  have HSr1 := hid (HSr1.out.below hb)
  have HSr2 := hid (HSr2.out.below hb)
  have HSs1 := hid (HSs1.out.below hb)
  have HSs2 := hid (HSs2.out.below hb)
  have HSt1 := hid (HSt1.out.below hb)
  have HSt2 := hid (HSt2.out.below hb)
  have HSt3 := hid (HSt3.out.below hb)
  have HSt4 := hid (HSt4.out.below hb)
  have HSt5 := hid (HSt5.out.below hb)
  have HSu1 := hid (HSu1.out.below hb)
  have HI0 := hid (HI0.out.below hb)
  have HI1 := hid (HI1.out.below hb)
  have HI2 := hid (HI2.out.below hb)
  have HB := hid (below_tr HB.out hb)
  have HSu2 := hid Su2
  clear o Su2 hb hz
  go_wp2_with fail
  have hq : withinR a u2 = true := by rw [← HEu2.out]; exact Rw.within_or HVa.out HVb.out
  refine (within_any Aa Au2 ca cu2 a u2 w28 HSa.out HSu2.out HFa.out HFu2.out (by omega)).mono ?_
  rintro _ w29 ⟨rfl, hb⟩
  rw [hq]
  have HSa := hid (HSa.out.below hb)
  have HSb := hid (HSb.out.below hb)
  have HSc := hid (HSc.out.below hb)
  have HSp1 := hid (HSp1.out.below hb)
  have HSp2 := hid (HSp2.out.below hb)
  have HSq1 := hid (HSq1.out.below hb)
  have HSq2 := hid (HSq2.out.below hb)
  have HSq3 := hid (HSq3.out.below hb)
  have HSq4 := hid (HSq4.out.below hb)
  have HSq5 := hid (HSq5.out.below hb)
  have HSr1 := hid (HSr1.out.below hb)
  have HSr2 := hid (HSr2.out.below hb)
  have HSs1 := hid (HSs1.out.below hb)
  have HSs2 := hid (HSs2.out.below hb)
  have HSt1 := hid (HSt1.out.below hb)
  have HSt2 := hid (HSt2.out.below hb)
  have HSt3 := hid (HSt3.out.below hb)
  have HSt4 := hid (HSt4.out.below hb)
  have HSt5 := hid (HSt5.out.below hb)
  have HSu1 := hid (HSu1.out.below hb)
  have HSu2 := hid (HSu2.out.below hb)
  have HI0 := hid (HI0.out.below hb)
  have HI1 := hid (HI1.out.below hb)
  have HI2 := hid (HI2.out.below hb)
  have HB := hid (below_tr HB.out hb)
  clear hb hq
  have hwn := hid (Rw.within_not HVa.out HVb.out)
  generalize hwq : withinR a b = wq at *
  have HWQ := hid hwq
  clear hwq
  go_wp2_with fail
  have hq : withinR a b = wq := HWQ.out
  refine (within_any Aa Ab ca cb a b w29 HSa.out HSb.out HFa.out HFb.out (by omega)).mono ?_
  rintro _ w30 ⟨rfl, hb⟩
  rw [hq]
  have HSa := hid (HSa.out.below hb)
  have HSb := hid (HSb.out.below hb)
  have HSc := hid (HSc.out.below hb)
  have HSp1 := hid (HSp1.out.below hb)
  have HSp2 := hid (HSp2.out.below hb)
  have HSq1 := hid (HSq1.out.below hb)
  have HSq2 := hid (HSq2.out.below hb)
  have HSq3 := hid (HSq3.out.below hb)
  have HSq4 := hid (HSq4.out.below hb)
  have HSq5 := hid (HSq5.out.below hb)
  have HSr1 := hid (HSr1.out.below hb)
  have HSr2 := hid (HSr2.out.below hb)
  have HSs1 := hid (HSs1.out.below hb)
  have HSs2 := hid (HSs2.out.below hb)
  have HSt1 := hid (HSt1.out.below hb)
  have HSt2 := hid (HSt2.out.below hb)
  have HSt3 := hid (HSt3.out.below hb)
  have HSt4 := hid (HSt4.out.below hb)
  have HSt5 := hid (HSt5.out.below hb)
  have HSu1 := hid (HSu1.out.below hb)
  have HSu2 := hid (HSu2.out.below hb)
  have HI0 := hid (HI0.out.below hb)
  have HI1 := hid (HI1.out.below hb)
  have HI2 := hid (HI2.out.below hb)
  have HB := hid (below_tr HB.out hb)
  clear hb hq
  go_wp2_with fail
  refine (not_any w30.heap.size Ab cb b w30 HSb.out HFb.out (by omega) (Nat.le_refl _)).mono ?_
  rintro _ w31 ⟨v, rfl, o, hb, _⟩
  obtain ⟨Au3, cu3, rfl, Su3⟩ := o.spans
  generalize hz : rnotL b = u3 at Su3 ⊢
  have HEu3 := hid hz
  have HFu3 : Hid (fitL u3) := hid (hz ▸ (rnotL_good HFb.out).1)
  have nu3 : u3.length ≤ 1 + 2 * b.length := hz ▸ (rnotL_good HFb.out).2
  have HVu3 : Hid (Rw.Val u3) := hid (hz ▸ Rw.v_not HVb.out)
  have HSa := hid (HSa.out.below hb)
  have HSb := hid (HSb.out.below hb)
  have HSc := hid (HSc.out.below hb)
  have HSp1 := hid (HSp1.out.below hb)
  have HSp2 := hid (HSp2.out.below hb)
  have HSq1 := hid (HSq1.out.below hb)
  have HSq2 := hid (HSq2.out.below hb)
  have HSq3 := hid (HSq3.out.below hb)
  have HSq4 := hid (HSq4.out.below hb)
  have HSq5 := hid (HSq5.out.below hb)
  have HSr1 := hid (HSr1.out.below hb)
  have HSr2 := hid (HSr2.out.below hb)
  have HSs1 := hid (HSs1.out.below hb)
  have HSs2 := hid (HSs2.out.below hb)
  have HSt1 := hid (HSt1.out.below hb)
  have HSt2 := hid (HSt2.out.below hb)
  have HSt3 := hid (HSt3.out.below hb)
  have HSt4 := hid (HSt4.out.below hb)
  have HSt5 := hid (HSt5.out.below hb)
  have HSu1 := hid (HSu1.out.below hb)
  have HSu2 := hid (HSu2.out.below hb)
  have HI0 := hid (HI0.out.below hb)
  have HI1 := hid (HI1.out.below hb)
  have HI2 := hid (HI2.out.below hb)
  have HB := hid (below_tr HB.out hb)
  have HSu3 := hid Su3
  clear o Su3 hb hz
  go_wp2_with fail
  refine (and_any w31.heap.size Aa Au3 ca cu3 a u3 w31 HSa.out HSu3.out HFa.out HFu3.out (by omega) (Nat.le_refl _)).mono ?_
  rintro _ w32 ⟨v, rfl, o, hb, _⟩
  obtain ⟨Au4, cu4, rfl, Su4⟩ := o.spans
  generalize hz : randL a u3 = u4 at Su4 ⊢
  have HEu4 := hid hz
  have HFu4 : Hid (fitL u4) := hid (hz ▸ (randL_good HFa.out HFu3.out).1)
  have nu4 : u4.length ≤ 1 + 2 * (a.length + u3.length) := hz ▸ (randL_good HFa.out HFu3.out).2
  have HVu4 : Hid (Rw.Val u4) := hid (hz ▸ Rw.v_and HVa.out HVu3.out)
  have HSa := hid (HSa.out.below hb)
  have HSb := hid (HSb.out.below hb)
  have HSc := hid (HSc.out.below hb)
  have HSp1 := hid (HSp1.out.below hb)
  have HSp2 := hid (HSp2.out.below hb)
  have HSq1 := hid (HSq1.out.below hb)
  have HSq2 := hid (HSq2.out.below hb)
  have HSq3 := hid (HSq3.out.below hb)
  have HSq4 := hid (HSq4.out.below hb)
  have HSq5 := hid (HSq5.out.below hb)
  have HSr1 := hid (HSr1.out.below hb)
  have HSr2 := hid (HSr2.out.below hb)
  have HSs1 := hid (HSs1.out.below hb)
  have HSs2 := hid (HSs2.out.below hb)
  have HSt1 := hid (HSt1.out.below hb)
  have HSt2 := hid (HSt2.out.below hb)
  have HSt3 := hid (HSt3.out.below hb)
  have HSt4 := hid (HSt4.out.below hb)
  have HSt5 := hid (HSt5.out.below hb)
  have HSu1 := hid (HSu1.out.below hb)
  have HSu2 := hid (HSu2.out.below hb)
  have HSu3 := hid (HSu3.out.below hb)
  have HI0 := hid (HI0.out.below hb)
  have HI1 := hid (HI1.out.below hb)
  have HI2 := hid (HI2.out.below hb)
  have HB := hid (below_tr HB.out hb)
  have HSu4 := hid Su4
  clear o Su4 hb hz
  rw [HEu3.out, HEu4.out] at hwn
  go_wp2_with fail
  go_ret
  exact ⟨by rw [hwn.out]; simp, HB.out⟩
end Go.Proofs.Ytodicnjoimoiiaa
