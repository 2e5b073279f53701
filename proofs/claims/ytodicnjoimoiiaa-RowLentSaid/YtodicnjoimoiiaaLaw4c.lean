/- The walks of the laws of rows, call by call. -/
import Derived.Test.YtodicnjoimoiiaaAwake
import Derived.Test.YtodicnjoimoiiaaLawS
import Derived.Test.YtodicnjoimoiiaaRowThm
namespace Go.Proofs.Ytodicnjoimoiiaa
open Go.RowKit Go.Lib
set_option linter.unusedVariables false
set_option linter.unusedSimpArgs false

set_option maxRecDepth 100000 in
set_option maxHeartbeats 2000000 in
theorem walk_RowLent (A0 : Option Addr) (c0 : Nat) (z0 : List Int) (A1 : Option Addr) (c1 : Nat) (z1 : List Int) (w : World) (h0 : IntsAt w A0 z0) (l0 : z0.length ≤ 9223372036854775807) (h1 : IntsAt w A1 z1) (l1 : z1.length ≤ 9223372036854775807) : Calls Try.prog 8 #[.slice A0 z0.length c0, .slice A1 z1.length c1] w (BoolPost w true) := by
  have HI0 := hid h0
  have HL0 := hid l0
  have HI1 := hid h1
  have HL1 := hid l1
  have HB : Hid (Below w.heap.size w w) := hid (Below.refl _ _)
  clear h0 l0 h1 l1
  go_enter Try.func8, Try.ntmps8
  go_wp2_with fail
  refine (row_any w.heap.size A0 c0 z0 0 w HI0.out (by omega) (by omega) HL0.out (Nat.le_refl _)).mono ?_
  rintro _ w1 ⟨v, a, rfl, o, Fa, Va, na, hb⟩
  obtain ⟨Aa, ca, rfl, Sa⟩ := o.spans
  have HI0 := hid (HI0.out.below hb)
  have HI1 := hid (HI1.out.below hb)
  have HB := hid (below_tr HB.out hb)
  have HSa := hid Sa
  have HFa := hid Fa
  have HVa := hid Va
  clear o Sa Fa Va hb
  go_wp2_with fail
  refine (spans_any w1.heap.size 4 A1 c1 z1 0 w1 HI1.out (by omega) (by omega) (by omega) HL1.out (Nat.le_refl _)).mono ?_
  rintro _ w2 ⟨v, b, rfl, o, Fb, Mb, nb, hb⟩
  obtain ⟨Ab, cb, rfl, Sb⟩ := o.spans
  have HSa := hid (HSa.out.below hb)
  have HI0 := hid (HI0.out.below hb)
  have HI1 := hid (HI1.out.below hb)
  have HB := hid (below_tr HB.out hb)
  have HSb := hid Sb
  have HFb := hid Fb.toL
  have HMb := hid Mb
  clear o Sb Fb Mb hb
  go_wp2_with fail
  refine (copyrow_any w2.heap.size Aa ca a w2 HSa.out (by omega) (Nat.le_refl _)).mono ?_
  rintro _ w3 ⟨v, rfl, o, hb, _⟩
  obtain ⟨Ax, cx, rfl, Sx⟩ := o.spans
  have HSa := hid (HSa.out.below hb)
  have HSb := hid (HSb.out.below hb)
  have HI0 := hid (HI0.out.below hb)
  have HI1 := hid (HI1.out.below hb)
  have HB := hid (below_tr HB.out hb)
  have HSx := hid Sx
  clear o Sx hb
  go_wp2_with fail
  refine (copyrow_any w3.heap.size Ab cb b w3 HSb.out (by omega) (Nat.le_refl _)).mono ?_
  rintro _ w4 ⟨v, rfl, o, hb, _⟩
  obtain ⟨Ay, cy, rfl, Sy⟩ := o.spans
  have HSa := hid (HSa.out.below hb)
  have HSb := hid (HSb.out.below hb)
  have HSx := hid (HSx.out.below hb)
  have HI0 := hid (HI0.out.below hb)
  have HI1 := hid (HI1.out.below hb)
  have HB := hid (below_tr HB.out hb)
  have HSy := hid Sy
  clear o Sy hb
  go_wp2_with fail
  refine (make_any w4.heap.size Ab cb b w4 HSb.out HFb.out (by omega) (Nat.le_refl _)).mono ?_
  rintro _ w5 ⟨v, rfl, o, hb, _⟩
  have HSa := hid (HSa.out.below hb)
  have HSb := hid (HSb.out.below hb)
  have HSx := hid (HSx.out.below hb)
  have HSy := hid (HSy.out.below hb)
  have HI0 := hid (HI0.out.below hb)
  have HI1 := hid (HI1.out.below hb)
  have HB := hid (below_tr HB.out hb)
  clear o hb
  go_wp2_with fail
  refine (make_any w5.heap.size Ab cb b w5 HSb.out HFb.out (by omega) (Nat.le_refl _)).mono ?_
  rintro _ w6 ⟨v, rfl, o, hb, _⟩
  have HSa := hid (HSa.out.below hb)
  have HSb := hid (HSb.out.below hb)
  have HSx := hid (HSx.out.below hb)
  have HSy := hid (HSy.out.below hb)
  have HI0 := hid (HI0.out.below hb)
  have HI1 := hid (HI1.out.below hb)
  have HB := hid (below_tr HB.out hb)
  obtain ⟨Ac, cc, rfl, Sc⟩ := o.spans
  have HFc := hid (rmakeL_good HFb.out).1
  have nc := (rmakeL_good HFb.out).2
  generalize (rmakeL b).1 = c at *
  have HSc := hid Sc
  clear o Sc hb
  go_wp2_with fail
  refine (por_any w6.heap.size Aa Ac ca cc a c w6 HSa.out HSc.out HFa.out HFc.out (by omega) (Nat.le_refl _)).mono ?_
  rintro _ w7 ⟨v, rfl, o, hb, _⟩
  obtain ⟨Ad1, cd1, rfl, Sd1⟩ := o.spans
  generalize hz : rorL a c = d1 at Sd1 ⊢
  have HEd1 := hid hz
  have HFd1 : Hid (fitL d1) := hid (hz ▸ (rorL_good HFa.out HFc.out).1)
  have nd1 : d1.length ≤ 1 + 2 * (a.length + c.length) := hz ▸ (rorL_good HFa.out HFc.out).2
  have HSa := hid (HSa.out.below hb)
  have HSb := hid (HSb.out.below hb)
  have HSx := hid (HSx.out.below hb)
  have HSy := hid (HSy.out.below hb)
  have HSc := hid (HSc.out.below hb)
  have HI0 := hid (HI0.out.below hb)
  have HI1 := hid (HI1.out.below hb)
  have HB := hid (below_tr HB.out hb)
  have HSd1 := hid Sd1
  clear o Sd1 hb hz
  go_wp2_with fail
  refine (and_any w7.heap.size Aa Ac ca cc a c w7 HSa.out HSc.out HFa.out HFc.out (by omega) (Nat.le_refl _)).mono ?_
  rintro _ w8 ⟨v, rfl, o, hb, _⟩
  obtain ⟨Ad2, cd2, rfl, Sd2⟩ := o.spans
  generalize hz : randL a c = d2 at Sd2 ⊢
  have HEd2 := hid hz
  have HFd2 : Hid (fitL d2) := hid (hz ▸ (randL_good HFa.out HFc.out).1)
  have nd2 : d2.length ≤ 1 + 2 * (a.length + c.length) := hz ▸ (randL_good HFa.out HFc.out).2
  have HSa := hid (HSa.out.below hb)
  have HSb := hid (HSb.out.below hb)
  have HSx := hid (HSx.out.below hb)
  have HSy := hid (HSy.out.below hb)
  have HSc := hid (HSc.out.below hb)
  have HSd1 := hid (HSd1.out.below hb)
  have HI0 := hid (HI0.out.below hb)
  have HI1 := hid (HI1.out.below hb)
  have HB := hid (below_tr HB.out hb)
  have HSd2 := hid Sd2
  clear o Sd2 hb hz
  go_wp2_with fail
  refine (not_any w8.heap.size Aa ca a w8 HSa.out HFa.out (by omega) (Nat.le_refl _)).mono ?_
  rintro _ w9 ⟨v, rfl, o, hb, _⟩
  obtain ⟨Ad3, cd3, rfl, Sd3⟩ := o.spans
  generalize hz : rnotL a = d3 at Sd3 ⊢
  have HEd3 := hid hz
  have HFd3 : Hid (fitL d3) := hid (hz ▸ (rnotL_good HFa.out).1)
  have nd3 : d3.length ≤ 1 + 2 * a.length := hz ▸ (rnotL_good HFa.out).2
  have HSa := hid (HSa.out.below hb)
  have HSb := hid (HSb.out.below hb)
  have HSx := hid (HSx.out.below hb)
  have HSy := hid (HSy.out.below hb)
  have HSc := hid (HSc.out.below hb)
  have HSd1 := hid (HSd1.out.below hb)
  have HSd2 := hid (HSd2.out.below hb)
  have HI0 := hid (HI0.out.below hb)
  have HI1 := hid (HI1.out.below hb)
  have HB := hid (below_tr HB.out hb)
  have HSd3 := hid Sd3
  clear o Sd3 hb hz
  go_wp2_with fail
  refine (awake_any w9).mono ?_
  rintro _ w10 ⟨rfl, hb⟩
  have HSa := hid (HSa.out.below hb)
  have HSb := hid (HSb.out.below hb)
  have HSx := hid (HSx.out.below hb)
  have HSy := hid (HSy.out.below hb)
  have HSc := hid (HSc.out.below hb)
  have HSd1 := hid (HSd1.out.below hb)
  have HSd2 := hid (HSd2.out.below hb)
  have HSd3 := hid (HSd3.out.below hb)
  have HI0 := hid (HI0.out.below hb)
  have HI1 := hid (HI1.out.below hb)
  have HB := hid (below_tr HB.out hb)
  clear hb
  go_wp2_with fail
  have hq : sameR a a = true := Rw.same_refl
  refine (same_any Aa Ax ca cx a a w10 HSa.out HSx.out (by omega) (by omega)).mono ?_
  rintro _ w11 ⟨rfl, hb⟩
  rw [hq]
  have HSa := hid (HSa.out.below hb)
  have HSb := hid (HSb.out.below hb)
  have HSx := hid (HSx.out.below hb)
  have HSy := hid (HSy.out.below hb)
  have HSc := hid (HSc.out.below hb)
  have HSd1 := hid (HSd1.out.below hb)
  have HSd2 := hid (HSd2.out.below hb)
  have HSd3 := hid (HSd3.out.below hb)
  have HI0 := hid (HI0.out.below hb)
  have HI1 := hid (HI1.out.below hb)
  have HB := hid (below_tr HB.out hb)
  clear hb hq
  go_wp2_with fail
  have hq : sameR b b = true := Rw.same_refl
  refine (same_any Ab Ay cb cy b b w11 HSb.out HSy.out (by omega) (by omega)).mono ?_
  rintro _ w12 ⟨rfl, hb⟩
  rw [hq]
  have HSa := hid (HSa.out.below hb)
  have HSb := hid (HSb.out.below hb)
  have HSx := hid (HSx.out.below hb)
  have HSy := hid (HSy.out.below hb)
  have HSc := hid (HSc.out.below hb)
  have HSd1 := hid (HSd1.out.below hb)
  have HSd2 := hid (HSd2.out.below hb)
  have HSd3 := hid (HSd3.out.below hb)
  have HI0 := hid (HI0.out.below hb)
  have HI1 := hid (HI1.out.below hb)
  have HB := hid (below_tr HB.out hb)
  clear hb hq
  go_wp2_with fail
  go_ret
  exact ⟨rfl, HB.out⟩
end Go.Proofs.Ytodicnjoimoiiaa
