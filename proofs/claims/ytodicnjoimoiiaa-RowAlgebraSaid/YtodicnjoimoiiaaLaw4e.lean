/- The walks of the laws of rows, call by call. -/
import Derived.Test.YtodicnjoimoiiaaAwake
import Derived.Test.YtodicnjoimoiiaaLawS
import Derived.Test.YtodicnjoimoiiaaRowThm
import Derived.Test.YtodicnjoimoiiaaFew
namespace Go.Proofs.Ytodicnjoimoiiaa
open Go.RowKit Go.Lib
set_option linter.unusedVariables false
set_option linter.unusedSimpArgs false

set_option maxRecDepth 100000 in
set_option maxHeartbeats 2000000 in
theorem alg_noa (Aa : Option Addr) (ca : Nat) (a : List SpanL) (Ab : Option Addr) (cb : Nat) (b : List SpanL) (w : World) (Sa : Spans w Aa a) (Sb : Spans w Ab b) (na : a.length ≤ 9223372036854775807) (nb : b.length ≤ 9223372036854775807) (Qa : fewR 12 a = false) : Calls Try.prog 5 #[.slice Aa a.length ca, .slice Ab b.length cb] w (BoolPost w true) := by
  have HSa := hid Sa
  have HSb := hid Sb
  clear Sa Sb
  go_enter Try.func5, Try.ntmps5
  go_wp2_with fail
  refine (few_any Aa ca a w HSa.out (by omega)).mono ?_
  rintro _ _ ⟨rfl, rfl⟩
  rw [Qa]
  go_wp2_with fail
  refine (awake_any w).mono ?_
  rintro _ w1 ⟨rfl, hb⟩
  go_wp2_with fail
  go_ret
  exact ⟨rfl, hb⟩

set_option maxRecDepth 100000 in
set_option maxHeartbeats 2000000 in
theorem alg_nob (Aa : Option Addr) (ca : Nat) (a : List SpanL) (Ab : Option Addr) (cb : Nat) (b : List SpanL) (w : World) (Sa : Spans w Aa a) (Sb : Spans w Ab b) (na : a.length ≤ 9223372036854775807) (nb : b.length ≤ 9223372036854775807) (Qa : fewR 12 a = true) (Qb : fewR 12 b = false) : Calls Try.prog 5 #[.slice Aa a.length ca, .slice Ab b.length cb] w (BoolPost w true) := by
  have HSa := hid Sa
  have HSb := hid Sb
  clear Sa Sb
  go_enter Try.func5, Try.ntmps5
  go_wp2_with fail
  refine (few_any Aa ca a w HSa.out (by omega)).mono ?_
  rintro _ _ ⟨rfl, rfl⟩
  rw [Qa]
  go_wp2_with fail
  refine (few_any Ab cb b w HSb.out (by omega)).mono ?_
  rintro _ _ ⟨rfl, rfl⟩
  rw [Qb]
  go_wp2_with fail
  refine (awake_any w).mono ?_
  rintro _ w1 ⟨rfl, hb⟩
  go_wp2_with fail
  go_ret
  exact ⟨rfl, hb⟩

set_option maxRecDepth 100000 in
set_option maxHeartbeats 2000000 in
theorem alg_yes (Aa : Option Addr) (ca : Nat) (a : List SpanL) (Ab : Option Addr) (cb : Nat) (b : List SpanL) (w : World) (Sa : Spans w Aa a) (Fa : fitL a) (na : a.length ≤ 12) (Sb : Spans w Ab b) (Fb : fitL b) (nb : b.length ≤ 12) (Qa : fewR 12 a = true) (Qb : fewR 12 b = true) : Calls Try.prog 5 #[.slice Aa a.length ca, .slice Ab b.length cb] w (BoolPost w true) := by
  have HSa := hid Sa
  have HFa := hid Fa
  have HSb := hid Sb
  have HFb := hid Fb
  have HB : Hid (Below w.heap.size w w) := hid (Below.refl _ _)
  clear Sa Fa Sb Fb
  go_enter Try.func5, Try.ntmps5
  go_wp2_with fail
  refine (few_any Aa ca a w HSa.out (by omega)).mono ?_
  rintro _ _ ⟨rfl, rfl⟩
  rw [Qa]
  go_wp2_with fail
  refine (few_any Ab cb b w HSb.out (by omega)).mono ?_
  rintro _ _ ⟨rfl, rfl⟩
  rw [Qb]
  go_wp2_with fail
  refine (ror_any w.heap.size Aa Ab ca cb a b w HSa.out HSb.out HFa.out HFb.out (by omega) (Nat.le_refl _)).mono ?_
  rintro _ w1 ⟨v, rfl, o, hb, _⟩
  obtain ⟨Ax1, cx1, rfl, Sx1⟩ := o.spans
  generalize hz : rorL a b = x1 at Sx1 ⊢
  have HEx1 := hid hz
  have HFx1 : Hid (fitL x1) := hid (hz ▸ (rorL_good HFa.out HFb.out).1)
  have nx1 : x1.length ≤ 1 + 2 * (a.length + b.length) := hz ▸ (rorL_good HFa.out HFb.out).2
  have HSa := hid (HSa.out.below hb)
  have HSb := hid (HSb.out.below hb)
  have HB := hid (below_tr HB.out hb)
  have HSx1 := hid Sx1
  clear o Sx1 hb hz
  go_wp2_with fail
  refine (rand_any w1.heap.size Aa Ab ca cb a b w1 HSa.out HSb.out HFa.out HFb.out (by omega) (Nat.le_refl _)).mono ?_
  rintro _ w2 ⟨v, rfl, o, hb, _⟩
  obtain ⟨Ax2, cx2, rfl, Sx2⟩ := o.spans
  generalize hz : randL a b = x2 at Sx2 ⊢
  have HEx2 := hid hz
  have HFx2 : Hid (fitL x2) := hid (hz ▸ (randL_good HFa.out HFb.out).1)
  have nx2 : x2.length ≤ 1 + 2 * (a.length + b.length) := hz ▸ (randL_good HFa.out HFb.out).2
  have HSa := hid (HSa.out.below hb)
  have HSb := hid (HSb.out.below hb)
  have HSx1 := hid (HSx1.out.below hb)
  have HB := hid (below_tr HB.out hb)
  have HSx2 := hid Sx2
  clear o Sx2 hb hz
  go_wp2_with fail
  refine (rnot_any w2.heap.size Aa ca a w2 HSa.out HFa.out (by omega) (Nat.le_refl _)).mono ?_
  rintro _ w3 ⟨v, rfl, o, hb, _⟩
  obtain ⟨Ax3, cx3, rfl, Sx3⟩ := o.spans
  generalize hz : rnotL a = x3 at Sx3 ⊢
  have HEx3 := hid hz
  have HFx3 : Hid (fitL x3) := hid (hz ▸ (rnotL_good HFa.out).1)
  have nx3 : x3.length ≤ 1 + 2 * a.length := hz ▸ (rnotL_good HFa.out).2
  have HSa := hid (HSa.out.below hb)
  have HSb := hid (HSb.out.below hb)
  have HSx1 := hid (HSx1.out.below hb)
  have HSx2 := hid (HSx2.out.below hb)
  have HB := hid (below_tr HB.out hb)
  have HSx3 := hid Sx3
  clear o Sx3 hb hz
  go_wp2_with fail
  refine (awake_any w3).mono ?_
  rintro _ w4 ⟨rfl, hb⟩
  have HSa := hid (HSa.out.below hb)
  have HSb := hid (HSb.out.below hb)
  have HSx1 := hid (HSx1.out.below hb)
  have HSx2 := hid (HSx2.out.below hb)
  have HSx3 := hid (HSx3.out.below hb)
  have HB := hid (below_tr HB.out hb)
  clear hb
  go_wp2_with fail
  refine (por_any w4.heap.size Aa Ab ca cb a b w4 HSa.out HSb.out HFa.out HFb.out (by omega) (Nat.le_refl _)).mono ?_
  rintro _ w5 ⟨v, rfl, o, hb, _⟩
  obtain ⟨Ay1, cy1, rfl, Sy1⟩ := o.spans
  generalize hz : rorL a b = y1 at Sy1 ⊢
  have HEy1 := hid hz
  have HFy1 : Hid (fitL y1) := hid (hz ▸ (rorL_good HFa.out HFb.out).1)
  have ny1 : y1.length ≤ 1 + 2 * (a.length + b.length) := hz ▸ (rorL_good HFa.out HFb.out).2
  have HSa := hid (HSa.out.below hb)
  have HSb := hid (HSb.out.below hb)
  have HSx1 := hid (HSx1.out.below hb)
  have HSx2 := hid (HSx2.out.below hb)
  have HSx3 := hid (HSx3.out.below hb)
  have HB := hid (below_tr HB.out hb)
  have HSy1 := hid Sy1
  clear o Sy1 hb hz
  go_wp2_with fail
  have hq : sameR y1 x1 = true := by rw [← HEy1.out, ← HEx1.out]; exact Rw.same_refl
  refine (same_any Ay1 Ax1 cy1 cx1 y1 x1 w5 HSy1.out HSx1.out (by omega) (by omega)).mono ?_
  rintro _ w6 ⟨rfl, hb⟩
  rw [hq]
  have HSa := hid (HSa.out.below hb)
  have HSb := hid (HSb.out.below hb)
  have HSx1 := hid (HSx1.out.below hb)
  have HSx2 := hid (HSx2.out.below hb)
  have HSx3 := hid (HSx3.out.below hb)
  have HSy1 := hid (HSy1.out.below hb)
  have HB := hid (below_tr HB.out hb)
  clear hb hq
  go_wp2_with fail
  refine (and_any w6.heap.size Aa Ab ca cb a b w6 HSa.out HSb.out HFa.out HFb.out (by omega) (Nat.le_refl _)).mono ?_
  rintro _ w7 ⟨v, rfl, o, hb, _⟩
  obtain ⟨Ay2, cy2, rfl, Sy2⟩ := o.spans
  generalize hz : randL a b = y2 at Sy2 ⊢
  have HEy2 := hid hz
  have HFy2 : Hid (fitL y2) := hid (hz ▸ (randL_good HFa.out HFb.out).1)
  have ny2 : y2.length ≤ 1 + 2 * (a.length + b.length) := hz ▸ (randL_good HFa.out HFb.out).2
  have HSa := hid (HSa.out.below hb)
  have HSb := hid (HSb.out.below hb)
  have HSx1 := hid (HSx1.out.below hb)
  have HSx2 := hid (HSx2.out.below hb)
  have HSx3 := hid (HSx3.out.below hb)
  have HSy1 := hid (HSy1.out.below hb)
  have HB := hid (below_tr HB.out hb)
  have HSy2 := hid Sy2
  clear o Sy2 hb hz
  go_wp2_with fail
  have hq : sameR y2 x2 = true := by rw [← HEy2.out, ← HEx2.out]; exact Rw.same_refl
  refine (same_any Ay2 Ax2 cy2 cx2 y2 x2 w7 HSy2.out HSx2.out (by omega) (by omega)).mono ?_
  rintro _ w8 ⟨rfl, hb⟩
  rw [hq]
  have HSa := hid (HSa.out.below hb)
  have HSb := hid (HSb.out.below hb)
  have HSx1 := hid (HSx1.out.below hb)
  have HSx2 := hid (HSx2.out.below hb)
  have HSx3 := hid (HSx3.out.below hb)
  have HSy1 := hid (HSy1.out.below hb)
  have HSy2 := hid (HSy2.out.below hb)
  have HB := hid (below_tr HB.out hb)
  clear hb hq
  go_wp2_with fail
  refine (not_any w8.heap.size Aa ca a w8 HSa.out HFa.out (by omega) (Nat.le_refl _)).mono ?_
  rintro _ w9 ⟨v, rfl, o, hb, _⟩
  obtain ⟨Ay3, cy3, rfl, Sy3⟩ := o.spans
  generalize hz : rnotL a = y3 at Sy3 ⊢
  have HEy3 := hid hz
  have HFy3 : Hid (fitL y3) := hid (hz ▸ (rnotL_good HFa.out).1)
  have ny3 : y3.length ≤ 1 + 2 * a.length := hz ▸ (rnotL_good HFa.out).2
  have HSa := hid (HSa.out.below hb)
  have HSb := hid (HSb.out.below hb)
  have HSx1 := hid (HSx1.out.below hb)
  have HSx2 := hid (HSx2.out.below hb)
  have HSx3 := hid (HSx3.out.below hb)
  have HSy1 := hid (HSy1.out.below hb)
  have HSy2 := hid (HSy2.out.below hb)
  have HB := hid (below_tr HB.out hb)
  have HSy3 := hid Sy3
  clear o Sy3 hb hz
  go_wp2_with fail
  have hq : sameR y3 x3 = true := by rw [← HEy3.out, ← HEx3.out]; exact Rw.same_refl
  refine (same_any Ay3 Ax3 cy3 cx3 y3 x3 w9 HSy3.out HSx3.out (by omega) (by omega)).mono ?_
  rintro _ w10 ⟨rfl, hb⟩
  rw [hq]
  have HSa := hid (HSa.out.below hb)
  have HSb := hid (HSb.out.below hb)
  have HSx1 := hid (HSx1.out.below hb)
  have HSx2 := hid (HSx2.out.below hb)
  have HSx3 := hid (HSx3.out.below hb)
  have HSy1 := hid (HSy1.out.below hb)
  have HSy2 := hid (HSy2.out.below hb)
  have HSy3 := hid (HSy3.out.below hb)
  have HB := hid (below_tr HB.out hb)
  clear hb hq
  generalize hwq : withinR a b = wq
  have HWQ := hid hwq
  clear hwq
  go_wp2_with fail
  have hq : withinR a b = wq := HWQ.out
  refine (within_any Aa Ab ca cb a b w10 HSa.out HSb.out HFa.out HFb.out (by omega)).mono ?_
  rintro _ w11 ⟨rfl, hb⟩
  rw [hq]
  have HSa := hid (HSa.out.below hb)
  have HSb := hid (HSb.out.below hb)
  have HSx1 := hid (HSx1.out.below hb)
  have HSx2 := hid (HSx2.out.below hb)
  have HSx3 := hid (HSx3.out.below hb)
  have HSy1 := hid (HSy1.out.below hb)
  have HSy2 := hid (HSy2.out.below hb)
  have HSy3 := hid (HSy3.out.below hb)
  have HB := hid (below_tr HB.out hb)
  clear hb hq
  go_wp2_with fail
  have hq : withinR a b = wq := HWQ.out
  refine (rwithin_any Aa Ab ca cb a b w11 HSa.out HSb.out HFa.out HFb.out (by omega)).mono ?_
  rintro _ w12 ⟨rfl, hb⟩
  rw [hq]
  have HSa := hid (HSa.out.below hb)
  have HSb := hid (HSb.out.below hb)
  have HSx1 := hid (HSx1.out.below hb)
  have HSx2 := hid (HSx2.out.below hb)
  have HSx3 := hid (HSx3.out.below hb)
  have HSy1 := hid (HSy1.out.below hb)
  have HSy2 := hid (HSy2.out.below hb)
  have HSy3 := hid (HSy3.out.below hb)
  have HB := hid (below_tr HB.out hb)
  clear hb hq
  go_wp2_with fail
  go_ret
  exact ⟨by simp, HB.out⟩

theorem walk_RowAlgebra (Aa : Option Addr) (ca : Nat) (a : List SpanL) (Ab : Option Addr) (cb : Nat) (b : List SpanL) (w : World) (Sa : Spans w Aa a) (Sb : Spans w Ab b) (na : a.length ≤ 9223372036854775807) (nb : b.length ≤ 9223372036854775807) : Calls Try.prog 5 #[.slice Aa a.length ca, .slice Ab b.length cb] w (BoolPost w true) := by
  cases ha : fewR 12 a
  · exact alg_noa Aa ca a Ab cb b w Sa Sb na nb ha
  · cases hb : fewR 12 b
    · exact alg_nob Aa ca a Ab cb b w Sa Sb na nb ha hb
    · exact alg_yes Aa ca a Ab cb b w Sa (few_fit ha).2 (few_fit ha).1 Sb (few_fit hb).2 (few_fit hb).1 ha hb
end Go.Proofs.Ytodicnjoimoiiaa
