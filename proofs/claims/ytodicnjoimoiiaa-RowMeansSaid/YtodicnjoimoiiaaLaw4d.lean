/- The walks of the laws of rows, call by call. -/
import Derived.Test.YtodicnjoimoiiaaAwake
import Derived.Test.YtodicnjoimoiiaaLawS
import Derived.Test.YtodicnjoimoiiaaRowThm
namespace Go.Proofs.Ytodicnjoimoiiaa
open Go.RowKit Go.Lib
set_option linter.unusedVariables false
set_option linter.unusedSimpArgs false

set_option maxRecDepth 100000 in
set_option maxHeartbeats 2000000 in
theorem walk_RowMeans (A0 : Option Addr) (c0 : Nat) (z0 : List Int) (A1 : Option Addr) (c1 : Nat) (z1 : List Int) (w : World) (h0 : IntsAt w A0 z0) (l0 : z0.length ≤ 9223372036854775807) (h1 : IntsAt w A1 z1) (l1 : z1.length ≤ 9223372036854775807) : Calls Try.prog 6 #[.slice A0 z0.length c0, .slice A1 z1.length c1] w (BoolPost w true) := by
  have HI0 := hid h0
  have HL0 := hid l0
  have HI1 := hid h1
  have HL1 := hid l1
  have HB : Hid (Below w.heap.size w w) := hid (Below.refl _ _)
  clear h0 l0 h1 l1
  go_enter Try.func6, Try.ntmps6
  go_wp2_with fail
  refine (row_any w.heap.size A0 c0 z0 0 w HI0.out (by omega) (by omega) HL0.out (Nat.le_refl _)).mono ?_
  rintro _ w1 ⟨v, a, rfl, o, Fa, Va, na, hb⟩
  obtain ⟨Aa, ca, rfl, Sa⟩ := o.spans
  have HI0 := hid (HI0.out.below hb)
  have HI1 := hid (HI1.out.below hb)
  have HB := hid (below_tr HB.out hb)
  have HSa := hid Sa
  have HFa := hid Fa
  have HVa := hid Va
  clear o Sa Fa Va hb
  go_wp2_with fail
  refine (row_any w1.heap.size A1 c1 z1 0 w1 HI1.out (by omega) (by omega) HL1.out (Nat.le_refl _)).mono ?_
  rintro _ w2 ⟨v, b, rfl, o, Fb, Vb, nb, hb⟩
  obtain ⟨Ab, cb, rfl, Sb⟩ := o.spans
  have HSa := hid (HSa.out.below hb)
  have HI0 := hid (HI0.out.below hb)
  have HI1 := hid (HI1.out.below hb)
  have HB := hid (below_tr HB.out hb)
  have HSb := hid Sb
  have HFb := hid Fb
  have HVb := hid Vb
  clear o Sb Fb Vb hb
  go_wp2_with fail
  refine (version_any A0 c0 z0 49 w2 HI0.out (by omega) (by omega) HL0.out).mono ?_
  rintro _ w3 ⟨rfl, hb⟩
  have HOKv := hid (versionL_ok z0 49)
  generalize versionL z0 49 = v at *
  have HSa := hid (HSa.out.below hb)
  have HSb := hid (HSb.out.below hb)
  have HI0 := hid (HI0.out.below hb)
  have HI1 := hid (HI1.out.below hb)
  have HB := hid (below_tr HB.out hb)
  clear hb
  go_wp2_with fail
  refine wp_name ?_
  intro w4 hwn
  have hb : Below w3.heap.size w3 w4 := by rw [hwn]; exact below_new _ _
  have HXv : Hid (Box w4 w3.heap.size v.cells) := hid (by rw [hwn]; exact Box.new _ v.cells _)
  have HSa := hid (HSa.out.below hb)
  have HSb := hid (HSb.out.below hb)
  have HI0 := hid (HI0.out.below hb)
  have HI1 := hid (HI1.out.below hb)
  have HB := hid (below_tr HB.out hb)
  clear hb hwn
  obtain ⟨t0, t1, t2, t3, t4⟩ := HXv.out.get5
  have hgx := HXv.out.1
  have hha := hid (fun z : BW w4 => rowhas_any Aa ca a v z.v (HSa.out.below z.ok) HFa.out (by omega) HOKv.out.2)
  have hhb := hid (fun z : BW w4 => rowhas_any Ab cb b v z.v (HSb.out.below z.ok) HFb.out (by omega) HOKv.out.2)
  have hbw := bw_cell
  refine wp_region_below (by kernel_rfl) (by kernel_rfl) ?_
  repeat (go_big_quiet_step (first | (go_at_call_of 17 Aa; exact bw_bool (hha.out _)) | (go_at_call_of 17 Ab; exact bw_bool (hhb.out _))))
  refine wpQuiet_nil ?_
  rintro _ ⟨z, rfl⟩
  have hb := z.ok
  generalize z.v = w5 at hb ⊢
  clear z hbw hha hhb
  clear t0 t1 t2 t3 t4 hgx
  have HSa := hid (HSa.out.below hb)
  have HSb := hid (HSb.out.below hb)
  have HI0 := hid (HI0.out.below hb)
  have HI1 := hid (HI1.out.below hb)
  have HXv := hid (HXv.out.below hb)
  have HB := hid (below_tr HB.out hb)
  clear hb
  go_wp2_with fail
  refine (por_any w5.heap.size Aa Ab ca cb a b w5 HSa.out HSb.out HFa.out HFb.out (by omega) (Nat.le_refl _)).mono ?_
  rintro _ w6 ⟨v, rfl, o, hb, _⟩
  obtain ⟨Ao1, co1, rfl, So1⟩ := o.spans
  generalize hz : rorL a b = o1 at So1 ⊢
  have HEo1 := hid hz
  have HFo1 : Hid (fitL o1) := hid (hz ▸ (rorL_good HFa.out HFb.out).1)
  have no1 : o1.length ≤ 1 + 2 * (a.length + b.length) := hz ▸ (rorL_good HFa.out HFb.out).2
  have HVo1 : Hid (Rw.Val o1) := hid (hz ▸ Rw.v_or HVa.out HVb.out)
  have HSa := hid (HSa.out.below hb)
  have HSb := hid (HSb.out.below hb)
  have HI0 := hid (HI0.out.below hb)
  have HI1 := hid (HI1.out.below hb)
  have HXv := hid (HXv.out.below hb)
  have HB := hid (below_tr HB.out hb)
  have HSo1 := hid So1
  clear o So1 hb hz
  go_wp2_with fail
  refine (and_any w6.heap.size Aa Ab ca cb a b w6 HSa.out HSb.out HFa.out HFb.out (by omega) (Nat.le_refl _)).mono ?_
  rintro _ w7 ⟨v, rfl, o, hb, _⟩
  obtain ⟨Ao2, co2, rfl, So2⟩ := o.spans
  generalize hz : randL a b = o2 at So2 ⊢
  have HEo2 := hid hz
  have HFo2 : Hid (fitL o2) := hid (hz ▸ (randL_good HFa.out HFb.out).1)
  have no2 : o2.length ≤ 1 + 2 * (a.length + b.length) := hz ▸ (randL_good HFa.out HFb.out).2
  have HVo2 : Hid (Rw.Val o2) := hid (hz ▸ Rw.v_and HVa.out HVb.out)
  have HSa := hid (HSa.out.below hb)
  have HSb := hid (HSb.out.below hb)
  have HSo1 := hid (HSo1.out.below hb)
  have HI0 := hid (HI0.out.below hb)
  have HI1 := hid (HI1.out.below hb)
  have HXv := hid (HXv.out.below hb)
  have HB := hid (below_tr HB.out hb)
  have HSo2 := hid So2
  clear o So2 hb hz
  go_wp2_with fail
  refine (not_any w7.heap.size Aa ca a w7 HSa.out HFa.out (by omega) (Nat.le_refl _)).mono ?_
  rintro _ w8 ⟨v, rfl, o, hb, _⟩
  obtain ⟨Ao3, co3, rfl, So3⟩ := o.spans
  generalize hz : rnotL a = o3 at So3 ⊢
  have HEo3 := hid hz
  have HFo3 : Hid (fitL o3) := hid (hz ▸ (rnotL_good HFa.out).1)
  have no3 : o3.length ≤ 1 + 2 * a.length := hz ▸ (rnotL_good HFa.out).2
  have HVo3 : Hid (Rw.Val o3) := hid (hz ▸ Rw.v_not HVa.out)
  have HSa := hid (HSa.out.below hb)
  have HSb := hid (HSb.out.below hb)
  have HSo1 := hid (HSo1.out.below hb)
  have HSo2 := hid (HSo2.out.below hb)
  have HI0 := hid (HI0.out.below hb)
  have HI1 := hid (HI1.out.below hb)
  have HXv := hid (HXv.out.below hb)
  have HB := hid (below_tr HB.out hb)
  have HSo3 := hid So3
  clear o So3 hb hz
  have q1 := hid (Rw.has_or HVa.out HVb.out HOKv.out.1)
  have q2 := hid (Rw.has_and HVa.out HVb.out HOKv.out.1)
  have q3 := hid (Rw.has_not HVa.out HOKv.out.1)
  rw [HEo1.out] at q1
  rw [HEo2.out] at q2
  rw [HEo3.out] at q3
  generalize hasR a v = xa at *
  generalize hasR b v = xb at *
  cases xa
  · cases xb
    · skip
      go_wp2_with fail
      refine (awake_any w8).mono ?_
      rintro _ w9 ⟨rfl, hb⟩
      have HSa := hid (HSa.out.below hb)
      have HSb := hid (HSb.out.below hb)
      have HSo1 := hid (HSo1.out.below hb)
      have HSo2 := hid (HSo2.out.below hb)
      have HSo3 := hid (HSo3.out.below hb)
      have HI0 := hid (HI0.out.below hb)
      have HI1 := hid (HI1.out.below hb)
      have HXv := hid (HXv.out.below hb)
      have HB := hid (below_tr HB.out hb)
      clear hb
      obtain ⟨t0, t1, t2, t3, t4⟩ := HXv.out.get5
      have hgx := HXv.out.1
      go_wp2_with fail
      have hq : hasR o1 v = false := q1.out.trans rfl
      refine (rowhas_any Ao1 co1 o1 v w9 HSo1.out HFo1.out (by omega) HOKv.out.2).mono ?_
      rintro _ w10 ⟨rfl, hb⟩
      rw [hq]
      have HSa := hid (HSa.out.below hb)
      have HSb := hid (HSb.out.below hb)
      have HSo1 := hid (HSo1.out.below hb)
      have HSo2 := hid (HSo2.out.below hb)
      have HSo3 := hid (HSo3.out.below hb)
      have HI0 := hid (HI0.out.below hb)
      have HI1 := hid (HI1.out.below hb)
      have HXv := hid (HXv.out.below hb)
      have HB := hid (below_tr HB.out hb)
      clear hb hq
      clear t0 t1 t2 t3 t4 hgx
      obtain ⟨t0, t1, t2, t3, t4⟩ := HXv.out.get5
      have hgx := HXv.out.1
      go_wp2_with fail
      have hq : hasR o2 v = false := q2.out.trans rfl
      refine (rowhas_any Ao2 co2 o2 v w10 HSo2.out HFo2.out (by omega) HOKv.out.2).mono ?_
      rintro _ w11 ⟨rfl, hb⟩
      rw [hq]
      have HSa := hid (HSa.out.below hb)
      have HSb := hid (HSb.out.below hb)
      have HSo1 := hid (HSo1.out.below hb)
      have HSo2 := hid (HSo2.out.below hb)
      have HSo3 := hid (HSo3.out.below hb)
      have HI0 := hid (HI0.out.below hb)
      have HI1 := hid (HI1.out.below hb)
      have HXv := hid (HXv.out.below hb)
      have HB := hid (below_tr HB.out hb)
      clear hb hq
      clear t0 t1 t2 t3 t4 hgx
      obtain ⟨t0, t1, t2, t3, t4⟩ := HXv.out.get5
      have hgx := HXv.out.1
      go_wp2_with fail
      have hq : hasR o3 v = true := q3.out.trans rfl
      refine (rowhas_any Ao3 co3 o3 v w11 HSo3.out HFo3.out (by omega) HOKv.out.2).mono ?_
      rintro _ w12 ⟨rfl, hb⟩
      rw [hq]
      have HSa := hid (HSa.out.below hb)
      have HSb := hid (HSb.out.below hb)
      have HSo1 := hid (HSo1.out.below hb)
      have HSo2 := hid (HSo2.out.below hb)
      have HSo3 := hid (HSo3.out.below hb)
      have HI0 := hid (HI0.out.below hb)
      have HI1 := hid (HI1.out.below hb)
      have HXv := hid (HXv.out.below hb)
      have HB := hid (below_tr HB.out hb)
      clear hb hq
      clear t0 t1 t2 t3 t4 hgx
      go_wp2_with fail
      have hq : mayR o1 = true := Rw.mayR_val.2 HVo1.out
      refine (rowmay_any Ao1 co1 o1 w12 HSo1.out HFo1.out (by omega)).mono ?_
      rintro _ w13 ⟨rfl, hb⟩
      rw [hq]
      have HSa := hid (HSa.out.below hb)
      have HSb := hid (HSb.out.below hb)
      have HSo1 := hid (HSo1.out.below hb)
      have HSo2 := hid (HSo2.out.below hb)
      have HSo3 := hid (HSo3.out.below hb)
      have HI0 := hid (HI0.out.below hb)
      have HI1 := hid (HI1.out.below hb)
      have HXv := hid (HXv.out.below hb)
      have HB := hid (below_tr HB.out hb)
      clear hb hq
      go_wp2_with fail
      have hq : mayR o2 = true := Rw.mayR_val.2 HVo2.out
      refine (rowmay_any Ao2 co2 o2 w13 HSo2.out HFo2.out (by omega)).mono ?_
      rintro _ w14 ⟨rfl, hb⟩
      rw [hq]
      have HSa := hid (HSa.out.below hb)
      have HSb := hid (HSb.out.below hb)
      have HSo1 := hid (HSo1.out.below hb)
      have HSo2 := hid (HSo2.out.below hb)
      have HSo3 := hid (HSo3.out.below hb)
      have HI0 := hid (HI0.out.below hb)
      have HI1 := hid (HI1.out.below hb)
      have HXv := hid (HXv.out.below hb)
      have HB := hid (below_tr HB.out hb)
      clear hb hq
      go_wp2_with fail
      have hq : mayR o3 = true := Rw.mayR_val.2 HVo3.out
      refine (rowmay_any Ao3 co3 o3 w14 HSo3.out HFo3.out (by omega)).mono ?_
      rintro _ w15 ⟨rfl, hb⟩
      rw [hq]
      have HSa := hid (HSa.out.below hb)
      have HSb := hid (HSb.out.below hb)
      have HSo1 := hid (HSo1.out.below hb)
      have HSo2 := hid (HSo2.out.below hb)
      have HSo3 := hid (HSo3.out.below hb)
      have HI0 := hid (HI0.out.below hb)
      have HI1 := hid (HI1.out.below hb)
      have HXv := hid (HXv.out.below hb)
      have HB := hid (below_tr HB.out hb)
      clear hb hq
      go_wp2_with fail
      go_ret
      exact ⟨rfl, HB.out⟩
    · skip
      go_wp2_with fail
      refine (awake_any w8).mono ?_
      rintro _ w9 ⟨rfl, hb⟩
      have HSa := hid (HSa.out.below hb)
      have HSb := hid (HSb.out.below hb)
      have HSo1 := hid (HSo1.out.below hb)
      have HSo2 := hid (HSo2.out.below hb)
      have HSo3 := hid (HSo3.out.below hb)
      have HI0 := hid (HI0.out.below hb)
      have HI1 := hid (HI1.out.below hb)
      have HXv := hid (HXv.out.below hb)
      have HB := hid (below_tr HB.out hb)
      clear hb
      obtain ⟨t0, t1, t2, t3, t4⟩ := HXv.out.get5
      have hgx := HXv.out.1
      go_wp2_with fail
      have hq : hasR o1 v = true := q1.out.trans rfl
      refine (rowhas_any Ao1 co1 o1 v w9 HSo1.out HFo1.out (by omega) HOKv.out.2).mono ?_
      rintro _ w10 ⟨rfl, hb⟩
      rw [hq]
      have HSa := hid (HSa.out.below hb)
      have HSb := hid (HSb.out.below hb)
      have HSo1 := hid (HSo1.out.below hb)
      have HSo2 := hid (HSo2.out.below hb)
      have HSo3 := hid (HSo3.out.below hb)
      have HI0 := hid (HI0.out.below hb)
      have HI1 := hid (HI1.out.below hb)
      have HXv := hid (HXv.out.below hb)
      have HB := hid (below_tr HB.out hb)
      clear hb hq
      clear t0 t1 t2 t3 t4 hgx
      obtain ⟨t0, t1, t2, t3, t4⟩ := HXv.out.get5
      have hgx := HXv.out.1
      go_wp2_with fail
      have hq : hasR o2 v = false := q2.out.trans rfl
      refine (rowhas_any Ao2 co2 o2 v w10 HSo2.out HFo2.out (by omega) HOKv.out.2).mono ?_
      rintro _ w11 ⟨rfl, hb⟩
      rw [hq]
      have HSa := hid (HSa.out.below hb)
      have HSb := hid (HSb.out.below hb)
      have HSo1 := hid (HSo1.out.below hb)
      have HSo2 := hid (HSo2.out.below hb)
      have HSo3 := hid (HSo3.out.below hb)
      have HI0 := hid (HI0.out.below hb)
      have HI1 := hid (HI1.out.below hb)
      have HXv := hid (HXv.out.below hb)
      have HB := hid (below_tr HB.out hb)
      clear hb hq
      clear t0 t1 t2 t3 t4 hgx
      obtain ⟨t0, t1, t2, t3, t4⟩ := HXv.out.get5
      have hgx := HXv.out.1
      go_wp2_with fail
      have hq : hasR o3 v = true := q3.out.trans rfl
      refine (rowhas_any Ao3 co3 o3 v w11 HSo3.out HFo3.out (by omega) HOKv.out.2).mono ?_
      rintro _ w12 ⟨rfl, hb⟩
      rw [hq]
      have HSa := hid (HSa.out.below hb)
      have HSb := hid (HSb.out.below hb)
      have HSo1 := hid (HSo1.out.below hb)
      have HSo2 := hid (HSo2.out.below hb)
      have HSo3 := hid (HSo3.out.below hb)
      have HI0 := hid (HI0.out.below hb)
      have HI1 := hid (HI1.out.below hb)
      have HXv := hid (HXv.out.below hb)
      have HB := hid (below_tr HB.out hb)
      clear hb hq
      clear t0 t1 t2 t3 t4 hgx
      go_wp2_with fail
      have hq : mayR o1 = true := Rw.mayR_val.2 HVo1.out
      refine (rowmay_any Ao1 co1 o1 w12 HSo1.out HFo1.out (by omega)).mono ?_
      rintro _ w13 ⟨rfl, hb⟩
      rw [hq]
      have HSa := hid (HSa.out.below hb)
      have HSb := hid (HSb.out.below hb)
      have HSo1 := hid (HSo1.out.below hb)
      have HSo2 := hid (HSo2.out.below hb)
      have HSo3 := hid (HSo3.out.below hb)
      have HI0 := hid (HI0.out.below hb)
      have HI1 := hid (HI1.out.below hb)
      have HXv := hid (HXv.out.below hb)
      have HB := hid (below_tr HB.out hb)
      clear hb hq
      go_wp2_with fail
      have hq : mayR o2 = true := Rw.mayR_val.2 HVo2.out
      refine (rowmay_any Ao2 co2 o2 w13 HSo2.out HFo2.out (by omega)).mono ?_
      rintro _ w14 ⟨rfl, hb⟩
      rw [hq]
      have HSa := hid (HSa.out.below hb)
      have HSb := hid (HSb.out.below hb)
      have HSo1 := hid (HSo1.out.below hb)
      have HSo2 := hid (HSo2.out.below hb)
      have HSo3 := hid (HSo3.out.below hb)
      have HI0 := hid (HI0.out.below hb)
      have HI1 := hid (HI1.out.below hb)
      have HXv := hid (HXv.out.below hb)
      have HB := hid (below_tr HB.out hb)
      clear hb hq
      go_wp2_with fail
      have hq : mayR o3 = true := Rw.mayR_val.2 HVo3.out
      refine (rowmay_any Ao3 co3 o3 w14 HSo3.out HFo3.out (by omega)).mono ?_
      rintro _ w15 ⟨rfl, hb⟩
      rw [hq]
      have HSa := hid (HSa.out.below hb)
      have HSb := hid (HSb.out.below hb)
      have HSo1 := hid (HSo1.out.below hb)
      have HSo2 := hid (HSo2.out.below hb)
      have HSo3 := hid (HSo3.out.below hb)
      have HI0 := hid (HI0.out.below hb)
      have HI1 := hid (HI1.out.below hb)
      have HXv := hid (HXv.out.below hb)
      have HB := hid (below_tr HB.out hb)
      clear hb hq
      go_wp2_with fail
      go_ret
      exact ⟨rfl, HB.out⟩
  · cases xb
    · skip
      go_wp2_with fail
      refine (awake_any w8).mono ?_
      rintro _ w9 ⟨rfl, hb⟩
      have HSa := hid (HSa.out.below hb)
      have HSb := hid (HSb.out.below hb)
      have HSo1 := hid (HSo1.out.below hb)
      have HSo2 := hid (HSo2.out.below hb)
      have HSo3 := hid (HSo3.out.below hb)
      have HI0 := hid (HI0.out.below hb)
      have HI1 := hid (HI1.out.below hb)
      have HXv := hid (HXv.out.below hb)
      have HB := hid (below_tr HB.out hb)
      clear hb
      obtain ⟨t0, t1, t2, t3, t4⟩ := HXv.out.get5
      have hgx := HXv.out.1
      go_wp2_with fail
      have hq : hasR o1 v = true := q1.out.trans rfl
      refine (rowhas_any Ao1 co1 o1 v w9 HSo1.out HFo1.out (by omega) HOKv.out.2).mono ?_
      rintro _ w10 ⟨rfl, hb⟩
      rw [hq]
      have HSa := hid (HSa.out.below hb)
      have HSb := hid (HSb.out.below hb)
      have HSo1 := hid (HSo1.out.below hb)
      have HSo2 := hid (HSo2.out.below hb)
      have HSo3 := hid (HSo3.out.below hb)
      have HI0 := hid (HI0.out.below hb)
      have HI1 := hid (HI1.out.below hb)
      have HXv := hid (HXv.out.below hb)
      have HB := hid (below_tr HB.out hb)
      clear hb hq
      clear t0 t1 t2 t3 t4 hgx
      obtain ⟨t0, t1, t2, t3, t4⟩ := HXv.out.get5
      have hgx := HXv.out.1
      go_wp2_with fail
      have hq : hasR o2 v = false := q2.out.trans rfl
      refine (rowhas_any Ao2 co2 o2 v w10 HSo2.out HFo2.out (by omega) HOKv.out.2).mono ?_
      rintro _ w11 ⟨rfl, hb⟩
      rw [hq]
      have HSa := hid (HSa.out.below hb)
      have HSb := hid (HSb.out.below hb)
      have HSo1 := hid (HSo1.out.below hb)
      have HSo2 := hid (HSo2.out.below hb)
      have HSo3 := hid (HSo3.out.below hb)
      have HI0 := hid (HI0.out.below hb)
      have HI1 := hid (HI1.out.below hb)
      have HXv := hid (HXv.out.below hb)
      have HB := hid (below_tr HB.out hb)
      clear hb hq
      clear t0 t1 t2 t3 t4 hgx
      obtain ⟨t0, t1, t2, t3, t4⟩ := HXv.out.get5
      have hgx := HXv.out.1
      go_wp2_with fail
      have hq : hasR o3 v = false := q3.out.trans rfl
      refine (rowhas_any Ao3 co3 o3 v w11 HSo3.out HFo3.out (by omega) HOKv.out.2).mono ?_
      rintro _ w12 ⟨rfl, hb⟩
      rw [hq]
      have HSa := hid (HSa.out.below hb)
      have HSb := hid (HSb.out.below hb)
      have HSo1 := hid (HSo1.out.below hb)
      have HSo2 := hid (HSo2.out.below hb)
      have HSo3 := hid (HSo3.out.below hb)
      have HI0 := hid (HI0.out.below hb)
      have HI1 := hid (HI1.out.below hb)
      have HXv := hid (HXv.out.below hb)
      have HB := hid (below_tr HB.out hb)
      clear hb hq
      clear t0 t1 t2 t3 t4 hgx
      go_wp2_with fail
      have hq : mayR o1 = true := Rw.mayR_val.2 HVo1.out
      refine (rowmay_any Ao1 co1 o1 w12 HSo1.out HFo1.out (by omega)).mono ?_
      rintro _ w13 ⟨rfl, hb⟩
      rw [hq]
      have HSa := hid (HSa.out.below hb)
      have HSb := hid (HSb.out.below hb)
      have HSo1 := hid (HSo1.out.below hb)
      have HSo2 := hid (HSo2.out.below hb)
      have HSo3 := hid (HSo3.out.below hb)
      have HI0 := hid (HI0.out.below hb)
      have HI1 := hid (HI1.out.below hb)
      have HXv := hid (HXv.out.below hb)
      have HB := hid (below_tr HB.out hb)
      clear hb hq
      go_wp2_with fail
      have hq : mayR o2 = true := Rw.mayR_val.2 HVo2.out
      refine (rowmay_any Ao2 co2 o2 w13 HSo2.out HFo2.out (by omega)).mono ?_
      rintro _ w14 ⟨rfl, hb⟩
      rw [hq]
      have HSa := hid (HSa.out.below hb)
      have HSb := hid (HSb.out.below hb)
      have HSo1 := hid (HSo1.out.below hb)
      have HSo2 := hid (HSo2.out.below hb)
      have HSo3 := hid (HSo3.out.below hb)
      have HI0 := hid (HI0.out.below hb)
      have HI1 := hid (HI1.out.below hb)
      have HXv := hid (HXv.out.below hb)
      have HB := hid (below_tr HB.out hb)
      clear hb hq
      go_wp2_with fail
      have hq : mayR o3 = true := Rw.mayR_val.2 HVo3.out
      refine (rowmay_any Ao3 co3 o3 w14 HSo3.out HFo3.out (by omega)).mono ?_
      rintro _ w15 ⟨rfl, hb⟩
      rw [hq]
      have HSa := hid (HSa.out.below hb)
      have HSb := hid (HSb.out.below hb)
      have HSo1 := hid (HSo1.out.below hb)
      have HSo2 := hid (HSo2.out.below hb)
      have HSo3 := hid (HSo3.out.below hb)
      have HI0 := hid (HI0.out.below hb)
      have HI1 := hid (HI1.out.below hb)
      have HXv := hid (HXv.out.below hb)
      have HB := hid (below_tr HB.out hb)
      clear hb hq
      go_wp2_with fail
      go_ret
      exact ⟨rfl, HB.out⟩
    · skip
      go_wp2_with fail
      refine (awake_any w8).mono ?_
      rintro _ w9 ⟨rfl, hb⟩
      have HSa := hid (HSa.out.below hb)
      have HSb := hid (HSb.out.below hb)
      have HSo1 := hid (HSo1.out.below hb)
      have HSo2 := hid (HSo2.out.below hb)
      have HSo3 := hid (HSo3.out.below hb)
      have HI0 := hid (HI0.out.below hb)
      have HI1 := hid (HI1.out.below hb)
      have HXv := hid (HXv.out.below hb)
      have HB := hid (below_tr HB.out hb)
      clear hb
      obtain ⟨t0, t1, t2, t3, t4⟩ := HXv.out.get5
      have hgx := HXv.out.1
      go_wp2_with fail
      have hq : hasR o1 v = true := q1.out.trans rfl
      refine (rowhas_any Ao1 co1 o1 v w9 HSo1.out HFo1.out (by omega) HOKv.out.2).mono ?_
      rintro _ w10 ⟨rfl, hb⟩
      rw [hq]
      have HSa := hid (HSa.out.below hb)
      have HSb := hid (HSb.out.below hb)
      have HSo1 := hid (HSo1.out.below hb)
      have HSo2 := hid (HSo2.out.below hb)
      have HSo3 := hid (HSo3.out.below hb)
      have HI0 := hid (HI0.out.below hb)
      have HI1 := hid (HI1.out.below hb)
      have HXv := hid (HXv.out.below hb)
      have HB := hid (below_tr HB.out hb)
      clear hb hq
      clear t0 t1 t2 t3 t4 hgx
      obtain ⟨t0, t1, t2, t3, t4⟩ := HXv.out.get5
      have hgx := HXv.out.1
      go_wp2_with fail
      have hq : hasR o2 v = true := q2.out.trans rfl
      refine (rowhas_any Ao2 co2 o2 v w10 HSo2.out HFo2.out (by omega) HOKv.out.2).mono ?_
      rintro _ w11 ⟨rfl, hb⟩
      rw [hq]
      have HSa := hid (HSa.out.below hb)
      have HSb := hid (HSb.out.below hb)
      have HSo1 := hid (HSo1.out.below hb)
      have HSo2 := hid (HSo2.out.below hb)
      have HSo3 := hid (HSo3.out.below hb)
      have HI0 := hid (HI0.out.below hb)
      have HI1 := hid (HI1.out.below hb)
      have HXv := hid (HXv.out.below hb)
      have HB := hid (below_tr HB.out hb)
      clear hb hq
      clear t0 t1 t2 t3 t4 hgx
      obtain ⟨t0, t1, t2, t3, t4⟩ := HXv.out.get5
      have hgx := HXv.out.1
      go_wp2_with fail
      have hq : hasR o3 v = false := q3.out.trans rfl
      refine (rowhas_any Ao3 co3 o3 v w11 HSo3.out HFo3.out (by omega) HOKv.out.2).mono ?_
      rintro _ w12 ⟨rfl, hb⟩
      rw [hq]
      have HSa := hid (HSa.out.below hb)
      have HSb := hid (HSb.out.below hb)
      have HSo1 := hid (HSo1.out.below hb)
      have HSo2 := hid (HSo2.out.below hb)
      have HSo3 := hid (HSo3.out.below hb)
      have HI0 := hid (HI0.out.below hb)
      have HI1 := hid (HI1.out.below hb)
      have HXv := hid (HXv.out.below hb)
      have HB := hid (below_tr HB.out hb)
      clear hb hq
      clear t0 t1 t2 t3 t4 hgx
      go_wp2_with fail
      have hq : mayR o1 = true := Rw.mayR_val.2 HVo1.out
      refine (rowmay_any Ao1 co1 o1 w12 HSo1.out HFo1.out (by omega)).mono ?_
      rintro _ w13 ⟨rfl, hb⟩
      rw [hq]
      have HSa := hid (HSa.out.below hb)
      have HSb := hid (HSb.out.below hb)
      have HSo1 := hid (HSo1.out.below hb)
      have HSo2 := hid (HSo2.out.below hb)
      have HSo3 := hid (HSo3.out.below hb)
      have HI0 := hid (HI0.out.below hb)
      have HI1 := hid (HI1.out.below hb)
      have HXv := hid (HXv.out.below hb)
      have HB := hid (below_tr HB.out hb)
      clear hb hq
      go_wp2_with fail
      have hq : mayR o2 = true := Rw.mayR_val.2 HVo2.out
      refine (rowmay_any Ao2 co2 o2 w13 HSo2.out HFo2.out (by omega)).mono ?_
      rintro _ w14 ⟨rfl, hb⟩
      rw [hq]
      have HSa := hid (HSa.out.below hb)
      have HSb := hid (HSb.out.below hb)
      have HSo1 := hid (HSo1.out.below hb)
      have HSo2 := hid (HSo2.out.below hb)
      have HSo3 := hid (HSo3.out.below hb)
      have HI0 := hid (HI0.out.below hb)
      have HI1 := hid (HI1.out.below hb)
      have HXv := hid (HXv.out.below hb)
      have HB := hid (below_tr HB.out hb)
      clear hb hq
      go_wp2_with fail
      have hq : mayR o3 = true := Rw.mayR_val.2 HVo3.out
      refine (rowmay_any Ao3 co3 o3 w14 HSo3.out HFo3.out (by omega)).mono ?_
      rintro _ w15 ⟨rfl, hb⟩
      rw [hq]
      have HSa := hid (HSa.out.below hb)
      have HSb := hid (HSb.out.below hb)
      have HSo1 := hid (HSo1.out.below hb)
      have HSo2 := hid (HSo2.out.below hb)
      have HSo3 := hid (HSo3.out.below hb)
      have HI0 := hid (HI0.out.below hb)
      have HI1 := hid (HI1.out.below hb)
      have HXv := hid (HXv.out.below hb)
      have HB := hid (below_tr HB.out hb)
      clear hb hq
      go_wp2_with fail
      go_ret
      exact ⟨rfl, HB.out⟩
end Go.Proofs.Ytodicnjoimoiiaa
