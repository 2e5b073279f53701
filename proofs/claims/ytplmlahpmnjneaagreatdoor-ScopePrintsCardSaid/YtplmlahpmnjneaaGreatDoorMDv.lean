/- The walk of linchpinlaw7.ScopePrints. -/
import Derived.Test.YtplmlahpmnjneaaGreatDoorMFrameR
import Derived.Test.YtplmlahpmnjneaaGreatDoorMDk
namespace Go.Proofs.YtplmlahpmnjneaaGreatDoor
open Go.RowKit Go.Lib
open Rw
set_option linter.unusedVariables false
set_option linter.unusedSimpArgs false

set_option maxRecDepth 100000 in
set_option maxHeartbeats 4000000 in
theorem walk_ScopePrints (A0 : Option Addr) (c0 : Nat) (r : List (List CompL)) (w : World) (h0 : Alts w A0 r) (l0 : r.length ≤ 9223372036854775807) (m0 : ∀ a ∈ r, a.length ≤ 9223372036854775807) (hL : Laid w) : Calls Tryz.prog 6 #[rangeV A0 r.length c0] w (BoolK w true) := by
  have HL := hid hL
  have HA := hid h0
  have HFW := hid (fun u (hb : KB w.heap.size w u) => few7_any A0 c0 r u (HA.out.kb hb) l0 m0)
  have HMY := hid (fun (hf : FewB r) u (hb : KB w.heap.size w u) => may7_any A0 c0 r u (HL.out.kb hb) (HA.out.kb hb) hf.fit (by have := hf.len; omega) (fun a ha => by have := (hf.each a ha).1; omega))
  have HRM := hid (fun (hf : FewB r) u (hb : KB w.heap.size w u) => rmay7_any A0 c0 r u (HA.out.kb hb) hf.fit (by have := hf.len; omega) (fun a ha => by have := (hf.each a ha).1; omega))
  have HPR := hid (fun (hf : FewB r) u (hb : KB w.heap.size w u) => print7_any A0 c0 r u (HL.out.kb hb) (HA.out.kb hb) hf.fit (by have := hf.len; omega) (fun a ha => by have := (hf.each a ha).1; omega))
  have HRP := hid (fun (hf : FewB r) u (hb : KB w.heap.size w u) => rprint7_any A0 c0 r u (HA.out.kb hb) hf.fit (by have := hf.len; omega) (fun a ha => by have := (hf.each a ha).1; omega))
  have HST := hid (fun (hf : FewB r) u (hb : KB w.heap.size w u) => set7_any A0 c0 r u (HL.out.kb hb) (HA.out.kb hb) hf.fit (by have := hf.len; omega) (fun a ha => by have := (hf.each a ha).1; omega))
  have HRS := hid (fun (hf : FewB r) u (hb : KB w.heap.size w u) => rset7_any A0 c0 r u (HL.out.kb hb).first (HA.out.kb hb) hf.fit (by have := hf.len; omega) (fun a ha => by have := (hf.each a ha).1; omega))
  have HSG := hid (fun (hf : FewB r) => setG_good hf.fit)
  clear h0 hL l0 m0
  generalize hmb : mayG r = mb at *
  clear hmb
  generalize printG r = pb at *
  generalize setG r = s at *
  obtain ⟨s1, s2⟩ := s
  try dsimp only at HST HRS HSG
  generalize hn1 : s1.length = n1 at *
  generalize hm1 : s2.length = m1 at *
  have HN1 := hid hn1
  have HM1 := hid hm1
  clear hn1 hm1
  have HSM := hid (fun u A6 c6 B6 d6 A7 c7 B7 d7 (h6 : SetAt 250 u A6 s1 B6 s2) (h7 : SetAt 250 u A7 s1 B7 s2) => law_sameR c6 d6 c7 d7 h6 h7 (by omega))
  rw [sameS_self, HN1.out, HM1.out] at HSM
  generalize r.length = n at *
  go_enter Tryz.func6, Tryz.ntmps6
  go_upto_region 1 with fail
  refine wp_name ?_
  intro u1 hu
  have HX := hid (show Box u1 w.heap.size [.slice A0 n c0] by rw [hu]; exact Box.new w [.slice A0 n c0] 35)
  have HB := hid (show KB w.heap.size w u1 by rw [hu]; exact kb_new _ _)
  clear hu
  have x0 := HX.out.2 0 _ rfl
  have xl := HX.out.1
  go_wp2_with fail
  refine (HFW.out u1 HB.out).mono ?_
  rintro _ w2 ⟨b, rfl, hf, hb⟩
  have HX := hid (HX.out.below hb)
  have HB := hid (kb_tr HB.out hb.kb)
  clear hb x0 xl HFW
  cases b
  · clear hf
    go_wp2_with fail
    refine (awake7_any w2 (HL.out.kb HB.out)).mono ?_
    rintro _ w3 ⟨rfl, hb⟩
    have HB := hid (kb_tr HB.out hb)
    clear hb
    go_wp2_with fail
    go_ret
    exact ⟨rfl, HB.out⟩
  · have HFB := hid (hf rfl)
    have HMY := hid (HMY.out HFB.out)
    have HRM := hid (HRM.out HFB.out)
    have HPR := hid (HPR.out HFB.out)
    have HRP := hid (HRP.out HFB.out)
    have HST := hid (HST.out HFB.out)
    have HRS := hid (HRS.out HFB.out)
    have HSG := hid (HSG.out HFB.out)
    clear hf HFB
    have HLW := hid (HL.out.kb HB.out)
    go_upto_region 3 with fail
    have hS : KB w2.heap.size w2 w2.drew := (Below.drew (Below.refl _ _)).kb
    refine wp_planS (fun u => KB w2.heap.size w2 u) (.call [] 0 (.call [1, 2, 4] 3 (.call [] 5 (.call [6, 7, 8, 9, 11] 10 (.call [] 12 (.call [13, 14, 15, 16, 18] 17 (.call [] 19 (.call [] 20 (.last [21, 22]))))))))) (by first | assumption | skip) (by kernel_rfl) (by intro _ _ d _ _ h; cases d <;> exact h) (by kernel_rfl) ?_
    have iS : Nonempty (SW fun u => KB w2.heap.size w2 u) := ⟨⟨_, hS⟩⟩
    have q0 := fun (z : SW fun u => KB w2.heap.size w2 u) => (HX.out.kb z.ok).2 0 _ rfl
    with_reducible refine plan_call ?_
    simp only [pickOps, List.map_cons, List.map_nil, List.getElem?_toArray, List.getElem?_cons_zero, List.getElem?_cons_succ, Option.getD_some]
    repeat go_big_quiet_step (fail)
    refine wpQuiet_nil ?_
    go_wp2_with fail
    refine (awake7_any w2.drew (HLW.out.kb hS)).mono ?_
    rintro _ u6 ⟨rfl, hb⟩
    have HB6 := hid (kb_tr hS hb)
    clear hb
    go_wp2_with fail
    refine plan_onS (HB6.out) ?_
    with_reducible refine plan_call ?_
    simp only [pickOps, List.map_cons, List.map_nil, List.getElem?_toArray, List.getElem?_cons_zero, List.getElem?_cons_succ, Option.getD_some]
    repeat go_big_quiet_step (fail)
    refine wpQuiet_nil ?_
    go_wp2_with fail
    refine (HMY.out u6 (kb_tr HB.out HB6.out)).mono ?_
    rintro _ u7 ⟨rfl, hb⟩
    have HB7 := hid (kb_tr HB6.out hb)
    clear hb
    go_wp2_with fail
    refine plan_onS (HB7.out) ?_
    with_reducible refine plan_call ?_
    simp only [pickOps, List.map_cons, List.map_nil, List.getElem?_toArray, List.getElem?_cons_zero, List.getElem?_cons_succ, Option.getD_some]
    repeat go_big_quiet_step (fail)
    refine wpQuiet_nil ?_
    go_wp2_with fail
    refine (HRM.out u7 (kb_tr HB.out HB7.out)).mono ?_
    rintro _ u8 ⟨rfl, hb⟩
    have HB8 := hid (kb_tr HB7.out hb.kb)
    clear hb
    go_wp2_with fail
    refine plan_onS (HB8.out) ?_
    with_reducible refine plan_call ?_
    simp only [pickOps, List.map_cons, List.map_nil, List.getElem?_toArray, List.getElem?_cons_zero, List.getElem?_cons_succ, Option.getD_some]
    repeat go_big_quiet_step (fail)
    refine wpQuiet_nil ?_
    go_wp2_with fail
    refine (HPR.out u8 (kb_tr HB.out HB8.out)).mono ?_
    rintro _ u9 ⟨t, rfl, ht, hb⟩
    have HT := hid ht
    have HB9 := hid (kb_tr HB8.out hb)
    clear hb ht
    go_wp2_with fail
    refine plan_onS (HB9.out) ?_
    with_reducible refine plan_call ?_
    simp only [pickOps, List.map_cons, List.map_nil, List.getElem?_toArray, List.getElem?_cons_zero, List.getElem?_cons_succ, Option.getD_some]
    repeat go_big_quiet_step (fail)
    refine wpQuiet_nil ?_
    go_wp2_with fail
    refine (HRP.out u9 (kb_tr HB.out HB9.out)).mono ?_
    rintro _ u10 ⟨t2, rfl, ht, hb⟩
    obtain rfl : t2 = t := bts_inj (ht.trans HT.out.symm)
    have HB10 := hid (kb_tr HB9.out hb.kb)
    clear hb ht
    go_wp2_with fail
    refine plan_onS (HB10.out) ?_
    with_reducible refine plan_call ?_
    simp only [pickOps, List.map_cons, List.map_nil, List.getElem?_toArray, List.getElem?_cons_zero, List.getElem?_cons_succ, Option.getD_some]
    repeat go_big_quiet_step (fail)
    refine wpQuiet_nil ?_
    go_wp2_with fail
    refine (HST.out u10 (kb_tr HB.out HB10.out)).mono ?_
    rintro _ u11 ⟨A6, c6, B6, d6, he, hs1, hs2, hb⟩
    try dsimp only at he hs1 hs2
    try rw [HN1.out, HM1.out] at he
    subst he
    have HB11 := hid (kb_tr HB10.out hb)
    have HS8 := hid (HSG.out.at_ hs1.1 hs2.1)
    clear hs1 hs2 hb
    go_wp2_with fail
    refine plan_onS (HB11.out) ?_
    with_reducible refine plan_call ?_
    simp only [pickOps, List.map_cons, List.map_nil, List.getElem?_toArray, List.getElem?_cons_zero, List.getElem?_cons_succ, Option.getD_some]
    repeat go_big_quiet_step (fail)
    refine wpQuiet_nil ?_
    go_wp2_with fail
    refine (HRS.out u11 (kb_tr HB.out HB11.out)).mono ?_
    rintro _ u12 ⟨A7, c7, B7, d7, he, hs1, hs2, hb⟩
    try dsimp only at he hs1 hs2
    try rw [HN1.out, HM1.out] at he
    subst he
    have HB12 := hid (kb_tr HB11.out hb.kb)
    have HS8 := hid (HS8.out.kb hb.kb)
    have HS9 := hid (HSG.out.at_ hs1.1 hs2.1)
    clear hs1 hs2 hb
    go_wp2_with fail
    refine plan_onS (HB12.out) ?_
    with_reducible refine plan_call ?_
    simp only [pickOps, List.map_cons, List.map_nil, List.getElem?_toArray, List.getElem?_cons_zero, List.getElem?_cons_succ, Option.getD_some]
    repeat go_big_quiet_step (fail)
    refine wpQuiet_nil ?_
    go_wp2_with fail
    refine (HSM.out u12 A6 c6 B6 d6 A7 c7 B7 d7 HS8.out HS9.out).mono ?_
    rintro _ u13 ⟨rfl, hb⟩
    have HB13 := hid (kb_tr HB12.out hb.kb)
    clear hb
    go_wp2_with fail
    refine plan_onS (HB13.out) ?_
    with_reducible refine plan_last ?_
    simp only [pickOps, List.map_cons, List.map_nil, List.getElem?_toArray, List.getElem?_cons_zero, List.getElem?_cons_succ, Option.getD_some]
    repeat go_big_quiet_step (fail)
    refine wpQuiet_nil ?_
    clear q0
    go_wp2_with fail
    go_ret
    exact ⟨rfl, kb_tr HB.out HB13.out⟩
end Go.Proofs.YtplmlahpmnjneaaGreatDoor
