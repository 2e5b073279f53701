/- Sets as texts: the walk of linchpinlaw8.TellUnlike. -/
import Derived.Test.YtmnjnoggchgnjaaGreatDoorTk
import Derived.Test.YtmnjnoggchgnjaaGreatDoorSetS
import Derived.Test.YtmnjnoggchgnjaaGreatDoorSe
namespace Go.Proofs.YtmnjnoggchgnjaaGreatDoor
open Go.RowKit Go.Lib
open Rw
set_option linter.unusedVariables false
set_option linter.unusedSimpArgs false

theorem tset_print {n : Nat} {w : World} {A B : Option Addr} {l m : List SpanL} (c d : Nat) (hL : Laid w) (h : SetAt n w A l B m) (hn : n ≤ 5000) : Calls Tryz.prog 46 #[setV A l.length c B m.length d] w (StrPost w (setT l m)) :=
  tprint_set A B c d l m w hL h.rel h.pre h.frel h.fpre (by have := h.nrel; omega) (by have := h.npre; omega)
theorem unlike_eq {l m p q : List SpanL} (h : ValS l m) (k : ValS p q) {s t : ByteArray} (hs : bts s = setT l m) (ht : bts t = setT p q) : (s.toList == t.toList) = sameS l m p q := by
  have e : (s.toList == t.toList) = true ↔ sameS l m p q = true := by
    rw [sameS_iff, beq_iff_eq, show s.toList = setT l m from hs, show t.toList = setT p q from ht]
    exact ⟨fun e => setT_inj h k e, fun ⟨e1, e2⟩ => by rw [e1, e2]⟩
  exact Bool.eq_iff_iff.2 e
set_option maxRecDepth 100000 in
set_option maxHeartbeats 4000000 in
theorem walk_TellUnlike (A0 : Option Addr) (c0 : Nat) (z0 : List Int) (A1 : Option Addr) (c1 : Nat) (z1 : List Int) (w : World) (h0 : IntsAt w A0 z0) (l0 : z0.length ≤ 9223372036854775807) (h1 : IntsAt w A1 z1) (l1 : z1.length ≤ 9223372036854775807) (hL : Laid w) :
    Calls Tryz.prog 12 #[.slice A0 z0.length c0, .slice A1 z1.length c1] w (BoolPost w true) := by
  have HI1 := hid h1
  have HI0 := hid h0
  have HLN0 := hid l0
  have HLN1 := hid l1
  have HL := hid hL
  clear hL h0 h1 l0 l1
  go_enter Tryz.func12, Tryz.ntmps12
  go_wp2_with fail
  refine (lawset_any A0 c0 z0 0 w HI0.out (by omega) (by omega) HLN0.out).mono ?_
  rintro _ w1 ⟨al, am, Aa, ca, Ba, da, rfl, Sa, -, -, hb⟩
  have HI1 := hid (HI1.out.below hb)
  have HB := hid hb
  have HSa := hid Sa
  have HVa := hid Sa.val
  clear Sa hb
  generalize hna : al.length = na at *
  generalize hma : am.length = ma at *
  have LLa := hid hna
  have LMa := hid hma
  clear hna hma
  go_wp2_with fail
  refine (lawset_any A1 c1 z1 0 w1 HI1.out (by omega) (by omega) HLN1.out).mono ?_
  rintro _ w2 ⟨bl, bm, Ab, cb, Bb, db, rfl, Sb, -, -, hb⟩
  have HB := hid (below_tr HB.out hb)
  have HSa := hid (HSa.out.below hb)
  have HSb := hid Sb
  have HVb := hid Sb.val
  clear Sb hb
  generalize hnb : bl.length = nb at *
  generalize hmb : bm.length = mb at *
  have LLb := hid hnb
  have LMb := hid hmb
  clear hnb hmb
  go_wp2_with fail
  refine wp_name ?_
  intro w3 hwn
  obtain ⟨hx0, hx1, hb0⟩ := box_2 (cs := [Value.slice Aa na ca, .slice Ba ma da]) (ds := [Value.slice Ab nb cb, .slice Bb mb db]) (w := w2) (w1 := w3) (s := 25) (t := 25) (by rw [hwn]; exact Below.refl _ _)
  have hb : Below w2.heap.size w2 w3 := hb0
  have HB := hid (below_tr HB.out hb)
  have HSa := hid (HSa.out.below hb)
  have HSb := hid (HSb.out.below hb)
  have HXa := hid hx0
  have HXb := hid hx1
  have HL := hid (HL.out.below HB.out)
  clear hwn hb hx0 hx1 hb0
  go_wp2_with fail
  have HAW := hid (fun wx (h : Below w3.heap.size w3 wx) => tawake_any wx (HL.out.below h))
  have HPA := hid (fun wx (h : Below w3.heap.size w3 wx) => tset_print ca da (HL.out.below h) (HSa.out.below h) (by decide))
  have HPB := hid (fun wx (h : Below w3.heap.size w3 wx) => tset_print cb db (HL.out.below h) (HSb.out.below h) (by decide))
  have HSM := hid (fun wx (h : Below w3.heap.size w3 wx) => law_sameR ca da cb db (HSa.out.below h) (HSb.out.below h) (by decide))
  simp only [LLa.out, LMa.out] at HPA
  simp only [LLb.out, LMb.out] at HPB
  simp only [LLa.out, LMa.out, LLb.out, LMb.out] at HSM
  refine wp_plan (.call [] 0 (.call [1, 2, 4, 7, 8] 3 (.call [] 5 (.call [6] 9 (.last [10, 11, 12]))))) (by kernel_rfl) (by intro _ _ d _ _ h; cases d <;> exact h) (by kernel_rfl) ?_
  refine plan_call ?_
  simp only [pickOps, List.map_cons, List.map_nil, List.getElem?_toArray, List.getElem?_cons_zero, List.getElem?_cons_succ, Option.getD_some]
  repeat go_big_quiet_step (fail)
  refine wpQuiet_nil ?_
  go_wp2_with fail
  refine (HAW.out _ (Below.refl _ _).drew).mono ?_
  rintro _ u0 ⟨rfl, k0⟩
  have h0 : Below w3.heap.size w3 u0 := below_tr (Below.refl _ _).drew k0
  go_wp2_with fail
  refine plan_on (h0) ?_
  have qa0 := fun (z : BW u0) => (HXa.out.below (below_tr h0 z.ok)).get2.1
  have qa1 := fun (z : BW u0) => (HXa.out.below (below_tr h0 z.ok)).get2.2
  have qb0 := fun (z : BW u0) => (HXb.out.below (below_tr h0 z.ok)).get2.1
  have qb1 := fun (z : BW u0) => (HXb.out.below (below_tr h0 z.ok)).get2.2
  refine plan_call ?_
  simp only [pickOps, List.map_cons, List.map_nil, List.getElem?_toArray, List.getElem?_cons_zero, List.getElem?_cons_succ, Option.getD_some]
  repeat go_big_quiet_step (fail)
  refine wpQuiet_nil ?_
  go_wp2_with fail
  refine (HPA.out _ h0).mono ?_
  rintro _ u1 ⟨tx, rfl, htx, k1⟩
  have HTX := hid htx
  have h1 : Below w3.heap.size w3 u1 := below_tr h0 k1
  clear qa0 qa1 qb0 qb1 htx
  go_wp2_with fail
  refine plan_on (k1) ?_
  refine plan_call ?_
  simp only [pickOps, List.map_cons, List.map_nil, List.getElem?_toArray, List.getElem?_cons_zero, List.getElem?_cons_succ, Option.getD_some]
  repeat go_big_quiet_step (fail)
  refine wpQuiet_nil ?_
  go_wp2_with fail
  refine (HPB.out _ h1).mono ?_
  rintro _ u2 ⟨ty, rfl, hty, k2⟩
  have h2 : Below w3.heap.size w3 u2 := below_tr h1 k2
  have HE := unlike_eq HVa.out HVb.out HTX.out hty
  clear hty
  go_wp2_with fail
  refine plan_on (k2) ?_
  refine plan_call ?_
  simp only [pickOps, List.map_cons, List.map_nil, List.getElem?_toArray, List.getElem?_cons_zero, List.getElem?_cons_succ, Option.getD_some]
  repeat go_big_quiet_step (fail)
  refine wpQuiet_nil ?_
  go_wp2_with fail
  refine (HSM.out _ h2).mono ?_
  rintro _ u3 ⟨rfl, k3⟩
  have h3 : Below w3.heap.size w3 u3 := below_tr h2 k3
  go_wp2_with fail
  refine plan_on (k3) ?_
  refine plan_last ?_
  simp only [pickOps, List.map_cons, List.map_nil, List.getElem?_toArray, List.getElem?_cons_zero, List.getElem?_cons_succ, Option.getD_some]
  repeat go_big_quiet_step (fail)
  refine wpQuiet_nil ?_
  go_wp2_with fail
  go_ret
  refine ⟨?_, below_tr HB.out h3⟩
  simp [HE]
end Go.Proofs.YtmnjnoggchgnjaaGreatDoor
