/- Sets as texts: the walk of linchpinlaw8.TellParts. -/
import Derived.Test.YtmnjnoggchgnjaaGreatDoorTu
namespace Go.Proofs.YtmnjnoggchgnjaaGreatDoor
open Go.RowKit Go.Lib
open Rw
set_option linter.unusedVariables false
set_option linter.unusedSimpArgs false

theorem rowP_nil : (rowP []).isSome = false := by decide +kernel
theorem rowT_pos {l m : List SpanL} (h : ValS l m) : 0 < (rowT m).length := by
  rcases hm : rowT m with _ | ⟨b, r⟩
  · have := rowP_back h.spans.2
    rw [hm] at this
    have k := rowP_nil
    rw [this] at k
    cases k
  · simp
theorem ValS.relOnly {l m : List SpanL} (h : ValS l m) : ValS l [] := ⟨h.rel, h.right, ValS.nil.pre⟩
theorem ValS.preOnly {l m : List SpanL} (h : ValS l m) : ValS [] m := ⟨ValS.nil.rel, ValS.nil.right, h.pre⟩
theorem setT_ok {l m : List SpanL} (h : ValS l m) : setT l m = rowT l ++ (if m.isEmpty then [] else slB ++ rowT m) := by rw [setT, h.ok]; rfl
theorem SetAt.relOnly {n : Nat} {w : World} {A B : Option Addr} {l m : List SpanL} (h : SetAt n w A l B m) : SetAt n w A l Option.none [] := ⟨h.rel, .inl rfl, h.frel, fit_nil, h.nrel, by simp, h.val.relOnly⟩
theorem SetAt.preOnly {n : Nat} {w : World} {A B : Option Addr} {l m : List SpanL} (h : SetAt n w A l B m) : SetAt n w Option.none [] B m := ⟨.inl rfl, h.pre, fit_nil, h.fpre, by simp, h.npre, h.val.preOnly⟩
/-- what the law asks of the three texts -/
theorem parts_none {l : List SpanL} {t a : ByteArray} (ht : bts t = setT l []) (ha : bts a = setT l []) : (t.toList == a.toList) = true := by
  rw [show t.toList = setT l [] from ht, show a.toList = setT l [] from ha]; exact beq_self_eq_true _
theorem parts_some {l m : List SpanL} (h : ValS l m) (hm : m ≠ []) {t a b : ByteArray} (ht : bts t = setT l m) (ha : bts a = setT l []) (hb : bts b = setT [] m) :
    4 < b.size ∧ ((b.extract 0 4).toList == [45, 32, 47, 32]) = true ∧ (t.toList == (a ++ b.extract 1 b.size).toList) = true := by
  have hp := rowT_pos h
  have he : m.isEmpty = false := by cases m <;> simp_all
  rw [setT_ok h, he] at ht
  rw [setT_ok h.relOnly] at ha
  rw [setT_ok h.preOnly, he] at hb
  have hb2 : bts b = 45 :: 32 :: 47 :: 32 :: rowT m := hb
  refine ⟨?_, ?_, ?_⟩
  · rw [← bts_len, hb2]; simp only [List.length_cons]; omega
  · have e : (b.extract 0 4).toList = [45, 32, 47, 32] := by
      show bts (b.extract 0 4) = _
      rw [bts_extract, hb2]; rfl
    rw [e]; rfl
  · have e : (a ++ b.extract 1 b.size).toList = t.toList := by
      show bts (a ++ b.extract 1 b.size) = bts t
      rw [bts_append, bts_tail, hb2, ha, ht]
      simp [slB]
    rw [e]; exact beq_self_eq_true _
set_option maxRecDepth 100000 in
set_option maxHeartbeats 4000000 in
theorem walk_TellParts (A0 : Option Addr) (c0 : Nat) (z0 : List Int) (w : World) (h0 : IntsAt w A0 z0) (l0 : z0.length ≤ 9223372036854775807) (hL : Laid w) :
    Calls Tryz.prog 13 #[.slice A0 z0.length c0] w (BoolPost w true) := by
  have HI0 := hid h0
  have HLN0 := hid l0
  have HL := hid hL
  clear hL h0 l0
  go_enter Tryz.func13, Tryz.ntmps13
  go_wp2_with fail
  refine (lawset_any A0 c0 z0 0 w HI0.out (by omega) (by omega) HLN0.out).mono ?_
  rintro _ w1 ⟨al, am, Aa, ca, Ba, da, rfl, Sa, -, -, hb⟩
  have HB := hid hb
  have HSa := hid Sa
  have HVa := hid Sa.val
  clear Sa hb
  generalize hna : al.length = na at *
  generalize hma : am.length = ma at *
  have LLa := hid hna
  have LMa := hid hma
  clear hna hma
  go_wp2_with fail
  refine wp_name ?_
  intro w3 hwn
  have hb : Below w1.heap.size w1 w3 := by rw [hwn]; exact below_new _ _
  have HXa : Hid (Box w3 w1.heap.size [.slice Aa na ca, .slice Ba ma da]) := hid (by rw [hwn]; exact Box.new w1 [.slice Aa na ca, .slice Ba ma da] _)
  have HB := hid (below_tr HB.out hb)
  have HSa := hid (HSa.out.below hb)
  have HL := hid (HL.out.below HB.out)
  clear hwn hb
  have HAW := hid (fun wx (h : Below w3.heap.size w3 wx) => tawake_any wx (HL.out.below h))
  have HPA := hid (fun wx (h : Below w3.heap.size w3 wx) => tset_print ca 0 (HL.out.below h) ((HSa.out.below h).relOnly) (by decide))
  have HPB := hid (fun wx (h : Below w3.heap.size w3 wx) => tset_print 0 da (HL.out.below h) ((HSa.out.below h).preOnly) (by decide))
  have HPS := hid (fun wx (h : Below w3.heap.size w3 wx) => tset_print ca da (HL.out.below h) (HSa.out.below h) (by decide))
  simp only [LLa.out, LMa.out, List.length_nil] at HPA HPB HPS
  refine wp_plan (.call [0, 1, 2, 4, 5, 6] 3 (.call [] 7 (.last [8, 9]))) (by kernel_rfl) (by intro _ _ d _ _ h; cases d <;> exact h) (by kernel_rfl) ?_
  have qa0 := fun (z : BW w3) => (HXa.out.below z.ok).get2.1
  have qa1 := fun (z : BW w3) => (HXa.out.below z.ok).get2.2
  refine plan_call ?_
  simp only [pickOps, List.map_cons, List.map_nil, List.getElem?_toArray, List.getElem?_cons_zero, List.getElem?_cons_succ, Option.getD_some]
  repeat go_big_quiet_step (fail)
  refine wpQuiet_nil ?_
  go_wp2_with fail
  refine (HPA.out _ (Below.refl _ _).drew).mono ?_
  rintro _ u1 ⟨ta, rfl, hta, k1⟩
  have HTA := hid hta
  have h1 : Below w3.heap.size w3 u1 := below_tr (Below.refl _ _).drew k1
  clear hta qa0 qa1
  go_wp2_with fail
  refine plan_on (h1) ?_
  refine plan_call ?_
  simp only [pickOps, List.map_cons, List.map_nil, List.getElem?_toArray, List.getElem?_cons_zero, List.getElem?_cons_succ, Option.getD_some]
  repeat go_big_quiet_step (fail)
  refine wpQuiet_nil ?_
  go_wp2_with fail
  refine (HPB.out _ h1).mono ?_
  rintro _ u2 ⟨tb, rfl, htb, k2⟩
  have HTB := hid htb
  have h2 : Below w3.heap.size w3 u2 := below_tr h1 k2
  clear htb
  go_wp2_with fail
  refine plan_on (k2) ?_
  refine plan_last ?_
  simp only [pickOps, List.map_cons, List.map_nil, List.getElem?_toArray, List.getElem?_cons_zero, List.getElem?_cons_succ, Option.getD_some]
  repeat go_big_quiet_step (fail)
  refine wpQuiet_nil ?_
  obtain ⟨y0, y1⟩ := (HXa.out.below h2).get2
  go_wp2_with fail
  refine (HPS.out _ h2).mono ?_
  rintro _ u3 ⟨tt, rfl, htt, k3⟩
  have HTT := hid htt
  have h3 := below_tr h2 k3
  clear htt y0 y1
  obtain ⟨y0, y1⟩ := (HXa.out.below h3).get2
  rcases Nat.eq_zero_or_pos ma with hz | hz
  · subst hz
    have hem : am = [] := List.eq_nil_of_length_eq_zero LMa.out
    have HE := parts_none (show bts tt = setT al [] by have := HTT.out; rw [hem] at this; exact this) HTA.out
    clear hem
    go_wp2_with fail
    refine (HAW.out _ h3).mono ?_
    rintro _ u4 ⟨rfl, k4⟩
    go_wp2_with fail
    go_ret
    exact ⟨rfl, below_tr HB.out (below_tr h3 k4)⟩
  · have HE := parts_some HVa.out (fun e => by have := LMa.out; rw [e] at this; simp at this; omega) HTT.out HTA.out HTB.out
    obtain ⟨e1, e2, e3⟩ := HE
    have hi : ¬ ((ma : Int) = 0) := by omega
    have s1 : ta.size ≤ 100000 := by rw [← bts_len, HTA.out]; have := setT_len al []; have := HSa.out.nrel; simp only [List.length_nil] at *; omega
    have s2 : tb.size ≤ 100000 := by rw [← bts_len, HTB.out]; have := setT_len [] am; have := HSa.out.npre; simp only [List.length_nil] at *; omega
    have s3 : (tb.extract 1 tb.size).size ≤ 100000 := by rw [ByteArray.size_extract]; omega
    go_wp2_with fail
    refine (HAW.out _ h3).mono ?_
    rintro _ u4 ⟨rfl, k4⟩
    go_wp2_with fail
    go_ret
    exact ⟨rfl, below_tr HB.out (below_tr h3 k4)⟩
end Go.Proofs.YtmnjnoggchgnjaaGreatDoor
