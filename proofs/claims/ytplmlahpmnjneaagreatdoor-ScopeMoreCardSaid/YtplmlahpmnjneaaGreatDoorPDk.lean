import Derived.Test.YtplmlahpmnjneaaGreatDoorPDj
import Derived.Test.YtplmlahpmnjneaaGreatDoorPCt
import Derived.Test.YtplmlahpmnjneaaGreatDoorMSetR
import Derived.Deep.RegionWith
import Derived.Test.YtplmlahpmnjneaaGreatDoorPDm
namespace Go.Proofs.YtplmlahpmnjneaaGreatDoor
open Go.RowKit Go.Lib
open Rw
set_option linter.unusedVariables false
set_option linter.unusedSimpArgs false
end Go.Proofs.YtplmlahpmnjneaaGreatDoor
namespace Go.Proofs.YtplmlahpmnjneaaGreatDoor
open Go.RowKit Go.Lib
open Rw
set_option linter.unusedVariables false
set_option linter.unusedSimpArgs false
def OfK (w : World) (p : (List SpanL × List SpanL) × Int) (e : Ending) (w' : World) : Prop := ∃ A c B d, e = .returned (.tuple #[setV A p.1.1.length c B p.1.2.length d, .int .i64 p.2]) ∧ SpanB w' w.heap.size A p.1.1 ∧ SpanB w' w.heap.size B p.1.2 ∧ KB w.heap.size w w'
set_option maxRecDepth 100000 in
set_option maxHeartbeats 4000000 in
theorem of7_any (s : ByteArray) (w : World) (hL : Laid w) : Calls Tryz.prog 24 #[.string s] w (OfK w (ofG (bts s))) := by
  have HL := hid hL
  clear hL
  have HC := hid (parseG_cases (bts s))
  have HF := hid (parseG_fit (bts s))
  have HOF := hid (show ofG (bts s) = if (parseG (bts s)).2 = 0 then (setG (parseG (bts s)).1, 0) else (([], []), (parseG (bts s)).2) from rfl)
  go_enter Tryz.func24, Tryz.ntmps24
  go_upto_region 1 with fail
  refine wp_name ?_
  intro w1 hw1
  have O2 := hid (show Own w.heap.size w1 w.heap.size [.slice none 0 0, .slice none 0 0] by rw [hw1]; exact Own.new w [.slice none 0 0, .slice none 0 0] 24 (Nat.le_refl _))
  have HB := hid (show KB w.heap.size w w1 by rw [hw1]; exact kb_new _ _)
  clear hw1
  have HPA := hid (parse7_any s w1 (HL.out.kb HB.out))
  generalize parseG (bts s) = p at *
  obtain ⟨r, e⟩ := p
  dsimp only at HC HF HOF HPA
  go_wp2_with fail
  refine HPA.out.mono ?_
  rintro _ w2 ⟨A, c, rfl, hal, hb⟩
  dsimp only at hal ⊢
  have HAL := hid hal
  have O2 := hid (O2.out.kb hb)
  have HB := hid (kb_tr HB.out hb)
  clear hal hb HPA
  generalize hn : r.length = n at *
  have HN := hid hn
  clear hn
  go_upto_if 12 with fail
  refine wp_name ?_
  intro u1 hu1
  have HX := hid (show Box u1 w2.heap.size [.slice A n c] by rw [hu1]; exact Box.new w2 [.slice A n c] 35)
  have HAL := hid (show Alts u1 A r by rw [hu1]; exact HAL.out.below (below_new _ _))
  have O2 := hid (show Own w.heap.size u1 w.heap.size [.slice none 0 0, .slice none 0 0] by rw [hu1]; exact O2.out.alloc _)
  have HB := hid (show KB w.heap.size w u1 by rw [hu1]; exact kb_tr HB.out (kb_new _ _))
  clear hu1
  rcases HC.out with ⟨h0, hm⟩ | ⟨h0, hp, h36⟩
  · subst h0
    have HOE := hid (HOF.out.trans (if_pos rfl))
    have HMP := hid (mayG_parts hm)
    have HST := hid (set7_any A c r u1 (HL.out.kb HB.out) HAL.out HF.out (by have := HMP.out.1; omega) (fun a ha => by have := HMP.out.2 a ha; omega))
    rw [HN.out] at HST
    clear hm
    have x0 := HX.out.2 0 _ rfl
    have xl := HX.out.1
    generalize setG r = sg at *
    obtain ⟨s1, s2⟩ := sg
    dsimp only at HST HOE
    generalize hq1 : s1.length = q1 at *
    generalize hq2 : s2.length = q2 at *
    have HQ1 := hid hq1
    have HQ2 := hid hq2
    clear hq1 hq2
    go_wp2_with fail
    refine HST.out.mono ?_
    rintro _ u2 ⟨A6, c6, B6, d6, he, hs5, hs6, hb⟩
    rw [HQ1.out, HQ2.out] at he
    subst he
    have HS5 := hid hs5
    have HS6 := hid hs6
    have hwu : w.heap.size < u1.heap.size := O2.out.box.1
    have O2 := hid (O2.out.kb hb)
    have HB := hid (kb_tr HB.out hb)
    clear hs5 hs6 hb HST x0 xl
    obtain ⟨y0, y1⟩ := O2.out.box.get2
    have sf : ∀ j, u2.frozen? ⟨w.heap.size, j, none⟩ = false := O2.out.soft
    have yl := O2.out.box.1
    go_wp2_with fail
    refine body_name ?_
    intro w9 hw9
    have O9 : Own w.heap.size w9 w.heap.size [.slice A6 q1 c6, .slice B6 q2 d6] := by rw [hw9]; exact O2.out.set2 _ _
    have S9 : SpanB w9 u1.heap.size A6 s1 := by rw [hw9]; exact spanB_set2 HS5.out hwu _ _
    have T9 : SpanB w9 u1.heap.size B6 s2 := by rw [hw9]; exact spanB_set2 HS6.out hwu _ _
    have B9 : KB w.heap.size w w9 := by rw [hw9]; exact kb_set2 HB.out (Nat.le_refl _) _ _
    clear hw9
    obtain ⟨k0, k1⟩ := O9.box.get2
    refine bodyPost_ret (v := .tuple #[setV A6 q1 c6 B6 q2 d6, .int .i64 0]) (by simp [results, Tryz.results24, go_sem, k0, k1, setV]) rfl ?_
    rw [HOE.out]
    exact ⟨A6, c6, B6, d6, by rw [HQ1.out, HQ2.out], S9.low (Nat.le_of_lt hwu), T9.low (Nat.le_of_lt hwu), B9⟩
  · have HOE := hid (HOF.out.trans (if_neg h0))
    have h0b : (e == 0) = false := by rw [beq_eq_false_iff_ne]; exact h0
    have h0c : (e != 0) = true := by rw [bne_iff_ne]; exact h0
    clear h0 hp h36
    go_wp2_with fail
    refine (snone_any u1).mono ?_
    rintro _ u2 ⟨rfl, hb⟩
    have O2 := hid (O2.out.below hb)
    have HB := hid (kb_tr HB.out hb.kb)
    clear hb
    obtain ⟨y0, y1⟩ := O2.out.box.get2
    have sf : ∀ j, u2.frozen? ⟨w.heap.size, j, none⟩ = false := O2.out.soft
    have yl := O2.out.box.1
    go_wp2_with fail
    refine body_name ?_
    intro w9 hw9
    have O9 : Own w.heap.size w9 w.heap.size [.slice none 0 0, .slice none 0 0] := by rw [hw9]; exact O2.out.set2 _ _
    have B9 : KB w.heap.size w w9 := by rw [hw9]; exact kb_set2 HB.out (Nat.le_refl _) _ _
    clear hw9
    obtain ⟨k0, k1⟩ := O9.box.get2
    refine bodyPost_ret (v := .tuple #[setV none 0 0 none 0 0, .int .i64 e]) (by simp [results, Tryz.results24, go_sem, k0, k1, setV]) rfl ?_
    rw [HOE.out]
    exact ⟨none, 0, none, 0, rfl, SpanB.nil _ _, SpanB.nil _ _, B9⟩
end Go.Proofs.YtplmlahpmnjneaaGreatDoor
namespace Go.Proofs.YtplmlahpmnjneaaGreatDoor
open Go.RowKit Go.Lib
open Rw
set_option linter.unusedVariables false
set_option linter.unusedSimpArgs false
theorem setG_append {r t : List (List CompL)} (h : mayG r = true) (k : mayG t = true) (m : mayG (r ++ t) = true) : setG (r ++ t) = orS (setG r).1 (setG r).2 (setG t).1 (setG t).2 := by
  rw [setG_yes h, setG_yes k, setG_yes m, List.map_append, orG_append (alts_val r) (alts_val t)]
theorem orG_one {s : List SpanL × List SpanL} (h : ValS s.1 s.2) : orG [s] = s := by
  have hv := orG_val (l := [s]) (fun x hx => by rw [List.mem_singleton.1 hx]; exact h)
  have e1 : (orG [s]).1 = s.1 := Val.ext _ _ hv.rel h.rel fun x => by
    rw [(orG_mem (l := [s]) (fun x hx => by rw [List.mem_singleton.1 hx]; exact h)).1]; simp
  have e2 : (orG [s]).2 = s.2 := Val.ext _ _ hv.pre h.pre fun x => by
    rw [(orG_mem (l := [s]) (fun x hx => by rw [List.mem_singleton.1 hx]; exact h)).2]; simp
  exact Prod.ext e1 e2
theorem rangeT_mem_len {r : List (List CompL)} {a : List CompL} (h : a ∈ r) : (altT a).length ≤ (rangeT r).length := joinS_mem_len _ (List.mem_map_of_mem h)
theorem mayG_one {r : List (List CompL)} (h : mayG r = true) {a : List CompL} (ha : a ∈ r) : mayG [a] = true := by
  have hp := mayG_few h
  have hl := rangeT_mem_len ha
  rw [mayG, Bool.and_eq_true, decide_eq_true_eq]
  refine ⟨fewG_iff.2 ⟨by simp, by simp, fun x hx => by rw [List.mem_singleton.1 hx]; exact hp.1.may a ha⟩, ?_⟩
  have e : rangeT [a] = altT a := rfl
  rw [e]
  have := hp.2
  omega
theorem setG_one {r : List (List CompL)} (h : mayG r = true) {a : List CompL} (ha : a ∈ r) : setG [a] = altS a := by
  rw [setG_yes (mayG_one h ha), List.map_cons, List.map_nil, orG_one (altS_val a)]
end Go.Proofs.YtplmlahpmnjneaaGreatDoor
namespace Go.Proofs.YtplmlahpmnjneaaGreatDoor
open Go.RowKit Go.Lib
open Rw
set_option linter.unusedVariables false
set_option linter.unusedSimpArgs false
def awT1 : List UInt8 := [94, 49, 46, 50, 44, 33, 61, 49, 46, 51, 46, 48, 124, 124, 126, 50]
def awT2 : List UInt8 := [94, 49, 46, 50, 44, 32, 33, 61, 49, 46, 51, 46, 48, 32, 124, 124, 32, 126, 50]
def awT3 : List UInt8 := [94, 49, 46, 50, 44]
def awV1 : Ver := ⟨2, 9, 0, ⟨#[]⟩, ⟨#[]⟩⟩
def awV2 : Ver := ⟨1, 3, 0, ⟨#[]⟩, ⟨#[]⟩⟩
theorem aw_p1 : (parseG awT1).2 = 0 := by decide +kernel
theorem aw_print : printG (parseG awT1).1 = awT2 := by decide +kernel
theorem aw_o2 : (ofG awT2).2 = 0 := by decide +kernel
theorem aw_p3 : (parseG awT3).2 = 6 := by decide +kernel
theorem aw_h1 : hasS (ofG awT2).1.1 (ofG awT2).1.2 awV1 = true := by decide +kernel
theorem aw_h2 : hasS (ofG awT2).1.1 (ofG awT2).1.2 awV2 = false := by decide +kernel
theorem ofG_good (s : List UInt8) : SGood 250 (ofG s).1 := by
  unfold ofG
  split
  · exact setG_good (parseG_fit s)
  · exact SGood.nil _
theorem parseG_parts (s : List UInt8) : (parseG s).1.length ≤ 6 ∧ ∀ a ∈ (parseG s).1, a.length ≤ 6 := by
  rcases parseG_cases s with ⟨-, h⟩ | ⟨-, h, -⟩
  · exact mayG_parts h
  · rw [h]; exact ⟨by simp, fun a ha => by simp at ha⟩
theorem aw_fit1 : awV1.fit := fit_e _ _ _
theorem aw_fit2 : awV2.fit := fit_e _ _ _
set_option maxRecDepth 100000 in
set_option maxHeartbeats 4000000 in
theorem awake7_any (w : World) (hL : Laid w) : Calls Tryz.prog 21 #[] w (BoolK w true) := by
  have HL := hid hL
  clear hL
  have P1 := hid (fun u (hb : KB w.heap.size w u) => parse7_any ⟨#[94, 49, 46, 50, 44, 33, 61, 49, 46, 51, 46, 48, 124, 124, 126, 50]⟩ u (HL.out.kb hb))
  have P2 := hid (fun u (hb : KB w.heap.size w u) => of7_any ⟨#[94, 49, 46, 50, 44, 32, 33, 61, 49, 46, 51, 46, 48, 32, 124, 124, 32, 126, 50]⟩ u (HL.out.kb hb))
  have P3 := hid (fun u (hb : KB w.heap.size w u) => parse7_any ⟨#[94, 49, 46, 50, 44]⟩ u (HL.out.kb hb))
  rw [show bts (⟨#[94, 49, 46, 50, 44, 33, 61, 49, 46, 51, 46, 48, 124, 124, 126, 50]⟩ : ByteArray) = awT1 from bts_lit awT1] at P1
  rw [show bts (⟨#[94, 49, 46, 50, 44, 32, 33, 61, 49, 46, 51, 46, 48, 32, 124, 124, 32, 126, 50]⟩ : ByteArray) = awT2 from bts_lit awT2] at P2
  rw [show bts (⟨#[94, 49, 46, 50, 44]⟩ : ByteArray) = awT3 from bts_lit awT3] at P3
  have e1 := aw_p1
  have e3 := aw_p3
  have e2 := aw_o2
  have HPR := hid aw_print
  have HF := hid (parseG_fit awT1)
  have HP := hid (parseG_parts awT1)
  have HH1 := hid aw_h1
  have HH2 := hid aw_h2
  have HG := hid (ofG_good awT2)
  generalize parseG awT1 = p1 at *
  generalize parseG awT3 = p3 at *
  generalize ofG awT2 = o2 at *
  obtain ⟨r1, n1⟩ := p1
  obtain ⟨r3, n3⟩ := p3
  obtain ⟨⟨s1, s2⟩, n2⟩ := o2
  dsimp only at e1 e2 e3 HPR HF HP HH1 HH2 HG P1 P2 P3
  subst e1
  subst e2
  subst e3
  generalize hr1 : r1.length = nr1 at *
  generalize hr3 : r3.length = nr3 at *
  generalize hq1 : s1.length = q1 at *
  generalize hq2 : s2.length = q2 at *
  have HR1 := hid hr1
  have HR3 := hid hr3
  have HQ1 := hid hq1
  have HQ2 := hid hq2
  clear hr1 hr3 hq1 hq2
  go_enter Tryz.func21, Tryz.ntmps21
  go_wp2_with fail
  refine (P1.out _ (kb_refl _)).mono ?_
  rintro _ w1 ⟨A1, c1, he, hal, hb⟩
  dsimp only at he hal
  rw [HR1.out] at he
  subst he
  have HAL := hid hal
  have HB := hid hb
  clear hal hb
  go_upto_region 2 with fail
  refine wp_name ?_
  intro u1 hu1
  have HX := hid (show Box u1 w1.heap.size [.slice A1 nr1 c1] by rw [hu1]; exact Box.new w1 [.slice A1 nr1 c1] 35)
  have HAL := hid (show Alts u1 A1 r1 by rw [hu1]; exact HAL.out.below (below_new _ _))
  have HB := hid (show KB w.heap.size w u1 by rw [hu1]; exact kb_tr HB.out (kb_new _ _))
  clear hu1
  go_wp2_with fail
  refine (P2.out _ HB.out).mono ?_
  rintro _ w2 ⟨A2, c2, B2, d2, he, hs1, hs2, hb⟩
  dsimp only at he hs1 hs2
  rw [HQ1.out, HQ2.out] at he
  subst he
  have HS1 := hid hs1.1
  have HS2 := hid hs2.1
  have HX := hid (HX.out.kb hb)
  have HAL := hid (HAL.out.kb hb)
  have HB := hid (kb_tr HB.out hb)
  clear hs1 hs2 hb
  go_upto_region 3 with fail
  refine wp_name ?_
  intro u2 hu2
  have HY := hid (show Box u2 w2.heap.size [.slice A2 q1 c2, .slice B2 q2 d2] by rw [hu2]; exact Box.new w2 [.slice A2 q1 c2, .slice B2 q2 d2] 24)
  have HX := hid (show Box u2 w1.heap.size [.slice A1 nr1 c1] by rw [hu2]; exact HX.out.below (below_new _ _))
  have HAL := hid (show Alts u2 A1 r1 by rw [hu2]; exact HAL.out.below (below_new _ _))
  have HS1 := hid (show Spans u2 A2 s1 by rw [hu2]; exact HS1.out.below (below_new _ _))
  have HS2 := hid (show Spans u2 B2 s2 by rw [hu2]; exact HS2.out.below (below_new _ _))
  have HB := hid (show KB w.heap.size w u2 by rw [hu2]; exact kb_tr HB.out (kb_new _ _))
  clear hu2
  go_wp2_with fail
  refine (P3.out _ HB.out).mono ?_
  rintro _ w3 ⟨A3, c3, he, -, hb⟩
  dsimp only at he
  rw [HR3.out] at he
  subst he
  have HX := hid (HX.out.kb hb)
  have HY := hid (HY.out.kb hb)
  have HAL := hid (HAL.out.kb hb)
  have HS1 := hid (HS1.out.kb hb)
  have HS2 := hid (HS2.out.kb hb)
  have HB := hid (kb_tr HB.out hb)
  clear hb
  go_upto_region 4 with fail
  refine wp_name ?_
  intro u3 hu3
  have HX := hid (show Box u3 w1.heap.size [.slice A1 nr1 c1] by rw [hu3]; exact HX.out.below (below_new _ _))
  have HY := hid (show Box u3 w2.heap.size [.slice A2 q1 c2, .slice B2 q2 d2] by rw [hu3]; exact HY.out.below (below_new _ _))
  have HAL := hid (show Alts u3 A1 r1 by rw [hu3]; exact HAL.out.below (below_new _ _))
  have HS1 := hid (show Spans u3 A2 s1 by rw [hu3]; exact HS1.out.below (below_new _ _))
  have HS2 := hid (show Spans u3 B2 s2 by rw [hu3]; exact HS2.out.below (below_new _ _))
  have HB := hid (show KB w.heap.size w u3 by rw [hu3]; exact kb_tr HB.out (kb_new _ _))
  clear hu3
  generalize w1.heap.size = g1 at *
  generalize w2.heap.size = g2 at *
  have HPT := hid (print7_any A1 c1 r1 u3 (HL.out.kb HB.out) HAL.out HF.out (by have := HP.out.1; rw [HR1.out]; omega) (fun a ha => by have := HP.out.2 a ha; omega))
  rw [HR1.out, HPR.out] at HPT
  have HH1C := hid (fun u (hb : KB u3.heap.size u3 u) => law_hasR c2 d2 ((HL.out.kb HB.out).kb hb).first (HG.out.at_ (HS1.out.kb hb) (HS2.out.kb hb)) aw_fit1 (by omega))
  have HH2C := hid (fun u (hb : KB u3.heap.size u3 u) => law_hasR c2 d2 ((HL.out.kb HB.out).kb hb).first (HG.out.at_ (HS1.out.kb hb) (HS2.out.kb hb)) aw_fit2 (by omega))
  dsimp only at HH1C HH2C
  rw [HH1.out, HQ1.out, HQ2.out] at HH1C
  rw [HH2.out, HQ1.out, HQ2.out] at HH2C
  have x0 := HX.out.2 0 _ rfl
  have xl := HX.out.1
  go_wp2_with fail
  refine HPT.out.mono ?_
  rintro _ w4 ⟨t, rfl, ht, hb⟩
  obtain rfl : t = ⟨#[94, 49, 46, 50, 44, 32, 33, 61, 49, 46, 51, 46, 48, 32, 124, 124, 32, 126, 50]⟩ := bts_inj (ht.trans (bts_lit awT2).symm)
  have HB4 := hid hb
  have HBW := hid (kb_tr HB.out hb)
  clear ht hb x0 xl
  obtain ⟨y0, y1⟩ := (HY.out.kb HB4.out).get2
  have yl := (HY.out.kb HB4.out).1
  go_wp2_with fail
  refine (HH1C.out _ HB4.out).mono ?_
  rintro _ w5 ⟨rfl, hb⟩
  have HB5 := hid (kb_tr HB4.out hb.kb)
  have HBW := hid (kb_tr HBW.out hb.kb)
  clear hb y0 y1 yl
  obtain ⟨y0, y1⟩ := (HY.out.kb HB5.out).get2
  have yl := (HY.out.kb HB5.out).1
  go_wp2_with fail
  refine (HH2C.out _ HB5.out).mono ?_
  rintro _ w6 ⟨rfl, hb⟩
  have HBW := hid (kb_tr HBW.out hb.kb)
  clear hb y0 y1 yl
  go_wp2_with fail
  go_ret
  exact ⟨rfl, HBW.out⟩
end Go.Proofs.YtplmlahpmnjneaaGreatDoor
