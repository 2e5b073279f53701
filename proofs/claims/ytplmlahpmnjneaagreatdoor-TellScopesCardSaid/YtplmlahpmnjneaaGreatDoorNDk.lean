import Derived.Test.YtplmlahpmnjneaaGreatDoorNDj
import Derived.Test.YtplmlahpmnjneaaGreatDoorNCt
import Derived.Test.YtplmlahpmnjneaaGreatDoorNSetR
import Derived.Deep.RegionWith
import Derived.Test.YtplmlahpmnjneaaGreatDoorNDm
namespace Go.Proofs.YtplmlahpmnjneaaGreatDoor
open Go.RowKit Go.Lib
open Rw
set_option linter.unusedVariables false
set_option linter.unusedSimpArgs false
end Go.Proofs.YtplmlahpmnjneaaGreatDoor
namespace Go.Proofs.YtplmlahpmnjneaaGreatDoor
open Go.RowKit Go.Lib
open Rw
set_option linter.unusedVariables false
set_option linter.unusedSimpArgs false
def OfK (w : World) (p : (List SpanL × List SpanL) × Int) (e : Ending) (w' : World) : Prop := ∃ A c B d, e = .returned (.tuple #[setV A p.1.1.length c B p.1.2.length d, .int .i64 p.2]) ∧ SpanB w' w.heap.size A p.1.1 ∧ SpanB w' w.heap.size B p.1.2 ∧ KB w.heap.size w w'
set_option maxRecDepth 100000 in
set_option maxHeartbeats 4000000 in
theorem of7_any (s : ByteArray) (w : World) (hL : Laid w) : Calls Tryz.prog 24 #[.string s] w (OfK w (ofG (bts s))) := by
  have HL := hid hL
  clear hL
  have HC := hid (parseG_cases (bts s))
  have HF := hid (parseG_fit (bts s))
  have HOF := hid (show ofG (bts s) = if (parseG (bts s)).2 = 0 then (setG (parseG (bts s)).1, 0) else (([], []), (parseG (bts s)).2) from rfl)
  go_enter Tryz.func24, Tryz.ntmps24
  go_upto_region 1 with fail
  refine wp_name ?_
  intro w1 hw1
  have O2 := hid (show Own w.heap.size w1 w.heap.size [.slice none 0 0, .slice none 0 0] by rw [hw1]; exact Own.new w [.slice none 0 0, .slice none 0 0] 24 (Nat.le_refl _))
  have HB := hid (show KB w.heap.size w w1 by rw [hw1]; exact kb_new _ _)
  clear hw1
  have HPA := hid (parse7_any s w1 (HL.out.kb HB.out))
  generalize parseG (bts s) = p at *
  obtain ⟨r, e⟩ := p
  dsimp only at HC HF HOF HPA
  go_wp2_with fail
  refine HPA.out.mono ?_
  rintro _ w2 ⟨A, c, rfl, hal, hb⟩
  dsimp only at hal ⊢
  have HAL := hid hal
  have O2 := hid (O2.out.kb hb)
  have HB := hid (kb_tr HB.out hb)
  clear hal hb HPA
  generalize hn : r.length = n at *
  have HN := hid hn
  clear hn
  go_upto_if 12 with fail
  refine wp_name ?_
  intro u1 hu1
  have HX := hid (show Box u1 w2.heap.size [.slice A n c] by rw [hu1]; exact Box.new w2 [.slice A n c] 35)
  have HAL := hid (show Alts u1 A r by rw [hu1]; exact HAL.out.below (below_new _ _))
  have O2 := hid (show Own w.heap.size u1 w.heap.size [.slice none 0 0, .slice none 0 0] by rw [hu1]; exact O2.out.alloc _)
  have HB := hid (show KB w.heap.size w u1 by rw [hu1]; exact kb_tr HB.out (kb_new _ _))
  clear hu1
  rcases HC.out with ⟨h0, hm⟩ | ⟨h0, hp, h36⟩
  · subst h0
    have HOE := hid (HOF.out.trans (if_pos rfl))
    have HMP := hid (mayG_parts hm)
    have HST := hid (set7_any A c r u1 (HL.out.kb HB.out) HAL.out HF.out (by have := HMP.out.1; omega) (fun a ha => by have := HMP.out.2 a ha; omega))
    rw [HN.out] at HST
    clear hm
    have x0 := HX.out.2 0 _ rfl
    have xl := HX.out.1
    generalize setG r = sg at *
    obtain ⟨s1, s2⟩ := sg
    dsimp only at HST HOE
    generalize hq1 : s1.length = q1 at *
    generalize hq2 : s2.length = q2 at *
    have HQ1 := hid hq1
    have HQ2 := hid hq2
    clear hq1 hq2
    go_wp2_with fail
    refine HST.out.mono ?_
    rintro _ u2 ⟨A6, c6, B6, d6, he, hs5, hs6, hb⟩
    rw [HQ1.out, HQ2.out] at he
    subst he
    have HS5 := hid hs5
    have HS6 := hid hs6
    have hwu : w.heap.size < u1.heap.size := O2.out.box.1
    have O2 := hid (O2.out.kb hb)
    have HB := hid (kb_tr HB.out hb)
    clear hs5 hs6 hb HST x0 xl
    obtain ⟨y0, y1⟩ := O2.out.box.get2
    have sf : ∀ j, u2.frozen? ⟨w.heap.size, j, none⟩ = false := O2.out.soft
    have yl := O2.out.box.1
    go_wp2_with fail
    refine body_name ?_
    intro w9 hw9
    have O9 : Own w.heap.size w9 w.heap.size [.slice A6 q1 c6, .slice B6 q2 d6] := by rw [hw9]; exact O2.out.set2 _ _
    have S9 : SpanB w9 u1.heap.size A6 s1 := by rw [hw9]; exact spanB_set2 HS5.out hwu _ _
    have T9 : SpanB w9 u1.heap.size B6 s2 := by rw [hw9]; exact spanB_set2 HS6.out hwu _ _
    have B9 : KB w.heap.size w w9 := by rw [hw9]; exact kb_set2 HB.out (Nat.le_refl _) _ _
    clear hw9
    obtain ⟨k0, k1⟩ := O9.box.get2
    refine bodyPost_ret (v := .tuple #[setV A6 q1 c6 B6 q2 d6, .int .i64 0]) (by simp [results, Tryz.results24, go_sem, k0, k1, setV]) rfl ?_
    rw [HOE.out]
    exact ⟨A6, c6, B6, d6, by rw [HQ1.out, HQ2.out], S9.low (Nat.le_of_lt hwu), T9.low (Nat.le_of_lt hwu), B9⟩
  · have HOE := hid (HOF.out.trans (if_neg h0))
    have h0b : (e == 0) = false := by rw [beq_eq_false_iff_ne]; exact h0
    have h0c : (e != 0) = true := by rw [bne_iff_ne]; exact h0
    clear h0 hp h36
    go_wp2_with fail
    refine (snone_any u1).mono ?_
    rintro _ u2 ⟨rfl, hb⟩
    have O2 := hid (O2.out.below hb)
    have HB := hid (kb_tr HB.out hb.kb)
    clear hb
    obtain ⟨y0, y1⟩ := O2.out.box.get2
    have sf : ∀ j, u2.frozen? ⟨w.heap.size, j, none⟩ = false := O2.out.soft
    have yl := O2.out.box.1
    go_wp2_with fail
    refine body_name ?_
    intro w9 hw9
    have O9 : Own w.heap.size w9 w.heap.size [.slice none 0 0, .slice none 0 0] := by rw [hw9]; exact O2.out.set2 _ _
    have B9 : KB w.heap.size w w9 := by rw [hw9]; exact kb_set2 HB.out (Nat.le_refl _) _ _
    clear hw9
    obtain ⟨k0, k1⟩ := O9.box.get2
    refine bodyPost_ret (v := .tuple #[setV none 0 0 none 0 0, .int .i64 e]) (by simp [results, Tryz.results24, go_sem, k0, k1, setV]) rfl ?_
    rw [HOE.out]
    exact ⟨none, 0, none, 0, rfl, SpanB.nil _ _, SpanB.nil _ _, B9⟩
end Go.Proofs.YtplmlahpmnjneaaGreatDoor
namespace Go.Proofs.YtplmlahpmnjneaaGreatDoor
open Go.RowKit Go.Lib
open Rw
set_option linter.unusedVariables false
set_option linter.unusedSimpArgs false
theorem ofG_good (s : List UInt8) : SGood 250 (ofG s).1 := by
  unfold ofG
  split
  · exact setG_good (parseG_fit s)
  · exact SGood.nil _
end Go.Proofs.YtplmlahpmnjneaaGreatDoor
