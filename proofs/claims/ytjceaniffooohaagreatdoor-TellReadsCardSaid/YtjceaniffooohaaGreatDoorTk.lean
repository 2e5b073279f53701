/- Contracts: linchpinlaw8.awake. -/
import Derived.Test.YtjceaniffooohaaGreatDoorTj
namespace Go.Proofs.YtjceaniffooohaaGreatDoor
open Go.RowKit Go.Lib
open Rw
set_option linter.unusedVariables false
set_option linter.unusedSimpArgs false

def tGood : List UInt8 := [62, 61, 49, 46, 50, 46, 48, 32, 60, 50, 46, 48, 46, 48, 32, 111, 114, 32, 62, 61, 51, 46, 48, 46, 48]
def tBad : List UInt8 := [62, 61, 49, 46, 50, 46, 48, 32, 60, 49, 46, 50, 46, 48]
def tV (a b : Int) : Ver := ⟨a, b, 0, ⟨#[]⟩, ⟨#[]⟩⟩
def t8L : List SpanL := [⟨⟨0, tV 1 2, false⟩, ⟨0, tV 2 0, false⟩⟩, ⟨⟨0, tV 3 0, false⟩, lastC⟩]
theorem tgood_may : mayS t8L [] = true := by decide +kernel
theorem tgood_txt : setT t8L [] = tGood := by decide +kernel
theorem tgood_p : setP tGood = some (t8L, []) := by rw [← tgood_txt]; exact setP_back (mayS_val.1 tgood_may)
theorem tbad_p : (setP tBad).isSome = false := by decide +kernel
theorem twhole_txt : setT wholeL wholeL = [42, 32, 47, 32, 42] := by decide +kernel
theorem tnone_txt : setT [] [] = [45] := by decide +kernel

theorem rwhole_any (w : World) : Calls Tryz.prog 117 #[] w (WholePost w) := by
  go_enter Tryz.func117, Tryz.ntmps117
  go_wp2_with (first | (go_at_call 162; refine (first_any _).mono ?_; rintro _ w1 ⟨rfl, hb1⟩) | (go_at_call 163; refine (last_any _).mono ?_; rintro _ w2 ⟨rfl, hb2⟩))
  have hb := below_tr hb1 hb2
  go_ret
  exact ⟨_, _, rfl, ⟨Spans.one (Box.new w2 (SpanL.cells ⟨firstC, lastC⟩) 83), fun ad e => by injection e with e; rw [← e]; exact hb.size⟩, below_tr hb (below_new _ _)⟩
def AllPost (w : World) (e : Ending) (w' : World) : Prop := ∃ A c B d, e = .returned (setV A 1 c B 1 d) ∧ SpanB w' w.heap.size A wholeL ∧ SpanB w' w.heap.size B wholeL ∧ Below w.heap.size w w'
set_option maxHeartbeats 1000000 in
theorem rsall_any (w : World) : Calls Tryz.prog 69 #[] w (AllPost w) := by
  have HB0 := hid (below_new w (.cells [Value.slice none 0 0, .slice none 0 0].toArray 31))
  have HX := hid (Box.new w [Value.slice none 0 0, .slice none 0 0] 31)
  have HS := hid (Soft.new w [Value.slice none 0 0, .slice none 0 0].toArray 31)
  go_enter Tryz.func69, Tryz.ntmps69
  go_wp2_with fail
  refine (rwhole_any _).mono ?_
  rintro _ w1 ⟨A, c, rfl, h1, hb1⟩
  have HX1 := hid (HX.out.below hb1)
  have HS1 := hid (HS.out.below HX.out.1 hb1)
  have HB1 := hid (below_tr HB0.out hb1)
  have H1 := hid h1
  clear h1 hb1
  go_wp2_with fail
  refine (rwhole_any _).mono ?_
  rintro _ w2 ⟨B, d, rfl, h2, hb2⟩
  have HX2 := hid (HX1.out.below hb2)
  have hf : ∀ j, w2.frozen? ⟨w.heap.size, j, none⟩ = false := HS1.out.below HX1.out.1 hb2
  have HB2 := hid (below_tr HB1.out hb2)
  have HA := hid (H1.out.below hb2)
  have HBB := hid h2
  obtain ⟨y0, y1⟩ := HX2.out.get2
  have hlt := HX2.out.1
  clear h2 hb2
  have hg1 := HB0.out.size
  have hg2 := HX.out.1
  have hg3 := HX1.out.1
  go_wp2_with fail
  refine ret2 HX2.out (v := setV A 1 c B 1 d) (fun w3 h3 => ?_) rfl (fun h3 => ⟨A, c, B, d, rfl, (HA.out.set (by omega)).low (by omega), (HBB.out.set (by omega)).low (by omega), HB2.out.trans h3⟩)
  obtain ⟨k0, k1⟩ := h3.get2
  simp [results, Tryz.results69, go_sem, k0, k1]
def GoodPost (w : World) (e : Ending) (w' : World) : Prop := ∃ A c B d, e = .returned (.tuple #[setV A 2 c B 0 d, .int .i64 0]) ∧ SpanB w' w.heap.size A t8L ∧ SpanB w' w.heap.size B [] ∧ fitL t8L ∧ Below w.heap.size w w'
def BadPost (w : World) (e : Ending) (w' : World) : Prop := ∃ A c B d, e = .returned (.tuple #[setV A 0 c B 0 d, .int .i64 2]) ∧ Below w.heap.size w w'
theorem tgood_any (w : World) (hL : Laid w) : Calls Tryz.prog 43 #[.string ⟨#[62, 61, 49, 46, 50, 46, 48, 32, 60, 50, 46, 48, 46, 48, 32, 111, 114, 32, 62, 61, 51, 46, 48, 46, 48]⟩] w (GoodPost w) := by
  have h := tparse_any (strB tGood) w hL (by rw [strB_size]; decide)
  rw [bts_strB, tgood_p] at h
  refine Calls.mono h ?_
  rintro e w' ⟨A, c, B, d, he, h1, h2, h3, -, -, -, hb⟩
  exact ⟨A, c, B, d, he, h1, h2, h3, hb⟩
theorem tbad_any (w : World) (hL : Laid w) : Calls Tryz.prog 43 #[.string ⟨#[62, 61, 49, 46, 50, 46, 48, 32, 60, 49, 46, 50, 46, 48]⟩] w (BadPost w) := by
  have h := tparse_any (strB tBad) w hL (by rw [strB_size]; decide)
  rw [bts_strB, show setP tBad = none by have := tbad_p; cases e : setP tBad with | none => rfl | some x => rw [e] at this; simp at this] at h
  refine Calls.mono h ?_
  rintro e w' ⟨A, c, B, d, he, -, -, -, -, -, -, hb⟩
  exact ⟨A, c, B, d, he, hb⟩
set_option maxRecDepth 100000 in
set_option maxHeartbeats 4000000 in
theorem tawake_any (w : World) (hL : Laid w) : Calls Tryz.prog 40 #[] w (BoolPost w true) := by
  have HL := hid hL
  have HP := hid (tgood_any w hL)
  have HQ := hid (fun u (h : Below w.heap.size w u) => tbad_any u (HL.out.below h))
  have HA := hid (fun u (h : Below w.heap.size w u) => rsall_any u)
  clear hL
  go_enter Tryz.func40, Tryz.ntmps40
  go_wp2_with fail
  refine HP.out.mono ?_
  rintro _ w1 ⟨A, c, B, d, rfl, hs, ht, hft, hb⟩
  have HB := hid hb
  have HS := hid hs
  have HT := hid ht
  have HF := hid hft
  clear hb hs ht hft HP
  go_wp2_with fail
  refine calls_name ?_
  intro w2 hw2
  have hb2 : Below w1.heap.size w1 w2 := by rw [hw2]; exact below_new _ _
  have HX : Hid (Box w2 w1.heap.size [.slice A 2 c, .slice B 0 d]) := hid (by rw [hw2]; exact Box.new w1 [.slice A 2 c, .slice B 0 d] _)
  clear hw2
  have HB := hid (below_tr HB.out hb2)
  have HS := hid (spanB_below HS.out hb2)
  have HT := hid (spanB_below HT.out hb2)
  clear hb2
  refine (HQ.out _ HB.out).mono ?_
  rintro _ w3 ⟨A2, c2, B2, d2, rfl, hb3⟩
  have HX := hid (HX.out.below hb3)
  have HB := hid (below_tr HB.out hb3)
  have HS := hid (spanB_below HS.out hb3)
  have HT := hid (spanB_below HT.out hb3)
  clear hb3
  obtain ⟨y0, y1⟩ := HX.out.get2
  have hlt := HX.out.1
  have HPR := hid (fun v (h : Below w.heap.size w v) (hs : Spans v A t8L) (ht : Spans v B []) => tprint_set A B c d t8L [] v (HL.out.below h) hs ht HF.out fit_nil (by decide) (by decide))
  have HB := hid (below_tr HB.out (below_new w3 (.cells #[Value.slice A2 0 c2, Value.slice B2 0 d2] 31)))
  have HS := hid (spanB_below HS.out (below_new w3 (.cells #[Value.slice A2 0 c2, Value.slice B2 0 d2] 31)))
  have HT := hid (spanB_below HT.out (below_new w3 (.cells #[Value.slice A2 0 c2, Value.slice B2 0 d2] 31)))
  go_wp2_with fail
  refine (HPR.out _ HB.out HS.out.1 HT.out.1).mono ?_
  rintro _ w5 ⟨tx, rfl, htx, hb5⟩
  have h1 : (tx.toList == [62, 61, 49, 46, 50, 46, 48, 32, 60, 50, 46, 48, 46, 48, 32, 111, 114, 32, 62, 61, 51, 46, 48, 46, 48]) = true := by rw [show tx.toList = tGood from htx.trans tgood_txt]; rfl
  have HB := hid (below_tr HB.out hb5)
  have HP0 := hid (tprint_set none none 0 0 [] [] w5 (HL.out.below HB.out) .nil .nil fit_nil fit_nil (by decide) (by decide))
  clear htx hb5 HX HS HT y0 y1 hlt HPR
  go_wp2_with fail
  refine HP0.out.mono ?_
  rintro _ w6 ⟨ty, rfl, hty, hb6⟩
  have h2 : (ty.toList == [45]) = true := by rw [show ty.toList = [45] from hty.trans tnone_txt]; rfl
  have HB := hid (below_tr HB.out hb6)
  clear hty hb6 HP0
  go_wp2_with fail
  refine (rsall_any _).mono ?_
  rintro _ w7 ⟨A3, c3, B3, d3, rfl, hs3, ht3, hb7⟩
  have HB := hid (below_tr HB.out hb7)
  have HP3 := hid (tprint_set A3 B3 c3 d3 wholeL wholeL w7 (HL.out.below HB.out) hs3.1 ht3.1 whole_fit whole_fit (by decide) (by decide))
  clear hs3 ht3 hb7
  go_wp2_with fail
  refine HP3.out.mono ?_
  rintro _ w8 ⟨tz, rfl, htz, hb8⟩
  have h3 : (tz.toList == [42, 32, 47, 32, 42]) = true := by rw [show tz.toList = [42, 32, 47, 32, 42] from htz.trans twhole_txt]; rfl
  have HB := hid (below_tr HB.out hb8)
  clear htz hb8 HP3
  go_wp2_with fail
  go_ret
  exact ⟨rfl, HB.out⟩
end Go.Proofs.YtjceaniffooohaaGreatDoor
