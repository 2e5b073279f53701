/- Spans and rows out of numbers. -/
import Derived.Test.YtodicnjoimoiiaaLawC
namespace Go.Proofs.Ytodicnjoimoiiaa
open Go.RowKit Go.Lib
set_option linter.unusedVariables false
set_option linter.unusedSimpArgs false

def allMay (l : List SpanL) : Prop := ∀ s, s ∈ l → spanMay s = true
/-- some spans, each of which may be, have come back in memory of their own -/
def SpansPost (w : World) (base most : Nat) (e : Ending) (w' : World) : Prop := ∃ v l, e = .returned v ∧ OwnS w' base v l ∧ fitAll l ∧ allMay l ∧ l.length ≤ most ∧ Below base w w'
set_option maxRecDepth 100000 in
set_option maxHeartbeats 1000000 in
theorem spans_any (base most : Nat) (A : Option Addr) (cap : Nat) (zs : List Int) (i : Int) (w : World) (h : IntsAt w A zs) (hi : 0 ≤ i) (hi2 : i ≤ 1000000) (hm : most ≤ 100) (hln : zs.length ≤ 9223372036854775807) (hbase : base ≤ w.heap.size) : Calls Try.prog 20 #[.slice A zs.length cap, .int .i64 i, .int .i64 (most : Int)] w (SpansPost w base most) := by
  have C0 := hid (from_any A cap zs i ((most : Int) + 1) w h hi (by omega) hln (by omega) (by omega))
  have CC := hid (fun (j : Int) w' (hb : Below w.heap.size w w') (h1 : 0 ≤ j) (h2 : j ≤ 10000000) => cut_any A cap zs j w' (h.below hb) h1 h2 hln)
  have b0 := fromL_bd zs i ((most : Int) + 1) (by omega)
  have CO := hid (fun (j : Int) => cutL_ok zs j)
  have hM : maxLen = 9223372036854775807 := rfl
  clear h
  generalize fromL zs i ((most : Int) + 1) = k0 at *
  obtain ⟨k0, rfl⟩ := Int.eq_ofNat_of_zero_le b0.1
  have b1 : k0 ≤ most := by omega
  clear b0
  generalize zs.length = n at *
  go_enter Try.func20, Try.ntmps20
  go_wp2_with fail
  refine C0.out.mono ?_
  rintro _ _ ⟨rfl, rfl⟩
  go_wp2_with fail
  go_loopw [9, 8, 7] (fun _ i o wr => ∃ (k : Nat) (v : Value) (out : List SpanL), i = .int .i64 k ∧ v = o ∧ k ≤ most ∧ Hid (HasRow wr w.heap.size v out (most - k)) ∧ Hid (allMay out) ∧ Below w.heap.size w wr) (fun _ i _ _ => (intOf i).toNat)
  case atStart => exact ⟨k0, _, [], rfl, rfl, b1, ⟨OwnS.nil _ _, (fun s h => by cases h), by simp⟩, (fun s h => by cases h), Below.refl _ _⟩
  case round =>
    obtain ⟨k, v, out, rfl, rfl, hk, HR, HG, hbr⟩ := hrel
    have HBR := hid hbr
    have hgw := hid hbr.size
    cases k with
    | zero =>
      have hd : decide ((0 : Int) < ((0 : Nat) : Int)) = false := by simp
      go_wp2_with fail
      go_ret
      exact ⟨v, out, rfl, OwnS.low HR.out.own hbase, HR.out.fit, HG.out, Nat.le_trans HR.out.len (Nat.sub_le _ _), HBR.out.mono hbase⟩
    | succ k =>
      have hkc : ((k + 1 : Nat) : Int) = (k : Int) + 1 := by omega
      have j1 : 0 ≤ i + 12 * ((k + 1 : Nat) : Int) - 11 := by omega
      have j2 : 0 ≤ i + 12 * ((k + 1 : Nat) : Int) - 5 := by omega
      have j3 : i + 12 * ((k + 1 : Nat) : Int) - 11 ≤ 10000000 := by omega
      have j4 : i + 12 * ((k + 1 : Nat) : Int) - 5 ≤ 10000000 := by omega
      have HOW := hid HR.out.own
      have HOB := hid (own_bound HR.out.own)
      have HLN := HR.out.len
      have C1 := hid (CC.out _ wr HBR.out j1 j3)
      have C2 := hid (fun w' (h : Below wr.heap.size wr w') => CC.out _ w' (below_tr HBR.out h) j2 j4)
      have O1 := hid (CO.out (i + 12 * ((k + 1 : Nat) : Int) - 11))
      have O2 := hid (CO.out (i + 12 * ((k + 1 : Nat) : Int) - 5))
      generalize cutL zs (i + 12 * ((k + 1 : Nat) : Int) - 11) = a at *
      generalize cutL zs (i + 12 * ((k + 1 : Nat) : Int) - 5) = b at *
      clear hbr hkc
      go_wp2_with fail
      refine C1.out.mono ?_
      rintro _ w1 ⟨rfl, hb1⟩
      have HB1 := hid hb1
      clear hb1
      go_wp2_with fail
      refine (C2.out _ HB1.out).mono ?_
      rintro _ w2 ⟨rfl, hb2⟩
      have HB2 := hid (below_tr HB1.out hb2)
      have hc := hid (fun w' => rccompare_any a b w' O1.out.2 O2.out.2)
      have HBW := hid (below_tr HB2.out (below_new w2 (.cells (SpanL.cells ⟨a, b⟩).toArray 37)))
      have HX := hid (Box.new w2 (SpanL.cells ⟨a, b⟩) 37)
      have HS := hid (Soft.new w2 (SpanL.cells ⟨a, b⟩).toArray 37)
      have HO := hid (own_below HOW.out HBW.out)
      have HOB2 := hid (fun r hr => Nat.lt_of_lt_of_le (HOB.out r hr).2 HB2.out.size)
      have HB2S := hid HB2.out.size
      clear hb2 HB1 HB2 C1 C2
      go_wp2_with fail
      refine (hc.out _).mono ?_
      rintro _ w3 ⟨rfl, hb3⟩
      generalize hg : w2.heap.size = g at *
      have HX3 := hid (HX.out.below hb3)
      have HS3 := hid (HS.out.below HX.out.1 hb3)
      have HO3 := hid (own_below HO.out hb3)
      have HBW3 := hid (HBW.out.trans (hb3.mono HBW.out.size))
      clear hg hb3 HX HS HO HBW hc
      cases hd1 : decide (0 < cmpC a b)
      · skip
        have hgx := HX3.out.1
        obtain ⟨⟨p0, p1, p2, p3, p4, p5, p6⟩, q0, q1, q2, q3, q4, q5, q6⟩ := HX3.out.get14
        have hsm := hid (fun w' => rspanmay_any ⟨a, b⟩ w' ⟨O1.out.2, O2.out.2⟩)
        cases hd2 : spanMay ⟨a, b⟩
        · rw [hd2] at hsm
          go_wp2_with fail
          refine (hsm.out _).mono ?_
          rintro _ w6 ⟨rfl, hb6⟩
          clear p0 p1 p2 p3 p4 p5 p6 q0 q1 q2 q3 q4 q5 q6 hgx
          have HO6 := hid (own_below HO3.out hb6)
          have HBW6 := hid (HBW3.out.trans (hb6.mono HBW3.out.size))
          clear hb6
          go_wp2_with fail
          go_roundw
          case rel => exact ⟨k, v, out, by go_num, rfl, by omega, ⟨HO6.out, HR.out.fit, by omega⟩, HG.out, HBR.out.trans (HBW6.out.mono hgw.out)⟩
          case measure => simp [intOf]
        · rw [hd2] at hsm
          go_wp2_with fail
          refine (hsm.out _).mono ?_
          rintro _ w6 ⟨rfl, hb6⟩
          clear p0 p1 p2 p3 p4 p5 p6 q0 q1 q2 q3 q4 q5 q6 hgx
          have HX6 := hid (HX3.out.below hb6)
          have HO6 := hid (own_below HO3.out hb6)
          have HBW6 := hid (HBW3.out.trans (hb6.mono HBW3.out.size))
          have hz6 := hid HBW6.out.size
          clear hb6
          obtain ⟨⟨p0, p1, p2, p3, p4, p5, p6⟩, q0, q1, q2, q3, q4, q5, q6⟩ := HX6.out.get14
          go_wp2_with (first | (at_builtin; refine wpList_app1g EKspans rfl (.tmp 48) (.tmp 50) rfl (SpanL.cells ⟨a, b⟩) HO6.out rfl rfl rfl (oneS1 _) (by omega) (by omega) (by have := hz6.out; have := hgw.out; omega) ?_; intro v' w7 h2 h3 h4; clear p0 p1 p2 p3 p4 p5 p6 q0 q1 q2 q3 q4 q5 q6))
          go_roundw
          case rel => exact ⟨k, v', out ++ [(⟨a, b⟩ : SpanL)], by go_num, rfl, by omega, ⟨OwnS.app h2, (fun t ht => by rw [List.mem_append, List.mem_singleton] at ht; rcases ht with ht | rfl; exact HR.out.fit t ht; exact ⟨O1.out.2, O2.out.2⟩), by simp; omega⟩, (fun t ht => by rw [List.mem_append, List.mem_singleton] at ht; rcases ht with ht | rfl; exact HG.out t ht; exact hd2), (HBR.out.trans (HBW6.out.mono hgw.out)).trans h3⟩
          case measure => simp [intOf]
      · have hf : ∀ j, w3.frozen? ⟨g, j, none⟩ = false := HS3.out
        have hgx := HX3.out.1
        obtain ⟨⟨p0, p1, p2, p3, p4, p5, p6⟩, q0, q1, q2, q3, q4, q5, q6⟩ := HX3.out.get14
        go_wp2_with fail
        rw [show ((((((((((((((w3.setCell ⟨g, 0, none⟩ (.int .i64 b.en)).setCell ⟨g, 1, none⟩ (.int .i64 b.v.maj)).setCell ⟨g, 2, none⟩ (.int .i64 b.v.min)).setCell ⟨g, 3, none⟩ (.int .i64 b.v.pat)).setCell ⟨g, 4, none⟩ (.string b.v.pre)).setCell ⟨g, 5, none⟩ (.string b.v.bld)).setCell ⟨g, 6, none⟩ (.bool b.aft)).setCell ⟨g, 7, none⟩ (.int .i64 a.en)).setCell ⟨g, 8, none⟩ (.int .i64 a.v.maj)).setCell ⟨g, 9, none⟩ (.int .i64 a.v.min)).setCell ⟨g, 10, none⟩ (.int .i64 a.v.pat)).setCell ⟨g, 11, none⟩ (.string a.v.pre)).setCell ⟨g, 12, none⟩ (.string a.v.bld)).setCell ⟨g, 13, none⟩ (.bool a.aft)) = (w3.setCells g 0 b.cells).setCells g 7 a.cells from rfl]
        have HX4 := hid ((HX3.out.setFr b).setTil a)
        have HO4 := hid (own_set (g := g) (o := 7) (vs := a.cells) (own_set (g := g) (o := 0) (vs := b.cells) HO3.out HOB2.out) HOB2.out)
        have HBW4 := hid ((HBW3.out.setCells HB2S.out b.cells 0).setCells HB2S.out a.cells 7)
        clear p0 p1 p2 p3 p4 p5 p6 q0 q1 q2 q3 q4 q5 q6 hf hgx HX3 HS3 HO3 HBW3
        generalize (w3.setCells g 0 b.cells).setCells g 7 a.cells = w4 at *
        have hgx := HX4.out.1
        obtain ⟨⟨p0, p1, p2, p3, p4, p5, p6⟩, q0, q1, q2, q3, q4, q5, q6⟩ := HX4.out.get14
        have hsm := hid (fun w' => rspanmay_any ⟨b, a⟩ w' ⟨O2.out.2, O1.out.2⟩)
        cases hd2 : spanMay ⟨b, a⟩
        · rw [hd2] at hsm
          go_wp2_with fail
          refine (hsm.out _).mono ?_
          rintro _ w6 ⟨rfl, hb6⟩
          clear p0 p1 p2 p3 p4 p5 p6 q0 q1 q2 q3 q4 q5 q6 hgx
          have HO6 := hid (own_below HO4.out hb6)
          have HBW6 := hid (HBW4.out.trans (hb6.mono HBW4.out.size))
          clear hb6
          go_wp2_with fail
          go_roundw
          case rel => exact ⟨k, v, out, by go_num, rfl, by omega, ⟨HO6.out, HR.out.fit, by omega⟩, HG.out, HBR.out.trans (HBW6.out.mono hgw.out)⟩
          case measure => simp [intOf]
        · rw [hd2] at hsm
          go_wp2_with fail
          refine (hsm.out _).mono ?_
          rintro _ w6 ⟨rfl, hb6⟩
          clear p0 p1 p2 p3 p4 p5 p6 q0 q1 q2 q3 q4 q5 q6 hgx
          have HX6 := hid (HX4.out.below hb6)
          have HO6 := hid (own_below HO4.out hb6)
          have HBW6 := hid (HBW4.out.trans (hb6.mono HBW4.out.size))
          have hz6 := hid HBW6.out.size
          clear hb6
          obtain ⟨⟨p0, p1, p2, p3, p4, p5, p6⟩, q0, q1, q2, q3, q4, q5, q6⟩ := HX6.out.get14
          go_wp2_with (first | (at_builtin; refine wpList_app1g EKspans rfl (.tmp 48) (.tmp 50) rfl (SpanL.cells ⟨b, a⟩) HO6.out rfl rfl rfl (oneS1 _) (by omega) (by omega) (by have := hz6.out; have := hgw.out; omega) ?_; intro v' w7 h2 h3 h4; clear p0 p1 p2 p3 p4 p5 p6 q0 q1 q2 q3 q4 q5 q6))
          go_roundw
          case rel => exact ⟨k, v', out ++ [(⟨b, a⟩ : SpanL)], by go_num, rfl, by omega, ⟨OwnS.app h2, (fun t ht => by rw [List.mem_append, List.mem_singleton] at ht; rcases ht with ht | rfl; exact HR.out.fit t ht; exact ⟨O2.out.2, O1.out.2⟩), by simp; omega⟩, (fun t ht => by rw [List.mem_append, List.mem_singleton] at ht; rcases ht with ht | rfl; exact HG.out t ht; exact hd2), (HBR.out.trans (HBW6.out.mono hgw.out)).trans h3⟩
          case measure => simp [intOf]

/-- a row that may be has come back in memory of its own -/
def VRowPost (w : World) (base : Nat) (e : Ending) (w' : World) : Prop := ∃ v l, e = .returned v ∧ OwnS w' base v l ∧ fitL l ∧ Rw.Val l ∧ l.length ≤ 9 ∧ Below base w w'
theorem row_any (base : Nat) (A : Option Addr) (cap : Nat) (zs : List Int) (i : Int) (w : World) (h : IntsAt w A zs) (hi : 0 ≤ i) (hi2 : i ≤ 1000000) (hln : zs.length ≤ 9223372036854775807) (hbase : base ≤ w.heap.size) : Calls Try.prog 32 #[.slice A zs.length cap, .int .i64 i] w (VRowPost w base) := by
  have CS := hid (spans_any base 4 A cap zs i w h hi hi2 (by omega) hln hbase)
  clear h
  generalize zs.length = n at *
  go_enter Try.func32, Try.ntmps32
  go_wp2_with fail
  refine CS.out.mono ?_
  rintro _ w1 ⟨v, l, rfl, h1, h2, h3, h4, h5⟩
  obtain ⟨A1, c1, rfl, h6⟩ := h1.spans
  have CM := hid (rmake_any base A1 c1 l w1 h6 h2.toL (by omega) (Nat.le_trans hbase h5.size))
  have HSP : Hid (∀ s, s ∈ l → Rw.lt s.fr s.til) := hid fun s hs => Rw.spanMay_iff.1 (h3 s hs)
  have HG := hid (rmakeL_good h2.toL)
  have HB := hid h5
  clear h1 h2 h3 h5 h6
  go_wp2_with fail
  refine CM.out.mono ?_
  rintro _ w2 ⟨v2, rfl, k1, k2, k3⟩
  go_wp2_with fail
  go_ret
  exact ⟨v2, _, rfl, k1, HG.out.1, (Rw.make_spec HSP.out).2.1, by have := HG.out.2; omega, HB.out.trans k2⟩
set_option maxRecDepth 100000 in
theorem copyrow_any (base : Nat) (A : Option Addr) (cap : Nat) (l : List SpanL) (w : World) (h : Spans w A l) (hln : l.length ≤ 40000) (hbase : base ≤ w.heap.size) : Calls Try.prog 33 #[.slice A l.length cap] w (RowPost w base l) := by
  have HS := hid h.src
  have hM : maxLen = 9223372036854775807 := rfl
  clear h
  generalize hn : l.length = n at *
  have HN := hid hn
  clear hn
  go_enter Try.func33, Try.ntmps33
  go_wp2_with (first | (at_builtin; refine wpList_appx EKspans rfl (.const (.slice none 0 0)) (.tmp 3) rfl rfl (World.ownsRow_nil w base _ _) rfl HS.out (oneS l) (by omega) (by omega) hbase ?_; intro v' w' h2 h3 _))
  go_ret
  refine ⟨v', rfl, ?_, h3, h3.size⟩
  rw [OwnS, HN.out]
  simpa using h2
end Go.Proofs.Ytodicnjoimoiiaa
