/- The walks of the laws of rows, call by call. -/
import Derived.Test.YtodicnjoimoiiaaAwake
import Derived.Test.YtodicnjoimoiiaaLawS
import Derived.Test.YtodicnjoimoiiaaRowThm
import Derived.IntWalk
namespace Go.Proofs.Ytodicnjoimoiiaa
open Go.RowKit Go.Lib
set_option linter.unusedVariables false
set_option linter.unusedSimpArgs false

theorem any_take {l : List SpanL} {f : SpanL → Bool} {k : Nat} (h : k < l.length) : (l.take (k + 1)).any f = ((l.take k).any f || f (nth l k)) := by
  rw [Rw.take_nth h, List.any_append]; simp
theorem sub_may {l t : List SpanL} (hl : allMay l) (ht : ∀ s, s ∈ t → s ∈ l) : ∀ s, s ∈ t ++ l → Rw.lt s.fr s.til := fun s hs => by
  rcases List.mem_append.1 hs with h | h
  · exact Rw.spanMay_iff.1 (hl s (ht s h))
  · exact Rw.spanMay_iff.1 (hl s h)
theorem make_has {l : List SpanL} {v : Ver} (hl : allMay l) (hv : mayV v = true) : hasR (rmakeL l).1 v = l.any fun s => holdsS s v := by
  have h0 : ∀ s, s ∈ l → Rw.lt s.fr s.til := fun s hs => Rw.spanMay_iff.1 (hl s hs)
  have h1 := (Rw.make_spec h0).2
  rw [Bool.eq_iff_iff, Rw.has_iff h1.1 hv, h1.2, Rw.any_holds h0 hv]
/-- so many spans of s have been turned -/
structure Turned (s t : List SpanL) (k : Nat) : Prop where
  mem : ∀ x, x ∈ t → x ∈ s
  len : t.length ≤ k
theorem make_congr2 {s t : List SpanL} (h : ∀ x, x ∈ t → x ∈ s) : rmakeL (t ++ s) = rmakeL s := Rw.make_congr fun x => by
  rw [List.mem_append]
  exact ⟨fun k => k.elim (h x) id, .inr⟩
theorem make_one {s : List SpanL} {v : Ver} (hm : allMay s) (hf : fitL s) (hv : mayV v = true) : ∃ L, rmakeL s = (L, true) ∧ Rw.Val L ∧ hasR L v = (s.any fun x => holdsS x v) ∧ fitL L ∧ L.length ≤ 1 + 2 * s.length := by
  have h1 := Rw.make_spec (l := s) fun x hx => Rw.spanMay_iff.1 (hm x hx)
  exact ⟨_, Prod.ext rfl h1.1, h1.2.1, make_has hm hv, rmakeL_good hf⟩
theorem sub_fit {s t : List SpanL} (hf : fitL s) (h : ∀ x, x ∈ t → x ∈ s) : fitL t := fun i hi => by
  rw [nth_lt hi]; exact hf.toAll _ (h _ (List.getElem_mem hi))
theorem own_spans {w : World} {base : Nat} {v : Value} {l : List SpanL} (h : OwnS w base v l) : ∃ A c, v = .slice A l.length c ∧ Spans w A l ∧ ∀ ad, A = some ad → base ≤ ad.block := by
  obtain ⟨A, c, e, hs⟩ := h.spans
  refine ⟨A, c, e, hs, fun ad hA => ?_⟩
  rcases h.form with ⟨h1, _⟩ | ⟨g, c', h1, h2, _⟩
  · rw [h1] at e; injection e with e; rw [hA] at e; cases e
  · rw [h1] at e; injection e with e; rw [hA] at e; injection e with e; rw [← e]; exact h2
theorem Spans.grown {w w' : World} {A : Option Addr} {l : List SpanL} {row : Option Nat} (h : Spans w A l) (hg : w.grownBy w' row) (hne : ∀ ad, A = some ad → some ad.block ≠ row) : Spans w' A l := by
  rcases h with h | ⟨b, off, rfl, hlt, hc⟩
  · exact .inl h
  · exact .inr ⟨b, off, rfl, Nat.lt_of_lt_of_le hlt hg.size, fun i hi j u hj => (World.cell?_of_block (a := ⟨b, _, none⟩) (hg.block b hlt (hne _ rfl))).trans (hc i hi j u hj)⟩
theorem nth_mem {l : List SpanL} {i : Nat} (h : i < l.length) : nth l i ∈ l := by rw [nth_lt h]; exact List.getElem_mem h

set_option maxRecDepth 100000 in
set_option maxHeartbeats 2000000 in
theorem walk_RowMakes (A0 : Option Addr) (c0 : Nat) (z0 : List Int) (at_ : Int) (w : World) (h0 : IntsAt w A0 z0) (l0 : z0.length ≤ 9223372036854775807) (hat : (Lit.int .i64 at_).wf = true) : Calls Try.prog 4 #[.slice A0 z0.length c0, .int .i64 at_] w (BoolPost w true) := by
  have HI0 := hid h0
  have HL0 := hid l0
  have HB : Hid (Below w.heap.size w w) := hid (Below.refl _ _)
  clear h0 l0
  have ha := tmod_bd at_ 100 (by omega)
  clear hat
  obtain ⟨ha1, ha2⟩ := ha
  have hM : maxLen = 9223372036854775807 := rfl
  go_enter Try.func4, Try.ntmps4
  go_wp2_with fail
  refine (spans_any w.heap.size 5 A0 c0 z0 0 w HI0.out (by omega) (by omega) (by omega) HL0.out (Nat.le_refl _)).mono ?_
  rintro _ w1 ⟨v, s, rfl, o, Fs, Ms, ns, hb⟩
  obtain ⟨As, cs, rfl, Ss⟩ := o.spans
  have HI0 := hid (HI0.out.below hb)
  have HB := hid (below_tr HB.out hb)
  have HSs := hid Ss
  have HFs := hid Fs.toL
  have HMs := hid Ms
  clear o Ss Fs Ms hb
  go_wp2_with fail
  refine (version_any A0 c0 z0 61 w1 HI0.out (by omega) (by omega) HL0.out).mono ?_
  rintro _ w2 ⟨rfl, hb⟩
  have HOKv := hid (versionL_ok z0 61)
  generalize versionL z0 61 = v at *
  have HSs := hid (HSs.out.below hb)
  have HI0 := hid (HI0.out.below hb)
  have HB := hid (below_tr HB.out hb)
  clear hb
  go_wp2_with fail
  refine wp_name ?_
  intro w3 hwn
  have hb : Below w2.heap.size w2 w3 := by rw [hwn]; exact below_new _ _
  have HXv : Hid (Box w3 w2.heap.size v.cells) := hid (by rw [hwn]; exact Box.new _ v.cells _)
  have HSs := hid (HSs.out.below hb)
  have HI0 := hid (HI0.out.below hb)
  have HB := hid (below_tr HB.out hb)
  clear hb hwn
  have hbox := hid HXv.out.1
  generalize hbx : w2.heap.size = bx at *
  clear hbx
  go_wp2_with fail
  go_loopw [7, 8, 9] (fun tv hv i wr => ∃ (k : Nat) (t : List SpanL) (tx : Value), i = .int .i64 k ∧ tx = tv ∧ hv = .bool ((s.take k).any fun x => holdsS x v) ∧ k ≤ s.length ∧ Hid (OwnS wr w3.heap.size tx t) ∧ Hid (Turned s t k) ∧ Below w3.heap.size w3 wr) (fun _ _ i _ => s.length - (intOf i).toNat)
  case atStart => exact ⟨0, [], _, rfl, rfl, rfl, Nat.zero_le _, OwnS.nil _ _, ⟨(fun x hx => by cases hx), Nat.le_refl _⟩, Below.refl _ _⟩
  case round =>
    obtain ⟨k, t, tv, rfl, rfl, rfl, hk, HO, HT, hbr⟩ := hrel
    have HBR := hid hbr
    have hgw := hid hbr.size
    have HSr := hid (HSs.out.below hbr)
    have HXr := hid (HXv.out.below hbr)
    have HTL := HT.out.len
    by_cases hlt : k < s.length
    · have HAT := hid (any_take (f := fun x => holdsS x v) hlt)
      have i0 : (0 : Int) ≤ (k : Int) := by omega
      have i1 : (k : Int) < (s.length : Int) := by omega
      have hpl := placeI_bd (at_.tmod 100 + (s.length : Int) - (k : Int)) (s.length : Int) (by omega)
      have HPL := hid (fun w' => place_any (at_.tmod 100 + (s.length : Int) - (k : Int)) (s.length : Int) w' (by omega) (by omega))
      generalize placeI (at_.tmod 100 + (s.length : Int) - (k : Int)) (s.length : Int) = q at *
      obtain ⟨hq1, hq2⟩ := hpl
      have hq3 : q.toNat < s.length := by omega
      have HQM := hid (nth_mem hq3)
      have HQF := hid (HFs.out _ hq3)
      have HKF := hid (HFs.out k hlt)
      obtain ⟨b, off, rfl, hbl, ⟨x0, x1, x2, x3, x4, x5, x6⟩, y0, y1, y2, y3, y4, y5, y6⟩ := HSr.out.at_ (k := q.toNat) hq3
      have HCK := hid (fun w' (h : Below w3.heap.size w3 w') => (HSs.out.below h).lay (k := k) hlt)
      generalize nth s q.toNat = sq at *
      generalize nth s k = sk at *
      generalize hany : (s.take k).any (fun x => holdsS x v) = has at *
      have HO1 := hid (show wr.ownsRow w3.heap.size 37 14 tv t.length (cellsL t) from HO.out)
      clear hbr hany
      go_wp2_with (first
        | (go_at_call 22; refine (HPL.out _).mono ?_; rintro _ _ ⟨rfl, rfl⟩)
        | (at_builtin; refine wpList_app1g EKspans rfl (.tmp 24) (.tmp 38) rfl sq.cells HO1.out rfl rfl rfl (oneS1 _) (by omega) (by omega) hgw.out ?_; intro v' w7 h2 h3 h4; clear x0 x1 x2 x3 x4 x5 x6 y0 y1 y2 y3 y4 y5 y6))
      have HB7 := hid (HBR.out.trans h3)
      have HO7 := hid (OwnS.app h2)
      have HX7 := hid (HXv.out.below HB7.out)
      obtain ⟨hbl7, ⟨x0, x1, x2, x3, x4, x5, x6⟩, y0, y1, y2, y3, y4, y5, y6⟩ := HCK.out _ HB7.out
      obtain ⟨t0, t1, t2, t3, t4⟩ := HX7.out.get5
      have hgx := HX7.out.1
      have hh := hid (fun z : BW w7 => rholds_any sk v z.v HKF.out HOKv.out.2)
      cases has
      · skip
        have hbw := bw_cell
        refine wp_region_below (by kernel_rfl) (by kernel_rfl) ?_
        repeat (go_big_quiet_step ((go_at_call 23; exact bw_bool (hh.out _))))
        refine wpQuiet_nil ?_
        rintro _ ⟨z, rfl⟩
        have hz := z.ok
        generalize z.v = w8 at hz ⊢
        clear z hbw x0 x1 x2 x3 x4 x5 x6 y0 y1 y2 y3 y4 y5 y6 t0 t1 t2 t3 t4 hgx hbl7
        go_wp2_with fail
        go_roundw
        case rel => exact ⟨k + 1, t ++ [sq], v', by go_num, rfl, by rw [HAT.out]; simp, by omega, HO7.out.below hz, ⟨(fun x hx => by rw [List.mem_append, List.mem_singleton] at hx; rcases hx with hx | rfl; exact HT.out.mem x hx; exact HQM.out), by simp; omega⟩, HB7.out.trans (hz.mono HB7.out.size)⟩
        case measure => simp [intOf]; omega
      · skip
        have hbw := bw_cell
        refine wp_region_below (by kernel_rfl) (by kernel_rfl) ?_
        repeat (go_big_quiet_step (fail))
        refine wpQuiet_nil ?_
        rintro _ ⟨z, rfl⟩
        have hz := z.ok
        generalize z.v = w8 at hz ⊢
        clear z hbw x0 x1 x2 x3 x4 x5 x6 y0 y1 y2 y3 y4 y5 y6 t0 t1 t2 t3 t4 hgx hbl7
        go_wp2_with fail
        go_roundw
        case rel => exact ⟨k + 1, t ++ [sq], v', by go_num, rfl, by rw [HAT.out]; simp, by omega, HO7.out.below hz, ⟨(fun x hx => by rw [List.mem_append, List.mem_singleton] at hx; rcases hx with hx | rfl; exact HT.out.mem x hx; exact HQM.out), by simp; omega⟩, HB7.out.trans (hz.mono HB7.out.size)⟩
        case measure => simp [intOf]; omega
    · obtain rfl : k = s.length := by omega
      have hd : decide ((s.length : Int) < (s.length : Int)) = false := by simp
      have HAL : Hid ((s.take s.length).any (fun x => holdsS x v) = s.any fun x => holdsS x v) := hid (by rw [List.take_length])
      have HEQ := hid (make_congr2 HT.out.mem)
      have HTF : Hid (fitL t) := hid (sub_fit HFs.out HT.out.mem)
      obtain ⟨x, hx1, hx2, hx3, hx4, nx⟩ := make_one HMs.out HFs.out HOKv.out.1
      rw [hx1] at HEQ
      rw [HAL.out]
      generalize (s.any fun x => holdsS x v) = has at *
      have HVx := hid hx2
      have HHx := hid hx3
      have HFx := hid hx4
      have HO1 := hid (show wr.ownsRow w3.heap.size 37 14 tv t.length (cellsL t) from HO.out)
      have HOB := hid (own_bound HO.out)
      have HCAT := hid (fun (w' : World) (base : Nat) (v : Value) (h : w'.ownsRow base 37 14 v (t.length + s.length) (cellsL t ++ cellsL s)) => (OwnS.cat h).spans)
      have HM1 := hid (make_any wr.heap.size As cs s wr HSr.out HFs.out (by omega) (Nat.le_refl _))
      rw [hx1] at HM1
      clear hbr hx1 hx2 hx3 hx4 HAL HT HO
      go_wp2_with fail
      refine HM1.out.mono ?_
      rintro _ w8 ⟨v8, rfl, o8, b8, _⟩
      obtain ⟨Ax, cx, rfl, Sx, HAX⟩ := own_spans o8
      have HO8 := hid (own_below HO1.out b8)
      have HSRC := hid (HSr.out.below b8).src
      have HX8 := hid (HXr.out.below b8)
      have HR8 := hid Sx
      have HAX := hid HAX
      have HB8 := hid (HBR.out.trans (b8.mono hgw.out))
      have hz8 := hid b8.size
      clear o8 b8 Sx HSr HXr HM1 HO1
      go_wp2_with (first
        | (at_builtin; refine wpList_appx EKspans rfl (.tmp 55) (.tmp 56) rfl rfl HO8.out rfl HSRC.out (oneS s) (by omega) (by omega) (by have := hgw.out; have := hz8.out; omega) ?_; intro v9 w9 h2 h3 h4))
      obtain ⟨A9, c9, rfl, S9⟩ := HCAT.out _ _ _ h2
      have HSx := hid (HR8.out.grown h4 fun ad e k => by have h5 := HAX.out ad e; have h6 := (HOB.out _ k.symm).2; omega)
      have HB9 := hid (HB8.out.trans h3)
      have HM2 := hid (make_any w9.heap.size A9 c9 (t ++ s) w9 S9 (HTF.out.app HFs.out) (by rw [List.length_append]; omega) (Nat.le_refl _))
      rw [HEQ.out] at HM2
      rw [List.length_append] at HM2
      have HXv := hid (HXv.out.below HB9.out)
      have HB := hid (below_tr HB.out HB9.out)
      clear h2 h3 h4 S9 HR8 HX8 HB8 HB9 HO8 HSRC HCAT
      go_wp2_with fail
      rw [List.length_append]
      refine HM2.out.mono ?_
      rintro _ w10 ⟨v10, rfl, o10, b10, _⟩
      obtain ⟨Ay, cy, rfl, Sy⟩ := o10.spans
      have HSx := hid (HSx.out.below b10)
      have HSy := hid Sy
      have HXv := hid (HXv.out.below b10)
      have HB := hid (below_tr HB.out b10)
      clear o10 b10 Sy HM2
      go_wp2_with fail
      refine (awake_any w10).mono ?_
      rintro _ w11 ⟨rfl, hb⟩
      have HSx := hid (HSx.out.below hb)
      have HSy := hid (HSy.out.below hb)
      have HXv := hid (HXv.out.below hb)
      have HB := hid (below_tr HB.out hb)
      clear hb
      go_wp2_with fail
      have hq : sameR x x = true := Rw.same_refl
      refine (same_any Ax Ay cx cy x x w11 HSx.out HSy.out (by omega) (by omega)).mono ?_
      rintro _ w12 ⟨rfl, hb⟩
      rw [hq]
      have HSx := hid (HSx.out.below hb)
      have HSy := hid (HSy.out.below hb)
      have HXv := hid (HXv.out.below hb)
      have HB := hid (below_tr HB.out hb)
      clear hb hq
      go_wp2_with fail
      have hq : mayR x = true := Rw.mayR_val.2 HVx.out
      refine (rowmay_any Ax cx x w12 HSx.out HFx.out (by omega)).mono ?_
      rintro _ w13 ⟨rfl, hb⟩
      rw [hq]
      have HSx := hid (HSx.out.below hb)
      have HSy := hid (HSy.out.below hb)
      have HXv := hid (HXv.out.below hb)
      have HB := hid (below_tr HB.out hb)
      clear hb hq
      obtain ⟨t0, t1, t2, t3, t4⟩ := HXv.out.get5
      have hgx := HXv.out.1
      go_wp2_with fail
      have hq : hasR x v = has := HHx.out
      refine (rowhas_any Ax cx x v w13 HSx.out HFx.out (by omega) HOKv.out.2).mono ?_
      rintro _ w14 ⟨rfl, hb⟩
      rw [hq]
      have HSx := hid (HSx.out.below hb)
      have HSy := hid (HSy.out.below hb)
      have HXv := hid (HXv.out.below hb)
      have HB := hid (below_tr HB.out hb)
      clear hb hq
      clear t0 t1 t2 t3 t4 hgx
      go_wp2_with fail
      go_ret
      exact ⟨by simp, HB.out⟩
end Go.Proofs.Ytodicnjoimoiiaa
