/- The walks of the laws of rows, call by call. -/
import Derived.Test.YtodicnjoimoiiaaAwake
import Derived.Test.YtodicnjoimoiiaaLawS
import Derived.Test.YtodicnjoimoiiaaRowThm
import Derived.Test.YtodicnjoimoiiaaFew
namespace Go.Proofs.Ytodicnjoimoiiaa
open Go.RowKit Go.Lib
set_option linter.unusedVariables false
set_option linter.unusedSimpArgs false

set_option maxRecDepth 100000 in
set_option maxHeartbeats 2000000 in
theorem raw_no1 (Al : Option Addr) (cl : Nat) (l : List SpanL) (v : Ver) (w : World) (Sl : Spans w Al l) (nl : l.length ≤ 9223372036854775807) (Ql : fewR 12 l = false) : Calls Try.prog 3 #[.slice Al l.length cl, v.val] w (BoolPost w true) := by
  have HBN := hid (below_new w (.cells v.cells.toArray 24))
  have HSl := hid (Sl.below HBN.out)
  have HXv := hid (Box.new w v.cells 24)
  clear Sl
  go_enter Try.func3, Try.ntmps3
  go_wp2_with fail
  refine (few_any Al cl l _ HSl.out (by omega)).mono ?_
  rintro _ w1 ⟨rfl, hw1⟩
  rw [Ql]
  obtain ⟨t0, t1, t2, t3, t4⟩ := HXv.out.get5
  have hgx := HXv.out.1
  rw [hw1] at HSl HXv HBN t0 t1 t2 t3 t4 hgx
  clear hw1
  go_wp2_with fail
  refine (awake_any _).mono ?_
  rintro _ w2 ⟨rfl, hb⟩
  go_wp2_with fail
  go_ret
  exact ⟨rfl, below_tr HBN.out hb⟩

set_option maxRecDepth 100000 in
set_option maxHeartbeats 2000000 in
theorem raw_no2 (Al : Option Addr) (cl : Nat) (l : List SpanL) (v : Ver) (w : World) (Sl : Spans w Al l) (nl : l.length ≤ 9223372036854775807) (Ql : fewR 12 l = true) (hd : decide (60 < (v.pre.size : Int)) = true) : Calls Try.prog 3 #[.slice Al l.length cl, v.val] w (BoolPost w true) := by
  have HBN := hid (below_new w (.cells v.cells.toArray 24))
  have HSl := hid (Sl.below HBN.out)
  have HXv := hid (Box.new w v.cells 24)
  clear Sl
  go_enter Try.func3, Try.ntmps3
  go_wp2_with fail
  refine (few_any Al cl l _ HSl.out (by omega)).mono ?_
  rintro _ w1 ⟨rfl, hw1⟩
  rw [Ql]
  obtain ⟨t0, t1, t2, t3, t4⟩ := HXv.out.get5
  have hgx := HXv.out.1
  rw [hw1] at HSl HXv HBN t0 t1 t2 t3 t4 hgx
  clear hw1
  go_wp2_with fail
  refine (awake_any _).mono ?_
  rintro _ w2 ⟨rfl, hb⟩
  go_wp2_with fail
  go_ret
  exact ⟨rfl, below_tr HBN.out hb⟩

set_option maxRecDepth 100000 in
set_option maxHeartbeats 2000000 in
theorem raw_no3 (Al : Option Addr) (cl : Nat) (l : List SpanL) (v : Ver) (w : World) (Sl : Spans w Al l) (nl : l.length ≤ 9223372036854775807) (Ql : fewR 12 l = true) (hd : decide (60 < (v.pre.size : Int)) = false) (hd2 : decide (60 < (v.bld.size : Int)) = true) : Calls Try.prog 3 #[.slice Al l.length cl, v.val] w (BoolPost w true) := by
  have HBN := hid (below_new w (.cells v.cells.toArray 24))
  have HSl := hid (Sl.below HBN.out)
  have HXv := hid (Box.new w v.cells 24)
  clear Sl
  go_enter Try.func3, Try.ntmps3
  go_wp2_with fail
  refine (few_any Al cl l _ HSl.out (by omega)).mono ?_
  rintro _ w1 ⟨rfl, hw1⟩
  rw [Ql]
  obtain ⟨t0, t1, t2, t3, t4⟩ := HXv.out.get5
  have hgx := HXv.out.1
  rw [hw1] at HSl HXv HBN t0 t1 t2 t3 t4 hgx
  clear hw1
  go_wp2_with fail
  refine (awake_any _).mono ?_
  rintro _ w2 ⟨rfl, hb⟩
  go_wp2_with fail
  go_ret
  exact ⟨rfl, below_tr HBN.out hb⟩

set_option maxRecDepth 100000 in
set_option maxHeartbeats 2000000 in
theorem raw_yes (Al : Option Addr) (cl : Nat) (l : List SpanL) (v : Ver) (w : World) (Sl : Spans w Al l) (nl : l.length ≤ 9223372036854775807) (Ql : fewR 12 l = true) (hd : decide (60 < (v.pre.size : Int)) = false) (hd2 : decide (60 < (v.bld.size : Int)) = false) : Calls Try.prog 3 #[.slice Al l.length cl, v.val] w (BoolPost w true) := by
  have HBN := hid (below_new w (.cells v.cells.toArray 24))
  have HSl := hid (Sl.below HBN.out)
  have HXv := hid (Box.new w v.cells 24)
  clear Sl
  have hf := few_fit Ql
  have HF := hid hf.2
  have hn := hf.1
  have HVF : Hid v.fit := hid (shortV_fit (by simp [shortV, hd, hd2]))
  clear hf
  go_enter Try.func3, Try.ntmps3
  go_wp2_with fail
  refine (few_any Al cl l _ HSl.out (by omega)).mono ?_
  rintro _ w1 ⟨rfl, hw1⟩
  rw [Ql]
  obtain ⟨t0, t1, t2, t3, t4⟩ := HXv.out.get5
  have hgx := HXv.out.1
  rw [hw1] at HSl HXv HBN t0 t1 t2 t3 t4 hgx
  clear hw1
  go_wp2_with fail
  refine (make_any _ Al cl l _ HSl.out HF.out (by omega) (Nat.le_refl _)).mono ?_
  rintro _ w2 ⟨v2, rfl, o2, b2, _⟩
  obtain ⟨A2, c2, rfl, S2⟩ := o2.spans
  have HSl2 := hid (HSl.out.below b2)
  have HXv2 := hid (HXv.out.below b2)
  have HB2 := hid (below_tr HBN.out b2)
  clear o2 b2 t0 t1 t2 t3 t4 hgx HSl HXv
  go_wp2_with fail
  refine (rmake_any _ Al cl l _ HSl2.out HF.out (by omega) (Nat.le_refl _)).mono ?_
  rintro _ w3 ⟨v3, rfl, o3, b3, _⟩
  obtain ⟨A3, c3, rfl, S3⟩ := o3.spans
  have HSl3 := hid (HSl2.out.below b3)
  have HXv3 := hid (HXv2.out.below b3)
  have HB3 := hid (below_tr HB2.out b3)
  have HS2 := hid (S2.below b3)
  have HS3 := hid S3
  have HG := hid (rmakeL_good HF.out).2
  clear o3 b3 HSl2 HXv2 S2 S3
  generalize hrr : rmakeL l = rr at *
  clear hrr
  have e1 : (mayR l == mayR l) = true := by simp
  have e2 : (hasR l v == hasR l v) = true := by simp
  have e3 : (rr.2 == rr.2) = true := by simp
  have h1 := hid (fun z : BW w3 => rowmay_any Al cl l z.v (HSl3.out.below z.ok) HF.out (by omega))
  have h2 := hid (fun z : BW w3 => rrowmay_any Al cl l z.v (HSl3.out.below z.ok) HF.out (by omega))
  have h3 := hid (fun z : BW w3 => rowhas_any Al cl l v z.v (HSl3.out.below z.ok) HF.out (by omega) HVF.out)
  have h4 := hid (fun z : BW w3 => rrowhas_any Al cl l v z.v (HSl3.out.below z.ok) HF.out (by omega) HVF.out)
  have h5 := hid (fun z : BW w3 => (Rw.same_refl (a := rr.1)) ▸ same_any A2 A3 c2 c3 rr.1 rr.1 z.v (HS2.out.below z.ok) (HS3.out.below z.ok) (by have := HG.out; omega) (by have := HG.out; omega))
  generalize mayR l = mm at *
  generalize hasR l v = hh at *
  obtain ⟨t0, t1, t2, t3, t4⟩ := HXv3.out.get5
  have hgx := HXv3.out.1
  go_wp2_with fail
  have hbw := bw_cell
  refine wp_region_below (by kernel_rfl) (by kernel_rfl) ?_
  repeat (go_big_quiet_step (first | (go_at_call 12; exact bw_bool (awake_any _)) | (go_at_call 15; exact bw_bool (h1.out _)) | (go_at_call 16; exact bw_bool (h2.out _)) | (go_at_call 17; exact bw_bool (h3.out _)) | (go_at_call 18; exact bw_bool (h4.out _)) | (go_at_call 19; exact bw_bool (h5.out _))))
  refine wpQuiet_nil ?_
  rintro _ ⟨z, rfl⟩
  clear hbw
  go_wp2_with fail
  go_ret
  exact ⟨rfl, below_tr HB3.out z.ok⟩

theorem walk_RowRaw (Al : Option Addr) (cl : Nat) (l : List SpanL) (v : Ver) (w : World) (Sl : Spans w Al l) (nl : l.length ≤ 9223372036854775807) : Calls Try.prog 3 #[.slice Al l.length cl, v.val] w (BoolPost w true) := by
  cases Ql : fewR 12 l
  · exact raw_no1 Al cl l v w Sl nl Ql
  · cases hd : decide (60 < (v.pre.size : Int))
    · cases hd2 : decide (60 < (v.bld.size : Int))
      · exact raw_yes Al cl l v w Sl nl Ql hd hd2
      · exact raw_no3 Al cl l v w Sl nl Ql hd hd2
    · exact raw_no2 Al cl l v w Sl nl Ql hd
end Go.Proofs.Ytodicnjoimoiiaa
