/- The reference's texts: linchpinref8.span. -/
import Derived.Test.YtjceaniffooohaaGreatDoorTx
import Derived.Test.YtjceaniffooohaaGreatDoorTk
namespace Go.Proofs.YtjceaniffooohaaGreatDoor
open Go.RowKit Go.Lib
open Rw
set_option linter.unusedVariables false
set_option linter.unusedSimpArgs false

theorem size_88 {t : ByteArray} {v : Ver} (h : bts t = printV v) : t.size ≤ 88 := by rw [← bts_len, h]; exact printV_88 v
theorem app_ne {a b : ByteArray} (h : 0 < a.size) : (a ++ b).toList.isEmpty = false ∧ ¬ (a ++ b).toList = [] := by
  refine ne_of_size ?_
  rw [ByteArray.size_append]; omega
theorem rspan_ff (v1 v2 : Ver) (f1 f2 : Bool) (w : World) (h1 : v1.fit) (h2 : v2.fit) : Calls Tryz.prog 122 #[SpanL.val ⟨⟨0, v1, f1⟩, ⟨0, v2, f2⟩⟩] w (StrPost w (spanT ⟨⟨0, v1, f1⟩, ⟨0, v2, f2⟩⟩)) := by
  have HP1 := hid (fun u => rvprint_any v1 u h1)
  have HP2 := hid (fun u => rvprint_any v2 u h2)
  have HX := hid (Box.new w (SpanL.cells ⟨⟨0, v1, f1⟩, ⟨0, v2, f2⟩⟩) 83)
  have HB := hid (below_new w (.cells (SpanL.cells ⟨⟨0, v1, f1⟩, ⟨0, v2, f2⟩⟩).toArray 83))
  cases f1 <;> cases f2
  all_goals
    go_enter Tryz.func122, Tryz.ntmps122
    go_wp2_with fail
    refine (HP1.out _).mono ?_
    rintro _ u1 ⟨t1, rfl, ht1, k1⟩
    have HX1 := hid (HX.out.below k1)
    obtain ⟨⟨x0, x1, x2, x3, x4, x5, x6⟩, x7, x8, x9, x10, x11, x12, x13⟩ := HX1.out.get14
    have HT1 := hid ht1
    have s1 := size_88 ht1
    have n1 := (app_ne (a := ⟨#[62]⟩) (b := t1) (by decide)).1
    have n2 := (app_ne (a := ⟨#[62, 61]⟩) (b := t1) (by decide)).1
    have n3 := (app_ne (a := ⟨#[62]⟩) (b := t1) (by decide)).2
    have n4 := (app_ne (a := ⟨#[62, 61]⟩) (b := t1) (by decide)).2
    clear ht1
    go_wp2_with fail
    refine (HP2.out _).mono ?_
    rintro _ u2 ⟨t2, rfl, ht2, k2⟩
    have HT2 := hid ht2
    have s2 := size_88 ht2
    clear ht2
    go_wp2_with fail
    go_ret
    refine ⟨_, rfl, ?_, below_tr HB.out (below_tr k1 k2)⟩
    simp only [bts_append, HT1.out, HT2.out]
    simp [spanT, loT, hiT, bts, bts_data]
theorem rspan_fe (v1 v2 : Ver) (e2 : Int) (f1 f2 : Bool) (w : World) (h1 : v1.fit) (he : ¬ e2 = 0) : Calls Tryz.prog 122 #[SpanL.val ⟨⟨0, v1, f1⟩, ⟨e2, v2, f2⟩⟩] w (StrPost w (spanT ⟨⟨0, v1, f1⟩, ⟨e2, v2, f2⟩⟩)) := by
  have HP1 := hid (fun u => rvprint_any v1 u h1)
  have HX := hid (Box.new w (SpanL.cells ⟨⟨0, v1, f1⟩, ⟨e2, v2, f2⟩⟩) 83)
  have HB := hid (below_new w (.cells (SpanL.cells ⟨⟨0, v1, f1⟩, ⟨e2, v2, f2⟩⟩).toArray 83))
  cases f1
  all_goals
    go_enter Tryz.func122, Tryz.ntmps122
    go_wp2_with fail
    refine (HP1.out _).mono ?_
    rintro _ u1 ⟨t1, rfl, ht1, k1⟩
    have HX1 := hid (HX.out.below k1)
    obtain ⟨⟨x0, x1, x2, x3, x4, x5, x6⟩, x7, x8, x9, x10, x11, x12, x13⟩ := HX1.out.get14
    have HT1 := hid ht1
    have s1 := size_88 ht1
    have n1 := (app_ne (a := ⟨#[62]⟩) (b := t1) (by decide)).1
    have n2 := (app_ne (a := ⟨#[62, 61]⟩) (b := t1) (by decide)).1
    have n3 := (app_ne (a := ⟨#[62]⟩) (b := t1) (by decide)).2
    have n4 := (app_ne (a := ⟨#[62, 61]⟩) (b := t1) (by decide)).2
    clear ht1
    go_wp2_with fail
    go_ret
    refine ⟨_, rfl, ?_, below_tr HB.out k1⟩
    simp only [bts_append, HT1.out]
    simp [spanT, loT, hiT, bts, bts_data, he]
theorem rspan_ef (v1 v2 : Ver) (e1 : Int) (f1 f2 : Bool) (w : World) (h2 : v2.fit) (he : ¬ e1 = 0) : Calls Tryz.prog 122 #[SpanL.val ⟨⟨e1, v1, f1⟩, ⟨0, v2, f2⟩⟩] w (StrPost w (spanT ⟨⟨e1, v1, f1⟩, ⟨0, v2, f2⟩⟩)) := by
  have HP2 := hid (fun u => rvprint_any v2 u h2)
  have HB := hid (below_new w (.cells (SpanL.cells ⟨⟨e1, v1, f1⟩, ⟨0, v2, f2⟩⟩).toArray 83))
  cases f2
  all_goals
    go_enter Tryz.func122, Tryz.ntmps122
    go_wp2_with fail
    refine (HP2.out _).mono ?_
    rintro _ u1 ⟨t1, rfl, ht1, k1⟩
    have HT1 := hid ht1
    have s1 := size_88 ht1
    clear ht1
    go_wp2_with fail
    go_ret
    refine ⟨_, rfl, ?_, below_tr HB.out k1⟩
    simp only [bts_append, HT1.out]
    simp [spanT, loT, hiT, bts, bts_data, he]
theorem rspan_ee (v1 v2 : Ver) (e1 e2 : Int) (f1 f2 : Bool) (w : World) (he1 : ¬ e1 = 0) (he2 : ¬ e2 = 0) : Calls Tryz.prog 122 #[SpanL.val ⟨⟨e1, v1, f1⟩, ⟨e2, v2, f2⟩⟩] w (StrPost w (spanT ⟨⟨e1, v1, f1⟩, ⟨e2, v2, f2⟩⟩)) := by
  have HB := hid (below_new w (.cells (SpanL.cells ⟨⟨e1, v1, f1⟩, ⟨e2, v2, f2⟩⟩).toArray 83))
  go_enter Tryz.func122, Tryz.ntmps122
  go_wp2_with fail
  go_ret
  refine ⟨_, rfl, ?_, HB.out⟩
  simp [spanT, bts, bts_data, he1, he2]
theorem rspan8_any (s : SpanL) (w : World) (h : s.fit) : Calls Tryz.prog 122 #[s.val] w (StrPost w (spanT s)) := by
  obtain ⟨⟨e1, v1, f1⟩, ⟨e2, v2, f2⟩⟩ := s
  by_cases h1 : e1 = 0 <;> by_cases h2 : e2 = 0
  · subst h1 h2; exact rspan_ff v1 v2 f1 f2 w h.1 h.2
  · subst h1; exact rspan_fe v1 v2 e2 f1 f2 w h.1 h2
  · subst h2; exact rspan_ef v1 v2 e1 f1 f2 w h.2 h1
  · exact rspan_ee v1 v2 e1 e2 f1 f2 w h1 h2
end Go.Proofs.YtjceaniffooohaaGreatDoor
