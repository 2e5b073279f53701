/- The walks of the reference's Same and of slices.Equal at spans. -/
import Derived.Test.YtodicnjoimoiiaaRowC
namespace Go.Proofs.Ytodicnjoimoiiaa
open Go.RowKit Go.Lib
set_option linter.unusedVariables false
set_option linter.unusedSimpArgs false

set_option maxRecDepth 100000 in
set_option maxHeartbeats 4000000 in
theorem same_any (A B : Option Addr) (c d : Nat) (l m : List SpanL) (w : World) (hl : Spans w A l) (hm : Spans w B m) (hln : l.length ≤ 4398046511104) (hmn : m.length ≤ 4398046511104) : Calls Try.prog 19 #[.slice A l.length c, .slice B m.length d] w (BoolPost w (sameR l m)) := by
  generalize hr : sameR l m = r
  have HR := hid hr
  clear hr
  by_cases hlen : l.length = m.length
  · have hq := neqS
    have hqg := eqgS
    have HL := hid hl
    have HM := hid hm
    have HLEN := hid hlen
    clear hl hm
    rw [← hlen]
    clear hlen hmn
    generalize hn : l.length = n at *
    have HN := hid hn
    clear hn
    go_enter Try.func19, Try.ntmps19
    go_wp2_with fail
    go_loopw [5] (fun i wr => ∃ k : Nat, i = .int .i64 k ∧ k ≤ n ∧ Hid (Spans wr A l) ∧ Hid (Spans wr B m) ∧ Hid (sameTo l m k) ∧ Below w.heap.size w wr) (fun i _ => n - (intOf i).toNat)
    case atStart => exact ⟨0, rfl, Nat.zero_le _, HL, HM, fun j hj => by omega, Below.refl _ _⟩
    case round =>
      obtain ⟨k, rfl, hk, HS, HT, HE, hbr⟩ := hrel
      by_cases hlt : k < n
      · have hlt' : k < l.length := by rw [HN.out]; exact hlt
        have hlt2 : k < m.length := by rw [← HLEN.out]; exact hlt
        obtain ⟨b, off, rfl, hbl, hx, hz⟩ := HS.out.at_ (k := k) hlt'
        obtain ⟨b2, off2, rfl, hbl2, hx2, hz2⟩ := HT.out.at_ (k := k) hlt2
        have i0 : (0 : Int) ≤ (k : Int) := by omega
        have i1 : (k : Int) < (n : Int) := by omega
        generalize hsk : nth l k = s at *
        generalize htk : nth m k = t at *
        have HK := hid hsk
        have HK2 := hid htk
        clear hsk htk
        obtain ⟨x0, x1, x2, x3, x4, x5, x6⟩ := hx
        obtain ⟨z0, z1, z2, z3, z4, z5, z6⟩ := hz
        obtain ⟨p0, p1, p2, p3, p4, p5, p6⟩ := hx2
        obtain ⟨q0, q1, q2, q3, q4, q5, q6⟩ := hz2
        go_wp2_with fail
        have hbw := bw_cell
        refine wp_region_below (by kernel_rfl) (by kernel_rfl) ?_
        repeat (go_big_quiet_step (fail))
        refine wpQuiet_nil ?_
        rintro _ ⟨z, rfl⟩
        clear hbw x0 x1 x2 x3 x4 x5 x6 z0 z1 z2 z3 z4 z5 z6 p0 p1 p2 p3 p4 p5 p6 q0 q1 q2 q3 q4 q5 q6 hq hqg
        cases hh : eqSpan s t
        · have HE2 := hid (show sameR l m = false from sameR_no hlt' (by rw [HK.out, HK2.out]; exact hh))
          go_wp2_with fail
          go_ret
          exact ⟨by rw [← HR.out, HE2.out]; rfl, below_tr hbr z.ok⟩
        · go_wp2_with fail
          go_roundw
          case rel => exact ⟨k + 1, by go_num, by omega, HS.out.below z.ok, HT.out.below z.ok, sameTo_step HE.out (by rw [HK.out, HK2.out]; exact hh), below_tr hbr z.ok⟩
          case measure => simp [intOf]; omega
      · obtain rfl : k = n := by omega
        have HE2 := hid (show sameR l m = true from sameR_end (by rw [HN.out]; exact HLEN.out) (by rw [HN.out]; exact HE.out))
        go_wp2_with fail
        go_ret
        exact ⟨by rw [← HR.out, HE2.out]; rfl, hbr⟩
  · have hb : ((l.length : Int) != (m.length : Int)) = true := by rw [bne_iff_ne]; omega
    have HE := hid (sameR_len hlen)
    go_enter Try.func19, Try.ntmps19
    go_wp2_with fail
    go_ret
    exact ⟨by rw [← HR.out, HE.out]; rfl, Below.refl _ _⟩

set_option maxRecDepth 100000 in
set_option maxHeartbeats 4000000 in
theorem equal_any (A B : Option Addr) (c d : Nat) (l m : List SpanL) (w : World) (hl : Spans w A l) (hm : Spans w B m) (hln : l.length ≤ 4398046511104) (hmn : m.length ≤ 4398046511104) : Calls Try.prog 49 #[.slice A l.length c, .slice B m.length d] w (BoolPost w (sameR l m)) := by
  generalize hr : sameR l m = r
  have HR := hid hr
  clear hr
  by_cases hlen : l.length = m.length
  · have hq := neqS
    have hqg := eqgS
    have HL := hid hl
    have HM := hid hm
    have HLEN := hid hlen
    clear hl hm
    rw [← hlen]
    clear hlen hmn
    generalize hn : l.length = n at *
    have HN := hid hn
    clear hn
    go_enter Try.func49, Try.ntmps49
    go_wp2_with fail
    go_loopw [5, 13] (fun i0 i wr => ∃ k : Nat, i = .int .i64 k ∧ k ≤ n ∧ Hid (Spans wr A l) ∧ Hid (Spans wr B m) ∧ Hid (sameTo l m k) ∧ Below w.heap.size w wr) (fun _ i _ => n - (intOf i).toNat)
    case atStart => exact ⟨0, rfl, Nat.zero_le _, HL, HM, fun j hj => by omega, Below.refl _ _⟩
    case round =>
      obtain ⟨k, rfl, hk, HS, HT, HE, hbr⟩ := hrel
      by_cases hlt : k < n
      · have hlt' : k < l.length := by rw [HN.out]; exact hlt
        have hlt2 : k < m.length := by rw [← HLEN.out]; exact hlt
        obtain ⟨b, off, rfl, hbl, hx, hz⟩ := HS.out.at_ (k := k) hlt'
        obtain ⟨b2, off2, rfl, hbl2, hx2, hz2⟩ := HT.out.at_ (k := k) hlt2
        have i0 : (0 : Int) ≤ (k : Int) := by omega
        have i1 : (k : Int) < (n : Int) := by omega
        generalize hsk : nth l k = s at *
        generalize htk : nth m k = t at *
        have HK := hid hsk
        have HK2 := hid htk
        clear hsk htk
        obtain ⟨x0, x1, x2, x3, x4, x5, x6⟩ := hx
        obtain ⟨z0, z1, z2, z3, z4, z5, z6⟩ := hz
        obtain ⟨p0, p1, p2, p3, p4, p5, p6⟩ := hx2
        obtain ⟨q0, q1, q2, q3, q4, q5, q6⟩ := hz2
        go_wp2_with fail
        have hbw := bw_cell
        refine wp_region_below (by kernel_rfl) (by kernel_rfl) ?_
        repeat (go_big_quiet_step (fail))
        refine wpQuiet_nil ?_
        rintro _ ⟨z, rfl⟩
        clear hbw x0 x1 x2 x3 x4 x5 x6 z0 z1 z2 z3 z4 z5 z6 p0 p1 p2 p3 p4 p5 p6 q0 q1 q2 q3 q4 q5 q6 hq hqg
        cases hh : eqSpan s t
        · have HE2 := hid (show sameR l m = false from sameR_no hlt' (by rw [HK.out, HK2.out]; exact hh))
          go_wp2_with fail
          go_ret
          exact ⟨by rw [← HR.out, HE2.out]; rfl, below_tr hbr z.ok⟩
        · go_wp2_with fail
          go_roundw
          case rel => exact ⟨k + 1, by go_num, by omega, HS.out.below z.ok, HT.out.below z.ok, sameTo_step HE.out (by rw [HK.out, HK2.out]; exact hh), below_tr hbr z.ok⟩
          case measure => simp [intOf]; omega
      · obtain rfl : k = n := by omega
        have HE2 := hid (show sameR l m = true from sameR_end (by rw [HN.out]; exact HLEN.out) (by rw [HN.out]; exact HE.out))
        go_wp2_with fail
        go_ret
        exact ⟨by rw [← HR.out, HE2.out]; rfl, hbr⟩
  · have hb : ((l.length : Int) != (m.length : Int)) = true := by rw [bne_iff_ne]; omega
    have HE := hid (sameR_len hlen)
    go_enter Try.func49, Try.ntmps49
    go_wp2_with fail
    go_ret
    exact ⟨by rw [← HR.out, HE.out]; rfl, Below.refl _ _⟩
end Go.Proofs.Ytodicnjoimoiiaa
