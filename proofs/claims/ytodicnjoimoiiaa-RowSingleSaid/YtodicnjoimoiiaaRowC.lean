/- '==' on cuts and spans; the walks of the reference's Same and in. -/
import Derived.Test.YtodicnjoimoiiaaRowB
namespace Go.Proofs.Ytodicnjoimoiiaa
open Go.RowKit Go.Lib
set_option linter.unusedVariables false
set_option linter.unusedSimpArgs false

def eqCut (a b : CutL) : Bool := a.en == b.en && eqVer a.v b.v && a.aft == b.aft
def eqSpan (a b : SpanL) : Bool := eqCut a.fr b.fr && eqCut a.til b.til
theorem eqCut_iff {a b : CutL} : eqCut a b = true ↔ a = b := by
  simp only [eqCut, Bool.and_eq_true, beq_iff_eq, eqVer_iff]
  constructor
  · rintro ⟨⟨h1, h2⟩, h3⟩
    cases a; cases b
    simp only at h1 h2 h3
    rw [h1, h2, h3]
  · rintro rfl; simp
theorem eqSpan_iff {a b : SpanL} : eqSpan a b = true ↔ a = b := by
  simp only [eqSpan, Bool.and_eq_true, eqCut_iff]
  constructor
  · rintro ⟨h1, h2⟩
    cases a; cases b
    simp only at h1 h2
    rw [h1, h2]
  · rintro rfl; simp
theorem fields35 : Try.prog.underlying 35 = some (.struct (Try.prog.fieldsOf 35)) := by kernel_rfl
theorem stood35 : Try.prog.stoodInHeld 35 = false := by kernel_rfl
theorem fields37 : Try.prog.underlying 37 = some (.struct (Try.prog.fieldsOf 37)) := by kernel_rfl
theorem stood37 : Try.prog.stoodInHeld 37 = false := by kernel_rfl
theorem guard37 : Try.prog.eqGuardType Try.prog.depth 37 = false := by kernel_rfl

theorem eqV_in (d : Nat) (a b : Ver) (w : World) : (Op.equalIn (d + 6) 24 a.val b.val).run Try.prog w = .ok (eqVer a b) w := by
  rw [show d + 6 = (d + 5) + 1 from rfl, run_equalIn_agg w (d + 5) 24 _ _ fields24 stood24]
  simp only [Program.fieldsOf, Try.underlying24]
  have u3 := Try.underlying3
  have u9 := Try.underlying9
  have a3 := Try.isAgg3
  have z3 := Try.sizeOf3
  have a9 := Try.isAgg9
  have z9 := Try.sizeOf9
  go_simp
  unfold eqVer
  cases h1 : a.maj == b.maj <;> cases h2 : a.min == b.min <;> cases h3 : a.pat == b.pat <;> cases h4 : a.pre.toList == b.pre.toList <;> cases h5 : a.bld.toList == b.bld.toList <;> simp_all

theorem eqC_in (d : Nat) (a b : CutL) (w : World) : (Op.equalIn (d + 7) 35 a.val b.val).run Try.prog w = .ok (eqCut a b) w := by
  rw [show d + 7 = (d + 6) + 1 from rfl, run_equalIn_agg w (d + 6) 35 _ _ fields35 stood35]
  simp only [Program.fieldsOf, Try.underlying35]
  have u3 := Try.underlying3
  have u4 := Try.underlying4
  have a3 := Try.isAgg3
  have z3 := Try.sizeOf3
  have a4 := Try.isAgg4
  have z4 := Try.sizeOf4
  have a24 := Try.isAgg24
  have z24 := Try.sizeOf24
  have hv := eqV_in d a.v b.v
  go_simp
  unfold eqCut
  by_cases h1 : a.en = b.en <;> cases h2 : eqVer a.v b.v <;> by_cases h3 : a.aft = b.aft <;> simp_all

theorem eqS_in (d : Nat) (a b : SpanL) (w : World) : (Op.equalIn (d + 8) 37 a.val b.val).run Try.prog w = .ok (eqSpan a b) w := by
  rw [show d + 8 = (d + 7) + 1 from rfl, run_equalIn_agg w (d + 7) 37 _ _ fields37 stood37]
  simp only [Program.fieldsOf, Try.underlying37]
  have a35 := Try.isAgg35
  have z35 := Try.sizeOf35
  have hv1 := eqC_in d a.fr b.fr
  have hv2 := eqC_in d a.til b.til
  go_simp
  unfold eqSpan
  cases h1 : eqCut a.fr b.fr <;> cases h2 : eqCut a.til b.til <;> simp_all
theorem eqlS (a b : SpanL) (w : World) : (binOp .eql 37 a.val b.val).run Try.prog w = .ok (.bool (eqSpan a b)) w := by
  rw [run_eql_struct, show (10000 : Nat) = 9992 + 8 from rfl, eqS_in]; rfl
theorem neqS (a b : SpanL) (w : World) : (binOp .neq 37 a.val b.val).run Try.prog w = .ok (.bool (!eqSpan a b)) w := by
  rw [run_neq_struct, show (10000 : Nat) = 9992 + 8 from rfl, eqS_in]; rfl
theorem eqgS (op : BinOp) (x y : Operand) (a b : SpanL) (w : World) : (eqGuard op 37 x y a.val b.val).run Try.prog w = .ok () w := run_eqGuard_agg w op _ x y _ _ guard37

def inB (f t : CutL) (s : SpanL) : Bool := decide (cmpC s.fr f ≤ 0) && decide (cmpC t s.til ≤ 0)
def inR (l : List SpanL) (f t : CutL) : Bool := l.any (inB f t)

set_option maxRecDepth 100000 in
set_option maxHeartbeats 4000000 in
theorem in_any (A : Option Addr) (c : Nat) (l : List SpanL) (f t : CutL) (w : World) (hl : Spans w A l) (hf : fitL l) (hln : l.length ≤ 4398046511104) (hff : f.fit) (hft : t.fit) : Calls Try.prog 41 #[.slice A l.length c, f.val, t.val] w (BoolPost w (inR l f t)) := by
  generalize hr : inR l f t = r
  have HR := hid hr
  clear hr
  have HF := hid hf
  have HLB := hid ((hl.below (below_new w (.cells f.cells.toArray 35))).below (below_new _ (.cells t.cells.toArray 35)))
  have HBF := hid ((Box.new w f.cells 35).below (below_new _ (.cells t.cells.toArray 35)))
  have HBT := hid (show Box ((w.alloc (.cells f.cells.toArray 35)).alloc (.cells t.cells.toArray 35)) (w.heap.size + 1) t.cells by have := Box.new (w.alloc (.cells f.cells.toArray 35)) t.cells 35; simpa using this)
  have hbn := hid (below_tr (below_new w (.cells f.cells.toArray 35)) (below_new _ (.cells t.cells.toArray 35)))
  clear hl hf
  generalize hn : l.length = n at *
  have HN := hid hn
  clear hn
  go_enter Try.func41, Try.ntmps41
  go_wp2_with fail
  go_loopw [7] (fun i wr => ∃ k : Nat, i = .int .i64 k ∧ k ≤ n ∧ Hid (Spans wr A l) ∧ Hid (Box wr w.heap.size f.cells) ∧ Hid (Box wr (w.heap.size + 1) t.cells) ∧ Hid (anyTo (inB f t) l k) ∧ Below w.heap.size w wr) (fun i _ => n - (intOf i).toNat)
  case atStart => exact ⟨0, rfl, Nat.zero_le _, HLB, HBF, HBT, fun j hj => by omega, hbn.out⟩
  case round =>
    obtain ⟨k, rfl, hk, HS, HB, HT, HM, hbr⟩ := hrel
    by_cases hlt : k < n
    · have hlt' : k < l.length := by rw [HN.out]; exact hlt
      obtain ⟨b, off, rfl, hbl, hx, hz⟩ := HS.out.at_ (k := k) hlt'
      have i0 : (0 : Int) ≤ (k : Int) := by omega
      have i1 : (k : Int) < (n : Int) := by omega
      have hfk := HF.out k hlt'
      generalize hsk : nth l k = s at *
      have HK := hid hsk
      clear hsk
      obtain ⟨x0, x1, x2, x3, x4, x5, x6⟩ := hx
      obtain ⟨z0, z1, z2, z3, z4, z5, z6⟩ := hz
      obtain ⟨f0, f1, f2, f3, f4, f5, f6⟩ := HB.out.get7
      obtain ⟨t0, t1, t2, t3, t4, t5, t6⟩ := HT.out.get7
      have hgb := HB.out.1
      have hgt := HT.out.1
      cases hd1 : decide (cmpC s.fr f ≤ 0)
      · have hp := hid (show inB f t s = false by rw [inB, hd1]; rfl)
        go_wp2_with fail
        have hbw := bw_cell
        refine wp_region_below (by kernel_rfl) (by kernel_rfl) ?_
        repeat (go_big_quiet_step ((go_at_call 43; exact bw_int (rccompare_any s.fr f _ hfk.1 hff))))
        refine wpQuiet_nil ?_
        rintro _ ⟨z, rfl⟩
        clear hbw x0 x1 x2 x3 x4 x5 x6 z0 z1 z2 z3 z4 z5 z6 f0 f1 f2 f3 f4 f5 f6 t0 t1 t2 t3 t4 t5 t6
        go_wp2_with fail
        go_roundw
        case rel => exact ⟨k + 1, by go_num, by omega, HS.out.below z.ok, HB.out.below z.ok, HT.out.below z.ok, anyTo_step HM.out (by rw [HK.out]; exact hp.out), below_tr hbr z.ok⟩
        case measure => simp [intOf]; omega
      · cases hd2 : decide (cmpC t s.til ≤ 0)
        · have hp := hid (show inB f t s = false by rw [inB, hd2]; simp)
          go_wp2_with fail
          have hbw := bw_cell
          refine wp_region_below (by kernel_rfl) (by kernel_rfl) ?_
          repeat (go_big_quiet_step (first | (go_at_call_of 43 s.fr.en; exact bw_int (rccompare_any s.fr f _ hfk.1 hff)) | (go_at_call 43; exact bw_int (rccompare_any t s.til _ hft hfk.2))))
          refine wpQuiet_nil ?_
          rintro _ ⟨z, rfl⟩
          clear hbw x0 x1 x2 x3 x4 x5 x6 z0 z1 z2 z3 z4 z5 z6 f0 f1 f2 f3 f4 f5 f6 t0 t1 t2 t3 t4 t5 t6
          go_wp2_with fail
          go_roundw
          case rel => exact ⟨k + 1, by go_num, by omega, HS.out.below z.ok, HB.out.below z.ok, HT.out.below z.ok, anyTo_step HM.out (by rw [HK.out]; exact hp.out), below_tr hbr z.ok⟩
          case measure => simp [intOf]; omega
        · have HE := hid (show inR l f t = true from any_at (p := inB f t) hlt' (by rw [HK.out, inB, hd1, hd2]; rfl))
          go_wp2_with fail
          have hbw := bw_cell
          refine wp_region_below (by kernel_rfl) (by kernel_rfl) ?_
          repeat (go_big_quiet_step (first | (go_at_call_of 43 s.fr.en; exact bw_int (rccompare_any s.fr f _ hfk.1 hff)) | (go_at_call 43; exact bw_int (rccompare_any t s.til _ hft hfk.2))))
          refine wpQuiet_nil ?_
          rintro _ ⟨z, rfl⟩
          clear hbw
          go_wp2_with fail
          go_ret
          exact ⟨by rw [← HR.out, HE.out]; rfl, below_tr hbr z.ok⟩
    · obtain rfl : k = n := by omega
      have HE := hid (show inR l f t = false from anyTo_end (by rw [HN.out]; exact HM.out))
      go_wp2_with fail
      go_ret
      exact ⟨by rw [← HR.out, HE.out]; rfl, hbr⟩

/-- two lists, span by span -/
def sameR (a b : List SpanL) : Bool := decide (a.length = b.length) && (List.range a.length).all fun i => eqSpan (nth a i) (nth b i)
def sameTo (a b : List SpanL) (k : Nat) : Prop := ∀ j, j < k → eqSpan (nth a j) (nth b j) = true
theorem sameR_iff {a b : List SpanL} : sameR a b = true ↔ a = b := by
  simp only [sameR, Bool.and_eq_true, decide_eq_true_eq, List.all_eq_true, List.mem_range]
  constructor
  · rintro ⟨h1, h2⟩
    refine List.ext_getElem h1 fun i hi hj => ?_
    have := eqSpan_iff.1 (h2 i hi)
    rwa [nth_lt hi, nth_lt hj] at this
  · rintro rfl
    exact ⟨rfl, fun i _ => eqSpan_iff.2 rfl⟩
theorem sameR_end {a b : List SpanL} (h : a.length = b.length) (hs : sameTo a b a.length) : sameR a b = true := by
  simp only [sameR, Bool.and_eq_true, decide_eq_true_eq, List.all_eq_true, List.mem_range]
  exact ⟨h, fun i hi => hs i hi⟩
theorem sameR_no {a b : List SpanL} {k : Nat} (hk : k < a.length) (h : eqSpan (nth a k) (nth b k) = false) : sameR a b = false := by
  rw [Bool.eq_false_iff]; intro e
  have := sameR_iff.1 e
  subst this
  rw [eqSpan_iff.2 rfl] at h; cases h
theorem sameR_len {a b : List SpanL} (h : a.length ≠ b.length) : sameR a b = false := by simp [sameR, h]
theorem sameTo_step {a b : List SpanL} {k : Nat} (h : sameTo a b k) (h1 : eqSpan (nth a k) (nth b k) = true) : sameTo a b (k + 1) := by
  intro j hj
  rcases Nat.lt_or_ge j k with h' | h'
  · exact h j h'
  · obtain rfl : j = k := by omega
    exact h1
end Go.Proofs.Ytodicnjoimoiiaa
