/- Slices of spans: how they lie, and the walks of the two row Mays. -/
import Derived.Test.YtodicnjoimoiiaaCut3
import Derived.Test.YtodicnjoimoiiaaRegion
namespace Go.Proofs.Ytodicnjoimoiiaa
open Go.RowKit Go.Lib
set_option linter.unusedVariables false
set_option linter.unusedSimpArgs false

instance : Inhabited SpanL := ⟨⟨firstC, lastC⟩⟩
/-- the i-th span (behind the end: whatever) -/
def nth (l : List SpanL) (i : Nat) : SpanL := l.getD i default
theorem nth_lt {l : List SpanL} {i : Nat} (h : i < l.length) : nth l i = l[i] := by simp [nth, h]
/-- a slice's elements lie there -/
def Spans (w : World) (A : Option Addr) (l : List SpanL) : Prop :=
  l = [] ∨ ∃ b off, A = some ⟨b, off, none⟩ ∧ b < w.heap.size ∧ ∀ i, i < l.length → ∀ j u, (nth l i).cells[j]? = some u → w.cell? ⟨b, off + i * 14 + j, none⟩ = some u
theorem Spans.below {w w' : World} {A : Option Addr} {l : List SpanL} (h : Spans w A l) (hb : Below w.heap.size w w') : Spans w' A l := by
  rcases h with h | ⟨b, off, rfl, hlt, hc⟩
  · exact .inl h
  · exact .inr ⟨b, off, rfl, Nat.lt_of_lt_of_le hlt hb.size, fun i hi j u hj => (hb.cell (p := ⟨b, _, none⟩) hlt).trans (hc i hi j u hj)⟩
theorem Spans.nil {w : World} {A : Option Addr} : Spans w A [] := .inl rfl

def Row7 (w : World) (b o : Nat) (c : CutL) : Prop := w.cell? ⟨b, o, none⟩ = some (.int .i64 c.en) ∧ w.cell? ⟨b, o + 1, none⟩ = some (.int .i64 c.v.maj) ∧ w.cell? ⟨b, o + 2, none⟩ = some (.int .i64 c.v.min) ∧ w.cell? ⟨b, o + 3, none⟩ = some (.int .i64 c.v.pat) ∧ w.cell? ⟨b, o + 4, none⟩ = some (.string c.v.pre) ∧ w.cell? ⟨b, o + 5, none⟩ = some (.string c.v.bld) ∧ w.cell? ⟨b, o + 6, none⟩ = some (.bool c.aft)
theorem Row7.below {w w' : World} {b o : Nat} {c : CutL} (h : Row7 w b o c) (hlt : b < w.heap.size) (hb : Below w.heap.size w w') : Row7 w' b o c := by
  obtain ⟨h0, h1, h2, h3, h4, h5, h6⟩ := h
  have e : ∀ q, w'.cell? ⟨b, q, none⟩ = w.cell? ⟨b, q, none⟩ := fun q => hb.cell (p := ⟨b, q, none⟩) hlt
  exact ⟨(e _).trans h0, (e _).trans h1, (e _).trans h2, (e _).trans h3, (e _).trans h4, (e _).trans h5, (e _).trans h6⟩
theorem Spans.at_ {w : World} {A : Option Addr} {l : List SpanL} {k : Nat} (h : Spans w A l) (hk : k < l.length) :
    ∃ b off, A = some ⟨b, off, none⟩ ∧ b < w.heap.size ∧ Row7 w b (off + k * 14) (nth l k).fr ∧ Row7 w b (off + k * 14 + 7) (nth l k).til := by
  rcases h with h | ⟨b, off, rfl, hlt, hc⟩
  · subst h; simp at hk
  · have h := hc k hk
    exact ⟨b, off, rfl, hlt, ⟨h 0 _ rfl, h 1 _ rfl, h 2 _ rfl, h 3 _ rfl, h 4 _ rfl, h 5 _ rfl, h 6 _ rfl⟩, ⟨h 7 _ rfl, h 8 _ rfl, h 9 _ rfl, h 10 _ rfl, h 11 _ rfl, h 12 _ rfl, h 13 _ rfl⟩⟩
theorem Spans.lay {w : World} {b off : Nat} {l : List SpanL} {k : Nat} (h : Spans w (some ⟨b, off, none⟩) l) (hk : k < l.length) :
    b < w.heap.size ∧ Row7 w b (off + k * 14) (nth l k).fr ∧ Row7 w b (off + k * 14 + 7) (nth l k).til := by
  obtain ⟨b', off', e, h1, h2, h3⟩ := h.at_ hk
  injection e with e
  injection e with e1 e2 e3
  subst e1; subst e2
  exact ⟨h1, h2, h3⟩

def fitL (l : List SpanL) : Prop := ∀ i, i < l.length → (nth l i).fit
theorem Try.info37 : (Try.prog.info? 37).map (fun i => (i.zero, i.size, i.bytes)) = some (some (SpanL.val ⟨⟨0, zeroV, false⟩, ⟨0, zeroV, false⟩⟩), 14, 144) := by kernel_rfl

/-- of the first k spans: may each be, and stands each behind the one before? -/
def mayTo (l : List SpanL) (k : Nat) : Prop := ∀ j, j < k → spanMay (nth l j) = true ∧ (0 < j → cmpC (nth l (j - 1)).til (nth l j).fr < 0)
def mayAt (l : List SpanL) (j : Nat) : Bool := spanMay (nth l j) && (decide (j = 0) || decide (cmpC (nth l (j - 1)).til (nth l j).fr < 0))
def mayR (l : List SpanL) : Bool := (List.range l.length).all (mayAt l)
theorem mayR_true {l : List SpanL} (h : mayTo l l.length) : mayR l = true := by
  rw [mayR, List.all_eq_true]
  intro j hj
  have := h j (List.mem_range.1 hj)
  rw [mayAt, this.1]
  by_cases h0 : j = 0
  · simp [h0]
  · have := this.2 (by omega); simp [this]
theorem mayR_iff {l : List SpanL} : mayR l = true ↔ mayTo l l.length := by
  refine ⟨fun h j hj => ?_, mayR_true⟩
  rw [mayR, List.all_eq_true] at h
  have := h j (List.mem_range.2 hj)
  rw [mayAt, Bool.and_eq_true, Bool.or_eq_true, decide_eq_true_eq, decide_eq_true_eq] at this
  exact ⟨this.1, fun h0 => this.2.resolve_left (by omega)⟩
theorem mayR_no1 {l : List SpanL} {k : Nat} (hk : k < l.length) (h : spanMay (nth l k) = false) : mayR l = false := by
  rw [Bool.eq_false_iff]; intro e
  have := (mayR_iff.1 e k hk).1
  rw [h] at this; cases this
theorem mayR_no2 {l : List SpanL} {k : Nat} (hk : k < l.length) (h0 : 0 < k) (h : 0 ≤ cmpC (nth l (k - 1)).til (nth l k).fr) : mayR l = false := by
  rw [Bool.eq_false_iff]; intro e
  have := (mayR_iff.1 e k hk).2 h0
  omega
theorem mayTo_step {l : List SpanL} {k : Nat} (h : mayTo l k) (h1 : spanMay (nth l k) = true) (h2 : 0 < k → cmpC (nth l (k - 1)).til (nth l k).fr < 0) : mayTo l (k + 1) := by
  intro j hj
  rcases Nat.lt_or_ge j k with h' | h'
  · exact h j h'
  · obtain rfl : j = k := by omega
    exact ⟨h1, h2⟩

set_option maxRecDepth 100000 in
set_option maxHeartbeats 4000000 in
theorem rowmay_any (A : Option Addr) (c : Nat) (l : List SpanL) (w : World) (hl : Spans w A l) (hf : fitL l) (hln : l.length ≤ 4398046511104) : Calls Try.prog 15 #[.slice A l.length c] w (BoolPost w (mayR l)) := by
  generalize hr : mayR l = r
  have HR := hid hr
  clear hr
  have HL := hid hl
  have HF := hid hf
  clear hl hf
  generalize hn : l.length = n at *
  have HN := hid hn
  clear hn
  go_enter Try.func15, Try.ntmps15
  go_wp2_with fail
  go_loopw [3, 4, 7] (fun i0 t i wr => ∃ k : Nat, i = .int .i64 k ∧ k ≤ n ∧ Hid (Spans wr A l) ∧ Hid (mayTo l k) ∧ Below w.heap.size w wr) (fun _ _ i _ => n - (intOf i).toNat)
  case atStart => exact ⟨0, rfl, Nat.zero_le _, HL, fun j hj => by omega, Below.refl _ _⟩
  case round =>
    obtain ⟨k, rfl, hk, HS, HM, hbr⟩ := hrel
    by_cases hlt : k < n
    · have hlt' : k < l.length := by rw [HN.out]; exact hlt
      obtain ⟨b, off, rfl, hbl, ⟨x0, x1, x2, x3, x4, x5, x6⟩, z0, z1, z2, z3, z4, z5, z6⟩ := HS.out.at_ (k := k) hlt'
      have i0 : (0 : Int) ≤ (k : Int) := by omega
      have i1 : (k : Int) < (n : Int) := by omega
      have hfk := HF.out k hlt'
      generalize hsk : nth l k = s at *
      have HK := hid hsk
      clear hsk
      have hB := hid (Box.new wr s.cells 37)
      have hbn := hid (below_new wr (.cells s.cells.toArray 37))
      cases hsm : spanMay s
      · have HE := hid (mayR_no1 hlt' (by rw [HK.out]; exact hsm))
        go_wp2_with fail
        have hbw := bw_cell
        refine wp_region_below (by kernel_rfl) (by kernel_rfl) ?_
        repeat (go_big_quiet_step ((go_at_call 34; exact bw_bool (spanmay_any s _ hfk))))
        refine wpQuiet_nil ?_
        rintro _ ⟨z, rfl⟩
        go_wp2_with fail
        go_ret
        exact ⟨by rw [← HR.out, HE.out]; rfl, below_tr hbr (below_tr hbn.out z.ok)⟩
      · by_cases h0 : k = 0
        · subst h0
          simp only [Nat.zero_mul, Nat.add_zero] at x0 x1 x2 x3 x4 x5 x6 z0 z1 z2 z3 z4 z5 z6
          go_wp2_with fail
          clear x0 x1 x2 x3 x4 x5 x6 z0 z1 z2 z3 z4 z5 z6
          have hbw := bw_cell
          refine wp_region_below (by kernel_rfl) (by kernel_rfl) ?_
          repeat (go_big_quiet_step ((go_at_call 34; exact bw_bool (spanmay_any s _ hfk))))
          refine wpQuiet_nil ?_
          rintro _ ⟨z, rfl⟩
          clear hbw
          go_wp2_with fail
          go_roundw
          case rel => exact ⟨1, by go_num, by omega, HS.out.below (below_tr hbn.out z.ok), mayTo_step HM.out (by rw [HK.out]; exact hsm) (fun h => by omega), below_tr hbr (below_tr hbn.out z.ok)⟩
          case measure => simp [intOf]; omega
        · obtain ⟨m, rfl⟩ : ∃ m, k = m + 1 := ⟨k - 1, by omega⟩
          obtain ⟨_, _, t0, t1, t2, t3, t4, t5, t6⟩ := HS.out.lay (k := m) (by omega)
          have hfm := HF.out m (by omega)
          have j0 : (0 : Int) ≤ (m : Int) := by omega
          have j1 : (m : Int) < (n : Int) := by omega
          generalize hpm : nth l m = p at *
          have HP := hid hpm
          clear hpm h0
          cases hlt2 : decide (0 ≤ cmpC p.til s.fr)
          · have HC := hid (show cmpC p.til s.fr < 0 by simpa using hlt2)
            go_wp2_with fail
            clear x0 x1 x2 x3 x4 x5 x6 z0 z1 z2 z3 z4 z5 z6
            have hbw := bw_cell
            refine wp_region_below (by kernel_rfl) (by kernel_rfl) ?_
            repeat (go_big_quiet_step (first | (go_at_call 34; exact bw_bool (spanmay_any s _ hfk)) | (go_at_call 38; exact bw_int (ccompare_any p.til s.fr _ hfm.2 hfk.1))))
            refine wpQuiet_nil ?_
            rintro _ ⟨z, rfl⟩
            clear hbw
            go_wp2_with fail
            go_roundw
            case rel => exact ⟨m + 1 + 1, by go_num, by omega, HS.out.below (below_tr hbn.out z.ok), mayTo_step HM.out (by rw [HK.out]; exact hsm) (fun _ => by rw [Nat.add_sub_cancel, HP.out, HK.out]; exact HC.out), below_tr hbr (below_tr hbn.out z.ok)⟩
            case measure => simp [intOf]; omega
          · have HE := hid (mayR_no2 hlt' (by omega) (by rw [Nat.add_sub_cancel, HP.out, HK.out]; simpa using hlt2))
            go_wp2_with fail
            clear x0 x1 x2 x3 x4 x5 x6 z0 z1 z2 z3 z4 z5 z6
            have hbw := bw_cell
            refine wp_region_below (by kernel_rfl) (by kernel_rfl) ?_
            repeat (go_big_quiet_step (first | (go_at_call 34; exact bw_bool (spanmay_any s _ hfk)) | (go_at_call 38; exact bw_int (ccompare_any p.til s.fr _ hfm.2 hfk.1))))
            refine wpQuiet_nil ?_
            rintro _ ⟨z, rfl⟩
            clear hbw
            go_wp2_with fail
            go_ret
            exact ⟨by rw [← HR.out, HE.out]; rfl, below_tr hbr (below_tr hbn.out z.ok)⟩
    · obtain rfl : k = n := by omega
      go_wp2_with fail
      go_ret
      exact ⟨by rw [← HR.out, mayR_true (by rw [HN.out]; exact HM.out)]; rfl, hbr⟩
end Go.Proofs.Ytodicnjoimoiiaa
