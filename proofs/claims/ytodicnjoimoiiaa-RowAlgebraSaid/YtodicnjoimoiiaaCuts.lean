/- The walk of the reference's cuts. -/
import Derived.Test.YtodicnjoimoiiaaPut
namespace Go.Proofs.Ytodicnjoimoiiaa
open Go.RowKit Go.Lib
set_option linter.unusedVariables false
set_option linter.unusedSimpArgs false

theorem putL_mem : ∀ (l : List CutL) (c x : CutL), x ∈ putL l c → x = c ∨ x ∈ l
  | [], c, x, h => by simp [putL] at h; exact .inl h
  | y :: l, c, x, h => by
    unfold putL at h
    split at h
    · rcases List.mem_cons.1 h with rfl | h
      · exact .inr (List.mem_cons_self ..)
      · rcases putL_mem l c x h with rfl | h
        · exact .inl rfl
        · exact .inr (List.mem_cons_of_mem _ h)
    · split at h
      · exact .inr h
      · rcases List.mem_cons.1 h with rfl | h
        · exact .inl rfl
        · exact .inr h
theorem putL_len : ∀ (l : List CutL) (c : CutL), l.length ≤ (putL l c).length ∧ (putL l c).length ≤ l.length + 1 ∧ 0 < (putL l c).length
  | [], c => by simp [putL]
  | y :: l, c => by
    have ih := putL_len l c
    unfold putL
    split
    · simp only [List.length_cons]; omega
    · split <;> simp only [List.length_cons] <;> omega
def allFit (l : List CutL) : Prop := ∀ c, c ∈ l → c.fit
theorem allFit.at_ {l : List CutL} (h : allFit l) : fitK l := fun i hi => by rw [nthC_lt hi]; exact h _ (List.getElem_mem _)
theorem allFit.put {l : List CutL} {c : CutL} (h : allFit l) (hc : c.fit) : allFit (putL l c) := fun x hx => by
  rcases putL_mem l c x hx with rfl | hx
  · exact hc
  · exact h x hx
/-- of spans, and both ends, rising -/
def cutStep (o : List CutL) (s : SpanL) : List CutL := putL (putL o s.fr) s.til
def cutsL (l : List SpanL) : List CutL := l.foldl cutStep [firstC, lastC]
def cutsTo (l : List SpanL) (k : Nat) : List CutL := (l.take k).foldl cutStep [firstC, lastC]
theorem cutsTo_succ {l : List SpanL} {k : Nat} (h : k < l.length) : cutsTo l (k + 1) = cutStep (cutsTo l k) (nth l k) := by
  rw [cutsTo, cutsTo, List.take_succ_eq_append_getElem h, List.foldl_append, nth_lt h]; rfl
theorem cutsTo_all (l : List SpanL) : cutsTo l l.length = cutsL l := by rw [cutsTo, List.take_length]; rfl
theorem firstC_fit : firstC.fit := by simp [CutL.fit, Ver.fit, firstC, zeroV]; decide
theorem lastC_fit : lastC.fit := by simp [CutL.fit, Ver.fit, lastC, zeroV]; decide
theorem cutsTo_good {l : List SpanL} (hf : fitL l) : ∀ (k : Nat), k ≤ l.length → allFit (cutsTo l k) ∧ (cutsTo l k).length ≤ 2 + 2 * k ∧ 0 < (cutsTo l k).length
  | 0, _ => by
    refine ⟨fun c hc => ?_, by simp [cutsTo], by simp [cutsTo]⟩
    simp [cutsTo] at hc
    rcases hc with rfl | rfl
    · exact firstC_fit
    · exact lastC_fit
  | k + 1, h => by
    obtain ⟨h1, h2, h3⟩ := cutsTo_good hf k (by omega)
    rw [cutsTo_succ (by omega), cutStep]
    have hk := hf k (by omega)
    have l1 := putL_len (cutsTo l k) (nth l k).fr
    have l2 := putL_len (putL (cutsTo l k) (nth l k).fr) (nth l k).til
    exact ⟨(h1.put hk.1).put hk.2, by omega, by omega⟩

theorem cuts_new {w : World} : CutsAt (w.alloc (.cells (firstC.cells ++ lastC.cells).toArray 35)) (some ⟨w.heap.size, 0, none⟩) [firstC, lastC] := by
  have h := Box.new w (firstC.cells ++ lastC.cells) 35
  refine .inr ⟨w.heap.size, 0, rfl, h.1, fun i hi => ?_⟩
  match i, hi with
  | 0, _ => exact ⟨h.2 0 _ rfl, h.2 1 _ rfl, h.2 2 _ rfl, h.2 3 _ rfl, h.2 4 _ rfl, h.2 5 _ rfl, h.2 6 _ rfl⟩
  | 1, _ => exact ⟨h.2 7 _ rfl, h.2 8 _ rfl, h.2 9 _ rfl, h.2 10 _ rfl, h.2 11 _ rfl, h.2 12 _ rfl, h.2 13 _ rfl⟩
  | i + 2, hi => simp at hi; omega

set_option maxRecDepth 100000 in
set_option maxHeartbeats 4000000 in
theorem cuts_any (A : Option Addr) (cap : Nat) (l : List SpanL) (w : World) (hl : Spans w A l) (hf : fitL l) (hln : l.length ≤ 40000) : Calls Try.prog 40 #[.slice A l.length cap] w (PutPost w (cutsL l)) := by
  have HF := hid hf
  have HL := hid hl
  have HG := hid (fun k hk => cutsTo_good hf k hk)
  clear hl hf
  generalize hn : l.length = n at *
  have HN := hid hn
  clear hn
  go_enter Try.func40, Try.ntmps40
  go_wp2_with (first | (go_at_call 56; refine (first_any _).mono ?_; rintro _ w1 ⟨rfl, hb1⟩) | (go_at_call 57; refine (last_any _).mono ?_; rintro _ w2 ⟨rfl, hb2⟩))
  have hb12 := below_tr hb1 hb2
  have hb0 := hid (below_tr hb12 (below_new w2 (.cells (firstC.cells ++ lastC.cells).toArray 35)))
  have HL0 := hid (HL.out.below hb0.out)
  have HC0 := hid (cuts_new (w := w2))
  clear HL
  go_loopw [4, 3] (fun i o wr => ∃ (k : Nat) (A1 : Option Addr) (c1 : Nat), i = .int .i64 k ∧ k ≤ n ∧ o = .slice A1 (cutsTo l k).length c1 ∧ (cutsTo l k).length ≤ c1 ∧ Hid (Spans wr A l) ∧ Hid (CutsAt wr A1 (cutsTo l k)) ∧ Below w.heap.size w wr) (fun i _ _ => n - (intOf i).toNat)
  case atStart => exact ⟨0, _, _, rfl, Nat.zero_le _, rfl, Nat.le_refl _, HL0, HC0, hb0.out⟩
  case round =>
    obtain ⟨k, A1, c1, rfl, hk, rfl, hc1, HS, HC, hbr⟩ := hrel
    by_cases hlt : k < n
    · have hlt' : k < l.length := by rw [HN.out]; exact hlt
      obtain ⟨g1, g2, g3⟩ := HG.out k hk
      obtain ⟨b, off, rfl, hbl, hx, hz⟩ := HS.out.at_ (k := k) hlt'
      have i0 : (0 : Int) ≤ (k : Int) := by omega
      have i1 : (k : Int) < (n : Int) := by omega
      have hfk := HF.out k hlt'
      have HNX := hid (cutsTo_succ hlt')
      generalize nth l k = s at *
      generalize cutsTo l k = o at *
      have HGF := hid g1
      have HFR := hid hfk.1
      have HTI := hid hfk.2
      have HPL := hid (putL_len o s.fr)
      have HSB : Hid (∀ w', Below wr.heap.size wr w' → w'.cell? ⟨b, off + k * 14, none⟩ = some (.int .i64 s.fr.en) ∧ w'.cell? ⟨b, off + k * 14 + 1, none⟩ = some (.int .i64 s.fr.v.maj) ∧ w'.cell? ⟨b, off + k * 14 + 2, none⟩ = some (.int .i64 s.fr.v.min) ∧ w'.cell? ⟨b, off + k * 14 + 3, none⟩ = some (.int .i64 s.fr.v.pat) ∧ w'.cell? ⟨b, off + k * 14 + 4, none⟩ = some (.string s.fr.v.pre) ∧ w'.cell? ⟨b, off + k * 14 + 5, none⟩ = some (.string s.fr.v.bld) ∧ w'.cell? ⟨b, off + k * 14 + 6, none⟩ = some (.bool s.fr.aft) ∧ w'.cell? ⟨b, off + k * 14 + 7, none⟩ = some (.int .i64 s.til.en) ∧ w'.cell? ⟨b, off + k * 14 + 7 + 1, none⟩ = some (.int .i64 s.til.v.maj) ∧ w'.cell? ⟨b, off + k * 14 + 7 + 2, none⟩ = some (.int .i64 s.til.v.min) ∧ w'.cell? ⟨b, off + k * 14 + 7 + 3, none⟩ = some (.int .i64 s.til.v.pat) ∧ w'.cell? ⟨b, off + k * 14 + 7 + 4, none⟩ = some (.string s.til.v.pre) ∧ w'.cell? ⟨b, off + k * 14 + 7 + 5, none⟩ = some (.string s.til.v.bld) ∧ w'.cell? ⟨b, off + k * 14 + 7 + 6, none⟩ = some (.bool s.til.aft)) := hid (fun w' h => by
        obtain ⟨a0, a1, a2, a3, a4, a5, a6⟩ := hx.below hbl h
        obtain ⟨c0, c1, c2, c3, c4, c5, c6⟩ := hz.below hbl h
        exact ⟨a0, a1, a2, a3, a4, a5, a6, c0, c1, c2, c3, c4, c5, c6⟩)
      clear hx hz g1 hfk
      go_wp2_with fail
      go_region_held3 (fun w' => w'.cell? ⟨b, off + k * 14, none⟩ = some (.int .i64 s.fr.en) ∧ w'.cell? ⟨b, off + k * 14 + 1, none⟩ = some (.int .i64 s.fr.v.maj) ∧ w'.cell? ⟨b, off + k * 14 + 2, none⟩ = some (.int .i64 s.fr.v.min) ∧ w'.cell? ⟨b, off + k * 14 + 3, none⟩ = some (.int .i64 s.fr.v.pat) ∧ w'.cell? ⟨b, off + k * 14 + 4, none⟩ = some (.string s.fr.v.pre) ∧ w'.cell? ⟨b, off + k * 14 + 5, none⟩ = some (.string s.fr.v.bld) ∧ w'.cell? ⟨b, off + k * 14 + 6, none⟩ = some (.bool s.fr.aft) ∧ w'.cell? ⟨b, off + k * 14 + 7, none⟩ = some (.int .i64 s.til.en) ∧ w'.cell? ⟨b, off + k * 14 + 7 + 1, none⟩ = some (.int .i64 s.til.v.maj) ∧ w'.cell? ⟨b, off + k * 14 + 7 + 2, none⟩ = some (.int .i64 s.til.v.min) ∧ w'.cell? ⟨b, off + k * 14 + 7 + 3, none⟩ = some (.int .i64 s.til.v.pat) ∧ w'.cell? ⟨b, off + k * 14 + 7 + 4, none⟩ = some (.string s.til.v.pre) ∧ w'.cell? ⟨b, off + k * 14 + 7 + 5, none⟩ = some (.string s.til.v.bld) ∧ w'.cell? ⟨b, off + k * 14 + 7 + 6, none⟩ = some (.bool s.til.aft))
        (first | (exact HSB.out _ (by first | assumption | exact (Below.refl _ _).drew)) | go_keep)
        (first
          | (go_at_call_of 58 s.fr.en; refine (put_any A1 c1 o s.fr _ (HC.out.below (by first | assumption | exact (Below.refl _ _).drew)) g3 HGF.out.at_ hc1 (by omega) HFR.out).mono ?_; rintro _ w3 ⟨A2, c2, rfl, e2, h2, h3⟩; have hb3 : Below wr.heap.size wr w3 := below_tr (by first | assumption | exact (Below.refl _ _).drew) h3)
          | (go_at_call_of 58 s.til.en; refine (put_any A2 c2 (putL o s.fr) s.til _ h2 (HPL.out.2.2) (HGF.out.put HFR.out).at_ e2 (by have := HPL.out; omega) HTI.out).mono ?_; rintro _ w4 ⟨A3, c3, rfl, e3, h4, h5⟩; have hb4 : Below wr.heap.size wr w4 := below_tr hb3 h5))
      go_wp2_with fail
      go_roundw
      case rel => exact ⟨k + 1, A3, c3, by go_num, by omega, by rw [HNX.out]; rfl, by rw [HNX.out]; exact e3, HS.out.below hb4, by rw [HNX.out]; exact h4, below_tr hbr hb4⟩
      case measure => simp [intOf]; omega
    · obtain rfl : k = n := by omega
      have e : cutsL l = cutsTo l k := by rw [← cutsTo_all, HN.out]
      have HE := hid e
      clear e
      go_wp2_with fail
      go_ret
      rw [HE.out]
      exact ⟨A1, c1, rfl, hc1, HC.out, hbr⟩
end Go.Proofs.Ytodicnjoimoiiaa
