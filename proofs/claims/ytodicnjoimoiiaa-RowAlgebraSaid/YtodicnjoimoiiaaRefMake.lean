/- The walk of the reference's Make. -/
import Derived.Test.YtodicnjoimoiiaaCuts
import Derived.IntWalk
namespace Go.Proofs.Ytodicnjoimoiiaa
open Go.RowKit Go.Lib
set_option linter.unusedVariables false
set_option linter.unusedSimpArgs false

/-- the stretches between cuts that p takes, as a row -/
def growTo (c : List CutL) (p : CutL → CutL → Bool) : Nat → List SpanL
  | 0 => []
  | k + 1 => if p (nthC c k) (nthC c (k + 1)) then growR (growTo c p k) (nthC c k) (nthC c (k + 1)) else growTo c p k
def growAll (c : List CutL) (p : CutL → CutL → Bool) : List SpanL := growTo c p (c.length - 1)
def rmakeL (l : List SpanL) : List SpanL × Bool := if l.all spanMay then (growAll (cutsL l) (inR l), true) else ([], false)
theorem growR_len (l : List SpanL) (f t : CutL) : (growR l f t).length ≤ l.length + 1 := by
  unfold growR
  split
  · split
    · simp
    · simp
  · simp
theorem growTo_len (c : List CutL) (p : CutL → CutL → Bool) : ∀ k, (growTo c p k).length ≤ k
  | 0 => by simp [growTo]
  | k + 1 => by
    have ih := growTo_len c p k
    unfold growTo
    split
    · have := growR_len (growTo c p k) (nthC c k) (nthC c (k + 1)); omega
    · omega
theorem growR_fit {l : List SpanL} {f t : CutL} (hl : ∀ s, s ∈ l → s.fit) (hf : f.fit) (ht : t.fit) : ∀ s, s ∈ growR l f t → s.fit := by
  intro s hs
  rcases List.eq_nil_or_concat l with rfl | ⟨m, q, rfl⟩
  · simp [growR] at hs; subst hs; exact ⟨hf, ht⟩
  · simp only [List.concat_eq_append] at hl hs
    by_cases hc : cmpC q.til f = 0
    · rw [growR_eq hc] at hs
      rcases List.mem_append.1 hs with hs | hs
      · exact hl s (List.mem_append_left _ hs)
      · rw [List.mem_singleton] at hs; subst hs; exact ⟨(hl q (by simp)).1, ht⟩
    · rw [growR_ne hc] at hs
      rcases List.mem_append.1 hs with hs | hs
      · exact hl s hs
      · rw [List.mem_singleton] at hs; subst hs; exact ⟨hf, ht⟩
theorem growTo_fit {c : List CutL} {p : CutL → CutL → Bool} (hc : allFit c) : ∀ k, k < c.length → ∀ s, s ∈ growTo c p k → s.fit
  | 0, _ => by simp [growTo]
  | k + 1, h => by
    have ih := growTo_fit (p := p) hc k (by omega)
    unfold growTo
    split
    · exact growR_fit ih (hc.at_ k (by omega)) (hc.at_ (k + 1) h)
    · exact ih
theorem cutsL_good {l : List SpanL} (hf : fitL l) : allFit (cutsL l) ∧ (cutsL l).length ≤ 2 + 2 * l.length ∧ 0 < (cutsL l).length := by
  rw [← cutsTo_all]; exact cutsTo_good hf _ (Nat.le_refl _)

def RowOk (w : World) (base : Nat) (r : List SpanL × Bool) (e : Ending) (w' : World) : Prop := ∃ v, e = .returned (.tuple #[v, .bool r.2]) ∧ OwnS w' base v r.1 ∧ Below base w w' ∧ w.heap.size ≤ w'.heap.size
theorem OwnS.low {w : World} {base b1 : Nat} {v : Value} {l : List SpanL} (h : OwnS w b1 v l) (hb : base ≤ b1) : OwnS w base v l := by
  obtain ⟨h1, h2⟩ := h
  refine ⟨h1, ?_⟩
  rcases h2 with h2 | ⟨g, cap, cur, hv, hg, r⟩
  · exact .inl h2
  · exact .inr ⟨g, cap, cur, hv, Nat.le_trans hb hg, r⟩
def okTo (l : List SpanL) (k : Nat) : Prop := ∀ j, j < k → spanMay (nth l j) = true
theorem okTo_step {l : List SpanL} {k : Nat} (h : okTo l k) (h1 : spanMay (nth l k) = true) : okTo l (k + 1) := by
  intro j hj
  rcases Nat.lt_or_ge j k with h' | h'
  · exact h j h'
  · obtain rfl : j = k := by omega
    exact h1
theorem okTo_end {l : List SpanL} (h : okTo l l.length) : rmakeL l = (growAll (cutsL l) (inR l), true) := by
  rw [rmakeL, if_pos]
  rw [List.all_eq_true]
  intro s hs
  obtain ⟨i, hi, rfl⟩ := List.getElem_of_mem hs
  have := h i hi
  rwa [nth_lt hi] at this
theorem okTo_no {l : List SpanL} {k : Nat} (hk : k < l.length) (h : spanMay (nth l k) = false) : rmakeL l = ([], false) := by
  rw [rmakeL, if_neg]
  rw [List.all_eq_true]
  intro e
  have := e _ (List.getElem_mem hk)
  rw [nth_lt hk] at h
  rw [h] at this; cases this

set_option maxRecDepth 100000 in
set_option maxHeartbeats 1000000 in
theorem rmake_any (base : Nat) (A : Option Addr) (cap : Nat) (l : List SpanL) (w : World) (hl : Spans w A l) (hf : fitL l) (hln : l.length ≤ 40000) (hb : base ≤ w.heap.size) : Calls Try.prog 14 #[.slice A l.length cap] w (RowOk w base (rmakeL l)) := by
  have HF := hid hf
  have HL := hid hl
  clear hl hf
  generalize hn : l.length = n at *
  have HN := hid hn
  clear hn
  go_enter Try.func14, Try.ntmps14
  go_wp2_with fail
  go_loopw [4] (fun i wr => ∃ k : Nat, i = .int .i64 k ∧ k ≤ n ∧ Hid (Spans wr A l) ∧ Hid (okTo l k) ∧ Below w.heap.size w wr) (fun i _ => n - (intOf i).toNat)
  case atStart => exact ⟨0, rfl, Nat.zero_le _, HL, fun j hj => by omega, Below.refl _ _⟩
  case round =>
    obtain ⟨k, rfl, hk, HS, HM, hbr⟩ := hrel
    by_cases hlt : k < n
    · have hlt' : k < l.length := by rw [HN.out]; exact hlt
      obtain ⟨b, off, rfl, hbl, ⟨x0, x1, x2, x3, x4, x5, x6⟩, z0, z1, z2, z3, z4, z5, z6⟩ := HS.out.at_ (k := k) hlt'
      have i0 : (0 : Int) ≤ (k : Int) := by omega
      have i1 : (k : Int) < (n : Int) := by omega
      have hfk := HF.out k hlt'
      generalize hsk : nth l k = s at *
      have HK := hid hsk
      clear hsk
      cases hsm : spanMay s
      · have HE := hid (okTo_no hlt' (by rw [HK.out]; exact hsm))
        go_wp2_with (go_at_call 39; refine (rspanmay_any s _ hfk).mono ?_; rintro _ w1 ⟨rfl, hb1⟩; rw [hsm])
        refine bodyPost_ret (v := .tuple #[.slice none 0 0, .bool false]) (by simp [results, Try.results14, go_sem]) rfl ?_
        rw [HE.out]
        exact ⟨_, rfl, OwnS.nil _ _, (below_tr hbr hb1).mono hb, (below_tr hbr hb1).size⟩
      · go_wp2_with (go_at_call 39; refine (rspanmay_any s _ hfk).mono ?_; rintro _ w1 ⟨rfl, hb1⟩; rw [hsm])
        go_roundw
        case rel => exact ⟨k + 1, by go_num, by omega, HS.out.below hb1, okTo_step HM.out (by rw [HK.out]; exact hsm), below_tr hbr hb1⟩
        case measure => simp [intOf]; omega
    · obtain rfl : k = n := by omega
      have HE := hid (okTo_end (by rw [HN.out]; exact HM.out))
      have HG := hid (cutsL_good HF.out)
      have hcu := hid (fun w' (h : Spans w' A l) => (HN.out ▸ cuts_any A cap l w' h HF.out (by rw [HN.out]; omega) : Calls Try.prog 40 #[.slice A k cap] w' (PutPost w' (cutsL l))))
      generalize cutsL l = c at *
      go_wp2_with (go_at_call 40; refine (hcu.out _ HS.out).mono ?_; rintro _ w1 ⟨Ac, cc, rfl, hcc, hc, hb1⟩)
      have hb01 := below_tr hbr hb1
      have HS1 := hid (HS.out.below hb1)
      have HC1 := hid hc
      clear hc hcu HS hbr hb1
      obtain ⟨g1, g2, g3⟩ := HG.out
      have HGF := hid g1
      clear g1 HG
      rw [HN.out] at g2
      generalize hm : c.length = m at *
      have HMM := hid hm
      clear hm
      go_loopw [7, 5] (fun i o wr => ∃ (q : Nat) (v : Value), i = .int .i64 q ∧ v = o ∧ q + 1 ≤ m ∧ OwnS wr w1.heap.size v (growTo c (inR l) q) ∧ Below w1.heap.size w1 wr) (fun i _ _ => m - (intOf i).toNat)
      case atStart => exact ⟨0, _, rfl, rfl, by omega, OwnS.nil _ _, Below.refl _ _⟩
      case round =>
        obtain ⟨q, v, rfl, rfl, hq, HO, hbr⟩ := hrel
        have HQ := hid hbr
        by_cases hlt2 : q + 1 < m
        · obtain ⟨b, off, rfl, hbl, x0, x1, x2, x3, x4, x5, x6⟩ := (HC1.out.below hbr).at_ (k := q) (by rw [HMM.out]; omega)
          obtain ⟨_, z0, z1, z2, z3, z4, z5, z6⟩ := (HC1.out.below hbr).lay (k := q + 1) (by rw [HMM.out]; omega)
          have i0 : (0 : Int) ≤ (q : Int) := by omega
          have i1 : (q : Int) < (m : Int) := by omega
          have i2 : (q : Int) + 1 < (m : Int) := by omega
          have HCX := hid (fun w' (h : Below w1.heap.size w1 w') => And.intro ((HC1.out.below h).lay (k := q) (by rw [HMM.out]; omega)).2 ((HC1.out.below h).lay (k := q + 1) (by rw [HMM.out]; omega)).2)
          have HRL := hid (growTo_len c (inR l) q)
          have HRF := hid (growTo_fit (p := inR l) HGF.out q (by rw [HMM.out]; omega))
          have HX := hid (show growTo c (inR l) (q + 1) = if inR l (nthC c q) (nthC c (q + 1)) then growR (growTo c (inR l) q) (nthC c q) (nthC c (q + 1)) else growTo c (inR l) q from rfl)
          have HFF := hid (HGF.out.at_ q (by rw [HMM.out]; omega))
          have HFT := hid (HGF.out.at_ (q + 1) (by rw [HMM.out]; omega))
          generalize nthC c q = f at *
          generalize nthC c (q + 1) = t at *
          have hin := fun z : BW wr => (HN.out ▸ in_any A cap l f t z.v ((HS1.out.below HQ.out).below z.ok) HF.out (by rw [HN.out]; omega) HFF.out HFT.out : Calls Try.prog 41 #[.slice A k cap, f.val, t.val] z.v (BoolPost z.v (inR l f t)))
          generalize growTo c (inR l) q = r at *
          cases hp : inR l f t
          · rw [hp] at hin
            have hbw := bw_cell
            go_wp2_with fail
            refine wp_region_below (by kernel_rfl) (by kernel_rfl) ?_
            repeat (go_big_quiet_step ((go_at_call 41; exact bw_bool (hin _))))
            refine wpQuiet_nil ?_
            rintro _ ⟨z, rfl⟩
            clear hbw hin x0 x1 x2 x3 x4 x5 x6 z0 z1 z2 z3 z4 z5 z6
            go_wp2_with fail
            go_roundw
            case rel => exact ⟨q + 1, v, by go_num, rfl, by omega, by rw [HX.out, hp]; exact HO.below z.ok, below_tr hbr z.ok⟩
            case measure => simp [intOf]; omega
          · rw [hp] at hin
            have hbw := bw_cell
            go_wp2_with fail
            refine wp_region_below (by kernel_rfl) (by kernel_rfl) ?_
            repeat (go_big_quiet_step ((go_at_call 41; exact bw_bool (hin _))))
            refine wpQuiet_nil ?_
            rintro _ ⟨z, rfl⟩
            have hbz := below_tr HQ.out z.ok
            have HOz := hid (HO.below z.ok)
            clear hbw hin x0 x1 x2 x3 x4 x5 x6 z0 z1 z2 z3 z4 z5 z6 HO hbr
            generalize z.v = w5 at hbz HOz ⊢
            clear z
            have HSB : Hid (∀ w', Below w1.heap.size w1 w' → w'.cell? ⟨b, off + q * 7, none⟩ = some (.int .i64 f.en) ∧ w'.cell? ⟨b, off + q * 7 + 1, none⟩ = some (.int .i64 f.v.maj) ∧ w'.cell? ⟨b, off + q * 7 + 2, none⟩ = some (.int .i64 f.v.min) ∧ w'.cell? ⟨b, off + q * 7 + 3, none⟩ = some (.int .i64 f.v.pat) ∧ w'.cell? ⟨b, off + q * 7 + 4, none⟩ = some (.string f.v.pre) ∧ w'.cell? ⟨b, off + q * 7 + 5, none⟩ = some (.string f.v.bld) ∧ w'.cell? ⟨b, off + q * 7 + 6, none⟩ = some (.bool f.aft) ∧ w'.cell? ⟨b, off + (q + 1) * 7, none⟩ = some (.int .i64 t.en) ∧ w'.cell? ⟨b, off + (q + 1) * 7 + 1, none⟩ = some (.int .i64 t.v.maj) ∧ w'.cell? ⟨b, off + (q + 1) * 7 + 2, none⟩ = some (.int .i64 t.v.min) ∧ w'.cell? ⟨b, off + (q + 1) * 7 + 3, none⟩ = some (.int .i64 t.v.pat) ∧ w'.cell? ⟨b, off + (q + 1) * 7 + 4, none⟩ = some (.string t.v.pre) ∧ w'.cell? ⟨b, off + (q + 1) * 7 + 5, none⟩ = some (.string t.v.bld) ∧ w'.cell? ⟨b, off + (q + 1) * 7 + 6, none⟩ = some (.bool t.aft)) := hid (fun w' h => by
              obtain ⟨⟨a0, a1, a2, a3, a4, a5, a6⟩, c0, c1, c2, c3, c4, c5, c6⟩ := HCX.out w' h
              exact ⟨a0, a1, a2, a3, a4, a5, a6, c0, c1, c2, c3, c4, c5, c6⟩)
            go_wp2_with fail
            have y1 : IntKind.i64.wrap ((q : Int) + 1) = (q : Int) + 1 := IntWalk.i64_in _ (by omega)
            have y2 : (0 : Int) ≤ (q : Int) + 1 := by omega
            have y3 : ((q : Int) + 1).toNat = q + 1 := by omega
            go_region_held3 (fun w' => w'.cell? ⟨b, off + q * 7, none⟩ = some (.int .i64 f.en) ∧ w'.cell? ⟨b, off + q * 7 + 1, none⟩ = some (.int .i64 f.v.maj) ∧ w'.cell? ⟨b, off + q * 7 + 2, none⟩ = some (.int .i64 f.v.min) ∧ w'.cell? ⟨b, off + q * 7 + 3, none⟩ = some (.int .i64 f.v.pat) ∧ w'.cell? ⟨b, off + q * 7 + 4, none⟩ = some (.string f.v.pre) ∧ w'.cell? ⟨b, off + q * 7 + 5, none⟩ = some (.string f.v.bld) ∧ w'.cell? ⟨b, off + q * 7 + 6, none⟩ = some (.bool f.aft) ∧ w'.cell? ⟨b, off + (q + 1) * 7, none⟩ = some (.int .i64 t.en) ∧ w'.cell? ⟨b, off + (q + 1) * 7 + 1, none⟩ = some (.int .i64 t.v.maj) ∧ w'.cell? ⟨b, off + (q + 1) * 7 + 2, none⟩ = some (.int .i64 t.v.min) ∧ w'.cell? ⟨b, off + (q + 1) * 7 + 3, none⟩ = some (.int .i64 t.v.pat) ∧ w'.cell? ⟨b, off + (q + 1) * 7 + 4, none⟩ = some (.string t.v.pre) ∧ w'.cell? ⟨b, off + (q + 1) * 7 + 5, none⟩ = some (.string t.v.bld) ∧ w'.cell? ⟨b, off + (q + 1) * 7 + 6, none⟩ = some (.bool t.aft))
              (exact HSB.out _ (by first | assumption | exact hbz.drew))
              (first
                | (go_at_call 42; refine (grow_any w1.heap.size v r f t _ (HOz.out.below ((Below.refl _ _).drew)) hbz.size (by have := HRL.out; omega) HFF.out HFT.out HRF.out).mono ?_; rintro _ w6 ⟨v2, rfl, h2, h3, h4⟩; have hb6 : Below w1.heap.size w1 w6 := hbz.drew.trans h3))
            clear y1 y2 y3
            go_wp2_with fail
            go_roundw
            case rel => exact ⟨q + 1, v2, by go_num, rfl, by omega, by rw [HX.out, hp]; exact h2, hb6⟩
            case measure => simp [intOf]; omega
        · obtain rfl : q = m - 1 := by omega
          have e : growAll c (inR l) = growTo c (inR l) (m - 1) := by rw [growAll, HMM.out]
          have i2 : ((m - 1 : Nat) : Int) + 1 = (m : Int) := by omega
          generalize hq1 : m - 1 = q at *
          have HE2 := hid e
          clear e
          have i3 : ¬ ((q : Int) + 1 < (m : Int)) := by omega
          go_wp2_with fail
          refine bodyPost_ret (v := .tuple #[v, .bool true]) (by simp [results, Try.results14, go_sem]) rfl ?_
          rw [HE.out, HE2.out]
          exact ⟨v, rfl, OwnS.low HO (Nat.le_trans hb hb01.size), (hb01.mono hb).trans (hbr.mono (Nat.le_trans hb hb01.size)), Nat.le_trans hb01.size hbr.size⟩
end Go.Proofs.Ytodicnjoimoiiaa
