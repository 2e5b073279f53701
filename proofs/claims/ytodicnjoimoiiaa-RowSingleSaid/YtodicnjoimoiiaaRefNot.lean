/- The walk of the reference's Not. -/
import Derived.Test.YtodicnjoimoiiaaRefMake
namespace Go.Proofs.Ytodicnjoimoiiaa
open Go.RowKit Go.Lib
set_option linter.unusedVariables false
set_option linter.unusedSimpArgs false

def notIn (l : List SpanL) (f t : CutL) : Bool := !inR l f t
def rnotL (l : List SpanL) : List SpanL := if mayR l then growAll (cutsL l) (notIn l) else []

set_option maxRecDepth 100000 in
set_option maxHeartbeats 1000000 in
theorem rnot_any (base : Nat) (A : Option Addr) (cap : Nat) (l : List SpanL) (w : World) (hl : Spans w A l) (hf : fitL l) (hln : l.length ≤ 40000) (hb : base ≤ w.heap.size) : Calls Try.prog 26 #[.slice A l.length cap] w (RowPost w base (rnotL l)) := by
  have HF := hid hf
  have HL := hid hl
  have hma := hid (rrowmay_any A cap l w hl hf (by omega))
  clear hl hf
  cases hmay : mayR l
  · have HE := hid (show rnotL l = [] by rw [rnotL, hmay]; rfl)
    rw [hmay] at hma
    generalize hn : l.length = n at *
    go_enter Try.func26, Try.ntmps26
    go_wp2_with (go_at_call 16; refine hma.out.mono ?_; rintro _ w1 ⟨rfl, hb1⟩)
    go_ret
    rw [HE.out]
    exact ⟨_, rfl, OwnS.nil _ _, hb1.mono hb, hb1.size⟩
  · have HE := hid (show rnotL l = growAll (cutsL l) (notIn l) by rw [rnotL, hmay]; rfl)
    rw [hmay] at hma
    generalize hn : l.length = n at *
    have HN := hid hn
    clear hn
    have HG := hid (cutsL_good HF.out)
    have hcu := hid (fun w' (h : Spans w' A l) => (HN.out ▸ cuts_any A cap l w' h HF.out (by rw [HN.out]; omega) : Calls Try.prog 40 #[.slice A n cap] w' (PutPost w' (cutsL l))))
    generalize cutsL l = c at *
    go_enter Try.func26, Try.ntmps26
    go_wp2_with (first | (go_at_call 16; refine hma.out.mono ?_; rintro _ w0 ⟨rfl, hb0⟩) | (go_at_call 40; refine (hcu.out _ (HL.out.below hb0)).mono ?_; rintro _ w1 ⟨Ac, cc, rfl, hcc, hc, hb1⟩))
    have hb01 := below_tr hb0 hb1
    have HS1 := hid (HL.out.below hb01)
    have HC1 := hid hc
    clear hc hcu HL hb0 hb1 hma
    obtain ⟨g1, g2, g3⟩ := HG.out
    have HGF := hid g1
    clear g1 HG
    rw [HN.out] at g2
    generalize hm : c.length = m at *
    have HMM := hid hm
    clear hm
    go_loopw [5, 3] (fun i o wr => ∃ (q : Nat) (v : Value), i = .int .i64 q ∧ v = o ∧ q + 1 ≤ m ∧ OwnS wr w1.heap.size v (growTo c (notIn l) q) ∧ Below w1.heap.size w1 wr) (fun i _ _ => m - (intOf i).toNat)
    case atStart => exact ⟨0, _, rfl, rfl, by omega, OwnS.nil _ _, Below.refl _ _⟩
    case round =>
      obtain ⟨q, v, rfl, rfl, hq, HO, hbr⟩ := hrel
      have HQ := hid hbr
      by_cases hlt2 : q + 1 < m
      · obtain ⟨b, off, rfl, hbl, x0, x1, x2, x3, x4, x5, x6⟩ := (HC1.out.below hbr).at_ (k := q) (by rw [HMM.out]; omega)
        obtain ⟨_, z0, z1, z2, z3, z4, z5, z6⟩ := (HC1.out.below hbr).lay (k := q + 1) (by rw [HMM.out]; omega)
        have i0 : (0 : Int) ≤ (q : Int) := by omega
        have i1 : (q : Int) < (m : Int) := by omega
        have i2 : (q : Int) + 1 < (m : Int) := by omega
        have HCX := hid (fun w' (h : Below w1.heap.size w1 w') => And.intro ((HC1.out.below h).lay (k := q) (by rw [HMM.out]; omega)).2 ((HC1.out.below h).lay (k := q + 1) (by rw [HMM.out]; omega)).2)
        have HRL := hid (growTo_len c (notIn l) q)
        have HRF := hid (growTo_fit (p := notIn l) HGF.out q (by rw [HMM.out]; omega))
        have HX := hid (show growTo c (notIn l) (q + 1) = if notIn l (nthC c q) (nthC c (q + 1)) then growR (growTo c (notIn l) q) (nthC c q) (nthC c (q + 1)) else growTo c (notIn l) q from rfl)
        have HFF := hid (HGF.out.at_ q (by rw [HMM.out]; omega))
        have HFT := hid (HGF.out.at_ (q + 1) (by rw [HMM.out]; omega))
        generalize nthC c q = f at *
        generalize nthC c (q + 1) = t at *
        have hin := fun z : BW wr => (HN.out ▸ in_any A cap l f t z.v ((HS1.out.below HQ.out).below z.ok) HF.out (by rw [HN.out]; omega) HFF.out HFT.out : Calls Try.prog 41 #[.slice A n cap, f.val, t.val] z.v (BoolPost z.v (inR l f t)))
        generalize growTo c (notIn l) q = r at *
        have HNI := hid (show notIn l f t = !inR l f t from rfl)
        cases hp : inR l f t
        · rw [hp] at hin
          have hbw := bw_cell
          go_wp2_with fail
          refine wp_region_below (by kernel_rfl) (by kernel_rfl) ?_
          repeat (go_big_quiet_step ((go_at_call 41; exact bw_bool (hin _))))
          refine wpQuiet_nil ?_
          rintro _ ⟨z, rfl⟩
          have hbz := below_tr HQ.out z.ok
          have HOz := hid (HO.below z.ok)
          clear hbw hin x0 x1 x2 x3 x4 x5 x6 z0 z1 z2 z3 z4 z5 z6 HO hbr
          generalize z.v = w5 at hbz HOz ⊢
          clear z
          have HSB : Hid (∀ w', Below w1.heap.size w1 w' → w'.cell? ⟨b, off + q * 7, none⟩ = some (.int .i64 f.en) ∧ w'.cell? ⟨b, off + q * 7 + 1, none⟩ = some (.int .i64 f.v.maj) ∧ w'.cell? ⟨b, off + q * 7 + 2, none⟩ = some (.int .i64 f.v.min) ∧ w'.cell? ⟨b, off + q * 7 + 3, none⟩ = some (.int .i64 f.v.pat) ∧ w'.cell? ⟨b, off + q * 7 + 4, none⟩ = some (.string f.v.pre) ∧ w'.cell? ⟨b, off + q * 7 + 5, none⟩ = some (.string f.v.bld) ∧ w'.cell? ⟨b, off + q * 7 + 6, none⟩ = some (.bool f.aft) ∧ w'.cell? ⟨b, off + (q + 1) * 7, none⟩ = some (.int .i64 t.en) ∧ w'.cell? ⟨b, off + (q + 1) * 7 + 1, none⟩ = some (.int .i64 t.v.maj) ∧ w'.cell? ⟨b, off + (q + 1) * 7 + 2, none⟩ = some (.int .i64 t.v.min) ∧ w'.cell? ⟨b, off + (q + 1) * 7 + 3, none⟩ = some (.int .i64 t.v.pat) ∧ w'.cell? ⟨b, off + (q + 1) * 7 + 4, none⟩ = some (.string t.v.pre) ∧ w'.cell? ⟨b, off + (q + 1) * 7 + 5, none⟩ = some (.string t.v.bld) ∧ w'.cell? ⟨b, off + (q + 1) * 7 + 6, none⟩ = some (.bool t.aft)) := hid (fun w' h => by
            obtain ⟨⟨a0, a1, a2, a3, a4, a5, a6⟩, c0, c1, c2, c3, c4, c5, c6⟩ := HCX.out w' h
            exact ⟨a0, a1, a2, a3, a4, a5, a6, c0, c1, c2, c3, c4, c5, c6⟩)
          go_wp2_with fail
          have y1 : IntKind.i64.wrap ((q : Int) + 1) = (q : Int) + 1 := IntWalk.i64_in _ (by omega)
          have y2 : (0 : Int) ≤ (q : Int) + 1 := by omega
          have y3 : ((q : Int) + 1).toNat = q + 1 := by omega
          go_region_held3 (fun w' => w'.cell? ⟨b, off + q * 7, none⟩ = some (.int .i64 f.en) ∧ w'.cell? ⟨b, off + q * 7 + 1, none⟩ = some (.int .i64 f.v.maj) ∧ w'.cell? ⟨b, off + q * 7 + 2, none⟩ = some (.int .i64 f.v.min) ∧ w'.cell? ⟨b, off + q * 7 + 3, none⟩ = some (.int .i64 f.v.pat) ∧ w'.cell? ⟨b, off + q * 7 + 4, none⟩ = some (.string f.v.pre) ∧ w'.cell? ⟨b, off + q * 7 + 5, none⟩ = some (.string f.v.bld) ∧ w'.cell? ⟨b, off + q * 7 + 6, none⟩ = some (.bool f.aft) ∧ w'.cell? ⟨b, off + (q + 1) * 7, none⟩ = some (.int .i64 t.en) ∧ w'.cell? ⟨b, off + (q + 1) * 7 + 1, none⟩ = some (.int .i64 t.v.maj) ∧ w'.cell? ⟨b, off + (q + 1) * 7 + 2, none⟩ = some (.int .i64 t.v.min) ∧ w'.cell? ⟨b, off + (q + 1) * 7 + 3, none⟩ = some (.int .i64 t.v.pat) ∧ w'.cell? ⟨b, off + (q + 1) * 7 + 4, none⟩ = some (.string t.v.pre) ∧ w'.cell? ⟨b, off + (q + 1) * 7 + 5, none⟩ = some (.string t.v.bld) ∧ w'.cell? ⟨b, off + (q + 1) * 7 + 6, none⟩ = some (.bool t.aft))
            (exact HSB.out _ (by first | assumption | exact hbz.drew))
            (first
              | (go_at_call 42; refine (grow_any w1.heap.size v r f t _ (HOz.out.below ((Below.refl _ _).drew)) hbz.size (by have := HRL.out; omega) HFF.out HFT.out HRF.out).mono ?_; rintro _ w6 ⟨v2, rfl, h2, h3, h4⟩; have hb6 : Below w1.heap.size w1 w6 := hbz.drew.trans h3))
          clear y1 y2 y3
          go_wp2_with fail
          go_roundw
          case rel => exact ⟨q + 1, v2, by go_num, rfl, by omega, by rw [HX.out, HNI.out, hp]; exact h2, hb6⟩
          case measure => simp [intOf]; omega
        · rw [hp] at hin
          have hbw := bw_cell
          go_wp2_with fail
          refine wp_region_below (by kernel_rfl) (by kernel_rfl) ?_
          repeat (go_big_quiet_step ((go_at_call 41; exact bw_bool (hin _))))
          refine wpQuiet_nil ?_
          rintro _ ⟨z, rfl⟩
          clear hbw hin x0 x1 x2 x3 x4 x5 x6 z0 z1 z2 z3 z4 z5 z6
          go_wp2_with fail
          go_roundw
          case rel => exact ⟨q + 1, v, by go_num, rfl, by omega, by rw [HX.out, HNI.out, hp]; exact HO.below z.ok, below_tr hbr z.ok⟩
          case measure => simp [intOf]; omega
      · obtain rfl : q = m - 1 := by omega
        have e : growAll c (notIn l) = growTo c (notIn l) (m - 1) := by rw [growAll, HMM.out]
        have i2 : ((m - 1 : Nat) : Int) + 1 = (m : Int) := by omega
        generalize hq1 : m - 1 = q at *
        have HE2 := hid e
        clear e
        have i3 : ¬ ((q : Int) + 1 < (m : Int)) := by omega
        go_wp2_with fail
        go_ret
        rw [HE.out, HE2.out]
        exact ⟨v, rfl, OwnS.low HO (Nat.le_trans hb hb01.size), (hb01.mono hb).trans (hbr.mono (Nat.le_trans hb hb01.size)), Nat.le_trans hb01.size hbr.size⟩
end Go.Proofs.Ytodicnjoimoiiaa
