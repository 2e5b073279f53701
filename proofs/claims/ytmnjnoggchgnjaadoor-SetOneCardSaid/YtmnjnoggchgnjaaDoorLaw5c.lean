/- Sets: the walk of linchpinlaw5.SetOne. -/
import Derived.Test.YtmnjnoggchgnjaaDoorEd
namespace Go.Proofs.YtmnjnoggchgnjaaDoor
open Go.RowKit Go.Lib
open Rw
set_option linter.unusedVariables false
set_option linter.unusedSimpArgs false

def allTo (P : Ver → Bool) (l : List Ver) (k : Nat) : Bool := (l.take k).all P
theorem allTo_succ {P : Ver → Bool} {l : List Ver} {k : Nat} (h : k < l.length) : allTo P l (k + 1) = (allTo P l k && P (nthV l k)) := by
  rw [allTo, List.take_succ_eq_append_getElem h, List.all_append, nthV_lt h, allTo]
  simp
theorem allTo_all (P : Ver → Bool) (l : List Ver) : allTo P l l.length = l.all P := by rw [allTo, List.take_length]

set_option maxRecDepth 100000 in
set_option maxHeartbeats 4000000 in
theorem walk_SetOne (A0 : Option Addr) (c0 : Nat) (z0 : List Int) (A1 : Option Addr) (c1 : Nat) (z1 : List Int) (w : World) (h0 : IntsAt w A0 z0) (l0 : z0.length ≤ 9223372036854775807) (h1 : IntsAt w A1 z1) (l1 : z1.length ≤ 9223372036854775807) (hg : First w) : Calls Tryd.prog 3 #[.slice A0 z0.length c0, .slice A1 z1.length c1] w (BoolPost w true) := by
  have HI0 := hid h0
  have HL0 := hid l0
  have HI1 := hid h1
  have HL1 := hid l1
  have HG := hid hg
  have HB : Hid (Below w.heap.size w w) := hid (Below.refl _ _)
  have hM : maxLen = 9223372036854775807 := rfl
  clear hg h0 l0 h1 l1
  go_enter Tryd.func3, Tryd.ntmps3
  go_wp2_with fail
  refine (lawset_any A0 c0 z0 0 w HI0.out (by omega) (by omega) HL0.out).mono ?_
  rintro _ w1 ⟨al, am, Aa, ca, Ba, da, rfl, Sa, -, -, hb⟩
  have HI1 := hid (HI1.out.below hb)
  have HG := hid (HG.out.below hb)
  have HB := hid (below_tr HB.out hb)
  have HSa := hid Sa
  clear Sa hb
  go_wp2_with fail
  refine (lawset_any A1 c1 z1 0 w1 HI1.out (by omega) (by omega) HL1.out).mono ?_
  rintro _ w2 ⟨bl, bm, Ab, cb, Bb, db, rfl, Sb, -, -, hb⟩
  have HSa := hid (HSa.out.below hb)
  have HG := hid (HG.out.below hb)
  have HB := hid (below_tr HB.out hb)
  have HSb := hid Sb
  clear Sb hb
  have HVa := hid (⟨HSa.out.val.rel, HSa.out.val.right, ValS.nil.pre⟩ : ValS al [])
  have HVb := hid (⟨HSb.out.val.rel, HSb.out.val.right, ValS.nil.pre⟩ : ValS bl [])
  have HTa := hid (⟨HSa.out.rel, .inl rfl, HSa.out.frel, fit_nil, HSa.out.nrel, Nat.zero_le _, HVa.out⟩ : SetAt 19 w2 Aa al none [])
  have HTb := hid (⟨HSb.out.rel, .inl rfl, HSb.out.frel, fit_nil, HSb.out.nrel, Nat.zero_le _, HVb.out⟩ : SetAt 19 w2 Ab bl none [])
  clear HI0 HL0 HI1 HL1 HSa HSb
  generalize hma : am.length = ma at *
  generalize hmb : bm.length = mb at *
  clear hma hmb
  have HONE := hid (one_edges HVa.out HVb.out)
  have HEa := hid (fun wx (h : Below w2.heap.size w2 wx) => edges_any Aa none ca 0 0 al wx (HTa.out.rel.below h) (by have := HTa.out.nrel; omega))
  have HEb := hid (fun wx (h : Below w2.heap.size w2 wx) => edges_any Ab none cb 0 0 bl wx (HTb.out.rel.below h) (by have := HTb.out.nrel; omega))
  have HLa := hid (edgesL_len HTa.out.nrel)
  have HLb := hid (edgesL_len HTb.out.nrel)
  have HSM := hid (fun wx (h : Below w2.heap.size w2 wx) => law_same ca 0 cb 0 (HTa.out.below h) (HTb.out.below h) (by decide))
  have HAa := hid (fun wx (h : Below w2.heap.size w2 wx) (v : Ver) (hv : v.fit) => law_has (v := v) ca 0 (HG.out.below h) (HTa.out.below h) hv (by decide))
  have HAb := hid (fun wx (h : Below w2.heap.size w2 wx) (v : Ver) (hv : v.fit) => law_has (v := v) cb 0 (HG.out.below h) (HTb.out.below h) hv (by decide))
  have HFE := hid (edges_fit HTa.out.frel HTb.out.frel)
  generalize hea : edgesL al = ea at *
  generalize heb : edgesL bl = eb at *
  clear hea heb
  generalize hsame : sameS al [] bl [] = bs at *
  have HBS := hid hsame
  clear hsame
  generalize hfa : hasS al [] = fa at *
  generalize hfb : hasS bl [] = fb at *
  clear hfa hfb
  simp only [List.length_nil] at HSM HAa HAb
  clear HVa HVb HTa HTb
  generalize hna : al.length = na at *
  generalize hnb : bl.length = nb at *
  clear hna hnb
  go_wp2_with fail
  refine wp_name ?_
  intro w4 hwn
  obtain ⟨hx0, hx1, hb⟩ := box_2 (cs := [Value.slice Aa na ca, .slice none 0 0]) (ds := [Value.slice Ab nb cb, .slice none 0 0]) (w := w2) (w1 := w4) (t := 25) (s := 25) (by rw [hwn]; exact Below.refl _ _)
  have HXa := hid hx0
  have HXb := hid hx1
  have HB4 := hid hb
  clear hwn hx0 hx1 hb
  have HSB : Hid (∀ w', Below w4.heap.size w4 w' → w'.cell? ⟨w2.heap.size, 0, none⟩ = some (.slice Aa na ca) ∧ w'.cell? ⟨w2.heap.size, 1, none⟩ = some (.slice none 0 0) ∧ w'.cell? ⟨w2.heap.size + 1, 0, none⟩ = some (.slice Ab nb cb) ∧ w'.cell? ⟨w2.heap.size + 1, 1, none⟩ = some (.slice none 0 0)) := hid (fun w' h => by
    obtain ⟨a0, a1⟩ := (HXa.out.below h).get2
    obtain ⟨a2, a3⟩ := (HXb.out.below h).get2
    exact ⟨a0, a1, a2, a3⟩)
  have HEa4 := hid (fun wx (h : Below w4.heap.size w4 wx) => HEa.out wx (below_tr HB4.out h))
  have HEb4 := hid (fun wx (h : Below w4.heap.size w4 wx) => HEb.out wx (below_tr HB4.out h))
  have la := HLa.out
  have lb := HLb.out
  go_region_held3 (fun w' => w'.cell? ⟨w2.heap.size, 0, none⟩ = some (.slice Aa na ca) ∧ w'.cell? ⟨w2.heap.size, 1, none⟩ = some (.slice none 0 0) ∧ w'.cell? ⟨w2.heap.size + 1, 0, none⟩ = some (.slice Ab nb cb) ∧ w'.cell? ⟨w2.heap.size + 1, 1, none⟩ = some (.slice none 0 0))
    (first | (exact HSB.out _ (by first | assumption | exact (Below.refl _ _).drew | exact Below.refl _ _)) | go_keep)
    (first
      | (go_at_call_of 7 Aa; (with_reducible refine (HEa4.out _ (by first | assumption | exact (Below.refl _ _).drew | exact Below.refl _ _)).mono ?_); rintro _ p1 ⟨v1, rfl, q1, kp1⟩; have hp1 : Below w4.heap.size w4 p1 := below_tr (by first | assumption | exact (Below.refl _ _).drew | exact Below.refl _ _) kp1; have o1 := q1.low (b := w4.heap.size) (by first | exact Nat.le_refl _ | exact (Below.refl _ _).drew.size))
      | (go_at_call 7; (with_reducible refine (HEb4.out _ (by first | assumption | exact (Below.refl _ _).drew | exact Below.refl _ _)).mono ?_); rintro _ p2 ⟨v2, rfl, q2, kp2⟩; have hp2 : Below w4.heap.size w4 p2 := below_tr (by first | assumption | exact (Below.refl _ _).drew | exact Below.refl _ _) kp2; obtain ⟨A2, n2, rfl, r2⟩ := q2.vers; have o2 := o1.below (below_tr (by first | assumption | exact (Below.refl _ _).drew | exact Below.refl _ _) kp2))
      | (refine step_appx EKvers (by rfl) (.tmp 17) (.tmp 19) (by rfl) (by rfl) o2 (by rfl) r2.src (oneR _) (by omega) (by omega) hp2.size ?_; intro v3 p3 h2 h3 h4; have hp3 : Below w4.heap.size w4 p3 := Below.trans hp2 h3))
  have HO3 := hid (OwnR.cat h2)
  have HB5 := hid (below_tr HB4.out hp3)
  have HSB5 := hid (fun w' (h : Below p3.heap.size p3 w') => HSB.out w' (below_tr hp3 h))
  have HAa5 := hid (fun wx (h : Below p3.heap.size p3 wx) v hv => HAa.out wx (below_tr HB5.out h) v hv)
  have HAb5 := hid (fun wx (h : Below p3.heap.size p3 wx) v hv => HAb.out wx (below_tr HB5.out h) v hv)
  have HSM5 := hid (fun wx (h : Below p3.heap.size p3 wx) => HSM.out wx (below_tr HB5.out h))
  have HG5 := hid (HG.out.below HB5.out)
  have HBE := hid (below_tr HB.out HB5.out)
  have HLN : Hid ((ea ++ eb).length ≤ 100) := hid (by rw [List.length_append]; omega)
  clear HSB HAa HAb HSM HEa HEb HEa4 HEb4 h2 h3 h4 hp1 hp2 hp3 kp1 kp2 q1 q2 o1 o2 r2 HXa HXb HLa HLb la lb HG HB HB4
  generalize ea ++ eb = es at *
  obtain ⟨A3, n3, rfl, r3⟩ := HO3.out.vers
  have HV3 := hid r3
  clear r3 HO3
  generalize hn : es.length = n at *
  have HN := hid hn
  clear hn
  have hn100 := HLN.out
  go_wp2_with fail
  go_loopw [8, 9] (fun q i wr => ∃ k : Nat, i = .int .i64 k ∧ k ≤ n ∧ q = .bool (allTo (fun v => fa v == fb v) es k) ∧ Hid (Below p3.heap.size p3 wr)) (fun _ i _ => n - (intOf i).toNat)
  case atStart => exact ⟨0, rfl, Nat.zero_le _, rfl, Below.refl _ _⟩
  case round =>
    obtain ⟨k, rfl, hk, rfl, HBR⟩ := hrel
    have i0 : (0 : Int) ≤ (k : Int) := by omega
    by_cases hlt : k < n
    · have i1 : (k : Int) < (n : Int) := by omega
      have hlt' : k < es.length := by rw [HN.out]; exact hlt
      have HSU := hid (allTo_succ (P := fun v => fa v == fb v) hlt')
      have HFS := hid (HFE.out (nthV es k) (by rw [nthV_lt hlt']; exact List.getElem_mem hlt'))
      obtain ⟨b, off, rfl, hbl, x0, x1, x2, x3, x4⟩ := (HV3.out.below HBR.out).at_ (k := k) hlt'
      have HCX := hid (fun w' (h : Below wr.heap.size wr w') => (HV3.out.below (below_tr HBR.out h)).at_ (k := k) hlt')
      generalize nthV es k = s at *
      have HSB : Hid (∀ w', Below wr.heap.size wr w' → w'.cell? ⟨w2.heap.size, 0, none⟩ = some (.slice Aa na ca) ∧ w'.cell? ⟨w2.heap.size, 1, none⟩ = some (.slice none 0 0) ∧ w'.cell? ⟨w2.heap.size + 1, 0, none⟩ = some (.slice Ab nb cb) ∧ w'.cell? ⟨w2.heap.size + 1, 1, none⟩ = some (.slice none 0 0) ∧ w'.cell? ⟨b, off + k * 5, none⟩ = some (.int .i64 s.maj) ∧ w'.cell? ⟨b, off + k * 5 + 1, none⟩ = some (.int .i64 s.min) ∧ w'.cell? ⟨b, off + k * 5 + 2, none⟩ = some (.int .i64 s.pat) ∧ w'.cell? ⟨b, off + k * 5 + 3, none⟩ = some (.string s.pre) ∧ w'.cell? ⟨b, off + k * 5 + 4, none⟩ = some (.string s.bld)) := hid (fun w' h => by
        obtain ⟨a0, a1, a2, a3⟩ := HSB5.out w' (below_tr HBR.out h)
        obtain ⟨b', off', e, _, y0, y1, y2, y3, y4⟩ := HCX.out w' h
        injection e with e
        injection e with e1 e2
        subst e1 e2
        exact ⟨a0, a1, a2, a3, y0, y1, y2, y3, y4⟩)
      clear HCX x0 x1 x2 x3 x4
      cases hq : allTo (fun v => fa v == fb v) es k
      · rw [hq, Bool.false_and] at HSU
        go_wp2_with fail
        refine wp_region_below (by kernel_rfl) (by kernel_rfl) ?_
        repeat (go_big_quiet_step (fail))
        refine wpQuiet_nil ?_
        rintro _ ⟨z, rfl⟩
        have HR2 := hid (below_tr HBR.out z.ok)
        clear HBR HSB hbl
        generalize z.v = w9 at *
        clear z
        go_wp2_with fail
        go_roundw
        case rel => exact ⟨k + 1, by go_num, by omega, by rw [HSU.out], HR2.out⟩
        case measure => simp [intOf]; omega
      · have HHa := hid (fun wx (h : Below wr.heap.size wr wx) => HAa5.out wx (below_tr HBR.out h) s HFS.out)
        have HHb := hid (fun wx (h : Below wr.heap.size wr wx) => HAb5.out wx (below_tr HBR.out h) s HFS.out)
        rw [hq, Bool.true_and] at HSU
        generalize fa s = pa at *
        generalize fb s = pb at *
        clear hq
        cases pa <;> cases pb
        all_goals
          go_wp2_with fail
          go_region_held3 (fun w' => w'.cell? ⟨w2.heap.size, 0, none⟩ = some (.slice Aa na ca) ∧ w'.cell? ⟨w2.heap.size, 1, none⟩ = some (.slice none 0 0) ∧ w'.cell? ⟨w2.heap.size + 1, 0, none⟩ = some (.slice Ab nb cb) ∧ w'.cell? ⟨w2.heap.size + 1, 1, none⟩ = some (.slice none 0 0) ∧ w'.cell? ⟨b, off + k * 5, none⟩ = some (.int .i64 s.maj) ∧ w'.cell? ⟨b, off + k * 5 + 1, none⟩ = some (.int .i64 s.min) ∧ w'.cell? ⟨b, off + k * 5 + 2, none⟩ = some (.int .i64 s.pat) ∧ w'.cell? ⟨b, off + k * 5 + 3, none⟩ = some (.string s.pre) ∧ w'.cell? ⟨b, off + k * 5 + 4, none⟩ = some (.string s.bld))
            (first | (exact HSB.out _ (by first | assumption | exact (Below.refl _ _).drew | exact Below.refl _ _)) | go_keep)
            (first
              | (go_at_call_of 8 Aa; (with_reducible refine (HHa.out _ (by first | assumption | exact (Below.refl _ _).drew | exact Below.refl _ _)).mono ?_); rintro _ r1 ⟨rfl, kr1⟩; have hr1 : Below wr.heap.size wr r1 := below_tr (by first | assumption | exact (Below.refl _ _).drew | exact Below.refl _ _) kr1)
              | (go_at_call 8; (with_reducible refine (HHb.out _ (by first | assumption | exact (Below.refl _ _).drew | exact Below.refl _ _)).mono ?_); rintro _ r2 ⟨rfl, kr2⟩; have hr2 : Below wr.heap.size wr r2 := below_tr (by first | assumption | exact (Below.refl _ _).drew | exact Below.refl _ _) kr2))
          have HR2 := hid (below_tr HBR.out hr2)
          clear HBR HSB hbl kr1 kr2 hr1 hr2
          go_wp2_with fail
          go_roundw
          case rel => exact ⟨k + 1, by go_num, by omega, by rw [HSU.out]; rfl, HR2.out⟩
          case measure => simp [intOf]; omega
    · have i1 : ¬ (k : Int) < (n : Int) := by omega
      have ek : k = n := by omega
      subst ek
      rw [← HN.out, allTo_all, ← HONE.out] at *
      go_wp2_with fail
      refine (s5awake_any wr (HG5.out.below HBR.out)).mono ?_
      rintro _ q1 ⟨rfl, hb1⟩
      have HQ1 := hid (below_tr HBR.out hb1)
      obtain ⟨a0, a1, a2, a3⟩ := HSB5.out _ HQ1.out
      clear hb1
      go_wp2_with fail
      refine (HSM5.out _ HQ1.out).mono ?_
      rintro _ q2 ⟨rfl, hb2⟩
      have HQ2 := hid (below_tr HQ1.out hb2)
      clear hb2
      cases bs
      all_goals
        go_wp2_with fail
        go_ret
        exact ⟨rfl, below_tr HBE.out HQ2.out⟩
end Go.Proofs.YtmnjnoggchgnjaaDoor
