/- The walks of the reference's Or and And. -/
import Derived.Test.YtodicnjoimoiiaaRowMath
import Derived.Test.YtodicnjoimoiiaaCat
namespace Go.Proofs.Ytodicnjoimoiiaa
open Go.RowKit Go.Lib
set_option linter.unusedVariables false
set_option linter.unusedSimpArgs false

theorem fitL_app {a b : List SpanL} (ha : fitL a) (hb : fitL b) : fitL (a ++ b) := ha.app hb


set_option maxRecDepth 100000 in
set_option maxHeartbeats 1000000 in
theorem rror_no (base : Nat) (A B : Option Addr) (cap cap2 : Nat) (a b : List SpanL) (w : World) (ha : Spans w A a) (hb : Spans w B b) (hfa : fitL a) (hfb : fitL b) (hln : a.length + b.length ≤ 40000) (hbase : base ≤ w.heap.size) (hno : (mayR a && mayR b) = false) : Calls Try.prog 24 #[.slice A a.length cap, .slice B b.length cap2] w (RowPost w base []) := by
  have hma := hid (rrowmay_any A cap a w ha hfa (by omega))
  have HB := hid hb
  have hmb := hid (fun w' (h : Spans w' B b) => rrowmay_any B cap2 b w' h hfb (by omega))
  clear ha hb hfa hfb
  cases hmay : mayR a
  · rw [hmay] at hma
    generalize a.length = n at *
    generalize b.length = p at *
    clear hno
    go_enter Try.func24, Try.ntmps24
    go_wp2_with fail
    refine hma.out.mono ?_
    rintro _ w1 ⟨rfl, hb1⟩
    go_wp2_with fail
    go_ret
    exact ⟨_, rfl, OwnS.nil _ _, hb1.mono hbase, hb1.size⟩
  · rw [hmay] at hma hno
    have hbm : mayR b = false := by simpa using hno
    rw [hbm] at hmb
    generalize a.length = n at *
    generalize b.length = p at *
    clear hno hbm
    go_enter Try.func24, Try.ntmps24
    go_wp2_with fail
    refine hma.out.mono ?_
    rintro _ w1 ⟨rfl, hb1⟩
    go_wp2_with fail
    refine (hmb.out _ (HB.out.below hb1)).mono ?_
    rintro _ w2 ⟨rfl, hb2⟩
    have hb02 := below_tr hb1 hb2
    go_wp2_with fail
    go_ret
    exact ⟨_, rfl, OwnS.nil _ _, hb02.mono hbase, hb02.size⟩

set_option maxRecDepth 100000 in
set_option maxHeartbeats 1000000 in
theorem rrand_no (base : Nat) (A B : Option Addr) (cap cap2 : Nat) (a b : List SpanL) (w : World) (ha : Spans w A a) (hb : Spans w B b) (hfa : fitL a) (hfb : fitL b) (hln : a.length + b.length ≤ 40000) (hbase : base ≤ w.heap.size) (hno : (mayR a && mayR b) = false) : Calls Try.prog 25 #[.slice A a.length cap, .slice B b.length cap2] w (RowPost w base []) := by
  have hma := hid (rrowmay_any A cap a w ha hfa (by omega))
  have HB := hid hb
  have hmb := hid (fun w' (h : Spans w' B b) => rrowmay_any B cap2 b w' h hfb (by omega))
  clear ha hb hfa hfb
  cases hmay : mayR a
  · rw [hmay] at hma
    generalize a.length = n at *
    generalize b.length = p at *
    clear hno
    go_enter Try.func25, Try.ntmps25
    go_wp2_with fail
    refine hma.out.mono ?_
    rintro _ w1 ⟨rfl, hb1⟩
    go_wp2_with fail
    go_ret
    exact ⟨_, rfl, OwnS.nil _ _, hb1.mono hbase, hb1.size⟩
  · rw [hmay] at hma hno
    have hbm : mayR b = false := by simpa using hno
    rw [hbm] at hmb
    generalize a.length = n at *
    generalize b.length = p at *
    clear hno hbm
    go_enter Try.func25, Try.ntmps25
    go_wp2_with fail
    refine hma.out.mono ?_
    rintro _ w1 ⟨rfl, hb1⟩
    go_wp2_with fail
    refine (hmb.out _ (HB.out.below hb1)).mono ?_
    rintro _ w2 ⟨rfl, hb2⟩
    have hb02 := below_tr hb1 hb2
    go_wp2_with fail
    go_ret
    exact ⟨_, rfl, OwnS.nil _ _, hb02.mono hbase, hb02.size⟩

set_option maxRecDepth 100000 in
set_option maxHeartbeats 1000000 in
theorem ror_yes (base : Nat) (A B : Option Addr) (cap cap2 : Nat) (a b : List SpanL) (w : World) (ha : Spans w A a) (hb : Spans w B b) (hfa : fitL a) (hfb : fitL b) (hln : a.length + b.length ≤ 40000) (hbase : base ≤ w.heap.size) (hmay : mayR a = true ∧ mayR b = true) : Calls Try.prog 24 #[.slice A a.length cap, .slice B b.length cap2] w (RowPost w base (rmakeL (a ++ b)).1) := by
  have HA := hid ha
  have HB := hid hb
  have HFA := hid hfa
  have HFB := hid hfb
  have hma := hid (rrowmay_any A cap a w ha hfa (by omega))
  have hmb := hid (fun w' (h : Spans w' B b) => rrowmay_any B cap2 b w' h hfb (by omega))
  rw [hmay.1] at hma
  rw [hmay.2] at hmb
  have HSA := hid (fun w' (h : Spans w' A a) => h.src)
  have HSB2 := hid (fun w' (h : Spans w' B b) => h.src)
  have HCAT := hid (fun (w' : World) (base : Nat) (v : Value) (h : w'.ownsRow base 37 14 v (a.length + b.length) (cellsL a ++ cellsL b)) => (OwnS.cat h).spans)
  have hmk := hid (fun w' A' c' (h : Spans w' A' (a ++ b)) (hw : base ≤ w'.heap.size) => rmake_any base A' c' (a ++ b) w' h (fitL_app hfa hfb) (by rw [List.length_append]; exact hln) hw)
  generalize rmakeL (a ++ b) = r at *
  clear ha hb hfa hfb hmay
  generalize hn : a.length = n at *
  generalize hp : b.length = p at *
  have HN := hid hn
  have HP := hid hp
  clear hn hp
  have hM : maxLen = 9223372036854775807 := rfl
  go_enter Try.func24, Try.ntmps24
  go_wp2_with fail
  refine hma.out.mono ?_
  rintro _ w1 ⟨rfl, hb1⟩
  go_wp2_with fail
  refine (hmb.out _ (HB.out.below hb1)).mono ?_
  rintro _ w2 ⟨rfl, hb2⟩
  have hb02 := below_tr hb1 hb2
  clear hma hmb hb1 hb2
  go_wp2_with (first
    | (at_builtin; refine wpList_appx EKspans rfl (.const (.slice none 0 0)) (.tmp 16) rfl rfl (World.ownsRow_nil w2 w2.heap.size _ _) rfl (HSA.out _ (HA.out.below hb02)) (oneS a) (by omega) (by omega) (Nat.le_refl _) ?_; intro v3 w3 h3 hb3 _; have hb03 := below_tr hb02 hb3; have hz3 := hb3.size; simp only [Nat.zero_add, List.nil_append] at h3)
    | (at_builtin; refine wpList_appx EKspans rfl (.tmp 17) (.tmp 18) rfl rfl h3 rfl (HSB2.out _ (HB.out.below hb03)) (oneS b) (by omega) (by omega) hz3 ?_; intro v4 w4 h4 hb4 _))
  have hb24 := hb3.trans hb4
  obtain ⟨A4, c4, rfl, h5⟩ := HCAT.out _ _ _ h4
  have hb04 := below_tr hb02 hb24
  clear h3 h4 hb3 hb4 hb24 hb03 hb02 hz3 HCAT HSA HSB2
  go_wp2_with fail
  refine (hmk.out _ _ _ h5 (Nat.le_trans hbase hb04.size)).mono ?_
  rintro _ w5 ⟨v5, rfl, h6, h7, h8⟩
  have hb05 := (hb04.mono hbase).trans h7
  go_wp2_with fail
  go_ret
  exact ⟨_, rfl, h6, hb05, hb05.size⟩

set_option maxRecDepth 100000 in
set_option maxHeartbeats 1000000 in
theorem rand_yes (base : Nat) (A B : Option Addr) (cap cap2 : Nat) (a b : List SpanL) (w : World) (ha : Spans w A a) (hb : Spans w B b) (hfa : fitL a) (hfb : fitL b) (hln : a.length + b.length ≤ 40000) (hbase : base ≤ w.heap.size) (hmay : mayR a = true ∧ mayR b = true) : Calls Try.prog 25 #[.slice A a.length cap, .slice B b.length cap2] w (RowPost w base (growAll (cutsL (a ++ b)) (bothIn a b))) := by
  have HA := hid ha
  have HB := hid hb
  have HFA := hid hfa
  have HFB := hid hfb
  have hma := hid (rrowmay_any A cap a w ha hfa (by omega))
  have hmb := hid (fun w' (h : Spans w' B b) => rrowmay_any B cap2 b w' h hfb (by omega))
  rw [hmay.1] at hma
  rw [hmay.2] at hmb
  have HSA := hid (fun w' (h : Spans w' A a) => h.src)
  have HSB2 := hid (fun w' (h : Spans w' B b) => h.src)
  have HCAT := hid (fun (w' : World) (base : Nat) (v : Value) (h : w'.ownsRow base 37 14 v (a.length + b.length) (cellsL a ++ cellsL b)) => (OwnS.cat h).spans)
  have hcu := hid (fun w' A' c' (h : Spans w' A' (a ++ b)) => cuts_any A' c' (a ++ b) w' h (fitL_app hfa hfb) (by rw [List.length_append]; exact hln))
  have HG := hid (cutsL_good (fitL_app hfa hfb))
  rw [List.length_append] at HG
  generalize cutsL (a ++ b) = c at *
  clear ha hb hfa hfb hmay
  generalize hn : a.length = n at *
  generalize hp : b.length = p at *
  have HN := hid hn
  have HP := hid hp
  clear hn hp
  have hM : maxLen = 9223372036854775807 := rfl
  go_enter Try.func25, Try.ntmps25
  go_wp2_with fail
  refine hma.out.mono ?_
  rintro _ w1 ⟨rfl, hb1⟩
  go_wp2_with fail
  refine (hmb.out _ (HB.out.below hb1)).mono ?_
  rintro _ w2 ⟨rfl, hb2⟩
  have hb02 := below_tr hb1 hb2
  clear hma hmb hb1 hb2
  go_wp2_with (first
    | (at_builtin; refine wpList_appx EKspans rfl (.const (.slice none 0 0)) (.tmp 16) rfl rfl (World.ownsRow_nil w2 w2.heap.size _ _) rfl (HSA.out _ (HA.out.below hb02)) (oneS a) (by omega) (by omega) (Nat.le_refl _) ?_; intro v3 w3 h3 hb3 _; have hb03 := below_tr hb02 hb3; have hz3 := hb3.size; simp only [Nat.zero_add, List.nil_append] at h3)
    | (at_builtin; refine wpList_appx EKspans rfl (.tmp 17) (.tmp 18) rfl rfl h3 rfl (HSB2.out _ (HB.out.below hb03)) (oneS b) (by omega) (by omega) hz3 ?_; intro v4 w4 h4 hb4 _))
  have hb24 := hb3.trans hb4
  obtain ⟨A4, c4, rfl, h5⟩ := HCAT.out _ _ _ h4
  have hb04 := below_tr hb02 hb24
  clear h3 h4 hb3 hb4 hb24 hb03 hb02 hz3 HCAT HSA HSB2
  go_wp2_with fail
  refine (hcu.out _ _ _ h5).mono ?_
  rintro _ w1 ⟨Ac, cc, rfl, hcc, hc, hb5⟩
  have hb01 := below_tr hb04 hb5
  have HA1 := hid (HA.out.below hb01)
  have HB1 := hid (HB.out.below hb01)
  have HC1 := hid hc
  clear hc hcu HA HB hb04 hb5 h5
  obtain ⟨g1, g2, g3⟩ := HG.out
  have HGF := hid g1
  clear g1 HG
  generalize hm : c.length = m at *
  have HMM := hid hm
  clear hm
  go_wp2_with fail
  go_loopw [7, 5] (fun i o wr => ∃ (q : Nat) (v : Value), i = .int .i64 q ∧ v = o ∧ q + 1 ≤ m ∧ OwnS wr w1.heap.size v (growTo c (bothIn a b) q) ∧ Below w1.heap.size w1 wr) (fun i _ _ => m - (intOf i).toNat)
  case atStart => exact ⟨0, _, rfl, rfl, by omega, OwnS.nil _ _, Below.refl _ _⟩
  case round =>
    obtain ⟨q, v, rfl, rfl, hq, HO, hbr⟩ := hrel
    have HQ := hid hbr
    by_cases hlt2 : q + 1 < m
    · obtain ⟨bl, off, rfl, hbl, x0, x1, x2, x3, x4, x5, x6⟩ := (HC1.out.below hbr).at_ (k := q) (by rw [HMM.out]; omega)
      obtain ⟨_, z0, z1, z2, z3, z4, z5, z6⟩ := (HC1.out.below hbr).lay (k := q + 1) (by rw [HMM.out]; omega)
      have i0 : (0 : Int) ≤ (q : Int) := by omega
      have i1 : (q : Int) < (m : Int) := by omega
      have i2 : (q : Int) + 1 < (m : Int) := by omega
      have HCX := hid (fun w' (h : Below w1.heap.size w1 w') => And.intro ((HC1.out.below h).lay (k := q) (by rw [HMM.out]; omega)).2 ((HC1.out.below h).lay (k := q + 1) (by rw [HMM.out]; omega)).2)
      have HRL := hid (growTo_len c (bothIn a b) q)
      have HRF := hid (growTo_fit (p := bothIn a b) HGF.out q (by rw [HMM.out]; omega))
      have HX := hid (show growTo c (bothIn a b) (q + 1) = if bothIn a b (nthC c q) (nthC c (q + 1)) then growR (growTo c (bothIn a b) q) (nthC c q) (nthC c (q + 1)) else growTo c (bothIn a b) q from rfl)
      have HFF := hid (HGF.out.at_ q (by rw [HMM.out]; omega))
      have HFT := hid (HGF.out.at_ (q + 1) (by rw [HMM.out]; omega))
      generalize nthC c q = f at *
      generalize nthC c (q + 1) = t at *
      have hinA := fun z : BW wr => (HN.out ▸ in_any A cap a f t z.v ((HA1.out.below HQ.out).below z.ok) HFA.out (by rw [HN.out]; omega) HFF.out HFT.out : Calls Try.prog 41 #[.slice A n cap, f.val, t.val] z.v (BoolPost z.v (inR a f t)))
      have hinB := fun z : BW wr => (HP.out ▸ in_any B cap2 b f t z.v ((HB1.out.below HQ.out).below z.ok) HFB.out (by rw [HP.out]; omega) HFF.out HFT.out : Calls Try.prog 41 #[.slice B p cap2, f.val, t.val] z.v (BoolPost z.v (inR b f t)))
      generalize growTo c (bothIn a b) q = r at *
      have HNI := hid (show bothIn a b f t = (inR a f t && inR b f t) from rfl)
      cases hpa : inR a f t
      · rw [hpa] at hinA
        have hbw := bw_cell
        go_wp2_with fail
        refine wp_region_below (by kernel_rfl) (by kernel_rfl) ?_
        repeat (go_big_quiet_step (first | (go_at_call_of 41 A; exact bw_bool (hinA _)) | (go_at_call_of 41 B; exact bw_bool (hinB _))))
        refine wpQuiet_nil ?_
        rintro _ ⟨z, rfl⟩
        clear hbw hinA hinB x0 x1 x2 x3 x4 x5 x6 z0 z1 z2 z3 z4 z5 z6
        go_wp2_with fail
        go_roundw
        case rel => exact ⟨q + 1, v, by go_num, rfl, by omega, by rw [HX.out, HNI.out, hpa, Bool.false_and]; exact HO.below z.ok, below_tr hbr z.ok⟩
        case measure => simp [intOf]; omega
      · rw [hpa] at hinA
        cases hpb : inR b f t
        · rw [hpb] at hinB
          have hbw := bw_cell
          go_wp2_with fail
          refine wp_region_below (by kernel_rfl) (by kernel_rfl) ?_
          repeat (go_big_quiet_step (first | (go_at_call_of 41 A; exact bw_bool (hinA _)) | (go_at_call_of 41 B; exact bw_bool (hinB _))))
          refine wpQuiet_nil ?_
          rintro _ ⟨z, rfl⟩
          clear hbw hinA hinB x0 x1 x2 x3 x4 x5 x6 z0 z1 z2 z3 z4 z5 z6
          go_wp2_with fail
          go_roundw
          case rel => exact ⟨q + 1, v, by go_num, rfl, by omega, by rw [HX.out, HNI.out, hpa, hpb]; exact HO.below z.ok, below_tr hbr z.ok⟩
          case measure => simp [intOf]; omega
        · rw [hpb] at hinB
          have hbw := bw_cell
          go_wp2_with fail
          refine wp_region_below (by kernel_rfl) (by kernel_rfl) ?_
          repeat (go_big_quiet_step (first | (go_at_call_of 41 A; exact bw_bool (hinA _)) | (go_at_call_of 41 B; exact bw_bool (hinB _))))
          refine wpQuiet_nil ?_
          rintro _ ⟨z, rfl⟩
          have hbz := below_tr HQ.out z.ok
          have HOz := hid (HO.below z.ok)
          clear hbw hinA hinB x0 x1 x2 x3 x4 x5 x6 z0 z1 z2 z3 z4 z5 z6 HO hbr
          generalize z.v = w5 at hbz HOz ⊢
          clear z
          have HSB : Hid (∀ w', Below w1.heap.size w1 w' → w'.cell? ⟨bl, off + q * 7, none⟩ = some (.int .i64 f.en) ∧ w'.cell? ⟨bl, off + q * 7 + 1, none⟩ = some (.int .i64 f.v.maj) ∧ w'.cell? ⟨bl, off + q * 7 + 2, none⟩ = some (.int .i64 f.v.min) ∧ w'.cell? ⟨bl, off + q * 7 + 3, none⟩ = some (.int .i64 f.v.pat) ∧ w'.cell? ⟨bl, off + q * 7 + 4, none⟩ = some (.string f.v.pre) ∧ w'.cell? ⟨bl, off + q * 7 + 5, none⟩ = some (.string f.v.bld) ∧ w'.cell? ⟨bl, off + q * 7 + 6, none⟩ = some (.bool f.aft) ∧ w'.cell? ⟨bl, off + (q + 1) * 7, none⟩ = some (.int .i64 t.en) ∧ w'.cell? ⟨bl, off + (q + 1) * 7 + 1, none⟩ = some (.int .i64 t.v.maj) ∧ w'.cell? ⟨bl, off + (q + 1) * 7 + 2, none⟩ = some (.int .i64 t.v.min) ∧ w'.cell? ⟨bl, off + (q + 1) * 7 + 3, none⟩ = some (.int .i64 t.v.pat) ∧ w'.cell? ⟨bl, off + (q + 1) * 7 + 4, none⟩ = some (.string t.v.pre) ∧ w'.cell? ⟨bl, off + (q + 1) * 7 + 5, none⟩ = some (.string t.v.bld) ∧ w'.cell? ⟨bl, off + (q + 1) * 7 + 6, none⟩ = some (.bool t.aft)) := hid (fun w' h => by
            obtain ⟨⟨a0, a1, a2, a3, a4, a5, a6⟩, c0, c1, c2, c3, c4, c5, c6⟩ := HCX.out w' h
            exact ⟨a0, a1, a2, a3, a4, a5, a6, c0, c1, c2, c3, c4, c5, c6⟩)
          go_wp2_with fail
          have y1 : IntKind.i64.wrap ((q : Int) + 1) = (q : Int) + 1 := IntWalk.i64_in _ (by omega)
          have y2 : (0 : Int) ≤ (q : Int) + 1 := by omega
          have y3 : ((q : Int) + 1).toNat = q + 1 := by omega
          go_region_held3 (fun w' => w'.cell? ⟨bl, off + q * 7, none⟩ = some (.int .i64 f.en) ∧ w'.cell? ⟨bl, off + q * 7 + 1, none⟩ = some (.int .i64 f.v.maj) ∧ w'.cell? ⟨bl, off + q * 7 + 2, none⟩ = some (.int .i64 f.v.min) ∧ w'.cell? ⟨bl, off + q * 7 + 3, none⟩ = some (.int .i64 f.v.pat) ∧ w'.cell? ⟨bl, off + q * 7 + 4, none⟩ = some (.string f.v.pre) ∧ w'.cell? ⟨bl, off + q * 7 + 5, none⟩ = some (.string f.v.bld) ∧ w'.cell? ⟨bl, off + q * 7 + 6, none⟩ = some (.bool f.aft) ∧ w'.cell? ⟨bl, off + (q + 1) * 7, none⟩ = some (.int .i64 t.en) ∧ w'.cell? ⟨bl, off + (q + 1) * 7 + 1, none⟩ = some (.int .i64 t.v.maj) ∧ w'.cell? ⟨bl, off + (q + 1) * 7 + 2, none⟩ = some (.int .i64 t.v.min) ∧ w'.cell? ⟨bl, off + (q + 1) * 7 + 3, none⟩ = some (.int .i64 t.v.pat) ∧ w'.cell? ⟨bl, off + (q + 1) * 7 + 4, none⟩ = some (.string t.v.pre) ∧ w'.cell? ⟨bl, off + (q + 1) * 7 + 5, none⟩ = some (.string t.v.bld) ∧ w'.cell? ⟨bl, off + (q + 1) * 7 + 6, none⟩ = some (.bool t.aft))
            (exact HSB.out _ (by first | assumption | exact hbz.drew))
            (first
              | (go_at_call 42; refine (grow_any w1.heap.size v r f t _ (HOz.out.below ((Below.refl _ _).drew)) hbz.size (by have := HRL.out; omega) HFF.out HFT.out HRF.out).mono ?_; rintro _ w6 ⟨v2, rfl, h2, h3, h4⟩; have hb6 : Below w1.heap.size w1 w6 := hbz.drew.trans h3))
          clear y1 y2 y3
          go_wp2_with fail
          go_roundw
          case rel => exact ⟨q + 1, v2, by go_num, rfl, by omega, by rw [HX.out, HNI.out, hpa, hpb]; exact h2, hb6⟩
          case measure => simp [intOf]; omega
    · obtain rfl : q = m - 1 := by omega
      have e : growAll c (bothIn a b) = growTo c (bothIn a b) (m - 1) := by rw [growAll, HMM.out]
      have i2 : ((m - 1 : Nat) : Int) + 1 = (m : Int) := by omega
      generalize hq1 : m - 1 = q at *
      have HE2 := hid e
      clear e
      have i3 : ¬ ((q : Int) + 1 < (m : Int)) := by omega
      go_wp2_with fail
      go_ret
      rw [HE2.out]
      exact ⟨v, rfl, OwnS.low HO (Nat.le_trans hbase hb01.size), (hb01.mono hbase).trans (hbr.mono (Nat.le_trans hbase hb01.size)), Nat.le_trans hb01.size hbr.size⟩
end Go.Proofs.Ytodicnjoimoiiaa
