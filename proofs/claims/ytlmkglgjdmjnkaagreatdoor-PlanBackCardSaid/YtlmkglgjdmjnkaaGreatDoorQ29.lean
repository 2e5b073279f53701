/- Parts 29 of the proofs. -/
import Derived.Test.YtlmkglgjdmjnkaaGreatDoorQ28
namespace Go.Proofs.YtlmkglgjdmjnkaaGreatDoor
open Go.RowKit Go.Lib
open Rw
set_option linter.unusedVariables false
set_option linter.unusedSimpArgs false

attribute [local go_sem] Oper.semAt_some wide_fn wide_depth
section
variable {B g : Nat} {w w' : World} {S : Nat → Bool} {vo vp : Value} {fs qs : List MP} {ps : List MQ}
theorem MvS.aside (h : MvS B g w S vo vp fs ps qs) {row : Option Nat} (hg : w.grownBy w' row) (hr : ∀ r, row = some r → ∃ o : Obj, w.heap[r]? = some o ∧ o.isCells = false) : MvS B g w' S vo vp fs ps qs := by
  have hm : Mono (maskB w S) (maskB w' S) := ⟨by rw [maskB_size, maskB_size]; exact hg.size, fun p v e => by
    obtain ⟨h1, h2⟩ := maskB_cell.1 e
    exact maskB_cell.2 ⟨h1, cell_kept h2 hg hr⟩⟩
  have hrow : ∀ {T : TypeId} {n m : Nat} {v : Value} {xs : List Value}, w.ownsRow B T n v m xs → w'.ownsRow B T n v m xs := fun {T n m v xs} k => by
    refine World.ownsRow.kept k hg ?_
    rcases k.2 with ⟨rfl, _⟩ | ⟨q, cap, cur, rfl, _, hh, _⟩
    · exact .inl rfl
    · refine .inr fun e => ?_
      obtain ⟨o, ho, hc⟩ := hr q e.symm
      rw [hh] at ho
      injection ho with ho
      rw [← ho] at hc
      cases hc
  have hbx : Own B w' g [vo] := by
    have hne : row ≠ some g := fun e => by
      obtain ⟨o, ho, hc⟩ := hr g e
      have c0 := h.box.box.2 0 _ rfl
      obtain ⟨o2, ho2, hc2⟩ := cells_of_cell c0
      rw [ho] at ho2
      injection ho2 with ho2
      rw [← ho2, hc] at hc2
      cases hc2
    exact own_row h.box hg hne
  exact ⟨fun k hk => Nat.lt_of_lt_of_le (h.lt k hk) hg.size, fun x hx => MvSub.mono _ _ x hm (h.f x hx), fun x hx => MvSub.mono _ _ x.1 hm (h.p x hx), fun x hx => MvSub.mono _ _ x hm (h.q x hx), h.so, h.sp, h.sg, hbx, hrow h.ro, hrow h.rp, h.ap, h.no, h.np⟩
end
theorem planK_name {S : World → Prop} {next : Act → World → Prop} {Q : Exit → Act → World → Prop} {e : Exit} {a : Act} {w : World} (h : ∀ w', w' = w → planK S next Q e a w') : planK S next Q e a w := h w rfl
def onlyN (Q : Exit → Act → World → Prop) : Exit → Act → World → Prop
  | .normal, a, w => Q .normal a w
  | _, _, _ => False
theorem onlyN_intro {Q : Exit → Act → World → Prop} {a : Act} {w : World} (h : Q .normal a w) : onlyN Q .normal a w := h
theorem wp_planSN {P : Program} {ops : Array Oper} {Q : Exit → Act → World → Prop} (S : World → Prop) (p : Plan) {id : Nat} {a : Act} {w : World} (h0 : S w.drew) (hm : P.follows .mixedOrders = true)
    (hP : (Region.noSelect ops && planOk .any ops p (Array.replicate ops.size false) && decide (planSize p ≤ ops.size)) = true)
    (h : wpPlan P ops (fun _ u => ∃ z : SW S, u = z.v) (onlyN Q) p w a w.drew) : (Code.region id ops true).wp P Q a w :=
  wp_mono (wp_planS S p h0 hm (fun _ _ _ _ _ h => h) hP h) fun e a w h => by
    cases e <;> first | exact h | exact h.elim
structure NewS (B g : Nat) (w : World) (S : Nat → Bool) (vo vp : Value) (fs : List MP) (ps : List MQ) (L : List LockL) : Prop where
  s : MvS B g w S vo vp fs ps []
  f : fs.map (·.1) = L.map mv1
  p : ps.map (·.1.1) = L.map mv3
theorem NewS.len {B g : Nat} {w : World} {S : Nat → Bool} {vo vp : Value} {fs : List MP} {ps : List MQ} {L : List LockL} (h : NewS B g w S vo vp fs ps L) : fs.length = L.length ∧ ps.length = L.length := by
  have h1 := congrArg List.length h.f
  have h2 := congrArg List.length h.p
  rw [List.length_map, List.length_map] at h1 h2
  exact ⟨h1, h2⟩
theorem ko_kb {w w' : World} (hb : KB w.heap.size w w') : KeepsOthers w w' := ⟨hb.size, fun k _ hk _ => (hb.block k (Array.getElem?_eq_some_iff.1 hk).1).trans hk⟩
theorem row_cells {w : World} {B k : Nat} {v : Value} {T : TypeId} {n m : Nat} {xs : List Value} (ho : w.ownsRow B T n v m xs) (hk : v.ownBlock = some k) : ∃ o : Obj, w.heap[k]? = some o ∧ o.isCells = true := by
  rcases ho.2 with ⟨rfl, _⟩ | ⟨q, cap, cur, rfl, _, hh, _⟩
  · cases hk
  · injection hk with hk
    subst hk
    exact ⟨_, hh, rfl⟩
theorem ko_row {w w' : World} {B : Nat} {v : Value} {T : TypeId} {n m : Nat} {xs : List Value} (ho : w.ownsRow B T n v m xs) (hg : w.grownBy w' v.ownBlock) : KeepsOthers w w' := KeepsOthers.of_grownBy hg fun j o hj hh => by
  obtain ⟨o2, h1, h2⟩ := row_cells ho hj
  rw [hh] at h1
  injection h1 with h1
  rw [h1]; exact h2
theorem cell_grown {w w' : World} {k j : Nat} {v : Value} {row : Option Nat} (h : w.cell? ⟨k, j, none⟩ = some v) (hg : w.grownBy w' row) (hne : row ≠ some k) : w'.cell? ⟨k, j, none⟩ = some v := (World.cell?_of_block (hg.block k (cell_lt h) (fun e => hne e.symm))).trans h
theorem cell_other {w : World} {k j g i : Nat} {v u : Value} (h : w.cell? ⟨k, j, none⟩ = some v) (hk : k ≠ g) : (w.setCell ⟨g, i, none⟩ u).cell? ⟨k, j, none⟩ = some v := (World.cell?_setCell_other _ _ _ _ (by simp only [ne_eq, Addr.mk.injEq, not_and]; intro e; exact absurd e.symm hk)).trans h
theorem kb_between {B : Nat} {w0 w w' : World} (h : KB B w0 w) (k : KB B w0 w') (hs : w.heap.size ≤ w'.heap.size) : KB B w w' := ⟨k.os.trans h.os.symm, k.tape.trans h.tape.symm, k.output.trans h.output.symm, hs, fun i hi => (k.block i hi).trans (h.block i hi).symm⟩
theorem kb_row {B : Nat} {w0 w w' : World} {v : Value} {T : TypeId} {n m : Nat} {xs : List Value} (h : KB B w0 w) (ho : w.ownsRow B T n v m xs) (hB : B ≤ w.heap.size) (hg : w.grownBy w' v.ownBlock) : KB B w0 w' := h.grown hg hB (fun k hk => (World.ownsRow.lt ho k hk).1)
set_option maxRecDepth 100000 in
set_option maxHeartbeats 2000000 in
theorem pmoves_any (U : Option Addr) (uc : Nat) (us : List UnitP) (A : Option Addr) (c : Nat) (zs : List Int) (Ao : Option Addr) (oc : Nat) (old : List LP) (An : Option Addr) (nc : Nat) (now : List LP) (w : World) (hF : First w) (hU : UnitsAt w U us) (hA : IntsAt w A zs) (hz : zs.length ≤ 9223372036854775807) (hO : Locks w Ao old) (hN : Locks w An now) (ho : old.length ≤ 1000) (hn : now.length < 20) : Calls Tryz.prog 14 #[.agg #[.slice U us.length uc], .slice A zs.length c, .slice Ao old.length oc, .slice An now.length nc] w (MovesK w us zs (old.map (·.1)) (now.map (·.1))) := by
  obtain ⟨HB1, HB2, HK0⟩ := two_boxes w [.slice U us.length uc] [.slice An now.length nc] 42 24
  have HX1 := hid HB1
  have HX2 := hid HB2
  have HK0 := hid HK0
  have HO0 := hid (hO.kb HK0.out)
  have HN0 := hid (hN.kb HK0.out)
  clear HB1 HB2 hO hN
  refine (callsIn_wide (n := 9)).1 (callsIn_of_wp_marks Tryz.func14 rfl trivial ?_ rfl)
  simp only [Tryz.ntmps14, List.size_toArray, List.length_cons, List.length_nil, Nat.reduceAdd, Nat.reduceSub, Array.replicate_succ, Array.replicate_zero, List.push_toArray, List.append_toArray, List.nil_append, List.cons_append]
  refine wpIn_wide.2 ?_
  obtain ⟨no, hno⟩ : ∃ n, old.length = n := ⟨_, rfl⟩
  obtain ⟨nn, hnn⟩ : ∃ n, now.length = n := ⟨_, rfl⟩
  rw [hno] at ho ⊢
  rw [hnn] at hn HX1 HX2 HK0 HO0 HN0 ⊢
  have HLO := hid hno
  have HLN := hid hnn
  clear hno hnn
  go_upto_region 1 with fail
  refine wp_name ?_
  intro u0 hu0
  rw [← hu0] at HX1 HX2 HK0 HO0 HN0
  clear hu0
  go_upto_region 2 with fail
  refine wp_name ?_
  intro u1 hu1
  have HW9 := hid (Own.new u0 [.slice none 0 0] 26 (B := u0.heap.size) (Nat.le_refl _))
  have HMS := hid (show NewS u0.heap.size u0.heap.size u1 (fun _ => false) (.slice none 0 0) (.slice none 0 0) [] [] [] from by
    rw [hu1]
    exact ⟨⟨fun k h => (by cases h), fun x h => (by cases h), fun x h => (by cases h), fun x h => (by cases h), fun _ _ => rfl, fun _ _ => rfl, rfl, HW9.out, OwnL.nil, OwnL.nil, fun k h => (by cases h), fun h => (by cases h), fun h => (by cases h)⟩, rfl, rfl⟩)
  have HK1 := hid (show KB u0.heap.size u0 u1 from by rw [hu1]; exact kb_new _ _)
  clear hu1 HW9
  have HNW0 := hid (show (now.map (·.1)).filter (fun x => !hasL (old.map (·.1)) x) = [] ++ ((now.drop 0).map (·.1)).filter (fun x => !hasL (old.map (·.1)) x) from rfl)
  generalize hNEWS : (now.map (·.1)).filter (fun x => !hasL (old.map (·.1)) x) = NEWS at *
  have x0 := (HX2.out.kb HK1.out).2 0 _ rfl
  have xl := (HX2.out.kb HK1.out).1
  go_upto_block 0 with fail
  clear x0 xl
  go_wp2_with fail
  go_loopw [20, 10] (fun iv pv wr => ∃ (i : Nat) (vo vp : Value) (fs : List MP) (ps : List MQ) (S : Nat → Bool) (L : List LockL), iv = .int .i64 (i : Int) ∧ pv = vp ∧ i ≤ nn ∧ Hid (L.length ≤ i) ∧ Hid (NEWS = L ++ ((now.drop i).map (·.1)).filter (fun x => !hasL (old.map (·.1)) x)) ∧ Hid (NewS u0.heap.size u0.heap.size wr S vo vp fs ps L) ∧ Hid (KB u0.heap.size u0 wr)) (fun iv _ _ => nn - (intOf iv).toNat)
  case atStart => exact ⟨0, _, _, [], [], _, [], rfl, rfl, Nat.zero_le _, hid (Nat.le_refl _), HNW0, HMS, HK1⟩
  case round =>
    clear HNW0 HMS HK1
    rename World => wr
    obtain ⟨i, vo, vp, fs, ps, S, L, rfl, hvp, hi, HLL, HNW, HMS, HK⟩ := hrel
    have hvp := hvp.symm
    subst hvp
    have i0 : (0 : Int) ≤ (i : Int) := by omega
    by_cases hlt : i < nn
    · have h1 : i < now.length := by rw [HLN.out]; exact hlt
      have i1 : (i : Int) < (nn : Int) := by omega
      obtain ⟨b, off, hAn, hix, hcx⟩ := lock_at (HN0.out.kb HK.out) h1
      subst hAn
      have HST := hid (HNW.out.trans (by rw [List.drop_eq_getElem_cons h1, List.map_cons, List.filter_cons]))
      have HIX0 := hid (HN0.out.sub _ (List.getElem_mem h1))
      have c0 := hcx.c0
      have c1 := hcx.c1
      have c2 := hcx.c2
      have c3 := hcx.c3
      have c4 := hcx.c4
      have c5 := hcx.c5
      have c6 := hcx.c6
      have c7 := hcx.c7
      have c8 := hcx.c8
      have cl := hcx.lt
      clear hcx HNW hix
      generalize now[i] = x at *
      clear h1
      go_upto_region 5 with fail
      refine wp_name ?_
      intro u2 hu2
      have HG2 := hid (show Box u2 wr.heap.size (lkC x) from by rw [hu2]; exact Box.new wr (lkC x) 33)
      have HK2 := hid (show KB wr.heap.size wr u2 from by rw [hu2]; exact kb_new _ _)
      have HKK := hid (kb_tr HK.out HK2.out)
      have HM2 := hid (HMS.out.s.kb HK2.out)
      have HFP := hid (And.intro HMS.out.f HMS.out.p)
      have HNG := hid (show vo.ownBlock ≠ some wr.heap.size from fun e => Nat.lt_irrefl _ (World.ownsRow.lt HMS.out.s.ro _ e).2)
      have HNP := hid (show vp.ownBlock ≠ some wr.heap.size from fun e => Nat.lt_irrefl _ (World.ownsRow.lt HMS.out.s.rp _ e).2)
      have HNZ := hid (show wr.heap.size ≠ u0.heap.size from fun e => by have := HMS.out.s.box.box.1; omega)
      have HLS := hid HMS.out.len
      clear hu2 c0 c1 c2 c3 c4 c5 c6 c7 c8 cl HMS
      have HIX := hid (HIX0.out.kb HKK.out)
      have HHAS := hid (phas_any Ao oc old x.1 x.2 u2 (HO0.out.kb HKK.out) HIX.out (by rw [HLO.out]; omega))
      rw [HLO.out] at HHAS
      obtain ⟨hb, hhb⟩ : ∃ b, ((old.map (·.1)).any fun y => eqLk y x.1) = b := ⟨_, rfl⟩
      rw [hhb] at HHAS
      have HHB := hid (show hasL (old.map (·.1)) x.1 = hb from hhb)
      clear hhb
      have x0 := HG2.out.2 0 _ rfl
      have x1 := HG2.out.2 1 _ rfl
      have x2 := HG2.out.2 2 _ rfl
      have x3 := HG2.out.2 3 _ rfl
      have x4 := HG2.out.2 4 _ rfl
      have x5 := HG2.out.2 5 _ rfl
      have x6 := HG2.out.2 6 _ rfl
      have x7 := HG2.out.2 7 _ rfl
      have x8 := HG2.out.2 8 _ rfl
      have xl := HG2.out.1
      go_wp2_with fail
      refine HHAS.out.mono ?_
      rintro _ u3 ⟨rfl, hbk⟩
      have HG3 := hid (HG2.out.kb hbk)
      have HM3 := hid (HM2.out.kb hbk)
      have HK3 := hid (kb_tr HKK.out hbk)
      clear hbk x0 x1 x2 x3 x4 x5 x6 x7 x8 xl HG2 HM2 HHAS HIX
      cases hb with
      | true =>
        have HNX := hid (show NEWS = L ++ ((now.drop (i + 1)).map (·.1)).filter (fun x => !hasL (old.map (·.1)) x) from by rw [HST.out, HHB.out]; rfl)
        go_wp2_with fail
        refine ⟨⟨i + 1, vo, vp, fs, ps, S, L, by go_num, rfl, by omega, hid (by have := HLL.out; omega), HNX, hid ⟨HM3.out, HFP.out.1, HFP.out.2⟩, HK3⟩, ?_⟩
        simp [intOf] <;> omega
      | false =>
        have HNX := hid (show NEWS = (L ++ [x.1]) ++ ((now.drop (i + 1)).map (·.1)).filter (fun x => !hasL (old.map (·.1)) x) from by rw [HST.out, HHB.out]; simp)
        go_upto_region 6 with fail
        go_cut [] from 28 to 34 (fun wx => ∃ (S' : Nat → Bool) (v' : Value) (h1 : LockH), Hid (MvS u0.heap.size u0.heap.size wx S' v' vp (fs ++ [(mv1 x.1, h1)]) ps []) ∧ Hid (KB u0.heap.size u0 wx) ∧ Hid (Box wx wr.heap.size (lkC x)))
        case first =>
          have hS : Box u3.drew wr.heap.size (lkC x) := HG3.out.kb (kb_drewJ (kb_refl _))
          have HMD := hid (HM3.out.kb (kb_drewJ (kb_refl u3)))
          have HCP := hid (pcopied_any x.1 x.2 u3.drew (HIX0.out.kb (kb_drewJ HK3.out)))
          have hfl : fs.length ≤ 20 := by have := HLS.out.1; have := HLL.out; omega
          refine wp_planSN (fun u => Box u wr.heap.size (lkC x)) (.two [1] 0 2 (.call [] 2 (.call [3] 4 (.call [] 5 (.call [] 6 (.last []))))) (.two [3] 0 4 (.call [] 4 (.call [] 5 (.call [] 6 (.last [])))) (.call [] 0 (.call [] 5 (.call [] 6 (.last [])))))) (by first | assumption | skip) (by kernel_rfl) (by kernel_rfl) ?_
          have iS : Nonempty (SW fun u => Box u wr.heap.size (lkC x)) := ⟨⟨_, hS⟩⟩
          have x0 := fun (z : SW fun u => Box u wr.heap.size (lkC x)) => z.ok.2 0 _ rfl
          have x1 := fun (z : SW fun u => Box u wr.heap.size (lkC x)) => z.ok.2 1 _ rfl
          have x2 := fun (z : SW fun u => Box u wr.heap.size (lkC x)) => z.ok.2 2 _ rfl
          have x3 := fun (z : SW fun u => Box u wr.heap.size (lkC x)) => z.ok.2 3 _ rfl
          have x4 := fun (z : SW fun u => Box u wr.heap.size (lkC x)) => z.ok.2 4 _ rfl
          have x5 := fun (z : SW fun u => Box u wr.heap.size (lkC x)) => z.ok.2 5 _ rfl
          have x6 := fun (z : SW fun u => Box u wr.heap.size (lkC x)) => z.ok.2 6 _ rfl
          have x7 := fun (z : SW fun u => Box u wr.heap.size (lkC x)) => z.ok.2 7 _ rfl
          have x8 := fun (z : SW fun u => Box u wr.heap.size (lkC x)) => z.ok.2 8 _ rfl
          have xl := fun (z : SW fun u => Box u wr.heap.size (lkC x)) => z.ok.1
          have hv := HMD.out.box.box.2 0 _ rfl
          have hvl := HMD.out.box.box.1
          with_reducible refine plan_two ?_
          simp only [pickOps, List.map_cons, List.map_nil, List.getElem?_toArray, List.getElem?_cons_zero, List.getElem?_cons_succ, Option.getD_some]
          repeat go_big_quiet_step (fail)
          refine wpQuiet_nil ?_
          refine ⟨?_, ?_⟩
          · go_wp2_with fail
            refine plan_onS hS ?_
            clear hv hvl
            with_reducible refine plan_call ?_
            simp only [pickOps, List.map_cons, List.map_nil, List.getElem?_toArray, List.getElem?_cons_zero, List.getElem?_cons_succ, Option.getD_some]
            repeat go_big_quiet_step (fail)
            refine wpQuiet_nil ?_
            go_wp2_with fail
            refine HCP.out.mono ?_
            rintro _ u4 ⟨h1, rfl, hsub, hbk⟩
            have HM4 := hid (HMD.out.copy hbk (a := (mv1 x.1, h1)) hsub)
            have HG4 := hid (Box.kb hS hbk)
            have HK4 := hid (kb_tr (kb_drewJ HK3.out) hbk)
            clear hsub hbk
            go_wp2_with fail
            refine plan_onS (HG4.out) ?_
            with_reducible refine plan_call ?_
            simp only [pickOps, List.map_cons, List.map_nil, List.getElem?_toArray, List.getElem?_cons_zero, List.getElem?_cons_succ, Option.getD_some]
            repeat go_big_quiet_step (fail)
            refine wpQuiet_nil ?_
            go_wp2_with fail
            refine planK_name ?_
            intro u5 hu5
            have HBX := hid (show Box u5 u4.heap.size (mvC (mv1 x.1, h1)) from by rw [hu5]; exact Box.new u4 (mvC (mv1 x.1, h1)) 35)
            have HK5 := hid (show KB u4.heap.size u4 u5 from by rw [hu5]; exact kb_new _ _)
            have HM5 := hid (HM4.out.kb HK5.out)
            have HG5 := hid (HG4.out.kb HK5.out)
            have HKA := hid (kb_tr HK4.out HK5.out)
            clear hu5
            refine plan_onS HG5.out ?_
            have HRO := hid (show u5.ownsRow u0.heap.size 35 10 vo fs.length (fs.flatMap mvC) from HM5.out.ro)
            have hsz5 : u0.heap.size ≤ u5.heap.size := HKA.out.size
            with_reducible refine plan_call ?_
            simp only [pickOps, List.map_cons, List.map_nil, List.getElem?_toArray, List.getElem?_cons_zero, List.getElem?_cons_succ, Option.getD_some]
            repeat go_big_quiet_step (fail)
            refine wpQuiet_nil ?_
            go_wp2_with (at_builtin; refine wpList_appz EKmoves rfl (.tmp 28) (.tmp 32) rfl (mvC (mv1 x.1, h1)) HRO.out rfl rfl rfl ((src_boxQ HBX.out (show (mvC (mv1 x.1, h1)).length = 1 * 10 from rfl)).2.2 _ rfl) (mv_one _) (by unfold maxLen; omega) (by omega) hsz5 ?_; intro v6 w6 h2 h4 h5)
            obtain ⟨g6, cap6, hv6⟩ := ownsRow_succ h2
            have HB6 := hid (own_row HM5.out.box h4 HM5.out.no)
            have HMO := hid (MvS.out HM5.out h2 h4 h5)
            have HK6 := hid (kb_row HKA.out HRO.out hsz5 h4)
            have HG6 := hid (HG5.out.grown h4 (fun e => HNG.out e.symm))
            clear h2 h4 h5
            refine plan_onS HG6.out ?_
            subst hv6
            have c9 := HB6.out.box.2 0 _ rfl
            have s9 : ∀ j, w6.frozen? ⟨u0.heap.size, j, none⟩ = false := HB6.out.soft
            have l9 := HB6.out.box.1
            with_reducible refine plan_call ?_
            simp only [pickOps, List.map_cons, List.map_nil, List.getElem?_toArray, List.getElem?_cons_zero, List.getElem?_cons_succ, Option.getD_some]
            repeat go_big_quiet_step (fail)
            refine wpQuiet_nil ?_
            go_wp2_with fail
            refine plan_onS (HG6.out.putOther (HNZ.out) _) ?_
            with_reducible refine plan_last ?_
            simp only [pickOps, List.map_cons, List.map_nil, List.getElem?_toArray, List.getElem?_cons_zero, List.getElem?_cons_succ, Option.getD_some]
            repeat go_big_quiet_step (fail)
            refine wpQuiet_nil ?_
            refine onlyN_intro ?_
            clear iS x0 x1 x2 x3 x4 x5 x6 x7 x8 xl
            go_wp2_with fail
            go_meet
            case rel => exact ⟨_, _, h1, HMO, hid (kb_putJ HK6.out (Nat.le_refl _) _), hid (HG6.out.putOther HNZ.out _)⟩
          · go_wp2_with fail
            clear hv hvl
            refine HCP.out.mono ?_
            rintro _ u4 ⟨h1, rfl, hsub, hbk⟩
            have HM4 := hid (HMD.out.copy hbk (a := (mv1 x.1, h1)) hsub)
            have HG4 := hid (Box.kb hS hbk)
            have HK4 := hid (kb_tr (kb_drewJ HK3.out) hbk)
            clear hsub hbk
            go_wp2_with fail
            refine plan_onS (HG4.out) ?_
            have hv := HM4.out.box.box.2 0 _ rfl
            have hvl := HM4.out.box.box.1
            with_reducible refine plan_two ?_
            simp only [pickOps, List.map_cons, List.map_nil, List.getElem?_toArray, List.getElem?_cons_zero, List.getElem?_cons_succ, Option.getD_some]
            repeat go_big_quiet_step (fail)
            refine wpQuiet_nil ?_
            refine ⟨?_, ?_⟩
            · go_wp2_with fail
              refine plan_onS HG4.out ?_
              clear hv hvl
              with_reducible refine plan_call ?_
              simp only [pickOps, List.map_cons, List.map_nil, List.getElem?_toArray, List.getElem?_cons_zero, List.getElem?_cons_succ, Option.getD_some]
              repeat go_big_quiet_step (fail)
              refine wpQuiet_nil ?_
              go_wp2_with fail
              refine planK_name ?_
              intro u5 hu5
              have HBX := hid (show Box u5 u4.heap.size (mvC (mv1 x.1, h1)) from by rw [hu5]; exact Box.new u4 (mvC (mv1 x.1, h1)) 35)
              have HK5 := hid (show KB u4.heap.size u4 u5 from by rw [hu5]; exact kb_new _ _)
              have HM5 := hid (HM4.out.kb HK5.out)
              have HG5 := hid (HG4.out.kb HK5.out)
              have HKA := hid (kb_tr HK4.out HK5.out)
              clear hu5
              refine plan_onS HG5.out ?_
              have HRO := hid (show u5.ownsRow u0.heap.size 35 10 vo fs.length (fs.flatMap mvC) from HM5.out.ro)
              have hsz5 : u0.heap.size ≤ u5.heap.size := HKA.out.size
              with_reducible refine plan_call ?_
              simp only [pickOps, List.map_cons, List.map_nil, List.getElem?_toArray, List.getElem?_cons_zero, List.getElem?_cons_succ, Option.getD_some]
              repeat go_big_quiet_step (fail)
              refine wpQuiet_nil ?_
              go_wp2_with (at_builtin; refine wpList_appz EKmoves rfl (.tmp 28) (.tmp 32) rfl (mvC (mv1 x.1, h1)) HRO.out rfl rfl rfl ((src_boxQ HBX.out (show (mvC (mv1 x.1, h1)).length = 1 * 10 from rfl)).2.2 _ rfl) (mv_one _) (by unfold maxLen; omega) (by omega) hsz5 ?_; intro v6 w6 h2 h4 h5)
              obtain ⟨g6, cap6, hv6⟩ := ownsRow_succ h2
              have HB6 := hid (own_row HM5.out.box h4 HM5.out.no)
              have HMO := hid (MvS.out HM5.out h2 h4 h5)
              have HK6 := hid (kb_row HKA.out HRO.out hsz5 h4)
              have HG6 := hid (HG5.out.grown h4 (fun e => HNG.out e.symm))
              clear h2 h4 h5
              refine plan_onS HG6.out ?_
              subst hv6
              have c9 := HB6.out.box.2 0 _ rfl
              have s9 : ∀ j, w6.frozen? ⟨u0.heap.size, j, none⟩ = false := HB6.out.soft
              have l9 := HB6.out.box.1
              with_reducible refine plan_call ?_
              simp only [pickOps, List.map_cons, List.map_nil, List.getElem?_toArray, List.getElem?_cons_zero, List.getElem?_cons_succ, Option.getD_some]
              repeat go_big_quiet_step (fail)
              refine wpQuiet_nil ?_
              go_wp2_with fail
              refine plan_onS (HG6.out.putOther (HNZ.out) _) ?_
              with_reducible refine plan_last ?_
              simp only [pickOps, List.map_cons, List.map_nil, List.getElem?_toArray, List.getElem?_cons_zero, List.getElem?_cons_succ, Option.getD_some]
              repeat go_big_quiet_step (fail)
              refine wpQuiet_nil ?_
              refine onlyN_intro ?_
              clear iS x0 x1 x2 x3 x4 x5 x6 x7 x8 xl
              go_wp2_with fail
              go_meet
              case rel => exact ⟨_, _, h1, HMO, hid (kb_putJ HK6.out (Nat.le_refl _) _), hid (HG6.out.putOther HNZ.out _)⟩
            · clear hv hvl
              go_wp2_with fail
              refine planK_name ?_
              intro u5 hu5
              have HBX := hid (show Box u5 u4.heap.size (mvC (mv1 x.1, h1)) from by rw [hu5]; exact Box.new u4 (mvC (mv1 x.1, h1)) 35)
              have HK5 := hid (show KB u4.heap.size u4 u5 from by rw [hu5]; exact kb_new _ _)
              have HM5 := hid (HM4.out.kb HK5.out)
              have HG5 := hid (HG4.out.kb HK5.out)
              have HKA := hid (kb_tr HK4.out HK5.out)
              clear hu5
              refine plan_onS HG5.out ?_
              have hv := HM5.out.box.box.2 0 _ rfl
              have hvl := HM5.out.box.box.1
              with_reducible refine plan_call ?_
              simp only [pickOps, List.map_cons, List.map_nil, List.getElem?_toArray, List.getElem?_cons_zero, List.getElem?_cons_succ, Option.getD_some]
              repeat go_big_quiet_step (fail)
              refine wpQuiet_nil ?_
              go_wp2_with fail
              refine plan_onS HG5.out ?_
              clear hv hvl
              have HRO := hid (show u5.ownsRow u0.heap.size 35 10 vo fs.length (fs.flatMap mvC) from HM5.out.ro)
              have hsz5 : u0.heap.size ≤ u5.heap.size := HKA.out.size
              with_reducible refine plan_call ?_
              simp only [pickOps, List.map_cons, List.map_nil, List.getElem?_toArray, List.getElem?_cons_zero, List.getElem?_cons_succ, Option.getD_some]
              repeat go_big_quiet_step (fail)
              refine wpQuiet_nil ?_
              go_wp2_with (at_builtin; refine wpList_appz EKmoves rfl (.tmp 28) (.tmp 32) rfl (mvC (mv1 x.1, h1)) HRO.out rfl rfl rfl ((src_boxQ HBX.out (show (mvC (mv1 x.1, h1)).length = 1 * 10 from rfl)).2.2 _ rfl) (mv_one _) (by unfold maxLen; omega) (by omega) hsz5 ?_; intro v6 w6 h2 h4 h5)
              obtain ⟨g6, cap6, hv6⟩ := ownsRow_succ h2
              have HB6 := hid (own_row HM5.out.box h4 HM5.out.no)
              have HMO := hid (MvS.out HM5.out h2 h4 h5)
              have HK6 := hid (kb_row HKA.out HRO.out hsz5 h4)
              have HG6 := hid (HG5.out.grown h4 (fun e => HNG.out e.symm))
              clear h2 h4 h5
              refine plan_onS HG6.out ?_
              subst hv6
              have c9 := HB6.out.box.2 0 _ rfl
              have s9 : ∀ j, w6.frozen? ⟨u0.heap.size, j, none⟩ = false := HB6.out.soft
              have l9 := HB6.out.box.1
              with_reducible refine plan_call ?_
              simp only [pickOps, List.map_cons, List.map_nil, List.getElem?_toArray, List.getElem?_cons_zero, List.getElem?_cons_succ, Option.getD_some]
              repeat go_big_quiet_step (fail)
              refine wpQuiet_nil ?_
              go_wp2_with fail
              refine plan_onS (HG6.out.putOther (HNZ.out) _) ?_
              with_reducible refine plan_last ?_
              simp only [pickOps, List.map_cons, List.map_nil, List.getElem?_toArray, List.getElem?_cons_zero, List.getElem?_cons_succ, Option.getD_some]
              repeat go_big_quiet_step (fail)
              refine wpQuiet_nil ?_
              refine onlyN_intro ?_
              clear iS x0 x1 x2 x3 x4 x5 x6 x7 x8 xl
              go_wp2_with fail
              go_meet
              case rel => exact ⟨_, _, h1, HMO, hid (kb_putJ HK6.out (Nat.le_refl _) _), hid (HG6.out.putOther HNZ.out _)⟩
        case rest =>
          obtain ⟨S2, v2, h1, hms, hkb, hgx⟩ := hcut
          have HC2 := hid (pcopied_any x.1 x.2 wc (HIX0.out.kb hkb.out))
          have hfit := HIX0.out.fit
          have HPL := hid (show ps.length ≤ 20 from by have := HLS.out.2; have := HLL.out; omega)
          have x0 := hgx.out.2 0 _ rfl
          have x1 := hgx.out.2 1 _ rfl
          have x2 := hgx.out.2 2 _ rfl
          have x3 := hgx.out.2 3 _ rfl
          have x4 := hgx.out.2 4 _ rfl
          have x5 := hgx.out.2 5 _ rfl
          have x6 := hgx.out.2 6 _ rfl
          have x7 := hgx.out.2 7 _ rfl
          have x8 := hgx.out.2 8 _ rfl
          have xl := hgx.out.1
          clear HM3 HG3 HK3
          go_wp2_with fail
          refine HC2.out.mono ?_
          rintro _ u8 ⟨h2', rfl, hsub, hbk⟩
          have HM8 := hid (hms.out.copy hbk (a := (mv3 x.1, h2')) hsub)
          have HK8 := hid (kb_tr hkb.out hbk)
          clear hsub hbk x0 x1 x2 x3 x4 x5 x6 x7 x8 xl
          have HRP := hid (show u8.ownsRow u0.heap.size 35 10 vp ps.length (ps.flatMap mqC) from HM8.out.rp)
          have hsz8 : u0.heap.size ≤ u8.heap.size := HK8.out.size
          have hpl := HPL.out
          go_wp2_with (at_builtin; refine wpList_app1y EKmoves rfl (.tmp 34) (.tmp 38) rfl (mvC (mv3 x.1, h2')) HRP.out rfl rfl rfl (mv_one _) (by unfold maxLen; omega) (by omega) hsz8 ?_; intro v9 w9 h2 h3 h4 h5; have HM9 := hid (MvS.put (a := ⟨(mv3 x.1, h2'), hfit⟩) HM8.out h2 h4 h5); have HK9 := hid (kb_row HK8.out HRP.out hsz8 h4))
          refine ⟨⟨i + 1, v2, _, fs ++ [(mv1 x.1, h1)], ps ++ [⟨(mv3 x.1, h2'), hfit⟩], _, L ++ [x.1], by go_num, rfl, by omega, hid (by rw [List.length_append]; have := HLL.out; simp; omega), HNX, hid ⟨HM9.out, by rw [List.map_append, HFP.out.1, List.map_append]; rfl, by rw [List.map_append, HFP.out.2, List.map_append]; rfl⟩, HK9⟩, ?_⟩
          simp [intOf] <;> omega
    · obtain rfl : nn = i := by omega
      have i1 : ¬ (nn : Int) < (nn : Int) := by omega
      have HNL := hid (show NEWS = L from by rw [HNW.out, List.drop_eq_nil_of_le (by rw [HLN.out]; exact Nat.le_refl _)]; simp)
      go_wp2_with fail
      refine (pback_any Ao no oc wr).mono ?_
      rintro _ _ ⟨rfl, rfl⟩
      go_wp2_with fail
      refine (wpIn_wide (n := 9)).1 ?_
      refine wpIn_name ?_
      intro u4 hu4
      have HB4 := hid (show u4.cell? ⟨wr.heap.size, 0, none⟩ = some (.slice Ao no oc) from by rw [hu4]; exact (Box.new wr [.slice Ao no oc] 24).2 0 _ rfl)
      have HKR := hid (show KB wr.heap.size wr u4 from by rw [hu4]; exact kb_new _ _)
      have HK4 := hid (kb_tr HK.out HKR.out)
      have HM4 := hid (HMS.out.s.kb HKR.out)
      have HFP := hid (And.intro HMS.out.f HMS.out.p)
      have HLS := hid HMS.out.len
      have HNLL := hid (show L.length ≤ 20 from by have := HLL.out; omega)
      have HNLT := hid (show L.length < 20 from by have := HLL.out; omega)
      have HVO := hid (show vo.ownBlock ≠ some wr.heap.size from fun e => Nat.lt_irrefl _ (World.ownsRow.lt HMS.out.s.ro _ e).2)
      have HWR := hid (show u0.heap.size < wr.heap.size from HMS.out.s.box.box.1)
      clear hu4 HMS HNW
      have eg : ∀ args w, (callFunc 72 args).run Tryz.prog w = .ok (.enter 72 args) w := enters_of Tryz.func72 (by kernel_rfl) rfl
      refine wpIn_rangeFunc_ownH (F := Fence.wide) rfl (by omega) (gf := 72) (lb := #[.pointer (some ⟨wr.heap.size, 0, none⟩)]) rfl trivial eg (pback_stops u0 Ao oc wr.heap.size old HO0.out (by rw [HLO.out]; omega) u4 HK4.out (by rw [HLO.out]; exact HB4.out) 8) (fun {X Y Z} (h : KpB u0 wr.heap.size X Y) (k : KpB u0 wr.heap.size Y Z) => ⟨k.1.trans h.1, Go.RowKit.Below.trans h.2 k.2⟩) (fun W l o o' hl hW h1 h2 => ⟨World.cell?_of_block (World.putObj_heap_other (show wr.heap.size ≠ l from by have h : wr.heap.size < u4.heap.size := cell_lt HB4.out; omega)), belowK_b (w := u4) HK4.out.size W l o o' hl hW h1 h2⟩) (Go.RowKit.Below.refl _ _) (fun _ => rfl)
        (fun (pre : List (Fin old.length)) W => ∃ (S : Nat → Bool) (v : Value) (ds : List MP), MvS u0.heap.size u0.heap.size W S v vp (fs ++ ds) ps [] ∧ (ds.map (·.1) = ((pre.map fun k => old[k].1).filter fun x => !hasL (now.map (·.1)) x).map mv2 ∧ (KB u0.heap.size u0 W ∧ (W.cell? ⟨wr.heap.size, 0, none⟩ = some (.slice Ao no oc) ∧ (u4.heap.size ≤ W.heap.size ∧ v.ownBlock ≠ some wr.heap.size)))))
        (fun _ _ _ => False)
        (fun pre W W' row hs hg hr => by
          obtain ⟨S, v, ds, h1, h2, h3, h4, h6, h7⟩ := hs
          exact ⟨S, v, ds, h1.aside hg (fun r e => (hr r e).2), h2, h3.grown hg h3.size (fun k hk => Nat.le_trans HK4.out.size (hr k hk).1), cell_kept h4 hg (fun r e => (hr r e).2), Nat.le_trans h6 hg.size, h7⟩)
        (fun _ _ _ _ _ hs _ _ => hs)
        ⟨S, vo, [], by rw [List.append_nil]; exact HM4.out, rfl, HK4.out, HB4.out, Nat.le_refl _, HVO.out⟩
        (fun x a' W => ∃ Bx, Box W Bx (lkC old[x]) ∧ ((u4.heap.size ≤ Bx ∧ ∃ arr, W.heap[Bx]? = some (.cells arr 33)) ∧ a' = { tmps := #[.agg #[.slice U us.length uc], .slice A zs.length c, .slice Ao no oc, .slice An nn nc, .pointer (some ⟨w.heap.size, 0, none⟩), undef, undef, .pointer (some ⟨w.heap.size + 1, 0, none⟩), .slice none 0 0, .pointer (some ⟨u0.heap.size, 0, none⟩), vp, undef, u12, undef, .pointer (some ⟨Bx, 0, none⟩), undef, undef, undef, .slice An nn nc, .int .i64 (nn : Int), .int .i64 (nn : Int), .bool false, u22, u23, u24, u25, u26, u27, u28, u29, u30, u31, u32, u33, u34, u35, u36, u37, u38, u39, u40, .slice Ao no oc, .func (.func 72) #[] #[.pointer (some ⟨wr.heap.size, 0, none⟩)], .int .i64 (x.val : Int), old[x].1.val old[x].2, undef, undef, undef, undef, undef, undef, undef, undef, undef, undef, undef, undef, undef, undef, undef, undef, undef, undef, undef, undef, undef, undef, undef, undef, undef, undef, undef, undef, undef, undef, undef], defers := [] }))
        (fun x a' _ W W' row hs hg hr => by
          obtain ⟨Bx, h1, ⟨h2, arr, h4⟩, h3⟩ := hs
          refine ⟨Bx, ⟨Nat.lt_of_lt_of_le h1.1 hg.size, fun j u hj => cell_kept (h1.2 j u hj) hg (fun r e => (hr r e).2)⟩, ⟨h2, arr, (hg.block Bx h1.1 fun e => ?_).trans h4⟩, h3⟩
          obtain ⟨_, o, ho, hc⟩ := hr _ e.symm
          rw [h4] at ho
          injection ho with ho
          rw [← ho] at hc
          cases hc)
        ?assign ?body ?done ?stop
      case assign =>
        intro l pre x W K hI hK
        obtain ⟨S, v, ds, h1, h2, h3, h4, h6, h7⟩ := hI
        have HKK := hid hK
        have HSZ := hid h6
        have HX := hid (show Box (W.alloc (.cells (lkC old[x]).toArray 33)) W.heap.size (lkC old[x]) from Box.new W (lkC old[x]) 33)
        have HAL := hid (kb_new W (.cells (lkC old[x]).toArray 33))
        have HIN := hid (And.intro (h1.kb HAL.out) (And.intro h2 (And.intro (kb_tr h3 HAL.out) (And.intro (cell_kb (cell_lt h4) HAL.out h4) (And.intro (Nat.le_trans h6 HAL.out.size) h7)))))
        have H34 := hid (And.intro h3 h4)
        clear hK h1 h2 h3 h4 h6 h7
        gi_wp2
        refine HKK.out _ _ ((KeepsOthers.alloc _ _).from _) ⟨(cell_kb (cell_lt H34.out.2) HAL.out H34.out.2).trans H34.out.2.symm, Go.RowKit.Below.mono HAL.out H34.out.1.size⟩ ⟨S, v, ds, HIN.out⟩ ⟨W.heap.size, HX.out, ?_, rfl⟩
        exact ⟨HSZ.out, _, World.alloc_heap_new _ _⟩
      case body =>
        rintro l pre xi a' W hl hr ⟨S, v, ds, h1, h2, h3, h4, h6, h7⟩ ⟨Bx, hB, ⟨hbx, arr, hal⟩, rfl⟩ hpre
        have HAL := hid hal
        clear hal
        have HMW := hid h1
        have HDS := hid h2
        have HKW := hid h3
        have HCBW := hid h4
        have HSW := hid h6
        have HCBN := hid h7
        have HBX0 := hid hB
        have HXB := hid hbx
        have HPRE := hid hpre
        clear h1 h2 h3 h4 h6 h7 hB hbx hpre hl hr
        have HST := hid (show (((pre ++ [xi]).map fun k => old[k].1).filter fun x => !hasL (now.map (·.1)) x) = ((pre.map fun k => old[k].1).filter fun x => !hasL (now.map (·.1)) x) ++ (bif !hasL (now.map (·.1)) old[xi].1 then [old[xi].1] else []) from by
          rw [List.map_append, List.filter_append]
          show _ ++ List.filter _ [old[xi].1] = _
          rw [List.filter_cons]
          cases hh : !hasL (now.map (·.1)) old[xi].1 <;> rfl)
        have HIX0 := hid (show LkSub u0 old[xi] from HO0.out.sub _ (List.getElem_mem xi.isLt))
        have HDL := hid (show ds.length ≤ 1000 from by
          have h1 := congrArg List.length HDS.out
          rw [List.length_map, List.length_map] at h1
          have h2 := List.length_filter_le (fun x => !hasL (now.map (·.1)) x) (pre.map fun k => old[k].1)
          rw [List.length_map] at h2
          have h3 := HLO.out
          have h4 := HPRE.out
          omega)
        generalize old[xi] = x at *
        have HNG := hid (show v.ownBlock ≠ some Bx from fun e => by
          have h1 := HMW.out.ro
          rcases h1.2 with ⟨rfl, _⟩ | ⟨q, cap, cur, rfl, _, hh, _⟩
          · cases e
          · injection e with e
            have e : q = Bx := e
            rw [e, HAL.out] at hh
            injection hh with hh
            injection hh with _ hh _
            exact absurd hh (by decide))
        have HNZ := hid (show Bx ≠ u0.heap.size from fun e => by have := HXB.out; have := HK4.out.size; have := HWR.out; have := HKR.out.size; omega)
        have HNB := hid (show wr.heap.size ≠ u0.heap.size from fun e => by have := HWR.out; omega)
        have HIX := hid (HIX0.out.kb HKW.out)
        have HHAS := hid (phas_any An nc now x.1 x.2 W (HN0.out.kb HKW.out) HIX.out (by rw [HLN.out]; omega))
        rw [HLN.out] at HHAS
        obtain ⟨hb, hhb⟩ : ∃ b, ((now.map (·.1)).any fun y => eqLk y x.1) = b := ⟨_, rfl⟩
        rw [hhb] at HHAS
        have HHB := hid (show hasL (now.map (·.1)) x.1 = hb from hhb)
        clear hhb
        have x0 := HBX0.out.2 0 _ rfl
        have x1 := HBX0.out.2 1 _ rfl
        have x2 := HBX0.out.2 2 _ rfl
        have x3 := HBX0.out.2 3 _ rfl
        have x4 := HBX0.out.2 4 _ rfl
        have x5 := HBX0.out.2 5 _ rfl
        have x6 := HBX0.out.2 6 _ rfl
        have x7 := HBX0.out.2 7 _ rfl
        have x8 := HBX0.out.2 8 _ rfl
        have xl := HBX0.out.1
        have y0 := (HX2.out.kb HKW.out).2 0 _ rfl
        have yl := (HX2.out.kb HKW.out).1
        gi_wp2_with fail
        refine ((callsIn_wide.2 HHAS.out).inRound _).mono ?_
        rintro _ u3 ⟨rfl, hbk⟩
        have HG3 := hid (HBX0.out.kb hbk)
        have HM3 := hid (HMW.out.kb hbk)
        have HKB3 := hid hbk
        have HK3 := hid (kb_tr HKW.out hbk)
        have HCB3 := hid (cell_kb (cell_lt HCBW.out) hbk HCBW.out)
        clear hbk x0 x1 x2 x3 x4 x5 x6 x7 x8 xl y0 yl HHAS HIX
        cases hb with
        | true =>
          have HDX := hid (show ds.map (·.1) = (((pre ++ [xi]).map fun k => old[k].1).filter fun x => !hasL (now.map (·.1)) x).map mv2 from by rw [HST.out, HHB.out, HDS.out]; simp)
          gi_wp2_with fail
          exact ⟨(ko_kb HKB3.out).from _, ⟨HCB3.out.trans HCBW.out.symm, kb_between HKW.out HK3.out HKB3.out.size⟩, S, v, ds, HM3.out, HDX.out, HK3.out, HCB3.out, Nat.le_trans HSW.out HKB3.out.size, HCBN.out⟩
        | false =>
          have HDX := hid (fun (h1 : LockH) => show (ds ++ [(mv2 x.1, h1)]).map (·.1) = (((pre ++ [xi]).map fun k => old[k].1).filter fun x => !hasL (now.map (·.1)) x).map mv2 from by rw [HST.out, HHB.out, List.map_append, HDS.out]; simp)
          clear HST
          gi_upto_region 12 with fail
          have hS : Box u3.drew Bx (lkC x) := HG3.out.kb (kb_drewJ (kb_refl _))
          have HMD := hid (HM3.out.kb (kb_drewJ (kb_refl u3)))
          have HCP := hid (pcopied_any x.1 x.2 u3.drew (HIX0.out.kb (kb_drewJ HK3.out)))
          have HKOD := hid (show KeepsOthers W u3.drew from (ko_kb HKB3.out).trans (KeepsOthers.drew _))
          have HCBD := hid (cell_kb (cell_lt HCB3.out) (kb_drewJ (kb_refl u3)) HCB3.out)
          have hfl : (fs ++ ds).length ≤ 1020 := by have := HLS.out.1; have := HNLL.out; have := HDL.out; rw [List.length_append]; omega
          refine wpIn_planS (wide_round l) (fun u => Box u Bx (lkC x)) (.two [1] 0 2 (.call [] 2 (.call [3] 4 (.call [] 5 (.call [] 6 (.last []))))) (.two [3] 0 4 (.call [] 4 (.call [] 5 (.call [] 6 (.last [])))) (.call [] 0 (.call [] 5 (.call [] 6 (.last [])))))) (fun ⟨_, _, h⟩ => h) (by first | assumption | trivial | skip) (by kernel_rfl) (by intro _ _ d _ _ h; cases d <;> exact h) (by kernel_rfl) ?_
          have iS : Nonempty (SW fun u => Box u Bx (lkC x)) := by first | exact ⟨⟨_, hS⟩⟩ | exact ⟨⟨w, trivial⟩⟩
          have x0 := fun (z : SW fun u => Box u Bx (lkC x)) => z.ok.2 0 _ rfl
          have x1 := fun (z : SW fun u => Box u Bx (lkC x)) => z.ok.2 1 _ rfl
          have x2 := fun (z : SW fun u => Box u Bx (lkC x)) => z.ok.2 2 _ rfl
          have x3 := fun (z : SW fun u => Box u Bx (lkC x)) => z.ok.2 3 _ rfl
          have x4 := fun (z : SW fun u => Box u Bx (lkC x)) => z.ok.2 4 _ rfl
          have x5 := fun (z : SW fun u => Box u Bx (lkC x)) => z.ok.2 5 _ rfl
          have x6 := fun (z : SW fun u => Box u Bx (lkC x)) => z.ok.2 6 _ rfl
          have x7 := fun (z : SW fun u => Box u Bx (lkC x)) => z.ok.2 7 _ rfl
          have x8 := fun (z : SW fun u => Box u Bx (lkC x)) => z.ok.2 8 _ rfl
          have xl := fun (z : SW fun u => Box u Bx (lkC x)) => z.ok.1
          have hv := HMD.out.box.box.2 0 _ rfl
          have hvl := HMD.out.box.box.1
          with_reducible refine plan_two ?_
          simp only [pickOps, List.map_cons, List.map_nil, List.getElem?_toArray, List.getElem?_cons_zero, List.getElem?_cons_succ, Option.getD_some]
          repeat go_big_quiet_step (fail)
          refine wpQuiet_nil ?_
          refine ⟨?_, ?_⟩
          · go_wp2_with fail
            refine plan_onS hS ?_
            clear hv hvl
            with_reducible refine plan_call ?_
            simp only [pickOps, List.map_cons, List.map_nil, List.getElem?_toArray, List.getElem?_cons_zero, List.getElem?_cons_succ, Option.getD_some]
            repeat go_big_quiet_step (fail)
            refine wpQuiet_nil ?_
            go_wp2_with fail
            refine HCP.out.mono ?_
            rintro _ u4 ⟨h1, rfl, hsub, hbk⟩
            have HM4 := hid (HMD.out.copy hbk (a := (mv2 x.1, h1)) hsub)
            have HG4 := hid (Box.kb hS hbk)
            have HK4 := hid (kb_tr (kb_drewJ HK3.out) hbk)
            have HKO4 := hid (HKOD.out.trans (ko_kb hbk))
            have HCB4 := hid (cell_kb (cell_lt HCBD.out) hbk HCBD.out)
            clear hsub hbk
            go_wp2_with fail
            refine plan_onS (HG4.out) ?_
            with_reducible refine plan_call ?_
            simp only [pickOps, List.map_cons, List.map_nil, List.getElem?_toArray, List.getElem?_cons_zero, List.getElem?_cons_succ, Option.getD_some]
            repeat go_big_quiet_step (fail)
            refine wpQuiet_nil ?_
            go_wp2_with fail
            refine planK_name ?_
            intro u5 hu5
            have HBX := hid (show Box u5 u4.heap.size (mvC (mv2 x.1, h1)) from by rw [hu5]; exact Box.new u4 (mvC (mv2 x.1, h1)) 35)
            have HK5 := hid (show KB u4.heap.size u4 u5 from by rw [hu5]; exact kb_new _ _)
            have HM5 := hid (HM4.out.kb HK5.out)
            have HG5 := hid (HG4.out.kb HK5.out)
            have HKA := hid (kb_tr HK4.out HK5.out)
            have HKOA := hid (HKO4.out.trans (ko_kb HK5.out))
            have HCBA := hid (cell_kb (cell_lt HCB4.out) HK5.out HCB4.out)
            clear hu5
            refine plan_onS HG5.out ?_
            have HRO := hid (show u5.ownsRow u0.heap.size 35 10 v (fs ++ ds).length ((fs ++ ds).flatMap mvC) from HM5.out.ro)
            have hsz5 : u0.heap.size ≤ u5.heap.size := HKA.out.size
            with_reducible refine plan_call ?_
            simp only [pickOps, List.map_cons, List.map_nil, List.getElem?_toArray, List.getElem?_cons_zero, List.getElem?_cons_succ, Option.getD_some]
            repeat go_big_quiet_step (fail)
            refine wpQuiet_nil ?_
            go_wp2_with (at_builtin; refine wpList_appz EKmoves rfl (.tmp 49) (.tmp 53) rfl (mvC (mv2 x.1, h1)) HRO.out rfl rfl rfl ((src_boxQ HBX.out (show (mvC (mv2 x.1, h1)).length = 1 * 10 from rfl)).2.2 _ rfl) (mv_one _) (by unfold maxLen; omega) (by omega) hsz5 ?_; intro v6 w6 h2 h4 h5)
            obtain ⟨g6, cap6, hv6⟩ := ownsRow_succ h2
            have HB6 := hid (own_row HM5.out.box h4 HM5.out.no)
            have HMO := hid (MvS.out HM5.out h2 h4 h5)
            have HK6 := hid (kb_row HKA.out HRO.out hsz5 h4)
            have HKO6 := hid (HKOA.out.trans (ko_row HRO.out h4))
            have HCB6 := hid (cell_grown HCBA.out h4 HCBN.out)
            have HVN6 := hid (show v6.ownBlock ≠ some wr.heap.size from fun e => (h5 _ e).elim HCBN.out fun h => Nat.not_lt.2 h (cell_lt HCBA.out))
            have HG6 := hid (HG5.out.grown h4 (fun e => HNG.out e.symm))
            clear h2 h4 h5
            refine plan_onS HG6.out ?_
            subst hv6
            have c9 := HB6.out.box.2 0 _ rfl
            have s9 : ∀ j, w6.frozen? ⟨u0.heap.size, j, none⟩ = false := HB6.out.soft
            have l9 := HB6.out.box.1
            with_reducible refine plan_call ?_
            simp only [pickOps, List.map_cons, List.map_nil, List.getElem?_toArray, List.getElem?_cons_zero, List.getElem?_cons_succ, Option.getD_some]
            repeat go_big_quiet_step (fail)
            refine wpQuiet_nil ?_
            go_wp2_with fail
            refine plan_onS (HG6.out.putOther (HNZ.out) _) ?_
            with_reducible refine plan_last ?_
            simp only [pickOps, List.map_cons, List.map_nil, List.getElem?_toArray, List.getElem?_cons_zero, List.getElem?_cons_succ, Option.getD_some]
            repeat go_big_quiet_step (fail)
            refine wpQuiet_nil ?_
            clear iS x0 x1 x2 x3 x4 x5 x6 x7 x8 xl
            gi_wp2_with fail
            exact ⟨(HKO6.out.trans (KeepsOthers.setCell _ _ _)).from _, ⟨(cell_other HCB6.out HNB.out).trans HCBW.out.symm, kb_between HKW.out (kb_putJ HK6.out (Nat.le_refl _) _) (HKO6.out.trans (KeepsOthers.setCell _ _ _)).size⟩, _, _, ds ++ [(mv2 x.1, h1)], by rw [← List.append_assoc]; have h0 := HMO.out; simp only [List.length_append] at h0 ⊢; exact h0, HDX.out h1, kb_putJ HK6.out (Nat.le_refl _) _, cell_other HCB6.out HNB.out, Nat.le_trans HSW.out (HKO6.out.trans (KeepsOthers.setCell _ _ _)).size, HVN6.out⟩
          · go_wp2_with fail
            clear hv hvl
            refine HCP.out.mono ?_
            rintro _ u4 ⟨h1, rfl, hsub, hbk⟩
            have HM4 := hid (HMD.out.copy hbk (a := (mv2 x.1, h1)) hsub)
            have HG4 := hid (Box.kb hS hbk)
            have HK4 := hid (kb_tr (kb_drewJ HK3.out) hbk)
            have HKO4 := hid (HKOD.out.trans (ko_kb hbk))
            have HCB4 := hid (cell_kb (cell_lt HCBD.out) hbk HCBD.out)
            clear hsub hbk
            go_wp2_with fail
            refine plan_onS (HG4.out) ?_
            have hv := HM4.out.box.box.2 0 _ rfl
            have hvl := HM4.out.box.box.1
            with_reducible refine plan_two ?_
            simp only [pickOps, List.map_cons, List.map_nil, List.getElem?_toArray, List.getElem?_cons_zero, List.getElem?_cons_succ, Option.getD_some]
            repeat go_big_quiet_step (fail)
            refine wpQuiet_nil ?_
            refine ⟨?_, ?_⟩
            · go_wp2_with fail
              refine plan_onS HG4.out ?_
              clear hv hvl
              with_reducible refine plan_call ?_
              simp only [pickOps, List.map_cons, List.map_nil, List.getElem?_toArray, List.getElem?_cons_zero, List.getElem?_cons_succ, Option.getD_some]
              repeat go_big_quiet_step (fail)
              refine wpQuiet_nil ?_
              go_wp2_with fail
              refine planK_name ?_
              intro u5 hu5
              have HBX := hid (show Box u5 u4.heap.size (mvC (mv2 x.1, h1)) from by rw [hu5]; exact Box.new u4 (mvC (mv2 x.1, h1)) 35)
              have HK5 := hid (show KB u4.heap.size u4 u5 from by rw [hu5]; exact kb_new _ _)
              have HM5 := hid (HM4.out.kb HK5.out)
              have HG5 := hid (HG4.out.kb HK5.out)
              have HKA := hid (kb_tr HK4.out HK5.out)
              have HKOA := hid (HKO4.out.trans (ko_kb HK5.out))
              have HCBA := hid (cell_kb (cell_lt HCB4.out) HK5.out HCB4.out)
              clear hu5
              refine plan_onS HG5.out ?_
              have HRO := hid (show u5.ownsRow u0.heap.size 35 10 v (fs ++ ds).length ((fs ++ ds).flatMap mvC) from HM5.out.ro)
              have hsz5 : u0.heap.size ≤ u5.heap.size := HKA.out.size
              with_reducible refine plan_call ?_
              simp only [pickOps, List.map_cons, List.map_nil, List.getElem?_toArray, List.getElem?_cons_zero, List.getElem?_cons_succ, Option.getD_some]
              repeat go_big_quiet_step (fail)
              refine wpQuiet_nil ?_
              go_wp2_with (at_builtin; refine wpList_appz EKmoves rfl (.tmp 49) (.tmp 53) rfl (mvC (mv2 x.1, h1)) HRO.out rfl rfl rfl ((src_boxQ HBX.out (show (mvC (mv2 x.1, h1)).length = 1 * 10 from rfl)).2.2 _ rfl) (mv_one _) (by unfold maxLen; omega) (by omega) hsz5 ?_; intro v6 w6 h2 h4 h5)
              obtain ⟨g6, cap6, hv6⟩ := ownsRow_succ h2
              have HB6 := hid (own_row HM5.out.box h4 HM5.out.no)
              have HMO := hid (MvS.out HM5.out h2 h4 h5)
              have HK6 := hid (kb_row HKA.out HRO.out hsz5 h4)
              have HKO6 := hid (HKOA.out.trans (ko_row HRO.out h4))
              have HCB6 := hid (cell_grown HCBA.out h4 HCBN.out)
              have HVN6 := hid (show v6.ownBlock ≠ some wr.heap.size from fun e => (h5 _ e).elim HCBN.out fun h => Nat.not_lt.2 h (cell_lt HCBA.out))
              have HG6 := hid (HG5.out.grown h4 (fun e => HNG.out e.symm))
              clear h2 h4 h5
              refine plan_onS HG6.out ?_
              subst hv6
              have c9 := HB6.out.box.2 0 _ rfl
              have s9 : ∀ j, w6.frozen? ⟨u0.heap.size, j, none⟩ = false := HB6.out.soft
              have l9 := HB6.out.box.1
              with_reducible refine plan_call ?_
              simp only [pickOps, List.map_cons, List.map_nil, List.getElem?_toArray, List.getElem?_cons_zero, List.getElem?_cons_succ, Option.getD_some]
              repeat go_big_quiet_step (fail)
              refine wpQuiet_nil ?_
              go_wp2_with fail
              refine plan_onS (HG6.out.putOther (HNZ.out) _) ?_
              with_reducible refine plan_last ?_
              simp only [pickOps, List.map_cons, List.map_nil, List.getElem?_toArray, List.getElem?_cons_zero, List.getElem?_cons_succ, Option.getD_some]
              repeat go_big_quiet_step (fail)
              refine wpQuiet_nil ?_
              clear iS x0 x1 x2 x3 x4 x5 x6 x7 x8 xl
              gi_wp2_with fail
              exact ⟨(HKO6.out.trans (KeepsOthers.setCell _ _ _)).from _, ⟨(cell_other HCB6.out HNB.out).trans HCBW.out.symm, kb_between HKW.out (kb_putJ HK6.out (Nat.le_refl _) _) (HKO6.out.trans (KeepsOthers.setCell _ _ _)).size⟩, _, _, ds ++ [(mv2 x.1, h1)], by rw [← List.append_assoc]; have h0 := HMO.out; simp only [List.length_append] at h0 ⊢; exact h0, HDX.out h1, kb_putJ HK6.out (Nat.le_refl _) _, cell_other HCB6.out HNB.out, Nat.le_trans HSW.out (HKO6.out.trans (KeepsOthers.setCell _ _ _)).size, HVN6.out⟩
            · clear hv hvl
              go_wp2_with fail
              refine planK_name ?_
              intro u5 hu5
              have HBX := hid (show Box u5 u4.heap.size (mvC (mv2 x.1, h1)) from by rw [hu5]; exact Box.new u4 (mvC (mv2 x.1, h1)) 35)
              have HK5 := hid (show KB u4.heap.size u4 u5 from by rw [hu5]; exact kb_new _ _)
              have HM5 := hid (HM4.out.kb HK5.out)
              have HG5 := hid (HG4.out.kb HK5.out)
              have HKA := hid (kb_tr HK4.out HK5.out)
              have HKOA := hid (HKO4.out.trans (ko_kb HK5.out))
              have HCBA := hid (cell_kb (cell_lt HCB4.out) HK5.out HCB4.out)
              clear hu5
              refine plan_onS HG5.out ?_
              have hv := HM5.out.box.box.2 0 _ rfl
              have hvl := HM5.out.box.box.1
              with_reducible refine plan_call ?_
              simp only [pickOps, List.map_cons, List.map_nil, List.getElem?_toArray, List.getElem?_cons_zero, List.getElem?_cons_succ, Option.getD_some]
              repeat go_big_quiet_step (fail)
              refine wpQuiet_nil ?_
              go_wp2_with fail
              refine plan_onS HG5.out ?_
              clear hv hvl
              have HRO := hid (show u5.ownsRow u0.heap.size 35 10 v (fs ++ ds).length ((fs ++ ds).flatMap mvC) from HM5.out.ro)
              have hsz5 : u0.heap.size ≤ u5.heap.size := HKA.out.size
              with_reducible refine plan_call ?_
              simp only [pickOps, List.map_cons, List.map_nil, List.getElem?_toArray, List.getElem?_cons_zero, List.getElem?_cons_succ, Option.getD_some]
              repeat go_big_quiet_step (fail)
              refine wpQuiet_nil ?_
              go_wp2_with (at_builtin; refine wpList_appz EKmoves rfl (.tmp 49) (.tmp 53) rfl (mvC (mv2 x.1, h1)) HRO.out rfl rfl rfl ((src_boxQ HBX.out (show (mvC (mv2 x.1, h1)).length = 1 * 10 from rfl)).2.2 _ rfl) (mv_one _) (by unfold maxLen; omega) (by omega) hsz5 ?_; intro v6 w6 h2 h4 h5)
              obtain ⟨g6, cap6, hv6⟩ := ownsRow_succ h2
              have HB6 := hid (own_row HM5.out.box h4 HM5.out.no)
              have HMO := hid (MvS.out HM5.out h2 h4 h5)
              have HK6 := hid (kb_row HKA.out HRO.out hsz5 h4)
              have HKO6 := hid (HKOA.out.trans (ko_row HRO.out h4))
              have HCB6 := hid (cell_grown HCBA.out h4 HCBN.out)
              have HVN6 := hid (show v6.ownBlock ≠ some wr.heap.size from fun e => (h5 _ e).elim HCBN.out fun h => Nat.not_lt.2 h (cell_lt HCBA.out))
              have HG6 := hid (HG5.out.grown h4 (fun e => HNG.out e.symm))
              clear h2 h4 h5
              refine plan_onS HG6.out ?_
              subst hv6
              have c9 := HB6.out.box.2 0 _ rfl
              have s9 : ∀ j, w6.frozen? ⟨u0.heap.size, j, none⟩ = false := HB6.out.soft
              have l9 := HB6.out.box.1
              with_reducible refine plan_call ?_
              simp only [pickOps, List.map_cons, List.map_nil, List.getElem?_toArray, List.getElem?_cons_zero, List.getElem?_cons_succ, Option.getD_some]
              repeat go_big_quiet_step (fail)
              refine wpQuiet_nil ?_
              go_wp2_with fail
              refine plan_onS (HG6.out.putOther (HNZ.out) _) ?_
              with_reducible refine plan_last ?_
              simp only [pickOps, List.map_cons, List.map_nil, List.getElem?_toArray, List.getElem?_cons_zero, List.getElem?_cons_succ, Option.getD_some]
              repeat go_big_quiet_step (fail)
              refine wpQuiet_nil ?_
              clear iS x0 x1 x2 x3 x4 x5 x6 x7 x8 xl
              gi_wp2_with fail
              exact ⟨(HKO6.out.trans (KeepsOthers.setCell _ _ _)).from _, ⟨(cell_other HCB6.out HNB.out).trans HCBW.out.symm, kb_between HKW.out (kb_putJ HK6.out (Nat.le_refl _) _) (HKO6.out.trans (KeepsOthers.setCell _ _ _)).size⟩, _, _, ds ++ [(mv2 x.1, h1)], by rw [← List.append_assoc]; have h0 := HMO.out; simp only [List.length_append] at h0 ⊢; exact h0, HDX.out h1, kb_putJ HK6.out (Nat.le_refl _) _, cell_other HCB6.out HNB.out, Nat.le_trans HSW.out (HKO6.out.trans (KeepsOthers.setCell _ _ _)).size, HVN6.out⟩
      case done =>
        rintro D ys W hD rfl ⟨S, v, ds, h1, h2, h3, h4, h6, h7⟩ hK
        have HMW := hid h1
        have HDS := hid h2
        have HKW := hid h3
        have HDW := hid hK
        have HDL := hid (show D < W.heap.size from (Array.getElem?_eq_some_iff.1 hK).1)
        have HDD := hid hD
        clear h1 h2 h3 h4 h6 h7 hK hD
        have hmm : ∀ (t : TypeId) (w : World), (Instr.makeMap t none).run Tryz.prog w = .ok (.map (some w.heap.size)) (w.alloc (.map #[] 0)) := fun t w => run_makeMap t w
        have hmf : ∀ (fn : Fn) (first cap : Array Value) (w : World), (Instr.makeFunc fn first cap).run Tryz.prog w = .ok (.func fn first cap) w := fun _ _ _ _ => rfl
        go_upto_region 14 with fail
        refine wp_name ?_
        intro W2 hW2
        have HM2 := hid (show MapI W2 W.heap.size 0 (fun _ => none) 0 from by rw [hW2]; exact MapI.kb ⟨_, World.ownsMap_made W Tryz.prog 9 lkR, AgrI.start⟩ (kb_new _ _))
        have HG2 := hid (show Box W2 (W.heap.size + 1) [.map (some W.heap.size)] from by rw [hW2]; have h0 := Box.new (W.alloc (.map #[] 0)) [.map (some W.heap.size)] 103; rwa [World.size_alloc] at h0)
        have HKN := hid (show KB W.heap.size W W2 from by rw [hW2]; exact kb_tr (kb_new _ _) (kb_new _ _))
        clear hW2
        have HVP := hid (fun k (e : vp.ownBlock = some k) => World.ownsRow.lt HMW.out.rp k e)
        have HMS2 := hid (HMW.out.kb HKN.out)
        have HK2 := hid (kb_tr HKW.out HKN.out)
        have HD2 := hid ((HKN.out.block D HDL.out).trans HDW.out)
        have HSW2 := hid (show W.heap.size + 1 < W2.heap.size from HG2.out.1)
        have HKU := hid (kb_tr HK0.out HK2.out)
        have HGR := hid (pgroups_any U uc us A c zs W2 (hF.kb HKU.out) (hU.kb HKU.out) (hA.kb HKU.out) hz)
        have HNMS := hid (fun (s : ByteArray) (h : s ∈ catP us zs) => show s.size ≤ 9223372036854775807 from by
          rcases catP_in h with ⟨u, hu, rfl⟩ | rfl
          · exact Nat.le_trans (hU.sub u hu).s1 (by omega)
          · decide)
        have y0 := (HX1.out.kb HK2.out).2 0 _ rfl
        have yl := (HX1.out.kb HK2.out).1
        go_wp2_with fail
        refine HGR.out.mono ?_
        rintro _ w3 ⟨A2, c2, gps, rfl, hgs, hat, hbk⟩
        have HCT := hid (show gps.flatMap (·.l) = catP us zs from by unfold catP; rw [← hgs, List.flatMap_map]; rfl)
        have HCAT := hid (scat_any A2 c2 gps w3 hat (by rw [HCT.out]; have := catP_len us zs; omega))
        rw [HCT.out] at HCAT
        have HKN3 := hid (kb_tr HKN.out hbk)
        have HSZ23 := hid (show W2.heap.size ≤ w3.heap.size from hbk.size)
        have HG3 := hid (HG2.out.kb hbk)
        have HM3 := hid (HM2.out.kb hbk)
        have HMS3 := hid (HMS2.out.kb hbk)
        have HK3 := hid (kb_tr HK2.out hbk)
        clear hgs hat hbk HGR HM2 HG2 HMS2 y0 yl
        generalize gps.length = ng at *
        go_wp2_with fail
        refine HCAT.out.mono ?_
        rintro _ w4 ⟨v4, rfl, hown, hbk⟩
        obtain ⟨A4, c4, rfl, hl4, hb4, -⟩ := OwnL.lies (fun s : ByteArray => (rfl : (cellT s).length = 1)) hown
        have HL4 := hid hl4
        have HB4' := hid hb4
        have HKN4 := hid (kb_tr HKN3.out hbk)
        have HG4 := hid (HG3.out.kb hbk)
        have HM4' := hid (HM3.out.kb hbk)
        have HMS4 := hid (HMS3.out.kb hbk)
        have HK4' := hid (kb_tr HK3.out hbk)
        have HSZ3 := hid (show W.heap.size + 1 < w3.heap.size from Nat.lt_of_lt_of_le HSW2.out HSZ23.out)
        clear hl4 hb4 hown hbk HCAT HG3 HM3 HMS3
        have HNML := hid (catP_len us zs)
        obtain ⟨n4, hn4⟩ : ∃ n, (catP us zs).length = n := ⟨_, rfl⟩
        rw [hn4]
        have HN4 := hid hn4
        clear hn4
        have hn43 : n4 ≤ 3000 := by rw [← HN4.out]; exact HNML.out
        go_upto_block 4 with fail
        go_wp2_with fail
        go_loopw [61] (fun iv wx => ∃ (k : Nat), iv = .int .i64 (k : Int) ∧ k ≤ n4 ∧ Hid (MapI wx W.heap.size k (placeP ((catP us zs).take k)).1 (placeP ((catP us zs).take k)).2) ∧ Hid (w4.grownBy wx (some W.heap.size))) (fun iv _ => n4 - (intOf iv).toNat)
        case atStart => exact ⟨0, rfl, Nat.zero_le _, HM4', hid ⟨rfl, rfl, rfl, Nat.le_refl _, fun _ _ _ => rfl⟩⟩
        case round =>
          rename World => wx
          obtain ⟨k, rfl, hk, HMX, HGX⟩ := hrel
          have k0 : (0 : Int) ≤ (k : Int) := by omega
          by_cases hlt : k < n4
          · have h1 : k < (catP us zs).length := by rw [HN4.out]; exact hlt
            have k1 : (k : Int) < (n4 : Int) := by omega
            obtain ⟨b, off, hA4, hbl, hcx⟩ := HL4.out.at_ h1
            subst hA4
            have hge := (HB4'.out _ rfl).1
            have x0 : wx.cell? ⟨b, off + k * 1, none⟩ = some (.string (catP us zs)[k]) := cell_grown (hcx 0 _ rfl) HGX.out (fun e => by injection e with e; have := HSZ3.out; have := HSW2.out; have hge : w3.heap.size ≤ b := hge; omega)
            have x1 : wx.cell? ⟨b, off + k, none⟩ = some (.string (catP us zs)[k]) := by rw [Nat.mul_one] at x0; exact x0
            have HTA := hid (show placeP ((catP us zs).take (k + 1)) = putO (placeP ((catP us zs).take k)) (catP us zs)[k] from by rw [List.take_succ_eq_append_getElem h1, placeP_snoc])
            have HFI := hid (HNMS.out _ (List.getElem_mem h1))
            have xl : b < wx.heap.size := Nat.lt_of_lt_of_le hbl HGX.out.size
            have y0 : wx.cell? ⟨W.heap.size + 1, 0, none⟩ = some (.map (some W.heap.size)) := cell_grown (HG4.out.2 0 _ rfl) HGX.out (fun e => by injection e with e; omega)
            have yl : W.heap.size + 1 < wx.heap.size := Nat.lt_of_lt_of_le HG4.out.1 HGX.out.size
            obtain ⟨D', hown, hagr⟩ := HMX.out
            have HOW := hid hown
            have HAG := hid hagr
            clear hown hagr hge hbl hcx HMX
            generalize (catP us zs)[k] = s at *
            obtain ⟨pl, hpl⟩ : ∃ p, placeP ((catP us zs).take k) = p := ⟨_, rfl⟩
            rw [hpl] at HAG HTA
            clear h1 hpl
            go_wp2_with (first | (at_len; go_loud (refine wpList_len_own _ rfl _ 103 rfl 9 3 Tryz.underlying103 lkR W.heap.size k D' rfl HOW.out ?_; rw [HAG.out.sz])) | (at_mapUpdate; go_loud (refine wpList_mapUpdate_own _ rfl _ _ _ 103 rfl 9 3 keyLaw Tryz.underlying103 lkR W.heap.size k D' rfl HOW.out (by unfold maxLen; omega) _ _ (kyN s) rfl rfl (key_mk HFI.out) (.held (.int .i64 (pl.2 : Int))) [] rfl ?_; intro w5 hown3 hgrow3)))
            have HM5 := hid (show MapI w5 W.heap.size (k + 1) (placeP ((catP us zs).take (k + 1))).1 (placeP ((catP us zs).take (k + 1))).2 from ⟨_, hown3, by rw [HTA.out]; exact HAG.out.put s⟩)
            have HG5 := hid (HGX.out.trans hgrow3)
            clear hown3 hgrow3 x0 x1 xl y0 yl
            go_roundw
            case rel => exact ⟨k + 1, by go_num, by omega, HM5, HG5⟩
            case measure => simp [intOf] <;> omega
          · obtain rfl : k = n4 := by omega
            have k1 : ¬ (k : Int) < (k : Int) := by omega
            have HMF := hid (show MapI wx W.heap.size k (placeP (catP us zs)).1 (placeP (catP us zs)).2 from by have h0 := HMX.out; rwa [List.take_of_length_le (by rw [HN4.out]; exact Nat.le_refl _)] at h0)
            have HMR := hid (HMS4.out.aside HGX.out (fun r e => by injection e with e; rw [← e]; exact HM4'.out.obj))
            have HGR := hid (show Box wx (W.heap.size + 1) [.map (some W.heap.size)] from HG4.out.grown HGX.out (fun e => by injection e with e; omega))
            have HKX := hid (HK4'.out.grown HGX.out HK4'.out.size (fun q e => by cases e; exact HKW.out.size))
            have HDX := hid (show wx.heap[D]? = some (.deferred (some [])) from (HGX.out.block D (Nat.lt_of_lt_of_le HDL.out HKN4.out.size) (fun e => by injection e with e; have := HDL.out; omega)).trans ((HKN4.out.block D HDL.out).trans HDW.out))
            have HPLN := hid (show ps.length < 20 from by have := HLS.out.2; have := HNLT.out; omega)
            have HST := hid (psortst_any u0.heap.size vp (W.heap.size + 1) W.heap.size k (placeP (catP us zs)).2 ps (placeP (catP us zs)).1 wx HMR.out.rp HGR.out (fun e => by have := (HVP.out _ e).2; omega) HMF.out (fun e => Nat.lt_irrefl _ (HVP.out _ e).2) (fun s v e => placeP_bd HNML.out s v e) HPLN.out)
            clear HMX HGX HMF HGR
            go_wp2_with fail
            refine HST.out.mono ?_
            rintro _ w8 ⟨rfl, ⟨A8, c8, hv8, hl8⟩, row, hg8, hr8⟩
            subst hv8
            have HPM := hid (insM_perm (placeP (catP us zs)).1 ps)
            have HSRC := hid (show SrcOf w8 A8 ps.length 10 ((insM (placeP (catP us zs)).1 ps).flatMap mqC) from by rw [← HPM.out.length_eq]; exact src_lies mq_len (by omega) hl8)
            have HONE := hid (flat_oneQ (fun x : MQ => mv_one x.1) (insM (placeP (catP us zs)).1 ps))
            have HB8 := hid (own_row HMR.out.box hg8 (fun e => HMR.out.np (hr8 _ e)))
            have HRO8 := hid (show w8.ownsRow u0.heap.size 35 10 v (fs ++ ds).length ((fs ++ ds).flatMap mvC) from World.ownsRow.kept HMR.out.ro hg8 (by
              cases hv : v.ownBlock with
              | none => exact .inl rfl
              | some q => exact .inr (fun e => HMR.out.ap q hv (hr8 q e.symm))))
            have HK8 := hid (HKX.out.grown hg8 HKX.out.size (fun q e => (World.ownsRow.lt HMR.out.rp q (hr8 q e)).1))
            have HD8 := hid (show w8.heap[D]? = some (.deferred (some [])) from (hg8.block D (Array.getElem?_eq_some_iff.1 HDX.out).1 (fun e => by
              obtain ⟨o, ho, hc⟩ := row_cells HMR.out.rp (hr8 D e.symm)
              rw [HDX.out] at ho
              injection ho with ho
              rw [← ho] at hc
              cases hc)).trans HDX.out)
            have HG8 := hid hg8
            have HR8 := hid hr8
            have HFDL := hid (show (fs ++ ds).length ≤ 1100 from by
              have h1 := congrArg List.length HDS.out
              rw [List.length_map, List.length_map] at h1
              have h2 := List.length_filter_le (fun x => !hasL (now.map (·.1)) x) ((List.finRange old.length).reverse.map fun k => old[k].1)
              rw [List.length_map, List.length_reverse, List.length_finRange] at h2
              have h3 := HLO.out
              have h4 := HLS.out.1
              have h5 := HNLT.out
              rw [List.length_append]
              omega)
            have hfdl := HFDL.out
            have hpln := HPLN.out
            have hsz8 : u0.heap.size ≤ w8.heap.size := HK8.out.size
            have c9 := HB8.out.box.2 0 _ rfl
            have l9 := HB8.out.box.1
            clear hg8 hr8 hl8 HST
            go_wp2_with (at_builtin; refine wpList_appx EKmoves rfl (.tmp 73) (.tmp 74) rfl rfl HRO8.out rfl HSRC.out HONE.out (by unfold maxLen; omega) (by omega) hsz8 ?_; intro v9 w9 h2 h3 h4)
            have HD9 := hid (show w9.heap[D]? = some (.deferred (some [])) from (h4.block D (Array.getElem?_eq_some_iff.1 HD8.out).1 (fun e => by
              obtain ⟨o, ho, hc⟩ := row_cells HRO8.out e.symm
              rw [HD8.out] at ho
              injection ho with ho
              rw [← ho] at hc
              cases hc)).trans HD8.out)
            have HK9 := hid (HK8.out.grown h4 hsz8 (fun q e => (World.ownsRow.lt HRO8.out q e).1))
            obtain ⟨A9, c9', hv9, hm9⟩ := MvS.ended HMR.out HG8.out HR8.out HPM.out (by rw [HPM.out.length_eq]; exact h2) h4 HD9.out
            refine ⟨by simp, .inl ⟨_, _, rfl, run_takeDeferred HD9.out, ?_⟩⟩
            refine ⟨_, results_tmp rfl _ _ _, A9, c9', fs, ds, ps, by rw [hv9]; rfl, hm9, ?_, ?_, ?_, ?_⟩
            · rw [hNEWS, HNL.out]; exact HFP.out.1
            · rw [HDS.out, back_map]
            · rw [hNEWS, HNL.out]; exact HFP.out.2
            · exact Go.RowKit.Below.trans (kb_tr HK0.out HK9.out) (belowK_b (w := w) (Nat.le_refl _) w9 D _ _ (by have := HDD.out; have := HK4.out.size; have := HK0.out.size; omega) HD9.out rfl rfl)
      case stop =>
        rintro D c pre W hD _ h _
        exact h.elim
end Go.Proofs.YtlmkglgjdmjnkaaGreatDoor
