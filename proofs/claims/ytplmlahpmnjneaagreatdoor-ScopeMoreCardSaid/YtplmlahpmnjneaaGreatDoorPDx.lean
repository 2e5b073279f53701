import Derived.Test.YtplmlahpmnjneaaGreatDoorPDxb
namespace Go.Proofs.YtplmlahpmnjneaaGreatDoor
open Go.RowKit Go.Lib
open Rw
set_option linter.unusedVariables false
set_option linter.unusedSimpArgs false
set_option maxRecDepth 100000 in
set_option maxHeartbeats 8000000 in
theorem walk_ScopeMore (A0 : Option Addr) (c0 : Nat) (z0 : List Int) (A9 : Option Addr) (c9 : Nat) (z9 : List Int) (w : World) (h0 : IntsAt w A0 z0) (l0 : z0.length ≤ 9223372036854775807) (h9 : IntsAt w A9 z9) (l9 : z9.length ≤ 9223372036854775807) (hL : Laid w) :
    Calls Tryz.prog 9 #[.slice A0 z0.length c0, .slice A9 z9.length c9] w (BoolK w true) := by
  have HL := hid hL
  have P1 := hid (lawrange_cap A0 c0 z0 0 w h0 (by omega) (by omega) l0)
  have P2 := hid (fun u (hb : KB w.heap.size w u) => lawcomp_any A9 c9 z9 0 u (h9.kb hb) (by omega) (by omega) l9)
  clear hL h0 h9
  generalize z0.length = n0 at *
  generalize z9.length = n9 at *
  go_enter Tryz.func9, Tryz.ntmps9
  have HB := hid (kb_refl w)
  go_wp2_with fail
  refine P1.out.mono ?_
  rintro _ w1 ⟨A1, c1, r, he, hal, hmay, hfit, hcap, hb⟩
  generalize hnr : r.length = nr at *
  have HNR := hid hnr
  clear hnr
  subst he
  have HA1 := hid hal
  have HM := hid hmay
  have HF := hid hfit
  have HB := hid (kb_tr HB.out hb.kb)
  clear hb hal hmay hfit P1
  go_wp2_with fail
  refine (P2.out w1 HB.out).mono ?_
  rintro _ w2 ⟨cc, rfl, hmx, hfx, hb⟩
  have HMX := hid hmx
  have HFX := hid hfx
  have HA1 := hid (HA1.out.below hb)
  have HB := hid (kb_tr HB.out hb.kb)
  clear hb hmx hfx P2
  go_upto_region 2 with fail
  refine wp_name ?_
  intro u1 hu
  have HX5 := hid (show Box u1 w2.heap.size [.slice A1 nr c1] by rw [hu]; exact (Box.new w2 [.slice A1 nr c1] 35).kb (kb_new _ _))
  have HX6 := hid (show Box u1 (w2.heap.size + 1) (CompL.cells cc) by rw [hu]; exact (Own.new2 w2 _ (CompL.cells cc) 52 (Nat.le_refl _)).box)
  have HA1 := hid (show Alts u1 A1 r by rw [hu]; exact HA1.out.kb (kb_tr (kb_new _ _) (kb_new _ _)))
  have HB := hid (show KB w.heap.size w u1 by rw [hu]; exact kb_tr HB.out (kb_tr (kb_new _ _) (kb_new _ _)))
  clear hu
  generalize w2.heap.size + 1 = g6 at *
  generalize w2.heap.size = g5 at *
  have HPT := hid (mayG_parts HM.out)
  have hn6 : nr ≤ 6 := by have := HPT.out.1; rwa [HNR.out] at this
  have hn1 : 0 < nr := by rw [← HNR.out]; exact List.length_pos_iff.2 (mayG_few HM.out).1.ne
  have h0r : 0 < r.length := by rw [HNR.out]; exact hn1
  obtain ⟨b, off, hA⟩ : ∃ b off, A1 = some ⟨b, off, none⟩ := by
    obtain ⟨b, off, -, -, e, -⟩ := HA1.out.at_ h0r
    exact ⟨b, off, e⟩
  subst hA
  obtain ⟨hs, hh, hcl, hoc⟩ := heads_of HA1.out
  have HH := hid hh
  have HCL := hid hcl
  have HOC := hid hoc
  clear hh hcl hoc
  go_cut [7] from 21 to 28 (fun s7 wx => ∃ (g : Nat) (A : Option Addr) (c : Nat), s7 = .pointer (some ⟨g, 0, none⟩) ∧ Hid (Box wx g [.slice A (nr + 1) c]) ∧ Hid (Alts wx A (r ++ [[cc]])) ∧ Hid (KB u1.heap.size u1 wx))
  case first =>
    have hS : KB u1.heap.size u1 u1.drew := (Below.drew (Below.refl _ _)).kb
    have HHL := hid (show hs.length = nr * 1 by rw [HH.out.1, HNR.out, Nat.mul_one])
    refine wp_planT (fun u => KB u1.heap.size u1 u) (.three [0, 1, 3] 2 4 8 (.two [] 4 8 (.two [] 5 8 (.two [] 6 8 (.call [7] 8 (.call [] 9 (.last []))) (.call [] 6 (.call [7] 9 (.last [])))) (.call [] 5 (.call [] 6 (.call [7] 9 (.last []))))) (.call [] 4 (.call [] 5 (.call [] 6 (.call [7] 9 (.last [])))))) (.three [] 2 5 8 (.two [] 5 8 (.two [] 6 8 (.call [7] 8 (.call [] 9 (.last []))) (.call [] 6 (.call [7] 9 (.last [])))) (.call [] 5 (.call [] 6 (.call [7] 9 (.last []))))) (.two [] 2 8 (.two [] 6 8 (.call [7] 8 (.call [] 9 (.last []))) (.call [] 6 (.call [7] 9 (.last [])))) (.call [] 2 (.call [] 6 (.call [7] 9 (.last []))))) (.two [] 2 5 (.call [] 5 (.call [] 6 (.call [7] 9 (.last [])))) (.call [] 2 (.call [] 6 (.call [7] 9 (.last [])))))) (.two [] 2 4 (.call [] 4 (.call [] 5 (.call [] 6 (.call [7] 9 (.last []))))) (.two [] 2 5 (.call [] 5 (.call [] 6 (.call [7] 9 (.last [])))) (.call [] 2 (.call [] 6 (.call [7] 9 (.last []))))))) (by first | assumption | skip) (by kernel_rfl) (by intro _ _ d _ _ h; cases d <;> exact h) (by kernel_rfl) ?_
    have iS : Nonempty (SW fun u => KB u1.heap.size u1 u) := ⟨⟨_, hS⟩⟩
    intro u hu
    have HK := hid (show KB u1.heap.size u1 u by rw [hu]; exact hS)
    clear hu hS
    have q0 := fun (z : SW fun u => KB u1.heap.size u1 u) => (HX5.out.kb z.ok).2 0 _ rfl
    have q1 := fun (z : SW fun u => KB u1.heap.size u1 u) => (HX6.out.kb z.ok).2 0 _ rfl
    have q2 := fun (z : SW fun u => KB u1.heap.size u1 u) => (HX6.out.kb z.ok).2 1 _ rfl
    have q3 := fun (z : SW fun u => KB u1.heap.size u1 u) => (HX6.out.kb z.ok).2 2 _ rfl
    have q4 := fun (z : SW fun u => KB u1.heap.size u1 u) => (HX6.out.kb z.ok).2 3 _ rfl
    have q5 := fun (z : SW fun u => KB u1.heap.size u1 u) => (HX6.out.kb z.ok).2 4 _ rfl
    have q6 := fun (z : SW fun u => KB u1.heap.size u1 u) => (HX6.out.kb z.ok).2 5 _ rfl
    have q7 := fun (z : SW fun u => KB u1.heap.size u1 u) => (HX6.out.kb z.ok).2 6 _ rfl
    iterate 6 (all_goals ((try clear y0 sf yl); rename World => u; (try (have y0 := HO7.out.box.2 0 _ rfl; have sf : ∀ j, u.frozen? ⟨g7, j, none⟩ = false := HO7.out.soft; have yl := HO7.out.box.1)); (first | ((with_reducible refine planT_three ?_); simp only [pickOps, List.map_cons, List.map_nil, List.getElem?_toArray, List.getElem?_cons_zero, List.getElem?_cons_succ, Option.getD_some]; (repeat go_big_quiet_step (fail)); refine wpQuiet_nil ?_; refine ⟨?_, ?_, ?_⟩) | ((with_reducible refine planT_two ?_); simp only [pickOps, List.map_cons, List.map_nil, List.getElem?_toArray, List.getElem?_cons_zero, List.getElem?_cons_succ, Option.getD_some]; (repeat go_big_quiet_step (fail)); refine wpQuiet_nil ?_; refine ⟨?_, ?_⟩) | ((with_reducible refine planT_call ?_); simp only [pickOps, List.map_cons, List.map_nil, List.getElem?_toArray, List.getElem?_cons_zero, List.getElem?_cons_succ, Option.getD_some]; (repeat go_big_quiet_step (fail)); refine wpQuiet_nil ?_)) <;> (go_wp2_with (first | (at_builtin; refine wpList_appy EKheads rfl (.const (.slice none 0 0)) (.tmp 22) rfl rfl (World.ownsRow_nil u u.heap.size _ _) rfl HHL.out (HCL.out u HK.out) HOC.out hn1 (by unfold maxLen; omega) (by omega) (Nat.le_refl _) ?_; intro vv w' h2 h3 h4 h5) | (at_builtin; refine wpList_appy EKheads rfl (.tmp 23) (.tmp 26) rfl rfl HV.out rfl (m := 1) (news := [.slice (some ⟨g25, 0, none⟩) 1 1]) rfl (box_src H26.out) (one1 _ rfl) (by omega) (by unfold maxLen; omega) (by omega) HBL.out ?_; intro vv w' h2 h3 h4 h5; obtain ⟨A9, c9, rfl⟩ := own_slice h2))) <;> (first | ((have HVn := hid (show w'.ownsRow u.heap.size 49 1 vv nr hs by simpa using h2)); (have hk := h3.kb); (refine planT_on ?_; intro v hv; rw [hv]; clear hv v); (try have N25 := hid (show Value.ownBlock vv ≠ some g25 from fun e => absurd (h2.lt _ e).1 (Nat.not_le_of_lt H25.out.1))); (try have N7 := hid (show Value.ownBlock vv ≠ some g7 from fun e => absurd (h2.lt _ e).1 (Nat.not_le_of_lt HO7.out.box.1))); (have HB1 := hid HK.out.size); (replace HK := hid (kb_tr HK.out hk)); (try replace HBL := hid (Nat.le_trans HBL.out hk.size)); (try replace HV := hid (row_kb HV.out hk)); (try replace H25 := hid (H25.out.kb hk)); (try replace H26 := hid (H26.out.kb hk)); (try replace HO7 := hid (HO7.out.kb hk)); (have HV := HVn); (have HBL := hid hk.size); clear HVn h2 h3 h4 h5 hk; generalize u.heap.size = B at *; refine ⟨HK.out, ?_⟩) | ((have HVn := hid (show w'.ownsRow B 49 1 (.slice A9 (nr + 1) c9) (nr + 1) (hs ++ [.slice (some ⟨g25, 0, none⟩) 1 1]) from h2)); (refine planT_on ?_; intro v hv; rw [hv]; clear hv v); (have HKn := hid (kb_mid HK.out HB1.out h3)); (have H25 := hid (H25.out.grown h4 (fun e => N25.out e.symm))); (try have N7n := hid (show Value.ownBlock _ ≠ some g7 from fun e => (h5 _ e).elim N7.out (fun k => absurd k (Nat.ne_of_lt HO7.out.box.1)))); (try have HO7 := hid (HO7.out.grown h4 (fun e => N7.out e.symm))); (try have N7 := N7n); (have HV := HVn); (have HK := HKn); clear HVn HKn h2 h3 h4 h5; refine ⟨HK.out, ?_⟩) | ((refine planT_on ?_; intro w' hw'); (have H25n := hid (show Box w' u.heap.size (CompL.cells cc) by rw [hw']; exact Box.new u (CompL.cells cc) 52)); (have hk : KB u.heap.size u w' := by rw [hw']; exact kb_new _ _); (try have N25 := hid (show Value.ownBlock _ ≠ some u.heap.size from fun e => absurd (HV.out.lt _ e).2 (Nat.lt_irrefl u.heap.size))); (try have M := hid (show u.heap.size ≠ g7 from Nat.ne_of_gt HO7.out.box.1)); (replace HK := hid (kb_tr HK.out hk)); (try replace HBL := hid (Nat.le_trans HBL.out hk.size)); (try replace HV := hid (row_kb HV.out hk)); (try replace H25 := hid (H25.out.kb hk)); (try replace H26 := hid (H26.out.kb hk)); (try replace HO7 := hid (HO7.out.kb hk)); have H25 := H25n; clear H25n hk hw'; generalize u.heap.size = g25 at *; refine ⟨HK.out, ?_⟩) | ((refine planT_on ?_; intro w' hw'); (have H26n := hid (show Box w' u.heap.size [.slice (some ⟨g25, 0, none⟩) 1 1] by rw [hw']; exact Box.new u [.slice (some ⟨g25, 0, none⟩) 1 1] 49)); (have hk : KB u.heap.size u w' := by rw [hw']; exact kb_new _ _); skip; (replace HK := hid (kb_tr HK.out hk)); (try replace HBL := hid (Nat.le_trans HBL.out hk.size)); (try replace HV := hid (row_kb HV.out hk)); (try replace H25 := hid (H25.out.kb hk)); (try replace H26 := hid (H26.out.kb hk)); (try replace HO7 := hid (HO7.out.kb hk)); have H26 := H26n; clear H26n hk hw'; generalize u.heap.size = g26 at *; refine ⟨HK.out, ?_⟩) | ((refine planT_on ?_; intro w' hw'); (have HO7n := hid (show Own u1.heap.size w' u.heap.size [.slice none 0 0] by rw [hw']; exact Own.new u [.slice none 0 0] 35 HK.out.size)); (have hk : KB u.heap.size u w' := by rw [hw']; exact kb_new _ _); (try have N7 := hid (show Value.ownBlock _ ≠ some u.heap.size from fun e => absurd (HV.out.lt _ e).2 (Nat.lt_irrefl u.heap.size))); (try have M := hid (show g25 ≠ u.heap.size from Nat.ne_of_lt H25.out.1)); (replace HK := hid (kb_tr HK.out hk)); (try replace HBL := hid (Nat.le_trans HBL.out hk.size)); (try replace HV := hid (row_kb HV.out hk)); (try replace H25 := hid (H25.out.kb hk)); (try replace H26 := hid (H26.out.kb hk)); (try replace HO7 := hid (HO7.out.kb hk)); have HO7 := HO7n; clear HO7n hk hw'; generalize u.heap.size = g7 at *; refine ⟨HK.out, ?_⟩) | ((refine planT_on ?_; intro w' hw'); (have HX7 := hid (show Own u1.heap.size w' g7 [.slice A9 (nr + 1) c9] by rw [hw']; exact HO7.out.put (j := 0) (by simp) _)); (have H25 := hid (show Box w' g25 (CompL.cells cc) by rw [hw']; exact H25.out.putOther M.out _)); (have HV := hid (show w'.ownsRow B 49 1 (.slice A9 (nr + 1) c9) (nr + 1) (hs ++ [.slice (some ⟨g25, 0, none⟩) 1 1]) by rw [hw']; exact own_other (o := 0) (vs := [_]) HV.out N7.out)); (have HK := hid (show KB u1.heap.size u1 w' by rw [hw']; exact kb_put HK.out HO7.out.low _)); clear hw'; refine ⟨HK.out, ?_⟩))))
    all_goals
      with_reducible refine planT_last ?_
      simp only [pickOps, List.map_cons, List.map_nil, List.getElem?_toArray, List.getElem?_cons_zero, List.getElem?_cons_succ, Option.getD_some]
      repeat go_big_quiet_step (fail)
      refine wpQuiet_nil ?_
      go_wp2_with fail
      go_meet
      case rel =>
        obtain ⟨A, c, e, hal⟩ := more_alts HK.out HH.out (by rw [HNR.out]; exact HV.out) H25.out
        injection e with e1 e2 e3
        subst e1
        exact ⟨g7, _, _, rfl, hid HX7.out.box, hid hal, HK⟩
  case rest =>
    obtain ⟨g7, A2, c2, rfl, HX7, HA2, HK2⟩ := hcut
    clear HH HCL HOC
    rename World => u2
    have HX5 := hid (HX5.out.kb HK2.out)
    have HX6 := hid (HX6.out.kb HK2.out)
    have HA1 := hid (HA1.out.kb HK2.out)
    have HB := hid (kb_tr HB.out HK2.out)
    clear HK2
    obtain ⟨Ai, ci, hcell, hcs⟩ := alts_cell HA1.out h0r
    have HHC := hid hcell
    have hbl : b < u2.heap.size := World.block_lt_of_cell? u2 _ hcell
    have HBL2 := hid hbl
    have hra := List.getElem_mem h0r
    have HFA := hid ((mayG_few HM.out).1.may _ hra)
    have HFF := hid (HF.out _ hra)
    have HA10 := hid (fun u (hb : KB u2.heap.size u2 u) => alts_first (HA1.out.kb hb) h0r)
    have HRA := hid hra
    clear hcell hra hbl
    generalize r[0] = a at *
    have ha6 : a.length ≤ 6 := HFA.out.le
    have ha1 : 0 < a.length := List.length_pos_iff.2 HFA.out.ne
    obtain ⟨b2, off2, hAi⟩ : ∃ b2 off2, Ai = some ⟨b2, off2, none⟩ := by
      obtain ⟨b2, off2, e, -⟩ := hcs.at_ ha1
      exact ⟨b2, off2, e⟩
    subst hAi
    have HSRC := hid (fun u (hb : KB u2.heap.size u2 u) => comps_src (hcs.kb hb))
    clear hcs
    have i0 : (0 : Int) < (nr : Int) := by omega
    go_upto_region 3 with fail
    go_cut [8] from 29 to 37 (fun s8 wx => ∃ (A : Option Addr) (c : Nat), s8 = .slice A (a.length + 1) c ∧ Hid (Comps wx A (a ++ [cc])) ∧ Hid (KB u2.heap.size u2 wx))
    case first =>
      have hS : KB u2.heap.size u2 u2.drew := (Below.drew (Below.refl _ _)).kb
      refine wp_planT (fun u => KB u2.heap.size u2 u) (.two [0, 1, 2, 3, 5] 4 6 (.call [] 6 (.call [] 7 (.last [8]))) (.call [] 4 (.call [] 7 (.last [8])))) (by first | assumption | skip) (by kernel_rfl) (by intro _ _ d _ _ h; cases d <;> exact h) (by kernel_rfl) ?_
      have iS : Nonempty (SW fun u => KB u2.heap.size u2 u) := ⟨⟨_, hS⟩⟩
      intro u hu
      have HK := hid (show KB u2.heap.size u2 u by rw [hu]; exact hS)
      clear hu hS
      have q0 := fun (z : SW fun u => KB u2.heap.size u2 u) => (HX5.out.kb z.ok).2 0 _ rfl
      have qh := fun (z : SW fun u => KB u2.heap.size u2 u) => (z.ok.cell (p := ⟨b, off + 0, none⟩) HBL2.out).trans HHC.out
      simp only [Nat.add_zero] at qh
      have q1 := fun (z : SW fun u => KB u2.heap.size u2 u) => (HX6.out.kb z.ok).2 0 _ rfl
      have q2 := fun (z : SW fun u => KB u2.heap.size u2 u) => (HX6.out.kb z.ok).2 1 _ rfl
      have q3 := fun (z : SW fun u => KB u2.heap.size u2 u) => (HX6.out.kb z.ok).2 2 _ rfl
      have q4 := fun (z : SW fun u => KB u2.heap.size u2 u) => (HX6.out.kb z.ok).2 3 _ rfl
      have q5 := fun (z : SW fun u => KB u2.heap.size u2 u) => (HX6.out.kb z.ok).2 4 _ rfl
      have q6 := fun (z : SW fun u => KB u2.heap.size u2 u) => (HX6.out.kb z.ok).2 5 _ rfl
      have q7 := fun (z : SW fun u => KB u2.heap.size u2 u) => (HX6.out.kb z.ok).2 6 _ rfl
      iterate 3 (all_goals ((try clear y0); rename World => u; skip; (first | ((with_reducible refine planT_three ?_); simp only [pickOps, List.map_cons, List.map_nil, List.getElem?_toArray, List.getElem?_cons_zero, List.getElem?_cons_succ, Option.getD_some]; (repeat go_big_quiet_step (fail)); refine wpQuiet_nil ?_; refine ⟨?_, ?_, ?_⟩) | ((with_reducible refine planT_two ?_); simp only [pickOps, List.map_cons, List.map_nil, List.getElem?_toArray, List.getElem?_cons_zero, List.getElem?_cons_succ, Option.getD_some]; (repeat go_big_quiet_step (fail)); refine wpQuiet_nil ?_; refine ⟨?_, ?_⟩) | ((with_reducible refine planT_call ?_); simp only [pickOps, List.map_cons, List.map_nil, List.getElem?_toArray, List.getElem?_cons_zero, List.getElem?_cons_succ, Option.getD_some]; (repeat go_big_quiet_step (fail)); refine wpQuiet_nil ?_)) <;> (go_wp2_with (first | (at_builtin; refine wpList_appy EKcomps rfl (.const (.slice none 0 0)) (.tmp 32) rfl rfl (World.ownsRow_nil u u.heap.size _ _) rfl (flat_len cells7 a) (HSRC.out u HK.out) (flat_one a) ha1 (by unfold maxLen; omega) (by omega) (Nat.le_refl _) ?_; intro vv w' h2 h3 h4 h5) | (at_builtin; refine wpList_appy EKcomps rfl (.tmp 33) (.tmp 35) rfl rfl HV.out rfl (m := 1) (news := CompL.cells cc) rfl (box_src H25.out) (oneX cc) (by omega) (by unfold maxLen; omega) (by omega) HBL.out ?_; intro vv w' h2 h3 h4 h5))) <;> (first | ((have HVn := hid (show w'.ownsRow u.heap.size 52 7 vv a.length (a.flatMap CompL.cells) by simpa using h2)); (have hk := h3.kb); (refine planT_on ?_; intro v hv; rw [hv]; clear hv v); (have HB1 := hid HK.out.size); (replace HK := hid (kb_tr HK.out hk)); (try replace HBL := hid (Nat.le_trans HBL.out hk.size)); (try replace HV := hid (row_kb HV.out hk)); (try replace H25 := hid (H25.out.kb hk)); (have HV := HVn); (have HBL := hid hk.size); clear HVn h2 h3 h4 h5 hk; generalize u.heap.size = B at *; refine ⟨HK.out, ?_⟩) | ((have HOX := hid (show OwnX w' B vv (a ++ [cc]) from OwnL.snoc h2)); (refine planT_on ?_; intro v hv; rw [hv]; clear hv v); (have HKn := hid (kb_mid HK.out HB1.out h3)); (have HK := HKn); clear HKn h2 h3 h4 h5; refine ⟨HK.out, ?_⟩) | ((refine planT_on ?_; intro w' hw'); (have H25n := hid (show Box w' u.heap.size (CompL.cells cc) by rw [hw']; exact Box.new u (CompL.cells cc) 52)); (have hk : KB u.heap.size u w' := by rw [hw']; exact kb_new _ _); skip; (replace HK := hid (kb_tr HK.out hk)); (try replace HBL := hid (Nat.le_trans HBL.out hk.size)); (try replace HV := hid (row_kb HV.out hk)); (try replace H25 := hid (H25.out.kb hk)); have H25 := H25n; clear H25n hk hw'; generalize u.heap.size = g25 at *; refine ⟨HK.out, ?_⟩))))
      all_goals
        with_reducible refine planT_last ?_
        simp only [pickOps, List.map_cons, List.map_nil, List.getElem?_toArray, List.getElem?_cons_zero, List.getElem?_cons_succ, Option.getD_some]
        repeat go_big_quiet_step (fail)
        refine wpQuiet_nil ?_
        go_wp2_with fail
        go_meet
        case rel =>
          obtain ⟨A, cap, e, hl, -, -⟩ := OwnL.lies cells7 HOX.out
          exact ⟨A, cap, by rw [e]; simp, hid hl, HK⟩
    case rest =>
      obtain ⟨A3, c3, rfl, HC3, HK3⟩ := hcut
      rename World => u3
      have HX5 := hid (HX5.out.kb HK3.out)
      have HX7 := hid (HX7.out.kb HK3.out)
      have HA1 := hid (HA1.out.kb HK3.out)
      have HA2 := hid (HA2.out.kb HK3.out)
      have HA10 := hid (HA10.out u3 HK3.out)
      have HB := hid (kb_tr HB.out HK3.out)
      clear HK3 HSRC HHC HBL2 HX6
      have hcapI : (1 : Int) ≤ (c1 : Int) := by omega
      go_upto_region 5 with fail
      refine wp_name ?_
      intro u4 hu
      have k4 : KB u3.heap.size u3 u4 := by rw [hu]; exact kb_tr (kb_new _ _) (kb_new _ _)
      have HX9 := hid (show Box u4 (u3.heap.size + 1) [.slice (some ⟨u3.heap.size, 0, none⟩) 1 1] by rw [hu]; exact (Own.new2 u3 _ [.slice (some ⟨u3.heap.size, 0, none⟩) 1 1] 35 (Nat.le_refl _)).box)
      have HA9 := hid (show Alts u4 (some ⟨u3.heap.size, 0, none⟩) [a ++ [cc]] by
        rw [hu]
        have h1 := (Box.new u3 [.slice A3 (a.length + 1) c3] 49).kb (kb_new _ (.cells [Value.slice (some ⟨u3.heap.size, 0, none⟩) 1 1].toArray 35))
        exact one_alts (A := A3) (c := c3) (by simpa using h1) (HC3.out.kb (kb_tr (kb_new _ _) (kb_new _ _))))
      have HX5 := hid (HX5.out.kb k4)
      have HX7 := hid (HX7.out.kb k4)
      have HA1 := hid (HA1.out.kb k4)
      have HA2 := hid (HA2.out.kb k4)
      have HA10 := hid (HA10.out.kb k4)
      have HB := hid (kb_tr HB.out k4)
      clear hu k4 HC3
      generalize u3.heap.size + 1 = g9 at *
      generalize u3.heap.size = gr at *
      have x0 := HX5.out.2 0 _ rfl
      have xl := HX5.out.1
      go_upto_region 6 with fail
      clear x0 xl
      refine wp_name ?_
      intro u5 hu
      have k5 : KB u4.heap.size u4 u5 := by rw [hu]; exact kb_new _ _
      have HX10 := hid (show Box u5 u4.heap.size [.slice (some ⟨b, off, none⟩) 1 c1] by rw [hu]; exact Box.new u4 [.slice (some ⟨b, off, none⟩) 1 c1] 35)
      have HX5 := hid (HX5.out.kb k5)
      have HX7 := hid (HX7.out.kb k5)
      have HX9 := hid (HX9.out.kb k5)
      have HA1 := hid (HA1.out.kb k5)
      have HA2 := hid (HA2.out.kb k5)
      have HA9 := hid (HA9.out.kb k5)
      have HA10 := hid (HA10.out.kb k5)
      have HB := hid (kb_tr HB.out k5)
      clear hu k5
      generalize u4.heap.size = g10 at *
      have HL5 := hid (HL.out.kb HB.out)
      have HFB := hid (more_fit (a := [cc]) HF.out (fun c hc => by rw [List.mem_singleton.1 hc]; exact HFX.out))
      have HFC := hid (show fitG [a ++ [cc]] from more_fit (r := []) (fun x hx => by simp at hx) (fun c hc => by
        rcases List.mem_append.1 hc with k | k
        · exact HFF.out c k
        · rw [List.mem_singleton.1 k]; exact HFX.out))
      have HFD := hid (show fitG [a] from more_fit (r := []) (fun x hx => by simp at hx) HFF.out)
      have hl2 : (r ++ [[cc]]).length = nr + 1 := by rw [List.length_append, HNR.out]; rfl
      have hm2 : ∀ x ∈ r ++ [[cc]], x.length ≤ 6 := fun x hx => by
        rcases List.mem_append.1 hx with k | k
        · exact HPT.out.2 x k
        · rw [List.mem_singleton.1 k]; simp
      have hl3 : ∀ x ∈ [a ++ [cc]], x.length ≤ 7 := fun x hx => by rw [List.mem_singleton.1 hx, List.length_append]; simpa using ha6
      have hl4 : ∀ x ∈ [a], x.length ≤ 7 := fun x hx => by rw [List.mem_singleton.1 hx]; omega
      have FA := hid (fun u (hb : KB u5.heap.size u5 u) => set7_any (some ⟨b, off, none⟩) c1 r u (HL5.out.kb hb) (HA1.out.kb hb) HF.out (by have := HPT.out.1; omega) (fun x hx => by have := HPT.out.2 x hx; omega))
      rw [HNR.out] at FA
      have FB := hid (fun u (hb : KB u5.heap.size u5 u) => set7_any A2 c2 (r ++ [[cc]]) u (HL5.out.kb hb) (HA2.out.kb hb) HFB.out (by omega) (fun x hx => by have := hm2 x hx; omega))
      have FM := hid (fun u (hb : KB u5.heap.size u5 u) => may7_any A2 c2 (r ++ [[cc]]) u (HL5.out.kb hb) (HA2.out.kb hb) HFB.out (by omega) (fun x hx => by have := hm2 x hx; omega))
      rw [hl2] at FB FM
      have FC := hid (fun u (hb : KB u5.heap.size u5 u) => set7_any (some ⟨gr, 0, none⟩) 1 [a ++ [cc]] u (HL5.out.kb hb) (HA9.out.kb hb) HFC.out (by simp) (fun x hx => by have := hl3 x hx; omega))
      have FN := hid (fun u (hb : KB u5.heap.size u5 u) => may7_any (some ⟨gr, 0, none⟩) 1 [a ++ [cc]] u (HL5.out.kb hb) (HA9.out.kb hb) HFC.out (by simp) (fun x hx => by have := hl3 x hx; omega))
      have FD := hid (fun u (hb : KB u5.heap.size u5 u) => set7_any (some ⟨b, off, none⟩) c1 [a] u (HL5.out.kb hb) (HA10.out.kb hb) HFD.out (by simp) (fun x hx => by have := hl4 x hx; omega))
      have GA := hid (setG_good HF.out)
      have GB := hid (setG_good HFB.out)
      have GC := hid (setG_good HFC.out)
      have GD := hid (setG_good HFD.out)
      have PM := hid (fun k => more_plain HM.out HMX.out k)
      have PL := hid (fun k => less_plain (c := cc) HM.out HRA.out k)
      clear HFA HFF HRA HA1 HA2 HA9 HA10 HF HFB HFC HFD HM HMX HFX HPT hl2 hm2 hl3 hl4 ha6 ha1 h0r
      generalize mayG (r ++ [[cc]]) = mb at *
      generalize mayG [a ++ [cc]] = mc at *
      generalize setG r = sa at *
      generalize setG (r ++ [[cc]]) = sb at *
      generalize setG [a ++ [cc]] = sc at *
      generalize setG [a] = sd at *
      obtain ⟨sa1, sa2⟩ := sa
      obtain ⟨sb1, sb2⟩ := sb
      obtain ⟨sc1, sc2⟩ := sc
      obtain ⟨sd1, sd2⟩ := sd
      dsimp only [List.length_singleton] at FA FB FC FD FM FN GA GB GC GD PM PL
      try simp only [List.length_singleton] at FC FD FN
      generalize hp : sa1.length = p1 at *
      have LP1 := hid hp
      clear hp
      generalize hp : sa2.length = p2 at *
      have LP2 := hid hp
      clear hp
      generalize hp : sb1.length = p3 at *
      have LP3 := hid hp
      clear hp
      generalize hp : sb2.length = p4 at *
      have LP4 := hid hp
      clear hp
      generalize hp : sc1.length = p5 at *
      have LP5 := hid hp
      clear hp
      generalize hp : sc2.length = p6 at *
      have LP6 := hid hp
      clear hp
      generalize hp : sd1.length = p7 at *
      have LP7 := hid hp
      clear hp
      generalize hp : sd2.length = p8 at *
      have LP8 := hid hp
      clear hp
      go_cut [11, 12] from 44 to 47 (fun s11 s12 wx => ∃ (ga gb : Nat) (Aa Ba Ab Bb : Option Addr) (ca da cb db : Nat), s11 = .pointer (some ⟨ga, 0, none⟩) ∧ s12 = .pointer (some ⟨gb, 0, none⟩) ∧ Hid (Box wx ga [.slice Aa p1 ca, .slice Ba p2 da]) ∧ Hid (Box wx gb [.slice Ab p3 cb, .slice Bb p4 db]) ∧ Hid (SetAt 250 wx Aa sa1 Ba sa2) ∧ Hid (SetAt 250 wx Ab sb1 Bb sb2) ∧ Hid (KB u5.heap.size u5 wx))
      case first =>
        have hS : KB u5.heap.size u5 u5.drew := (Below.drew (Below.refl _ _)).kb
        refine wp_planT (fun u => KB u5.heap.size u5 u) (.three [0, 2] 1 4 5 (.three [] 3 4 5 (.two [] 4 5 (.call [] 5 (.call [] 6 (.call [] 7 (.last [])))) (.call [] 4 (.call [] 6 (.call [] 7 (.last []))))) (.two [] 3 5 (.call [] 5 (.call [] 6 (.call [] 7 (.last [])))) (.call [] 3 (.call [] 6 (.call [] 7 (.last []))))) (.two [] 3 4 (.call [] 4 (.call [] 6 (.call [] 7 (.last [])))) (.call [] 3 (.call [] 6 (.call [] 7 (.last [])))))) (.two [] 1 5 (.two [] 3 5 (.call [] 5 (.call [] 6 (.call [] 7 (.last [])))) (.call [] 3 (.call [] 6 (.call [] 7 (.last []))))) (.call [] 1 (.call [] 3 (.call [] 6 (.call [] 7 (.last [])))))) (.two [] 1 4 (.two [] 3 4 (.call [] 4 (.call [] 6 (.call [] 7 (.last [])))) (.call [] 3 (.call [] 6 (.call [] 7 (.last []))))) (.call [] 1 (.call [] 3 (.call [] 6 (.call [] 7 (.last []))))))) (by first | assumption | skip) (by kernel_rfl) (by intro _ _ d _ _ h; cases d <;> exact h) (by kernel_rfl) ?_
        have iS : Nonempty (SW fun u => KB u5.heap.size u5 u) := ⟨⟨_, hS⟩⟩
        intro u hu
        have HK := hid (show KB u5.heap.size u5 u by rw [hu]; exact hS)
        clear hu hS
        have q0 := fun (z : SW fun u => KB u5.heap.size u5 u) => (HX5.out.kb z.ok).2 0 _ rfl
        have q1 := fun (z : SW fun u => KB u5.heap.size u5 u) => (HX7.out.kb z.ok).2 0 _ rfl
        iterate 6 (all_goals ((try clear y0 y1 sf yl); rename World => u; (try (obtain ⟨y0, y1⟩ := HP.out.box.get2; have sf : ∀ j, u.frozen? ⟨gP, j, none⟩ = false := HP.out.soft; have yl := HP.out.box.1)); (try clear x0 x1 xf xl); (try (obtain ⟨x0, x1⟩ := HQ.out.box.get2; have xf : ∀ j, u.frozen? ⟨gQ, j, none⟩ = false := HQ.out.soft; have xl := HQ.out.box.1)); (first | ((with_reducible refine planT_three ?_); simp only [pickOps, List.map_cons, List.map_nil, List.getElem?_toArray, List.getElem?_cons_zero, List.getElem?_cons_succ, Option.getD_some]; (repeat go_big_quiet_step (fail)); refine wpQuiet_nil ?_; refine ⟨?_, ?_, ?_⟩) | ((with_reducible refine planT_two ?_); simp only [pickOps, List.map_cons, List.map_nil, List.getElem?_toArray, List.getElem?_cons_zero, List.getElem?_cons_succ, Option.getD_some]; (repeat go_big_quiet_step (fail)); refine wpQuiet_nil ?_; refine ⟨?_, ?_⟩) | ((with_reducible refine planT_call ?_); simp only [pickOps, List.map_cons, List.map_nil, List.getElem?_toArray, List.getElem?_cons_zero, List.getElem?_cons_succ, Option.getD_some]; (repeat go_big_quiet_step (fail)); refine wpQuiet_nil ?_)) <;> (go_wp2_with fail) <;> (first | ((with_reducible refine (FA.out u HK.out).mono ?_); (rintro _ w' ⟨Aa, ca, Ba, da, he, hs1, hs2, hk⟩); (try dsimp only at he hs1 hs2); (rw [LP1.out, LP2.out] at he); subst he; (try have NAP := hid (setN_fresh hs1 hs2 HP.out.box.1)); (try have NAQ := hid (setN_fresh hs1 hs2 HQ.out.box.1)); (have Tn := hid (GA.out.at_ hs1.1 hs2.1)); (replace HK := hid (kb_tr HK.out hk)); (try replace HP := hid (HP.out.kb hk)); (try replace HQ := hid (HQ.out.kb hk)); (try replace HTA := hid (HTA.out.kb hk)); (try replace HTB := hid (HTB.out.kb hk)); (have HTA := Tn); clear Tn hs1 hs2 hk; (go_wp2_with fail); (refine planT_on ?_; intro v hv; rw [hv]; clear hv v); refine ⟨HK.out, ?_⟩) | ((with_reducible refine (FB.out u HK.out).mono ?_); (rintro _ w' ⟨Ab, cb, Bb, db, he, hs1, hs2, hk⟩); (try dsimp only at he hs1 hs2); (rw [LP3.out, LP4.out] at he); subst he; (try have NBP := hid (setN_fresh hs1 hs2 HP.out.box.1)); (try have NBQ := hid (setN_fresh hs1 hs2 HQ.out.box.1)); (have Tn := hid (GB.out.at_ hs1.1 hs2.1)); (replace HK := hid (kb_tr HK.out hk)); (try replace HP := hid (HP.out.kb hk)); (try replace HQ := hid (HQ.out.kb hk)); (try replace HTA := hid (HTA.out.kb hk)); (try replace HTB := hid (HTB.out.kb hk)); (have HTB := Tn); clear Tn hs1 hs2 hk; (go_wp2_with fail); (refine planT_on ?_; intro v hv; rw [hv]; clear hv v); refine ⟨HK.out, ?_⟩) | ((refine planT_on ?_; intro w' hw'); (have On := hid (show Own u5.heap.size w' u.heap.size [.slice none 0 0, .slice none 0 0] by rw [hw']; exact Own.new u [.slice none 0 0, .slice none 0 0] 24 HK.out.size)); (have hk : KB u.heap.size u w' := by rw [hw']; exact kb_new _ _); (fail_if_success (have := HP)); (try have NAP := hid (setN_old HTA.out (Nat.le_refl u.heap.size))); (try have NBP := hid (setN_old HTB.out (Nat.le_refl u.heap.size))); (replace HK := hid (kb_tr HK.out hk)); (try replace HP := hid (HP.out.kb hk)); (try replace HQ := hid (HQ.out.kb hk)); (try replace HTA := hid (HTA.out.kb hk)); (try replace HTB := hid (HTB.out.kb hk)); have HP := On; clear On hk hw'; generalize u.heap.size = gP at *; refine ⟨HK.out, ?_⟩) | ((refine planT_on ?_; intro w' hw'); (have On := hid (show Own u5.heap.size w' u.heap.size [.slice none 0 0, .slice none 0 0] by rw [hw']; exact Own.new u [.slice none 0 0, .slice none 0 0] 24 HK.out.size)); (have hk : KB u.heap.size u w' := by rw [hw']; exact kb_new _ _); (fail_if_success (have := HQ)); (have := HP); (have M := hid (Nat.ne_of_lt HP.out.box.1)); (try have NAQ := hid (setN_old HTA.out (Nat.le_refl u.heap.size))); (try have NBQ := hid (setN_old HTB.out (Nat.le_refl u.heap.size))); (replace HK := hid (kb_tr HK.out hk)); (try replace HP := hid (HP.out.kb hk)); (try replace HQ := hid (HQ.out.kb hk)); (try replace HTA := hid (HTA.out.kb hk)); (try replace HTB := hid (HTB.out.kb hk)); have HQ := On; clear On hk hw'; generalize u.heap.size = gQ at *; refine ⟨HK.out, ?_⟩) | ((refine planT_on ?_; intro w' hw'); (have Xn := hid (show Own u5.heap.size w' gP [.slice Aa p1 ca, .slice Ba p2 da] by rw [hw']; exact HP.out.set2 _ _)); (have Yn := hid (show Own u5.heap.size w' _ _ by rw [hw']; exact (HQ.out.other (Ne.symm M.out) _).other (Ne.symm M.out) _)); (have HTA := hid (show SetAt 250 w' Aa sa1 Ba sa2 by rw [hw']; exact setAt_put2 HTA.out NAP.out _ _)); (have HTB := hid (show SetAt 250 w' Ab sb1 Bb sb2 by rw [hw']; exact setAt_put2 HTB.out NBP.out _ _)); (have HK := hid (show KB u5.heap.size u5 w' by rw [hw']; exact kb_set2 HK.out HP.out.low _ _)); (have HP := Xn); (have HQ := Yn); clear Xn Yn hw'; refine ⟨HK.out, ?_⟩) | ((refine planT_on ?_; intro w' hw'); (have Xn := hid (show Own u5.heap.size w' gQ [.slice Aa p1 ca, .slice Ba p2 da] by rw [hw']; exact HQ.out.set2 _ _)); (have Yn := hid (show Own u5.heap.size w' _ _ by rw [hw']; exact (HP.out.other M.out _).other M.out _)); (have HTA := hid (show SetAt 250 w' Aa sa1 Ba sa2 by rw [hw']; exact setAt_put2 HTA.out NAQ.out _ _)); (have HTB := hid (show SetAt 250 w' Ab sb1 Bb sb2 by rw [hw']; exact setAt_put2 HTB.out NBQ.out _ _)); (have HK := hid (show KB u5.heap.size u5 w' by rw [hw']; exact kb_set2 HK.out HQ.out.low _ _)); (have HQ := Xn); (have HP := Yn); clear Xn Yn hw'; refine ⟨HK.out, ?_⟩) | ((refine planT_on ?_; intro w' hw'); (have Xn := hid (show Own u5.heap.size w' gP [.slice Ab p3 cb, .slice Bb p4 db] by rw [hw']; exact HP.out.set2 _ _)); (have Yn := hid (show Own u5.heap.size w' _ _ by rw [hw']; exact (HQ.out.other (Ne.symm M.out) _).other (Ne.symm M.out) _)); (have HTA := hid (show SetAt 250 w' Aa sa1 Ba sa2 by rw [hw']; exact setAt_put2 HTA.out NAP.out _ _)); (have HTB := hid (show SetAt 250 w' Ab sb1 Bb sb2 by rw [hw']; exact setAt_put2 HTB.out NBP.out _ _)); (have HK := hid (show KB u5.heap.size u5 w' by rw [hw']; exact kb_set2 HK.out HP.out.low _ _)); (have HP := Xn); (have HQ := Yn); clear Xn Yn hw'; refine ⟨HK.out, ?_⟩) | ((refine planT_on ?_; intro w' hw'); (have Xn := hid (show Own u5.heap.size w' gQ [.slice Ab p3 cb, .slice Bb p4 db] by rw [hw']; exact HQ.out.set2 _ _)); (have Yn := hid (show Own u5.heap.size w' _ _ by rw [hw']; exact (HP.out.other M.out _).other M.out _)); (have HTA := hid (show SetAt 250 w' Aa sa1 Ba sa2 by rw [hw']; exact setAt_put2 HTA.out NAQ.out _ _)); (have HTB := hid (show SetAt 250 w' Ab sb1 Bb sb2 by rw [hw']; exact setAt_put2 HTB.out NBQ.out _ _)); (have HK := hid (show KB u5.heap.size u5 w' by rw [hw']; exact kb_set2 HK.out HQ.out.low _ _)); (have HQ := Xn); (have HP := Yn); clear Xn Yn hw'; refine ⟨HK.out, ?_⟩))))
        all_goals
          with_reducible refine planT_last ?_
          simp only [pickOps, List.map_cons, List.map_nil, List.getElem?_toArray, List.getElem?_cons_zero, List.getElem?_cons_succ, Option.getD_some]
          repeat go_big_quiet_step (fail)
          refine wpQuiet_nil ?_
          go_wp2_with fail
          go_meet
          case rel => first | exact ⟨_, _, _, _, _, _, _, _, _, _, rfl, rfl, hid HP.out.box, hid HQ.out.box, HTA, HTB, HK⟩ | exact ⟨_, _, _, _, _, _, _, _, _, _, rfl, rfl, hid HQ.out.box, hid HP.out.box, HTA, HTB, HK⟩
      case rest =>
        obtain ⟨ga, gb, Aa, Ba, Ab, Bb, ca, da, cb, db, rfl, rfl, HXa, HXb, HTA, HTB, HK6⟩ := hcut
        rename World => u6
        have HX7 := hid (HX7.out.kb HK6.out)
        have HX9 := hid (HX9.out.kb HK6.out)
        have HX10 := hid (HX10.out.kb HK6.out)
        have FC := hid (fun u (hb : KB u6.heap.size u6 u) => FC.out u (kb_tr HK6.out hb))
        have FD := hid (fun u (hb : KB u6.heap.size u6 u) => FD.out u (kb_tr HK6.out hb))
        have FM := hid (fun u (hb : KB u6.heap.size u6 u) => FM.out u (kb_tr HK6.out hb))
        have FN := hid (fun u (hb : KB u6.heap.size u6 u) => FN.out u (kb_tr HK6.out hb))
        have HB := hid (kb_tr HB.out HK6.out)
        have PW := hid (fun u (hb : KB u6.heap.size u6 u) => law_withinR ca da cb db ((HL.out.kb HB.out).kb hb).first (HTA.out.kb hb) (HTB.out.kb hb) (by omega))
        rw [LP1.out, LP2.out, LP3.out, LP4.out] at PW
        clear FA FB GA GB HTA HTB HK6 HX5 HL5
        go_upto_region 7 with fail
        go_cut [13, 14] from 48 to 51 (fun s13 s14 wx => ∃ (gc gd : Nat) (Aa Ba Ab Bb : Option Addr) (ca da cb db : Nat), s13 = .pointer (some ⟨gc, 0, none⟩) ∧ s14 = .pointer (some ⟨gd, 0, none⟩) ∧ Hid (Box wx gc [.slice Aa p5 ca, .slice Ba p6 da]) ∧ Hid (Box wx gd [.slice Ab p7 cb, .slice Bb p8 db]) ∧ Hid (SetAt 250 wx Aa sc1 Ba sc2) ∧ Hid (SetAt 250 wx Ab sd1 Bb sd2) ∧ Hid (KB u6.heap.size u6 wx))
        case first =>
          have hS : KB u6.heap.size u6 u6.drew := (Below.drew (Below.refl _ _)).kb
          refine wp_planT (fun u => KB u6.heap.size u6 u) (.three [0, 2] 1 4 5 (.three [] 3 4 5 (.two [] 4 5 (.call [] 5 (.call [] 6 (.call [] 7 (.last [])))) (.call [] 4 (.call [] 6 (.call [] 7 (.last []))))) (.two [] 3 5 (.call [] 5 (.call [] 6 (.call [] 7 (.last [])))) (.call [] 3 (.call [] 6 (.call [] 7 (.last []))))) (.two [] 3 4 (.call [] 4 (.call [] 6 (.call [] 7 (.last [])))) (.call [] 3 (.call [] 6 (.call [] 7 (.last [])))))) (.two [] 1 5 (.two [] 3 5 (.call [] 5 (.call [] 6 (.call [] 7 (.last [])))) (.call [] 3 (.call [] 6 (.call [] 7 (.last []))))) (.call [] 1 (.call [] 3 (.call [] 6 (.call [] 7 (.last [])))))) (.two [] 1 4 (.two [] 3 4 (.call [] 4 (.call [] 6 (.call [] 7 (.last [])))) (.call [] 3 (.call [] 6 (.call [] 7 (.last []))))) (.call [] 1 (.call [] 3 (.call [] 6 (.call [] 7 (.last []))))))) (by first | assumption | skip) (by kernel_rfl) (by intro _ _ d _ _ h; cases d <;> exact h) (by kernel_rfl) ?_
          have iS : Nonempty (SW fun u => KB u6.heap.size u6 u) := ⟨⟨_, hS⟩⟩
          intro u hu
          have HK := hid (show KB u6.heap.size u6 u by rw [hu]; exact hS)
          clear hu hS
          have q0 := fun (z : SW fun u => KB u6.heap.size u6 u) => (HX9.out.kb z.ok).2 0 _ rfl
          have q1 := fun (z : SW fun u => KB u6.heap.size u6 u) => (HX10.out.kb z.ok).2 0 _ rfl
          iterate 6 (all_goals ((try clear y0 y1 sf yl); rename World => u; (try (obtain ⟨y0, y1⟩ := HP.out.box.get2; have sf : ∀ j, u.frozen? ⟨gP, j, none⟩ = false := HP.out.soft; have yl := HP.out.box.1)); (try clear x0 x1 xf xl); (try (obtain ⟨x0, x1⟩ := HQ.out.box.get2; have xf : ∀ j, u.frozen? ⟨gQ, j, none⟩ = false := HQ.out.soft; have xl := HQ.out.box.1)); (first | ((with_reducible refine planT_three ?_); simp only [pickOps, List.map_cons, List.map_nil, List.getElem?_toArray, List.getElem?_cons_zero, List.getElem?_cons_succ, Option.getD_some]; (repeat go_big_quiet_step (fail)); refine wpQuiet_nil ?_; refine ⟨?_, ?_, ?_⟩) | ((with_reducible refine planT_two ?_); simp only [pickOps, List.map_cons, List.map_nil, List.getElem?_toArray, List.getElem?_cons_zero, List.getElem?_cons_succ, Option.getD_some]; (repeat go_big_quiet_step (fail)); refine wpQuiet_nil ?_; refine ⟨?_, ?_⟩) | ((with_reducible refine planT_call ?_); simp only [pickOps, List.map_cons, List.map_nil, List.getElem?_toArray, List.getElem?_cons_zero, List.getElem?_cons_succ, Option.getD_some]; (repeat go_big_quiet_step (fail)); refine wpQuiet_nil ?_)) <;> (go_wp2_with fail) <;> (first | ((with_reducible refine (FC.out u HK.out).mono ?_); (rintro _ w' ⟨Aa, ca, Ba, da, he, hs1, hs2, hk⟩); (try dsimp only at he hs1 hs2); (rw [LP5.out, LP6.out] at he); subst he; (try have NAP := hid (setN_fresh hs1 hs2 HP.out.box.1)); (try have NAQ := hid (setN_fresh hs1 hs2 HQ.out.box.1)); (have Tn := hid (GC.out.at_ hs1.1 hs2.1)); (replace HK := hid (kb_tr HK.out hk)); (try replace HP := hid (HP.out.kb hk)); (try replace HQ := hid (HQ.out.kb hk)); (try replace HTA := hid (HTA.out.kb hk)); (try replace HTB := hid (HTB.out.kb hk)); (have HTA := Tn); clear Tn hs1 hs2 hk; (go_wp2_with fail); (refine planT_on ?_; intro v hv; rw [hv]; clear hv v); refine ⟨HK.out, ?_⟩) | ((with_reducible refine (FD.out u HK.out).mono ?_); (rintro _ w' ⟨Ab, cb, Bb, db, he, hs1, hs2, hk⟩); (try dsimp only at he hs1 hs2); (rw [LP7.out, LP8.out] at he); subst he; (try have NBP := hid (setN_fresh hs1 hs2 HP.out.box.1)); (try have NBQ := hid (setN_fresh hs1 hs2 HQ.out.box.1)); (have Tn := hid (GD.out.at_ hs1.1 hs2.1)); (replace HK := hid (kb_tr HK.out hk)); (try replace HP := hid (HP.out.kb hk)); (try replace HQ := hid (HQ.out.kb hk)); (try replace HTA := hid (HTA.out.kb hk)); (try replace HTB := hid (HTB.out.kb hk)); (have HTB := Tn); clear Tn hs1 hs2 hk; (go_wp2_with fail); (refine planT_on ?_; intro v hv; rw [hv]; clear hv v); refine ⟨HK.out, ?_⟩) | ((refine planT_on ?_; intro w' hw'); (have On := hid (show Own u6.heap.size w' u.heap.size [.slice none 0 0, .slice none 0 0] by rw [hw']; exact Own.new u [.slice none 0 0, .slice none 0 0] 24 HK.out.size)); (have hk : KB u.heap.size u w' := by rw [hw']; exact kb_new _ _); (fail_if_success (have := HP)); (try have NAP := hid (setN_old HTA.out (Nat.le_refl u.heap.size))); (try have NBP := hid (setN_old HTB.out (Nat.le_refl u.heap.size))); (replace HK := hid (kb_tr HK.out hk)); (try replace HP := hid (HP.out.kb hk)); (try replace HQ := hid (HQ.out.kb hk)); (try replace HTA := hid (HTA.out.kb hk)); (try replace HTB := hid (HTB.out.kb hk)); have HP := On; clear On hk hw'; generalize u.heap.size = gP at *; refine ⟨HK.out, ?_⟩) | ((refine planT_on ?_; intro w' hw'); (have On := hid (show Own u6.heap.size w' u.heap.size [.slice none 0 0, .slice none 0 0] by rw [hw']; exact Own.new u [.slice none 0 0, .slice none 0 0] 24 HK.out.size)); (have hk : KB u.heap.size u w' := by rw [hw']; exact kb_new _ _); (fail_if_success (have := HQ)); (have := HP); (have M := hid (Nat.ne_of_lt HP.out.box.1)); (try have NAQ := hid (setN_old HTA.out (Nat.le_refl u.heap.size))); (try have NBQ := hid (setN_old HTB.out (Nat.le_refl u.heap.size))); (replace HK := hid (kb_tr HK.out hk)); (try replace HP := hid (HP.out.kb hk)); (try replace HQ := hid (HQ.out.kb hk)); (try replace HTA := hid (HTA.out.kb hk)); (try replace HTB := hid (HTB.out.kb hk)); have HQ := On; clear On hk hw'; generalize u.heap.size = gQ at *; refine ⟨HK.out, ?_⟩) | ((refine planT_on ?_; intro w' hw'); (have Xn := hid (show Own u6.heap.size w' gP [.slice Aa p5 ca, .slice Ba p6 da] by rw [hw']; exact HP.out.set2 _ _)); (have Yn := hid (show Own u6.heap.size w' _ _ by rw [hw']; exact (HQ.out.other (Ne.symm M.out) _).other (Ne.symm M.out) _)); (have HTA := hid (show SetAt 250 w' Aa sc1 Ba sc2 by rw [hw']; exact setAt_put2 HTA.out NAP.out _ _)); (have HTB := hid (show SetAt 250 w' Ab sd1 Bb sd2 by rw [hw']; exact setAt_put2 HTB.out NBP.out _ _)); (have HK := hid (show KB u6.heap.size u6 w' by rw [hw']; exact kb_set2 HK.out HP.out.low _ _)); (have HP := Xn); (have HQ := Yn); clear Xn Yn hw'; refine ⟨HK.out, ?_⟩) | ((refine planT_on ?_; intro w' hw'); (have Xn := hid (show Own u6.heap.size w' gQ [.slice Aa p5 ca, .slice Ba p6 da] by rw [hw']; exact HQ.out.set2 _ _)); (have Yn := hid (show Own u6.heap.size w' _ _ by rw [hw']; exact (HP.out.other M.out _).other M.out _)); (have HTA := hid (show SetAt 250 w' Aa sc1 Ba sc2 by rw [hw']; exact setAt_put2 HTA.out NAQ.out _ _)); (have HTB := hid (show SetAt 250 w' Ab sd1 Bb sd2 by rw [hw']; exact setAt_put2 HTB.out NBQ.out _ _)); (have HK := hid (show KB u6.heap.size u6 w' by rw [hw']; exact kb_set2 HK.out HQ.out.low _ _)); (have HQ := Xn); (have HP := Yn); clear Xn Yn hw'; refine ⟨HK.out, ?_⟩) | ((refine planT_on ?_; intro w' hw'); (have Xn := hid (show Own u6.heap.size w' gP [.slice Ab p7 cb, .slice Bb p8 db] by rw [hw']; exact HP.out.set2 _ _)); (have Yn := hid (show Own u6.heap.size w' _ _ by rw [hw']; exact (HQ.out.other (Ne.symm M.out) _).other (Ne.symm M.out) _)); (have HTA := hid (show SetAt 250 w' Aa sc1 Ba sc2 by rw [hw']; exact setAt_put2 HTA.out NAP.out _ _)); (have HTB := hid (show SetAt 250 w' Ab sd1 Bb sd2 by rw [hw']; exact setAt_put2 HTB.out NBP.out _ _)); (have HK := hid (show KB u6.heap.size u6 w' by rw [hw']; exact kb_set2 HK.out HP.out.low _ _)); (have HP := Xn); (have HQ := Yn); clear Xn Yn hw'; refine ⟨HK.out, ?_⟩) | ((refine planT_on ?_; intro w' hw'); (have Xn := hid (show Own u6.heap.size w' gQ [.slice Ab p7 cb, .slice Bb p8 db] by rw [hw']; exact HQ.out.set2 _ _)); (have Yn := hid (show Own u6.heap.size w' _ _ by rw [hw']; exact (HP.out.other M.out _).other M.out _)); (have HTA := hid (show SetAt 250 w' Aa sc1 Ba sc2 by rw [hw']; exact setAt_put2 HTA.out NAQ.out _ _)); (have HTB := hid (show SetAt 250 w' Ab sd1 Bb sd2 by rw [hw']; exact setAt_put2 HTB.out NBQ.out _ _)); (have HK := hid (show KB u6.heap.size u6 w' by rw [hw']; exact kb_set2 HK.out HQ.out.low _ _)); (have HQ := Xn); (have HP := Yn); clear Xn Yn hw'; refine ⟨HK.out, ?_⟩))))
          all_goals
            with_reducible refine planT_last ?_
            simp only [pickOps, List.map_cons, List.map_nil, List.getElem?_toArray, List.getElem?_cons_zero, List.getElem?_cons_succ, Option.getD_some]
            repeat go_big_quiet_step (fail)
            refine wpQuiet_nil ?_
            go_wp2_with fail
            go_meet
            case rel => first | exact ⟨_, _, _, _, _, _, _, _, _, _, rfl, rfl, hid HP.out.box, hid HQ.out.box, HTA, HTB, HK⟩ | exact ⟨_, _, _, _, _, _, _, _, _, _, rfl, rfl, hid HQ.out.box, hid HP.out.box, HTA, HTB, HK⟩
        case rest =>
          obtain ⟨gc, gd, Ac, Bc, Ad, Bd, cc', dc, cd, dd, rfl, rfl, HXc, HXd, HTC, HTD, HK7⟩ := hcut
          rename World => u7
          have HX7 := hid (HX7.out.kb HK7.out)
          have HX9 := hid (HX9.out.kb HK7.out)
          have HXa := hid (HXa.out.kb HK7.out)
          have HXb := hid (HXb.out.kb HK7.out)
          have FM := hid (FM.out u7 HK7.out)
          have FN := hid (fun u (hb : KB u7.heap.size u7 u) => FN.out u (kb_tr HK7.out hb))
          have PW := hid (fun u (hb : KB u7.heap.size u7 u) => PW.out u (kb_tr HK7.out hb))
          have PR := hid (fun u (hb : KB u7.heap.size u7 u) => rwithin_any Ac Ad cc' cd sc1 sd1 u (HTC.out.kb hb).rel (HTD.out.kb hb).rel HTC.out.frel HTD.out.frel (by have := HTC.out.nrel; have := HTD.out.nrel; omega))
          rw [LP5.out, LP7.out] at PR
          have HB := hid (kb_tr HB.out HK7.out)
          clear FC FD GC GD HTC HTD HK7 HX10
          have x0 := HX7.out.2 0 _ rfl
          have xl := HX7.out.1
          go_upto_region 8 with fail
          go_cut [15] from 52 to 59 (fun s15 wx => s15 = .bool true ∧ Hid (KB u7.heap.size u7 wx))
          case first =>
            go_wp2_with fail
            refine FM.out.mono ?_
            rintro _ w3 ⟨rfl, hb⟩
            cases mb
            · go_wp2_with fail
              go_meet
              case rel => exact ⟨rfl, hid hb⟩
            · have PW := hid (PW.out w3 hb)
              rw [PM.out rfl] at PW
              clear x0 xl
              obtain ⟨y0, y1⟩ := (HXa.out.kb hb).get2
              have yl := (HXa.out.kb hb).1
              obtain ⟨z0, z1⟩ := (HXb.out.kb hb).get2
              have zl := (HXb.out.kb hb).1
              go_wp2_with fail
              refine PW.out.mono ?_
              rintro _ w4 ⟨rfl, hb2⟩
              go_wp2_with fail
              go_meet
              case rel => exact ⟨rfl, hid (kb_tr hb hb2.kb)⟩
          case rest =>
            obtain ⟨rfl, HK8⟩ := hcut
            rename World => u8
            have FN := hid (FN.out u8 HK8.out)
            have PR := hid (fun u (hb : KB u8.heap.size u8 u) => PR.out u (kb_tr HK8.out hb))
            have HX9 := hid (HX9.out.kb HK8.out)
            have HXc := hid (HXc.out.kb HK8.out)
            have HXd := hid (HXd.out.kb HK8.out)
            have HB := hid (kb_tr HB.out HK8.out)
            clear HK8 FM PW PM HX7 HXa HXb x0 xl
            have x0 := HX9.out.2 0 _ rfl
            have xl := HX9.out.1
            go_upto_region 9 with fail
            go_cut [16] from 60 to 69 (fun s16 wx => s16 = .bool true ∧ Hid (KB u8.heap.size u8 wx))
            case first =>
              go_wp2_with fail
              refine FN.out.mono ?_
              rintro _ w3 ⟨rfl, hb⟩
              cases mc
              · go_wp2_with fail
                go_meet
                case rel => exact ⟨rfl, hid hb⟩
              · have PR := hid (PR.out w3 hb)
                rw [PL.out rfl] at PR
                clear x0 xl
                obtain ⟨y0, y1⟩ := (HXc.out.kb hb).get2
                have yl := (HXc.out.kb hb).1
                obtain ⟨z0, z1⟩ := (HXd.out.kb hb).get2
                have zl := (HXd.out.kb hb).1
                go_wp2_with fail
                refine PR.out.mono ?_
                rintro _ w4 ⟨rfl, hb2⟩
                go_wp2_with fail
                go_meet
                case rel => exact ⟨rfl, hid (kb_tr hb hb2.kb)⟩
            case rest =>
              obtain ⟨rfl, HK9⟩ := hcut
              rename World => u9
              have HB := hid (kb_tr HB.out HK9.out)
              clear HK9 FN PR PL HX9 HXc HXd x0 xl
              go_wp2_with fail
              refine (awake7_any u9 (HL.out.kb HB.out)).mono ?_
              rintro _ w3 ⟨rfl, hb⟩
              go_wp2_with fail
              go_ret
              exact ⟨rfl, kb_tr HB.out hb⟩
end Go.Proofs.YtplmlahpmnjneaaGreatDoor
