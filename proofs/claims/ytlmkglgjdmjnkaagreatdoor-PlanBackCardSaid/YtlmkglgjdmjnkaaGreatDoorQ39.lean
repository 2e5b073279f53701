/- Parts 39 of the proofs. -/
import Derived.Test.YtlmkglgjdmjnkaaGreatDoorQ38
namespace Go.Proofs.YtlmkglgjdmjnkaaGreatDoor
open Go.RowKit Go.Lib
open Rw
set_option linter.unusedVariables false
set_option linter.unusedSimpArgs false
def MaskedK (us : List UnitP) (w : World) (e : Ending) (w' : World) : Prop := (∃ (F : Option Addr) (fn fc : Nat) (N : Option Addr) (nc : Nat) (ns : List (RowP (RowP (RowP (Int × Int))))) (B : Option Addr) (bc : Nat) (bs : List (RowP (RowP (Int × Int)))), e = .returned (.agg #[.slice F fn fc, .slice N ns.length nc, .slice B bs.length bc]) ∧ MasksAt w' us N ns B bs) ∧ KB w.heap.size w w'
theorem snoc_len {α : Type} {l : List (RowP α)} {X : RowP α} {f : Nat → Nat} {k : Nat} (h : ∀ (j : Nat) (x : RowP α), l[j]? = some x → x.l.length = f j) (hl : l.length = k) (hX : X.l.length = f k) : ∀ (j : Nat) (x : RowP α), (l ++ [X])[j]? = some x → x.l.length = f j := by
  intro j x hj
  rcases Nat.lt_trichotomy j l.length with h1 | h1 | h1
  · rw [List.getElem?_append_left h1] at hj
    exact h j x hj
  · subst h1
    rw [List.getElem?_append_right (Nat.le_refl _), Nat.sub_self] at hj
    have hj : some X = some x := hj
    injection hj with hj
    rw [← hj, hX, hl]
  · rw [List.getElem?_eq_none (by rw [List.length_append]; show l.length + 1 ≤ j; omega)] at hj
    cases hj
set_option maxRecDepth 100000 in
set_option maxHeartbeats 8000000 in
theorem rmasked_any (U : Option Addr) (uc : Nat) (us : List UnitP) (w : World) (hU : UnitsAt w U us) (hW : Wants us) : Calls Tryz.prog 36 #[.agg #[.slice U us.length uc]] w (MaskedK us w) := by
  have HU := hid hU
  have HWT := hid hW
  have hlen := hU.len
  clear hU hW
  obtain ⟨m, hm⟩ : ∃ m, us.length = m := ⟨_, rfl⟩
  have HM := hid hm
  rw [hm] at hlen ⊢
  clear hm
  go_enter Tryz.func36, Tryz.ntmps36
  go_upto_block 0 with fail
  refine wp_name ?_
  intro u1 hu1
  have hs1 : u1.heap.size = w.heap.size + 3 := by rw [hu1]; simp
  have HX := hid (show Box u1 w.heap.size [.slice U m uc] from by rw [hu1]; exact ((Box.new w [.slice U m uc] 42).kb (kb_new _ _)).kb (kb_new _ _))
  have HO2 := hid (show Own w.heap.size u1 (w.heap.size + 1) [.slice none 0 0, .slice none 0 0, .slice none 0 0] from by rw [hu1]; exact (Own.new2 w _ [.slice none 0 0, .slice none 0 0, .slice none 0 0] 96 (Nat.le_refl _)).alloc _)
  have HO3 := hid (show Own w.heap.size u1 (w.heap.size + 2) [.slice none 0 0, .slice none 0 0, .slice none 0 0] from by
    rw [hu1]
    have h := Own.new2 (w.alloc (.cells #[.slice U m uc] 42)) (.cells #[.slice none 0 0, .slice none 0 0, .slice none 0 0] 96) [.slice none 0 0, .slice none 0 0, .slice none 0 0] 96 (B := w.heap.size) (by simp)
    rw [World.size_alloc] at h
    exact h)
  have HK1 := hid (show KB w.heap.size w u1 from by rw [hu1]; exact kb_tr (kb_tr (kb_new _ _) (kb_new _ _)) (kb_new _ _))
  obtain ⟨gW, hgW⟩ : ∃ g, g = w.heap.size := ⟨_, rfl⟩
  obtain ⟨g2, hg2⟩ : ∃ g, g = w.heap.size + 1 := ⟨_, rfl⟩
  obtain ⟨g3, hg3⟩ : ∃ g, g = w.heap.size + 1 + 1 := ⟨_, rfl⟩
  obtain ⟨B, hB⟩ : ∃ B, u1.heap.size = B := ⟨_, rfl⟩
  have HO22 := hid (show Own w.heap.size u1 g2 _ from by rw [hg2]; exact HO2.out)
  have HO33 := hid (show Own w.heap.size u1 g3 _ from by rw [hg3]; exact HO3.out)
  have HXX := hid (show Box u1 gW _ from by rw [hgW]; exact HX.out)
  have hord : gW < g2 ∧ g2 < g3 ∧ g3 < B ∧ w.heap.size ≤ gW ∧ gW ≤ w.heap.size := by omega
  obtain ⟨ho1, ho2, ho3, ho4, ho5⟩ := hord
  have HBB := hid hB
  rw [← hg3, ← hg2, ← hgW]
  clear hu1 hgW hg2 hg3 hB HX HO2 HO3 hs1
  go_wp2_with fail
  go_loopw [4] (fun kv wr => ∃ (k : Nat) (vF vN vB : Value) (fs : List Int) (ns : List (RowP (RowP (RowP (Int × Int))))) (bs : List (RowP (RowP (Int × Int)))), kv = .int .i64 (k : Int) ∧ k ≤ m ∧ Hid (fs.length = k ∧ ns.length = k ∧ bs.length = k) ∧ Hid ((∀ (j : Nat) (x : RowP (RowP (RowP (Int × Int)))), ns[j]? = some x → x.l.length = lenC us j) ∧ ∀ (j : Nat) (x : RowP (RowP (Int × Int))), bs[j]? = some x → x.l.length = lenC us j) ∧ Hid (Own w.heap.size wr g3 [vF, vN, vB]) ∧ Hid (Own w.heap.size wr g2 [.slice none 0 0, .slice none 0 0, .slice none 0 0]) ∧ Hid (OwnL 3 1 inC wr B vF fs) ∧ Hid (L2 94 136 (CR m) (NR m) B wr vN vB vF.ownBlock ns ns bs bs) ∧ Hid (Box wr gW [.slice U m uc]) ∧ Hid (KB w.heap.size w wr) ∧ Hid (B ≤ wr.heap.size)) (fun kv _ => m - (intOf kv).toNat)
  case atStart => exact ⟨0, _, _, _, [], [], [], rfl, Nat.zero_le _, hid ⟨rfl, rfl, rfl⟩, hid ⟨fun j x h => by simp at h, fun j x h => by simp at h⟩, HO33, HO22, hid OwnL.nil, hid L2.nil, HXX, HK1, hid (by rw [HBB.out]; exact Nat.le_refl _)⟩
  case round =>
    clear HO33 HO22 HXX HK1 HBB
    rename World => wr
    obtain ⟨k, vF, vN, vB, fs, ns, bs, rfl, hk, HL, HLC, HO3, HO2, HF, HT, HX, HK, HBW⟩ := hrel
    have k0 : (0 : Int) ≤ (k : Int) := by omega
    have x0 := HX.out.2 0 _ rfl
    have xl := HX.out.1
    by_cases hlt : k < m
    rotate_left
    · obtain rfl : k = m := by omega
      have k1 : ¬ (k : Int) < (k : Int) := by omega
      obtain ⟨N, nc, Bb, bc, hvN, hvB, hlN, hlB, hsN, hsB⟩ := HT.out.done (CR.mono k) (NR.mono k)
      subst hvN
      subst hvB
      obtain ⟨Fa, fc, hvF, -⟩ := ints_own HF.out
      subst hvF
      have y0 := HO3.out.box.2 0 _ rfl
      have y1 := HO3.out.box.2 1 _ rfl
      have y2 := HO3.out.box.2 2 _ rfl
      have yl := HO3.out.box.1
      have z0 := HO2.out.box.2 0 _ rfl
      have z1 := HO2.out.box.2 1 _ rfl
      have z2 := HO2.out.box.2 2 _ rfl
      have zl := HO2.out.box.1
      have sf : ∀ j, wr.frozen? ⟨g2, j, none⟩ = false := HO2.out.soft
      go_wp2_with fail
      refine body_name ?_
      intro w9 hw9
      have O9 : Own w.heap.size w9 g2 [.slice Fa fs.length fc, .slice N ns.length nc, .slice Bb bs.length bc] := by rw [hw9]; exact own_set3G HO2.out _ _ _
      have hM : Mono (mask wr B none) w9 := by rw [hw9]; exact (((mask_put (.inl (by omega))).trans (mask_put (.inl (by omega)))).trans (mask_put (.inl (by omega)))).trans (Mono.of_mask _ _ _)
      have hkb : KB w.heap.size w w9 := by rw [hw9]; exact kb_putJ (kb_putJ (kb_putJ HK.out (by omega) _) (by omega) _) (by omega) _
      clear hw9
      have k0 := O9.box.2 0 _ rfl
      have k1 := O9.box.2 1 _ rfl
      have k2 := O9.box.2 2 _ rfl
      refine bodyPost_ret (v := .agg #[.slice Fa fs.length fc, .slice N ns.length nc, .slice Bb bs.length bc]) (by simp [results, Tryz.results36, go_sem, k0, k1, k2]) rfl ?_
      exact ⟨⟨Fa, fs.length, fc, N, nc, ns, Bb, bc, bs, rfl, ⟨hlN.mono hM, hlB.mono hM, fun x hx => by rw [HM.out]; exact CR.mono k _ _ _ hM (hsN x hx), fun x hx => by rw [HM.out]; exact NR.mono k _ _ _ hM (hsB x hx), by rw [HM.out]; exact HL.out.2.1, by rw [HM.out]; exact HL.out.2.2, HLC.out.1, HLC.out.2⟩⟩, hkb⟩
    have k1 : (k : Int) < (m : Int) := by omega
    have hku : k < us.length := by rw [HM.out]; exact hlt
    obtain ⟨bU, oU, hUA, hui, hbU, -, -, cU⟩ := unit_at HU.out hku
    subst hUA
    have hlc := lenC_at hku
    have HUW := hid (HWT.out _ (List.getElem_mem hku))
    have HCA := hid (fun (a : Nat) (ha : a < us[k].cands.length) => cand_val hui.cands ha)
    have HCU := hid (And.intro hbU cU)
    have hcl := hui.cands.len
    clear hui hbU cU
    generalize us[k] = u at *
    obtain ⟨un, uf, ucs, uA, uk⟩ := u
    dsimp only at HUW HCA HCU hcl hlc
    obtain ⟨nc, hnc⟩ : ∃ nc, ucs.length = nc := ⟨_, rfl⟩
    have HNC := hid hnc
    rw [hnc] at HCU hcl hlc
    have HLK := hid hlc
    clear hnc hlc hku
    go_upto_block 2 with fail
    clear x0 xl
    go_wp2_with fail
    go_loopw [5, 6, 7] (fun nv bv iv wq => ∃ (a : Nat) (v1 v2 : Value) (ps : List (RowP (RowP (Int × Int)))) (qs : List (RowP (Int × Int))), nv = v1 ∧ bv = v2 ∧ iv = .int .i64 (a : Int) ∧ a ≤ nc ∧ Hid (ps.length = a ∧ qs.length = a) ∧ Hid (L2 136 137 (NR m) (WR m) wr.heap.size wq v1 v2 none ps ps qs qs) ∧ Hid (KB wr.heap.size wr wq)) (fun _ _ iv _ => nc - (intOf iv).toNat)
    case atStart => exact ⟨0, _, _, [], [], rfl, rfl, rfl, Nat.zero_le _, hid ⟨rfl, rfl⟩, hid L2.nil, hid (kb_refl _)⟩
    case round =>
      rename World => wq
      obtain ⟨a, v1, v2, ps, qs, hv1, hv2, rfl, ha, HPL, HT2, HKQ⟩ := hrel
      have hv1 := hv1.symm
      have hv2 := hv2.symm
      subst hv1
      subst hv2
      have a0 : (0 : Int) ≤ (a : Int) := by omega
      have HXQ := hid (HX.out.kb HKQ.out)
      have HKW := hid (kb_tr HK.out HKQ.out)
      have x0 := HXQ.out.2 0 _ rfl
      have xl := HXQ.out.1
      have cU2 := cell_kb HCU.out.1 HKW.out HCU.out.2
      have cl := Nat.lt_of_lt_of_le HCU.out.1 HKW.out.size
      by_cases halt : a < nc
      rotate_left
      · obtain rfl : a = nc := by omega
        have a1 : ¬ (a : Int) < (a : Int) := by omega
        obtain ⟨A1, c1, A2, c2, hv1, hv2, hl1, hl2, hsn1, hsn2⟩ := HT2.out.done (NR.mono m) (WR.mono m)
        subst hv1
        subst hv2
        have HPL1 := hid HPL.out.1
        have HPL2 := hid HPL.out.2
        have HXN := hid (show CR m (mask wq wr.heap.size none) ⟨ps, A1, c1⟩ from ⟨hl1, hsn1, by show ps.length ≤ 1000000; rw [HPL1.out]; exact hcl⟩)
        have HXB := hid (show NR m (mask wq wr.heap.size none) ⟨qs, A2, c2⟩ from ⟨hl2, hsn2, by show qs.length ≤ 1000000; rw [HPL2.out]; exact hcl⟩)
        have HTQ := hid (((HT.out.kb (CR.mono m) (NR.mono m) HKQ.out).more1 (x := ⟨ps, A1, c1⟩) (CR.mono m _ _ _ (HT.out.sees (u := wq) (b := wr.heap.size) (Nat.le_refl _) HBW.out) HXN.out)).more2 (x := ⟨qs, A2, c2⟩) (NR.mono m _ _ _ (HT.out.sees (u := wq) (b := wr.heap.size) (Nat.le_refl _) HBW.out) HXB.out))
        have HO2Q := hid (HO2.out.kb HKQ.out)
        have HO3Q := hid (HO3.out.kb HKQ.out)
        have HFQ := hid (HF.out.kb HKQ.out)
        have hFl : ∀ q, vF.ownBlock = some q → q < wq.heap.size := fun q e => (World.ownsRow.lt HFQ.out q e).2
        have hNl : ∀ q, vN.ownBlock = some q → q < wq.heap.size := fun q e => (World.ownsRow.lt HTQ.out.r1 q e).2
        have hBl : ∀ q, vB.ownBlock = some q → q < wq.heap.size := fun q e => (World.ownsRow.lt HTQ.out.r2 q e).2
        have hBz : B ≤ wq.heap.size := Nat.le_trans HBW.out HKQ.out.size
        have HFULL := hid (fun (u : World) (hu : KB w.heap.size w u) => rfull21_any (some ⟨bU, oU, none⟩) uc us k u (HU.out.kb hu) (by rw [HM.out]; exact hlt))
        rw [HM.out] at HFULL
        have hll1 := HL.out.1
        have hll2 := HL.out.2.1
        have hll3 := HL.out.2.2
        clear hl1 hl2 hsn1 hsn2 HXN HXB
        go_upto_region 17 with fail
        clear x0 xl cl
        refine wp_region_T (fun T => { tmps := List.toArray ((.agg #[.slice (some ⟨bU, oU, none⟩) m uc]) :: (.pointer (some ⟨gW, 0, none⟩)) :: (.pointer (some ⟨g2, 0, none⟩)) :: (.pointer (some ⟨g3, 0, none⟩)) :: (.int .i64 (k : Int)) :: (.slice A1 ps.length c1) :: (.slice A2 qs.length c2) :: (.int .i64 (a : Int)) :: u8 :: u9 :: u10 :: (.int .i64 (k : Int)) :: (.pointer (some ⟨gW, 0, none⟩)) :: (.slice (some ⟨bU, oU, none⟩) m uc) :: (.int .i64 (m : Int)) :: (.bool true) :: u16 :: u17 :: (.int .i64 (a : Int)) :: (.pointer (some ⟨gW, 0, none⟩)) :: (.slice (some ⟨bU, oU, none⟩) m uc) :: (.int .i64 (k : Int)) :: (.pointer (some ⟨bU, oU + k * 3, none⟩)) :: (.pointer (some ⟨bU, oU + k * 3 + 2, none⟩)) :: (.slice uA a uk) :: (.int .i64 (a : Int)) :: (.bool false) :: u27 :: u28 :: u29 :: u30 :: u31 :: u32 :: u33 :: u34 :: u35 :: u36 :: u37 :: u38 :: u39 :: u40 :: u41 :: u42 :: u43 :: u44 :: u45 :: u46 :: u47 :: u48 :: u49 :: u50 :: u51 :: u52 :: u53 :: u54 :: u55 :: u56 :: u57 :: u58 :: u59 :: u60 :: u61 :: u62 :: u63 :: u64 :: u65 :: T 0 :: T 1 :: T 2 :: T 3 :: T 4 :: T 5 :: T 6 :: T 7 :: T 8 :: T 9 :: T 10 :: T 11 :: T 12 :: T 13 :: T 14 :: T 15 :: T 16 :: T 17 :: T 19 :: T 21 :: undef :: []), defers := [] }) (F17 g3 k wq.heap.size (.agg #[.slice (some ⟨bU, oU, none⟩) m uc]) (.slice A1 ps.length c1) (.slice A2 qs.length c2) vF vN vB) (W17 w m B wq.heap.size gW g2 g3 k [.slice (some ⟨bU, oU, none⟩) m uc] vF vN vB ns ⟨ps, A1, c1⟩ bs ⟨qs, A2, c2⟩) (fun j => match j with | 0 => u66 | 1 => u67 | 2 => u68 | 3 => u69 | 4 => u70 | 5 => u71 | 6 => u72 | 7 => u73 | 8 => u74 | 9 => u75 | 10 => u76 | 11 => u77 | 12 => u78 | 13 => u79 | 14 => u80 | 15 => u81 | 16 => u82 | 17 => u83 | 19 => u84 | 21 => u85 | _ => undef) 23 (by kernel_rfl) (by kernel_rfl) (by kernel_rfl) rfl ?_ ?_ ?_
        · unfold W17
          exact ⟨kb_drewJ HKW.out, HXQ.out.kb (kb_drewJ (kb_refl _)), HO2Q.out.kb (kb_drewJ (kb_refl _)), HO3Q.out.kb (kb_drewJ (kb_refl _)), ⟨fs, HFQ.out.kb (kb_drewJ (kb_refl _)), HL.out.1⟩, HTQ.out.kb (CR.mono m) (NR.mono m) (kb_drewJ (kb_refl _)), Nat.le_refl _⟩
        · intro j hj
          rcases j with _ | _ | _ | _ | _ | _ | _ | _ | _ | _ | _ | _ | _ | _ | _ | _ | _ | _ | _ | _ | _ | _ | _ | j
          all_goals (intro d T x o a ho hd hdep hsh hW hF ha)
          · subst ha
            refine wpOp_step rfl ?_
            intro K' hK'
            go_wp2_with fail
            exact ⟨.pointer (some ⟨g3, 0, none⟩), by first | rfl | simp [upd], hW.q rfl, rfl, fun i u _ h => h.mv (Nat.le_refl _) (fun _ _ _ => rfl)⟩
          · have e0 := hF 0 (dep_of (j := 0) ho (by as_aux_lemma => kernel_rfl) hdep)
            dsimp only [F17] at e0
            have hA : d 6 = false := not_yet hsh (by as_aux_lemma => kernel_rfl) hd
            have hS : d 18 = false := not_yet hsh (by as_aux_lemma => kernel_rfl) hA
            have hm := hW
            unfold W17 at hm
            rw [hS] at hm
            have c0 : x.cell? ⟨g3, 0, none⟩ = some vF := hm.o3.box.2 0 _ rfl
            have cl := hm.o3.box.1
            dsimp only at ha
            rw [e0] at ha
            subst ha
            refine wpOp_step rfl ?_
            intro K' hK'
            go_wp2_with fail
            exact ⟨vF, by first | rfl | simp [upd, e0], hW.q rfl, rfl, fun i u _ h => h.mv (Nat.le_refl _) (fun _ _ _ => rfl)⟩
          · have hm := hW
            unfold W17 at hm
            have c0 := hm.bx.2 0 _ rfl
            have cl := hm.bx.1
            subst ha
            refine wpOp_step rfl ?_
            intro K' hK'
            go_wp2_with fail
            exact ⟨.agg #[.slice (some ⟨bU, oU, none⟩) m uc], by first | rfl | simp [upd], hW.q rfl, rfl, fun i u _ h => h.mv (Nat.le_refl _) (fun _ _ _ => rfl)⟩
          · subst ha
            refine wpOp_step rfl ?_
            intro K' hK'
            go_wp2_with fail
            exact ⟨.int .i64 (k : Int), by first | rfl | simp [upd], hW.q rfl, rfl, fun i u _ h => h.mv (Nat.le_refl _) (fun _ _ _ => rfl)⟩
          · have e2 := hF 2 (dep_of (j := 2) ho (by as_aux_lemma => kernel_rfl) hdep)
            dsimp only [F17] at e2
            have e3 := hF 3 (dep_of (j := 3) ho (by as_aux_lemma => kernel_rfl) hdep)
            dsimp only [F17] at e3
            have hm := hW
            unfold W17 at hm
            dsimp only at ha
            rw [e2, e3] at ha
            subst ha
            refine wpOp_step rfl ?_
            intro K' hK'
            go_wp2_with fail
            refine (HFULL.out x hm.kb).mono ?_
            rintro _ x' ⟨⟨z, rfl⟩, hb⟩
            go_wp2_with fail
            exact ⟨.int .i64 z, by first | rfl | simp [upd, e2, e3], W17.q (j := 4) (by unfold W17; exact hm.up hb) rfl, ⟨z, rfl⟩, fun i u _ h => h.mv hb.size (fun q _ hl => hb.block q hl)⟩
          · have e4 := hF 4 (dep_of (j := 4) ho (by as_aux_lemma => kernel_rfl) hdep)
            dsimp only [F17] at e4
            obtain ⟨z, e4⟩ := e4
            dsimp only at ha
            rw [e4] at ha
            subst ha
            refine wpOp_step rfl ?_
            intro K' hK'
            go_wp2_with fail
            exact ⟨.slice (some ⟨x.heap.size, 0, none⟩) 1 1, by first | rfl | simp [upd, e4], W17.q (j := 5) (by have hm := hW; unfold W17 at hm ⊢; exact hm.up (kb_new _ _)) rfl, ⟨x.heap.size, z, rfl, (by have hm := hW; unfold W17 at hm; exact hm.sz), by simp, (Box.new x [.int .i64 z] 3).2 0 _ rfl⟩, fun i u _ h => h.mv (kb_new _ _).size (fun q _ hl => (kb_new _ _).block q hl)⟩
          · have e1 := hF 1 (dep_of (j := 1) ho (by as_aux_lemma => kernel_rfl) hdep)
            dsimp only [F17] at e1
            have e5 := hF 5 (dep_of (j := 5) ho (by as_aux_lemma => kernel_rfl) hdep)
            dsimp only [F17] at e5
            obtain ⟨g, z, e5, hg, hgl, hc⟩ := e5
            have hS : d 18 = false := not_yet hsh (by as_aux_lemma => kernel_rfl) hd
            have hm := hW
            unfold W17 at hm
            rw [hd, hS] at hm
            obtain ⟨fs, hro, hfl⟩ := hm.rF
            have hro : OwnL 3 1 inC x B vF fs := hro
            have hfl : fs.length = k := hfl
            subst ha
            refine wpOp_step rfl ?_
            intro K' hK'
            have hown := hro
            have hb0 : B ≤ x.heap.size := Nat.le_trans hBz hm.sz
            refine step_appz EKintsG rfl (.tmp 67) (.tmp 71) rfl (inC z) hown (e1 : _ = _) (e5 : _ = _) rfl (one_src hc) (by simp [Value.oneCell']) (by unfold maxLen; omega) (by omega) hb0 ?_
            intro v' x' h2 h4 h5
            have H := MW.stF (fs := fs) (z := z) hm (by omega) (by omega) (by omega) ho3 hro hfl h2 h4 h5
            refine hK' _ _ ⟨v', by first | rfl | kernel_rfl, ?_, trivial, fun i u _ h => h.mv h4.size (fun q hq hl => h4.block q hl (fun e => by have := hFl q e.symm; omega))⟩
            unfold W17
            rw [more_eq, more_ne (show (11 : Nat) ≠ 6 by decide), more_ne (show (16 : Nat) ≠ 6 by decide), more_ne (show (18 : Nat) ≠ 6 by decide), more_ne (show (20 : Nat) ≠ 6 by decide), more_ne (show (22 : Nat) ≠ 6 by decide), upd_eq, upd_ne (show (11 : Nat) ≠ 6 by decide), upd_ne (show (16 : Nat) ≠ 6 by decide)]
            rw [hS]
            exact H
          · subst ha
            refine wpOp_step rfl ?_
            intro K' hK'
            go_wp2_with fail
            exact ⟨.pointer (some ⟨g3, 1, none⟩), by first | rfl | simp [upd], hW.q rfl, rfl, fun i u _ h => h.mv (Nat.le_refl _) (fun _ _ _ => rfl)⟩
          · have e7 := hF 7 (dep_of (j := 7) ho (by as_aux_lemma => kernel_rfl) hdep)
            dsimp only [F17] at e7
            have hA : d 11 = false := not_yet hsh (by as_aux_lemma => kernel_rfl) hd
            have hS : d 20 = false := not_yet hsh (by as_aux_lemma => kernel_rfl) hA
            have hm := hW
            unfold W17 at hm
            rw [hS] at hm
            have c0 : x.cell? ⟨g3, 1, none⟩ = some vN := hm.o3.box.2 1 _ rfl
            have cl := hm.o3.box.1
            dsimp only at ha
            rw [e7] at ha
            subst ha
            refine wpOp_step rfl ?_
            intro K' hK'
            go_wp2_with fail
            exact ⟨vN, by first | rfl | simp [upd, e7], hW.q rfl, rfl, fun i u _ h => h.mv (Nat.le_refl _) (fun _ _ _ => rfl)⟩
          · subst ha
            refine wpOp_step rfl ?_
            intro K' hK'
            go_wp2_with fail
            exact ⟨.slice A1 ps.length c1, by first | rfl | simp [upd], hW.q rfl, rfl, fun i u _ h => h.mv (Nat.le_refl _) (fun _ _ _ => rfl)⟩
          · have e9 := hF 9 (dep_of (j := 9) ho (by as_aux_lemma => kernel_rfl) hdep)
            dsimp only [F17] at e9
            dsimp only at ha
            rw [e9] at ha
            subst ha
            refine wpOp_step rfl ?_
            intro K' hK'
            go_wp2_with fail
            exact ⟨.slice (some ⟨x.heap.size, 0, none⟩) 1 1, by first | rfl | simp [upd, e9], W17.q (j := 10) (by have hm := hW; unfold W17 at hm ⊢; exact hm.up (kb_new _ _)) rfl, ⟨x.heap.size, rfl, (by have hm := hW; unfold W17 at hm; exact hm.sz), by simp, (Box.new x [(.slice A1 ps.length c1)] TNm).2 0 _ rfl⟩, fun i u _ h => h.mv (kb_new _ _).size (fun q _ hl => (kb_new _ _).block q hl)⟩
          · have e8 := hF 8 (dep_of (j := 8) ho (by as_aux_lemma => kernel_rfl) hdep)
            dsimp only [F17] at e8
            have e10 := hF 10 (dep_of (j := 10) ho (by as_aux_lemma => kernel_rfl) hdep)
            dsimp only [F17] at e10
            obtain ⟨g, e10, hg, hgl, hc⟩ := e10
            have hS : d 20 = false := not_yet hsh (by as_aux_lemma => kernel_rfl) hd
            have hm := hW
            unfold W17 at hm
            rw [hd, hS] at hm
            subst ha
            refine wpOp_step rfl ?_
            intro K' hK'
            have hown := (show OwnL TNm 1 hdC x B vN ns from hm.l2.r1)
            have hb0 : B ≤ x.heap.size := Nat.le_trans hBz hm.sz
            refine step_appz EKr3 rfl (.tmp 74) (.tmp 76) rfl (hdC (⟨ps, A1, c1⟩ : RowP (RowP (RowP (Int × Int))))) hown (e8 : _ = _) (e10 : _ = _) rfl (one_src hc) (by simp [Value.oneCell']) (by unfold maxLen; omega) (by omega) hb0 ?_
            intro v' x' h2 h4 h5
            have H := hm.stN (by omega) (by omega) (by omega) ho3 h2 h4 h5
            refine hK' _ _ ⟨v', by first | rfl | kernel_rfl, ?_, trivial, fun i u _ h => h.mv h4.size (fun q hq hl => h4.block q hl (fun e => by have := hNl q e.symm; omega))⟩
            unfold W17
            rw [more_ne (show (6 : Nat) ≠ 11 by decide), more_eq, more_ne (show (16 : Nat) ≠ 11 by decide), more_ne (show (18 : Nat) ≠ 11 by decide), more_ne (show (20 : Nat) ≠ 11 by decide), more_ne (show (22 : Nat) ≠ 11 by decide), upd_ne (show (6 : Nat) ≠ 11 by decide), upd_eq, upd_ne (show (16 : Nat) ≠ 11 by decide)]
            rw [hS]
            exact H
          · subst ha
            refine wpOp_step rfl ?_
            intro K' hK'
            go_wp2_with fail
            exact ⟨.pointer (some ⟨g3, 2, none⟩), by first | rfl | simp [upd], hW.q rfl, rfl, fun i u _ h => h.mv (Nat.le_refl _) (fun _ _ _ => rfl)⟩
          · have e12 := hF 12 (dep_of (j := 12) ho (by as_aux_lemma => kernel_rfl) hdep)
            dsimp only [F17] at e12
            have hA : d 16 = false := not_yet hsh (by as_aux_lemma => kernel_rfl) hd
            have hS : d 22 = false := not_yet hsh (by as_aux_lemma => kernel_rfl) hA
            have hm := hW
            unfold W17 at hm
            rw [hS] at hm
            have c0 : x.cell? ⟨g3, 2, none⟩ = some vB := hm.o3.box.2 2 _ rfl
            have cl := hm.o3.box.1
            dsimp only at ha
            rw [e12] at ha
            subst ha
            refine wpOp_step rfl ?_
            intro K' hK'
            go_wp2_with fail
            exact ⟨vB, by first | rfl | simp [upd, e12], hW.q rfl, rfl, fun i u _ h => h.mv (Nat.le_refl _) (fun _ _ _ => rfl)⟩
          · subst ha
            refine wpOp_step rfl ?_
            intro K' hK'
            go_wp2_with fail
            exact ⟨.slice A2 qs.length c2, by first | rfl | simp [upd], hW.q rfl, rfl, fun i u _ h => h.mv (Nat.le_refl _) (fun _ _ _ => rfl)⟩
          · have e14 := hF 14 (dep_of (j := 14) ho (by as_aux_lemma => kernel_rfl) hdep)
            dsimp only [F17] at e14
            dsimp only at ha
            rw [e14] at ha
            subst ha
            refine wpOp_step rfl ?_
            intro K' hK'
            go_wp2_with fail
            exact ⟨.slice (some ⟨x.heap.size, 0, none⟩) 1 1, by first | rfl | simp [upd, e14], W17.q (j := 15) (by have hm := hW; unfold W17 at hm ⊢; exact hm.up (kb_new _ _)) rfl, ⟨x.heap.size, rfl, (by have hm := hW; unfold W17 at hm; exact hm.sz), by simp, (Box.new x [(.slice A2 qs.length c2)] TBm).2 0 _ rfl⟩, fun i u _ h => h.mv (kb_new _ _).size (fun q _ hl => (kb_new _ _).block q hl)⟩
          · have e13 := hF 13 (dep_of (j := 13) ho (by as_aux_lemma => kernel_rfl) hdep)
            dsimp only [F17] at e13
            have e15 := hF 15 (dep_of (j := 15) ho (by as_aux_lemma => kernel_rfl) hdep)
            dsimp only [F17] at e15
            obtain ⟨g, e15, hg, hgl, hc⟩ := e15
            have hS : d 22 = false := not_yet hsh (by as_aux_lemma => kernel_rfl) hd
            have hm := hW
            unfold W17 at hm
            rw [hd, hS] at hm
            subst ha
            refine wpOp_step rfl ?_
            intro K' hK'
            have hown := (show OwnL TBm 1 hdC x B vB bs from hm.l2.r2)
            have hb0 : B ≤ x.heap.size := Nat.le_trans hBz hm.sz
            refine step_appz EKr2 rfl (.tmp 79) (.tmp 81) rfl (hdC (⟨qs, A2, c2⟩ : RowP (RowP (Int × Int)))) hown (e13 : _ = _) (e15 : _ = _) rfl (one_src hc) (by simp [Value.oneCell']) (by unfold maxLen; omega) (by omega) hb0 ?_
            intro v' x' h2 h4 h5
            have H := hm.stB (by omega) (by omega) (by omega) ho3 h2 h4 h5
            refine hK' _ _ ⟨v', by first | rfl | kernel_rfl, ?_, trivial, fun i u _ h => h.mv h4.size (fun q hq hl => h4.block q hl (fun e => by have := hBl q e.symm; omega))⟩
            unfold W17
            rw [more_ne (show (6 : Nat) ≠ 16 by decide), more_ne (show (11 : Nat) ≠ 16 by decide), more_eq, more_ne (show (18 : Nat) ≠ 16 by decide), more_ne (show (20 : Nat) ≠ 16 by decide), more_ne (show (22 : Nat) ≠ 16 by decide), upd_ne (show (6 : Nat) ≠ 16 by decide), upd_ne (show (11 : Nat) ≠ 16 by decide), upd_eq]
            rw [hS]
            exact H
          · subst ha
            refine wpOp_step rfl ?_
            intro K' hK'
            go_wp2_with fail
            exact ⟨.pointer (some ⟨g3, 0, none⟩), by first | rfl | simp [upd], hW.q rfl, rfl, fun i u _ h => h.mv (Nat.le_refl _) (fun _ _ _ => rfl)⟩
          · have e17 := hF 17 (dep_of (j := 17) ho (by as_aux_lemma => kernel_rfl) hdep)
            dsimp only [F17] at e17
            have hd6 : d 6 = true := dep_of (j := 6) ho (by as_aux_lemma => kernel_rfl) hdep
            have hm := hW
            unfold W17 at hm
            rw [hd, hd6] at hm
            obtain ⟨Ax, nx, cx, e6⟩ : ∃ A n c, T 6 = .slice A n c := by
              obtain ⟨fs, hro, -⟩ := hm.rF
              unfold OwnL at hro
              obtain ⟨A, c, e⟩ := own_sliceG hro
              exact ⟨A, _, c, e⟩
            have c0 : x.cell? ⟨g3, 0, none⟩ = some vF := hm.o3.box.2 0 _ rfl
            have cl := hm.o3.box.1
            have sf : ∀ j, x.frozen? ⟨g3, j, none⟩ = false := hm.o3.soft
            have H := hm.s0 (by omega) (by omega) ho3 (by omega)
            rw [e6] at H
            dsimp only at ha
            rw [e17, e6] at ha
            subst ha
            refine wpOp_step rfl ?_
            intro K' hK'
            go_wp2_with fail
            refine ⟨undef, by first | rfl | simp [upd, e17, e6], ?_, trivial, fun i u _ h => h.mv (by rw [World.size_setCell]; exact Nat.le_refl _) (fun q hq _ => heap_put (fun e => by omega))⟩
            unfold W17
            rw [more_ne (show (6 : Nat) ≠ 18 by decide), more_ne (show (11 : Nat) ≠ 18 by decide), more_ne (show (16 : Nat) ≠ 18 by decide), more_eq, more_ne (show (20 : Nat) ≠ 18 by decide), more_ne (show (22 : Nat) ≠ 18 by decide), upd_ne (show (6 : Nat) ≠ 18 by decide), upd_ne (show (11 : Nat) ≠ 18 by decide), upd_ne (show (16 : Nat) ≠ 18 by decide)]
            rw [hd6, e6]
            exact H
          · subst ha
            refine wpOp_step rfl ?_
            intro K' hK'
            go_wp2_with fail
            exact ⟨.pointer (some ⟨g3, 1, none⟩), by first | rfl | simp [upd], hW.q rfl, rfl, fun i u _ h => h.mv (Nat.le_refl _) (fun _ _ _ => rfl)⟩
          · have e19 := hF 19 (dep_of (j := 19) ho (by as_aux_lemma => kernel_rfl) hdep)
            dsimp only [F17] at e19
            have hd11 : d 11 = true := dep_of (j := 11) ho (by as_aux_lemma => kernel_rfl) hdep
            have hm := hW
            unfold W17 at hm
            rw [hd, hd11] at hm
            obtain ⟨Ax, nx, cx, e11⟩ : ∃ A n c, T 11 = .slice A n c := by
              have hro := hm.l2.r1
              unfold OwnL at hro
              obtain ⟨A, c, e⟩ := own_sliceG hro
              exact ⟨A, _, c, e⟩
            have c0 : x.cell? ⟨g3, 1, none⟩ = some vN := hm.o3.box.2 1 _ rfl
            have cl := hm.o3.box.1
            have sf : ∀ j, x.frozen? ⟨g3, j, none⟩ = false := hm.o3.soft
            have H := hm.s1 (by omega) (by omega) ho3 (by omega)
            rw [e11] at H
            dsimp only at ha
            rw [e19, e11] at ha
            subst ha
            refine wpOp_step rfl ?_
            intro K' hK'
            go_wp2_with fail
            refine ⟨undef, by first | rfl | simp [upd, e19, e11], ?_, trivial, fun i u _ h => h.mv (by rw [World.size_setCell]; exact Nat.le_refl _) (fun q hq _ => heap_put (fun e => by omega))⟩
            unfold W17
            rw [more_ne (show (6 : Nat) ≠ 20 by decide), more_ne (show (11 : Nat) ≠ 20 by decide), more_ne (show (16 : Nat) ≠ 20 by decide), more_ne (show (18 : Nat) ≠ 20 by decide), more_eq, more_ne (show (22 : Nat) ≠ 20 by decide), upd_ne (show (6 : Nat) ≠ 20 by decide), upd_ne (show (11 : Nat) ≠ 20 by decide), upd_ne (show (16 : Nat) ≠ 20 by decide)]
            rw [hd11, e11]
            exact H
          · subst ha
            refine wpOp_step rfl ?_
            intro K' hK'
            go_wp2_with fail
            exact ⟨.pointer (some ⟨g3, 2, none⟩), by first | rfl | simp [upd], hW.q rfl, rfl, fun i u _ h => h.mv (Nat.le_refl _) (fun _ _ _ => rfl)⟩
          · have e21 := hF 21 (dep_of (j := 21) ho (by as_aux_lemma => kernel_rfl) hdep)
            dsimp only [F17] at e21
            have hd16 : d 16 = true := dep_of (j := 16) ho (by as_aux_lemma => kernel_rfl) hdep
            have hm := hW
            unfold W17 at hm
            rw [hd, hd16] at hm
            obtain ⟨Ax, nx, cx, e16⟩ : ∃ A n c, T 16 = .slice A n c := by
              have hro := hm.l2.r2
              unfold OwnL at hro
              obtain ⟨A, c, e⟩ := own_sliceG hro
              exact ⟨A, _, c, e⟩
            have c0 : x.cell? ⟨g3, 2, none⟩ = some vB := hm.o3.box.2 2 _ rfl
            have cl := hm.o3.box.1
            have sf : ∀ j, x.frozen? ⟨g3, j, none⟩ = false := hm.o3.soft
            have H := hm.s2 (by omega) (by omega) ho3 (by omega)
            rw [e16] at H
            dsimp only at ha
            rw [e21, e16] at ha
            subst ha
            refine wpOp_step rfl ?_
            intro K' hK'
            go_wp2_with fail
            refine ⟨undef, by first | rfl | simp [upd, e21, e16], ?_, trivial, fun i u _ h => h.mv (by rw [World.size_setCell]; exact Nat.le_refl _) (fun q hq _ => heap_put (fun e => by omega))⟩
            unfold W17
            rw [more_ne (show (6 : Nat) ≠ 22 by decide), more_ne (show (11 : Nat) ≠ 22 by decide), more_ne (show (16 : Nat) ≠ 22 by decide), more_ne (show (18 : Nat) ≠ 22 by decide), more_ne (show (20 : Nat) ≠ 22 by decide), more_eq, upd_ne (show (6 : Nat) ≠ 22 by decide), upd_ne (show (11 : Nat) ≠ 22 by decide), upd_ne (show (16 : Nat) ≠ 22 by decide)]
            rw [hd16, e16]
            exact H
          · omega
        · intro d T x hall hW hF av hav
          have hm := hW
          unfold W17 at hm
          rw [hall 6 (by decide), hall 11 (by decide), hall 16 (by decide), hall 18 (by decide), hall 20 (by decide), hall 22 (by decide)] at hm
          have HMW := hid hm
          clear hm hW hF hall
          subst hav
          go_wp2_with fail
          refine (show _ ∧ _ from ⟨?_, ?_⟩)
          · obtain ⟨fs2, hr, hfl⟩ := HMW.out.rF
            obtain ⟨XN, hXN⟩ : ∃ X : RowP (RowP (RowP (Int × Int))), X = ⟨ps, A1, c1⟩ := ⟨_, rfl⟩
            obtain ⟨XB, hXB⟩ : ∃ X : RowP (RowP (Int × Int)), X = ⟨qs, A2, c2⟩ := ⟨_, rfl⟩
            have hl2 : L2 TNm TBm (CR m) (NR m) B x (T 11) (T 16) (T 6).ownBlock (ns ++ [XN]) (ns ++ [XN]) (bs ++ [XB]) (bs ++ [XB]) := by rw [hXN, hXB]; exact HMW.out.l2
            have hn1 : XN.l.length = lenC us k := by rw [hXN]; exact HPL1.out.trans HLK.out.symm
            have hn2 : XB.l.length = lenC us k := by rw [hXB]; exact HPL2.out.trans HLK.out.symm
            exact ⟨k + 1, T 6, T 11, T 16, fs2, ns ++ [XN], bs ++ [XB], by go_num, by omega, hid ⟨hfl, by rw [List.length_append, HL.out.2.1]; rfl, by rw [List.length_append, HL.out.2.2]; rfl⟩, hid ⟨snoc_len HLC.out.1 HL.out.2.1 hn1, snoc_len HLC.out.2 HL.out.2.2 hn2⟩, hid HMW.out.o3, hid HMW.out.o2, hid hr, hid hl2, hid HMW.out.bx, hid HMW.out.kb, hid (Nat.le_trans hBz HMW.out.sz)⟩
          · simp [intOf] <;> omega
      have a1 : (a : Int) < (nc : Int) := by omega
      have hac : a < ucs.length := by rw [HNC.out]; exact halt
      obtain ⟨bC, oC, hCA, hci, hbC, hcc⟩ := HCA.out a hac
      subst hCA
      have t0 : wq.cell? ⟨bC, oC + a * 8, none⟩ = _ := hcc wq HKW.out 0 _ rfl
      have t1 := hcc wq HKW.out 1 _ rfl
      have t2 := hcc wq HKW.out 2 _ rfl
      have t3 := hcc wq HKW.out 3 _ rfl
      have t4 := hcc wq HKW.out 4 _ rfl
      have t5 := hcc wq HKW.out 5 _ rfl
      have t6 := hcc wq HKW.out 6 _ rfl
      have t7 := hcc wq HKW.out 7 _ rfl
      have tl := Nat.lt_of_lt_of_le hbC HKW.out.size
      have HCI := hid hci
      have HCW := hid (HUW.out _ (List.getElem_mem hac))
      clear hcc hci hbC
      generalize ucs[a] = y at *
      clear hac
      go_upto_block 4 with fail
      refine wp_name ?_
      intro u5 hu5
      have HG := hid (show Box u5 wq.heap.size (cdC y) from by rw [hu5]; exact Box.new wq (cdC y) 79)
      have hk5 : KB wq.heap.size wq u5 := by rw [hu5]; exact kb_new _ _
      have HK5 := hid (kb_tr HKQ.out hk5)
      have HX5 := hid (HXQ.out.kb hk5)
      have HT5 := hid (HT2.out.kb (NR.mono m) (WR.mono m) hk5)
      have HW5 := hid (kb_tr HKW.out hk5)
      obtain ⟨g8, hg8⟩ : ∃ g, wq.heap.size = g := ⟨_, rfl⟩
      have hg8r : wr.heap.size ≤ g8 := by rw [← hg8]; exact HKQ.out.size
      have hv1g : ∀ q, v1.ownBlock = some q → wr.heap.size ≤ q ∧ q < g8 := fun q e => by rw [← hg8]; exact World.ownsRow.lt HT2.out.r1 q e
      have hv2g : ∀ q, v2.ownBlock = some q → wr.heap.size ≤ q ∧ q < g8 := fun q e => by rw [← hg8]; exact World.ownsRow.lt HT2.out.r2 q e
      have hXr := HX.out.1
      rw [hg8] at HG ⊢
      have HWN := hid (fun (A : Option Addr) (c : Nat) (l : List WantP) (u : World) (hu : KB w.heap.size w u) (hW : WantsAt w A l) (hr : ∀ x ∈ l, inU us.length x) => rwants24_any (some ⟨bU, oU, none⟩) uc us A c l u (HU.out.kb hu) (hW.kb hu) hr)
      rw [HM.out] at HWN
      have hnl := HCI.out.needs.len
      have hbl := HCI.out.bars.len
      have HNA := hid HCI.out.needs
      have HBA := hid HCI.out.bars
      clear hu5 hk5 hg8 t0 t1 t2 t3 t4 t5 t6 t7 tl x0 xl cU2 cl HCI HKQ HT2 HXQ HKW
      rw [HM.out] at HCW
      go_wp2_with fail
      go_loopw [9, 10] (fun rv bv wz => ∃ (b : Nat) (v3 : Value) (p3 : List (RowP (Int × Int))), rv = v3 ∧ bv = .int .i64 (b : Int) ∧ b ≤ y.needs.length ∧ Hid (p3.length = b) ∧ Hid (Deep 137 1 hdC (WR m) wz u5.heap.size v3 p3) ∧ Hid (KB u5.heap.size u5 wz)) (fun _ bv _ => y.needs.length - (intOf bv).toNat)
      case atStart => exact ⟨0, _, [], rfl, rfl, Nat.zero_le _, hid rfl, hid Deep.nil, hid (kb_refl _)⟩
      case round =>
        rename World => wz
        obtain ⟨b, v3, p3, hv, rfl, hb, HP3, HD3, HKZ⟩ := hrel
        have hv := hv.symm
        subst hv
        have b0 : (0 : Int) ≤ (b : Int) := by omega
        have hsz5 : u5.heap.size ≤ wz.heap.size := HKZ.out.size
        have HKWZ := hid (kb_tr HW5.out HKZ.out)
        have y6 := (HG.out.kb HKZ.out).2 6 _ rfl
        have yl := (HG.out.kb HKZ.out).1
        by_cases hbn : b < y.needs.length
        · have b1 : (b : Int) < (y.needs.length : Int) := by omega
          have hbl2 := hbn
          obtain ⟨bN, oN, hNA, hwn, hbN, cN⟩ := need_at HNA.out hbl2
          have HCN := hid (And.intro hbN cN)
          have HNE := hid hNA
          clear hNA
          have HWC := hid (fun (u : World) (hu : KB w.heap.size w u) => HWN.out y.needs[b].A y.needs[b].c y.needs[b].l u hu hwn (HCW.out.1 _ (List.getElem_mem hbl2)))
          clear hbN cN hwn
          rw [Nat.mul_one] at HCN
          generalize y.needs[b] = r at *
          clear hbl2
          have hp3 := HP3.out
          go_upto_region 15 with fail
          have hb0 : KB wz.heap.size wz wz.drew := kb_drewJ (kb_refl _)
          have hS : KB u5.heap.size u5 wz.drew := kb_tr HKZ.out hb0
          clear y6 yl
          refine wp_planS (fun u => KB u5.heap.size u5 u) (.call [0, 1, 2, 3, 4, 5, 6] 7 (.call [] 8 (.call [] 9 (.last [10])))) (by first | assumption | skip) (by kernel_rfl) (by intro _ _ d _ _ h; cases d <;> exact h) (by kernel_rfl) ?_
          have iS : Nonempty (SW fun u => KB u5.heap.size u5 u) := ⟨⟨_, hS⟩⟩
          have z0 := fun (z : SW fun u => KB u5.heap.size u5 u) => (HX5.out.kb z.ok).2 0 _ rfl
          have zl := fun (z : SW fun u => KB u5.heap.size u5 u) => (HX5.out.kb z.ok).1
          have y6 := fun (z : SW fun u => KB u5.heap.size u5 u) => show z.v.cell? ⟨g8, 6, none⟩ = some (.slice (some ⟨bN, oN, none⟩) y.needs.length y.c) from by rw [← HNE.out]; exact (HG.out.kb z.ok).2 6 _ rfl
          have yl := fun (z : SW fun u => KB u5.heap.size u5 u) => (HG.out.kb z.ok).1
          have cN := fun (z : SW fun u => KB u5.heap.size u5 u) => cell_kb HCN.out.1 (kb_tr HW5.out z.ok) HCN.out.2
          have cNl := fun (z : SW fun u => KB u5.heap.size u5 u) => Nat.lt_of_lt_of_le HCN.out.1 (kb_tr HW5.out z.ok).size
          with_reducible refine plan_call ?_
          simp only [pickOps, List.map_cons, List.map_nil, List.getElem?_toArray, List.getElem?_cons_zero, List.getElem?_cons_succ, Option.getD_some]
          repeat go_big_quiet_step (fail)
          refine wpQuiet_nil ?_
          go_wp2_with fail
          refine (HWC.out _ (kb_tr HW5.out hS)).mono ?_
          rintro _ u6 ⟨⟨x, rfl, hx⟩, hb6⟩
          have hkz6 : KB wz.heap.size wz u6 := kb_tr hb0 hb6
          go_wp2_with fail
          refine plan_onS (kb_tr HKZ.out hkz6) ?_
          with_reducible refine plan_call ?_
          simp only [pickOps, List.map_cons, List.map_nil, List.getElem?_toArray, List.getElem?_cons_zero, List.getElem?_cons_succ, Option.getD_some]
          repeat go_big_quiet_step (fail)
          refine wpQuiet_nil ?_
          go_wp2_with fail
          refine plan_onS (kb_tr (kb_tr HKZ.out hkz6) (kb_new _ _)) ?_
          have hD6 := HD3.out.kb (WR.mono m) hkz6
          have hs6 : u5.heap.size ≤ u6.heap.size := Nat.le_trans hsz5 hkz6.size
          with_reducible refine plan_call ?_
          simp only [pickOps, List.map_cons, List.map_nil, List.getElem?_toArray, List.getElem?_cons_zero, List.getElem?_cons_succ, Option.getD_some]
          repeat go_big_quiet_step (fail)
          refine wpQuiet_nil ?_
          go_wp2_with (at_builtin; refine wpList_app1y EKr1 rfl (.tmp 45) (.tmp 53) rfl (hdC x) hD6.1 rfl rfl rfl (by simp [Value.oneCell']) (by unfold maxLen; omega) (by omega) hs6 ?_; intro v9 w9 h2 h3 h4 h5)
          have hk9 : KB u5.heap.size u5 w9 := kb_row (kb_tr HKZ.out hkz6) hD6.1 hs6 h4
          refine plan_onS hk9 ?_
          with_reducible refine plan_last ?_
          simp only [pickOps, List.map_cons, List.map_nil, List.getElem?_toArray, List.getElem?_cons_zero, List.getElem?_cons_succ, Option.getD_some]
          repeat go_big_quiet_step (fail)
          refine wpQuiet_nil ?_
          have HD9 := hid (Deep.snoc (WR.mono m) hD6 (WR.mono m _ _ _ (mask_less hsz5 (fun q e => (Deep.lt HD3.out q e))) hx) h2 h4 h5)
          have HK9 := hid hk9
          clear hk9 h2 h3 h4 h5 hD6 hs6 hkz6 hb6 hx hb0 hS z0 zl y6 yl cN cNl iS HWC HCN
          go_wp2_with fail
          refine (show _ ∧ _ from ⟨?_, ?_⟩)
          · exact ⟨b + 1, v9, p3 ++ [x], rfl, by go_num, by omega, hid (by rw [List.length_append, hp3]; rfl), HD9, HK9⟩
          · simp [intOf] <;> omega
        · obtain rfl : b = y.needs.length := by omega
          have b1 : ¬ (y.needs.length : Int) < (y.needs.length : Int) := by omega
          obtain ⟨A3, c3, hv3, -, hl3, hs3⟩ := Deep.fresh (f := hdC) (n := 1) (fun _ => rfl) (WR.mono m) HD3.out
          subst hv3
          have HN3 := hid (show NR m (mask wz u5.heap.size none) ⟨p3, A3, c3⟩ from ⟨hl3, hs3, by show p3.length ≤ 1000000; rw [HP3.out]; exact hnl⟩)
          clear hl3 hs3 HD3
          have hpq := HPL.out
          have HXZ := hid (HX5.out.kb HKZ.out)
          have HGZ := hid (HG.out.kb HKZ.out)
          go_upto_region 16 with fail
          clear y6 yl
          have hb0 : KB wz.heap.size wz wz.drew := kb_drewJ (kb_refl _)
          have hSx : ∀ u : World, Box u gW [.slice (some ⟨bU, oU, none⟩) m uc] → Box u g8 (cdC y) → (u.cell? ⟨gW, 0, none⟩ = some (.slice (some ⟨bU, oU, none⟩) m uc) ∧ gW < u.heap.size) ∧ (u.cell? ⟨g8, 7, none⟩ = some (.slice y.B y.bars.length y.d) ∧ g8 < u.heap.size) := fun u h1 h2 => ⟨⟨h1.2 0 _ rfl, h1.1⟩, h2.2 7 _ rfl, h2.1⟩
          have HSX := hid hSx
          have hS := HSX.out _ (HXZ.out.kb hb0) (HGZ.out.kb hb0)
          clear hSx
          refine wp_planS (fun u => (u.cell? ⟨gW, 0, none⟩ = some (.slice (some ⟨bU, oU, none⟩) m uc) ∧ gW < u.heap.size) ∧ (u.cell? ⟨g8, 7, none⟩ = some (.slice y.B y.bars.length y.d) ∧ g8 < u.heap.size)) (.call [0, 1, 4, 5, 6, 7] 2 (.call [] 3 (.call [] 8 (.call [] 9 (.call [] 10 (.last [11, 12])))))) (by first | assumption | skip) (by kernel_rfl) (by intro _ _ d _ _ h; cases d <;> exact h) (by kernel_rfl) ?_
          have iS : Nonempty (SW fun u => (u.cell? ⟨gW, 0, none⟩ = some (.slice (some ⟨bU, oU, none⟩) m uc) ∧ gW < u.heap.size) ∧ (u.cell? ⟨g8, 7, none⟩ = some (.slice y.B y.bars.length y.d) ∧ g8 < u.heap.size)) := ⟨⟨_, hS⟩⟩
          have z0 := fun (z : SW fun u => (u.cell? ⟨gW, 0, none⟩ = some (.slice (some ⟨bU, oU, none⟩) m uc) ∧ gW < u.heap.size) ∧ (u.cell? ⟨g8, 7, none⟩ = some (.slice y.B y.bars.length y.d) ∧ g8 < u.heap.size)) => z.ok.1.1
          have z1 := fun (z : SW fun u => (u.cell? ⟨gW, 0, none⟩ = some (.slice (some ⟨bU, oU, none⟩) m uc) ∧ gW < u.heap.size) ∧ (u.cell? ⟨g8, 7, none⟩ = some (.slice y.B y.bars.length y.d) ∧ g8 < u.heap.size)) => z.ok.1.2
          have z2 := fun (z : SW fun u => (u.cell? ⟨gW, 0, none⟩ = some (.slice (some ⟨bU, oU, none⟩) m uc) ∧ gW < u.heap.size) ∧ (u.cell? ⟨g8, 7, none⟩ = some (.slice y.B y.bars.length y.d) ∧ g8 < u.heap.size)) => z.ok.2.1
          have z3 := fun (z : SW fun u => (u.cell? ⟨gW, 0, none⟩ = some (.slice (some ⟨bU, oU, none⟩) m uc) ∧ gW < u.heap.size) ∧ (u.cell? ⟨g8, 7, none⟩ = some (.slice y.B y.bars.length y.d) ∧ g8 < u.heap.size)) => z.ok.2.2
          with_reducible refine plan_call ?_
          simp only [pickOps, List.map_cons, List.map_nil, List.getElem?_toArray, List.getElem?_cons_zero, List.getElem?_cons_succ, Option.getD_some]
          repeat go_big_quiet_step (fail)
          refine wpQuiet_nil ?_
          go_wp2_with fail
          refine plan_onS (HSX.out _ ((HXZ.out.kb hb0).kb (kb_new _ _)) ((HGZ.out.kb hb0).kb (kb_new _ _))) ?_
          have hrz : wr.heap.size ≤ wz.heap.size := Nat.le_trans HK5.out.size HKZ.out.size
          have hTD := HT5.out.kb (NR.mono m) (WR.mono m) (kb_tr HKZ.out hb0)
          have hTD2 := hTD.more1 (x := ⟨p3, A3, c3⟩) (NR.mono m _ _ _ (HT5.out.sees (u := wz.drew) (b := u5.heap.size) (Nat.le_refl _) HK5.out.size) (NR.mono m _ _ _ (mask_kb hb0) HN3.out))
          with_reducible refine plan_call ?_
          simp only [pickOps, List.map_cons, List.map_nil, List.getElem?_toArray, List.getElem?_cons_zero, List.getElem?_cons_succ, Option.getD_some]
          repeat go_big_quiet_step (fail)
          refine wpQuiet_nil ?_
          go_wp2_with (at_builtin; refine wpList_app1y EKr2 rfl (.tmp 55) (.tmp 57) rfl (hdC (⟨p3, A3, c3⟩ : RowP (RowP (Int × Int)))) hTD2.r1 rfl rfl rfl (by simp [Value.oneCell']) (by unfold maxLen; omega) (by omega) hrz ?_; intro vA w7 h2 h3 h4 h5)
          have hx7 : Box w7 gW [.slice (some ⟨bU, oU, none⟩) m uc] := (HXZ.out.kb hb0).grown h4 (fun e => by have := (hv1g gW e.symm).1; omega)
          have hg7 : Box w7 g8 (cdC y) := (HGZ.out.kb hb0).grown h4 (fun e => by have := (hv1g g8 e.symm).2; omega)
          have hL7 := L2.app1 (x := ⟨p3, A3, c3⟩) (NR.mono m) (WR.mono m) hTD2 h2 h4 h5
          have hkr7 : KB wr.heap.size wr w7 := (kb_tr HK5.out (kb_tr HKZ.out hb0)).grown h4 hrz (fun q e => (hv1g q e).1)
          have hkw7 : KB w.heap.size w w7 := kb_tr HK.out hkr7
          refine plan_onS (HSX.out _ hx7 hg7) ?_
          with_reducible refine plan_call ?_
          simp only [pickOps, List.map_cons, List.map_nil, List.getElem?_toArray, List.getElem?_cons_zero, List.getElem?_cons_succ, Option.getD_some]
          repeat go_big_quiet_step (fail)
          refine wpQuiet_nil ?_
          go_wp2_with fail
          refine (HWN.out y.B y.d y.bars w7 hkw7 HBA.out HCW.out.2).mono ?_
          rintro _ u8 ⟨⟨x8, rfl, hx8⟩, hb8⟩
          go_wp2_with fail
          refine plan_onS (HSX.out _ (hx7.kb hb8) (hg7.kb hb8)) ?_
          with_reducible refine plan_call ?_
          simp only [pickOps, List.map_cons, List.map_nil, List.getElem?_toArray, List.getElem?_cons_zero, List.getElem?_cons_succ, Option.getD_some]
          repeat go_big_quiet_step (fail)
          refine wpQuiet_nil ?_
          go_wp2_with fail
          refine plan_onS (HSX.out _ ((hx7.kb hb8).kb (kb_new _ _)) ((hg7.kb hb8).kb (kb_new _ _))) ?_
          have hr8 : wr.heap.size ≤ u8.heap.size := Nat.le_trans hkr7.size hb8.size
          have hL8 := (hL7.kb (NR.mono m) (WR.mono m) hb8).more2 (x := x8) (WR.mono m _ _ _ (hL7.sees (u := u8) (b := w7.heap.size) (Nat.le_refl _) hkr7.size) hx8)
          with_reducible refine plan_call ?_
          simp only [pickOps, List.map_cons, List.map_nil, List.getElem?_toArray, List.getElem?_cons_zero, List.getElem?_cons_succ, Option.getD_some]
          repeat go_big_quiet_step (fail)
          refine wpQuiet_nil ?_
          go_wp2_with (at_builtin; refine wpList_app1y EKr1 rfl (.tmp 59) (.tmp 64) rfl (hdC x8) hL8.r2 rfl rfl rfl (by simp [Value.oneCell']) (by unfold maxLen; omega) (by omega) hr8 ?_; intro vB w10 j2 j3 j4 j5)
          have hxA : Box w10 gW [.slice (some ⟨bU, oU, none⟩) m uc] := (hx7.kb hb8).grown j4 (fun e => by have := (hv2g gW e.symm).1; omega)
          have hgA : Box w10 g8 (cdC y) := (hg7.kb hb8).grown j4 (fun e => by have := (hv2g g8 e.symm).2; omega)
          have HLA := hid (L2.app2 (x := x8) (NR.mono m) (WR.mono m) hL8 j2 j4 j5)
          have HKA := hid (show KB wr.heap.size wr w10 from (kb_tr hkr7 hb8).grown j4 hr8 (fun q e => (hv2g q e).1))
          refine plan_onS (HSX.out _ hxA hgA) ?_
          with_reducible refine plan_last ?_
          simp only [pickOps, List.map_cons, List.map_nil, List.getElem?_toArray, List.getElem?_cons_zero, List.getElem?_cons_succ, Option.getD_some]
          repeat go_big_quiet_step (fail)
          refine wpQuiet_nil ?_
          clear z0 z1 z2 z3 hxA hgA j2 j3 j4 j5 hL8 hr8 hb8 hx8 hkw7 hkr7 hL7 hg7 hx7 h2 h3 h4 h5 hTD2 hTD iS hS hb0 HSX
          go_wp2_with fail
          refine (show _ ∧ _ from ⟨?_, ?_⟩)
          · exact ⟨a + 1, vA, vB, ps ++ [⟨p3, A3, c3⟩], qs ++ [x8], rfl, rfl, by go_num, by omega, hid (by rw [List.length_append, List.length_append]; exact ⟨by rw [hpq.1]; rfl, by rw [hpq.2]; rfl⟩), HLA, HKA⟩
          · simp [intOf] <;> omega
end Go.Proofs.YtlmkglgjdmjnkaaGreatDoor
