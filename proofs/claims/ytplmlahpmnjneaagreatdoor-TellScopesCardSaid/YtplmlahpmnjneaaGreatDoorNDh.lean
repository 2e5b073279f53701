import Derived.Test.YtplmlahpmnjneaaGreatDoorNDg
namespace Go.Proofs.YtplmlahpmnjneaaGreatDoor
open Go.RowKit Go.Lib
open Rw
set_option linter.unusedVariables false
set_option linter.unusedSimpArgs false
theorem ssplit_parts (s sep : ByteArray) (w : World) (hL : Laid w) (hs : s.size < 4294967281) (h1 : 1 ≤ sep.size) : Calls Tryz.prog 56 #[.string s, .string sep] w (Parts w (Lib.split (bts s) (bts sep))) := by
  refine (split_at s sep w hL hs h1).mono ?_
  rintro e w' ⟨ps, hps, -, h0, -, rfl, rfl⟩
  have hl : (Lib.split (bts s) (bts sep)).length = ps.length := by rw [← hps, List.length_map]
  have hx := Box.new w (ps.map Value.string) 9
  refine ⟨w.heap.size, ps.length, by rw [hl], Nat.le_refl _, hx.1, by rw [hl]; exact Nat.le_refl _, fun j hj => ?_, below_new _ _⟩
  rw [← hps, List.length_map] at hj
  rw [hx.2 j (.string ps[j]) (by simp [hj]), ← hps, List.getD_eq_getElem?_getD, List.getElem?_map, List.getElem?_eq_getElem hj]
  simp only [Option.map_some, Option.getD_some]
  rw [strV_bts]
theorem b124 : bts (⟨#[124, 124]⟩ : ByteArray) = [124, 124] := bts_lit [124, 124]
theorem b44 : bts (⟨#[44]⟩ : ByteArray) = [44] := bts_lit [44]
theorem ssplit_bars (s : ByteArray) (w : World) (hL : Laid w) (hs : s.size < 4294967281) : Calls Tryz.prog 56 #[.string s, .string ⟨#[124, 124]⟩] w (Parts w (altsP [] (bts s))) := by
  have := ssplit_parts s ⟨#[124, 124]⟩ w hL hs (by decide)
  rwa [b124, split_alts] at this
theorem ssplit_comma (s : ByteArray) (w : World) (hL : Laid w) (hs : s.size < 4294967281) : Calls Tryz.prog 56 #[.string s, .string ⟨#[44]⟩] w (Parts w (splitL 44 [] (bts s))) := by
  have := ssplit_parts s ⟨#[44]⟩ w hL hs (by decide)
  rwa [b44, split_byte] at this
theorem strim_any (s : ByteArray) (w : World) (hs : s.size ≤ 9223372036854775807) : Calls Tryz.prog 58 #[.string s, .string ⟨#[32]⟩] w (StrPost w (Lib.trimB (bts s) 32)) := by
  refine (Any.strings_Trim_one Tryz.lays160 s 32 (by decide) w hs).mono ?_
  rintro e w' ⟨rfl, h⟩
  refine ⟨_, rfl, by rw [bts_lit, bts, bts_data], ?_⟩
  rcases h with rfl | rfl
  · exact Below.refl _ _
  · exact (Below.refl _ _).drew
set_option maxRecDepth 100000 in
set_option maxHeartbeats 8000000 in
theorem parse7_any (s : ByteArray) (w : World) (hL : Laid w) : Calls Tryz.prog 22 #[.string s] w (GPost w (parseG (bts s))) := by
  have HLS := hid (bts_len s)
  have HL := hid hL
  clear hL
  go_enter Tryz.func22, Tryz.ntmps22
  go_upto_region 1 with fail
  refine wp_name ?_
  intro w1 hw1
  have O2 := hid (show Own w.heap.size w1 w.heap.size [.slice none 0 0] by rw [hw1]; exact Own.new w [.slice none 0 0] 35 (Nat.le_refl _))
  have HB := hid (show KB w.heap.size w w1 by rw [hw1]; exact kb_new _ _)
  clear hw1
  by_cases h96 : 96 < s.size
  · have HP := hid (parseG_long (s := bts s) (by rw [HLS.out]; exact h96))
    have i96 : (96 : Int) < (s.size : Int) := by omega
    have y0 := O2.out.box.2 0 _ rfl
    have sf : ∀ j, w1.frozen? ⟨w.heap.size, j, none⟩ = false := O2.out.soft
    have yl := O2.out.box.1
    go_wp2_with fail
    refine body_name ?_
    intro w9 hw9
    have O9 : Own w.heap.size w9 w.heap.size [.slice none 0 0] := by rw [hw9]; exact O2.out.put (j := 0) (by simp) _
    have B9 : KB w.heap.size w w9 := by rw [hw9]; exact kb_put HB.out (Nat.le_refl _) _
    clear hw9
    have k0 := O9.box.2 0 _ rfl
    refine bodyPost_ret (v := .tuple #[rangeV none 0 0, .int .i64 3]) (by simp [results, Tryz.results22, go_sem, k0]) rfl ?_
    rw [show parseG (bts s) = ([], 3) from HP.out]
    exact gpost_err B9
  · have HPN := hid (parseG_none (s := bts s) (by rw [HLS.out]; exact h96))
    have HPS := hid (fun r => parseG_some (s := bts s) (by rw [HLS.out]; exact h96) (r := r))
    have i96 : ¬ (96 : Int) < (s.size : Int) := by omega
    go_upto_region 4 with fail
    refine wp_name ?_
    intro w2 hw2
    have O4 := hid (show Own w.heap.size w2 w1.heap.size [.slice none 0 0] by rw [hw2]; exact Own.new w1 [.slice none 0 0] 35 HB.out.size)
    have HN4 : w.heap.size ≠ w1.heap.size := by have := O2.out.box.1; omega
    have O2 := hid (show Own w.heap.size w2 w.heap.size [.slice none 0 0] by rw [hw2]; exact O2.out.alloc _)
    have HB := hid (show KB w.heap.size w w2 by rw [hw2]; exact kb_tr HB.out (kb_new _ _))
    clear hw2
    generalize w1.heap.size = g4 at *
    go_wp2_with fail
    refine (ssplit_bars s w2 (HL.out.kb HB.out) (by omega)).mono ?_
    rintro _ w3 ⟨gp, cp, rfl, hgp, hgpl, hcp, hcell, hb⟩
    have HXL := hid (fun x (hx : x ∈ altsP [] (bts s)) => (show x.length ≤ 96 by have h1 := altsP_mem_len hx; have h2 := HLS.out; omega))
    have hxn : (altsP [] (bts s)).length ≤ 97 := by have h1 := altsP_count (bts s) []; have h2 := HLS.out; omega
    have HPW := hid (show PW w w3.heap.size w.heap.size g4 gp (altsP [] (bts s)) (.slice none 0 0) [] w3 from
      ⟨kb_tr HB.out hb.kb, O2.out.below hb, O4.out.below hb, ⟨hgpl, hcell⟩, .nil, Nat.lt_of_lt_of_le O2.out.box.1 hb.size, Nat.lt_of_lt_of_le O4.out.box.1 hb.size, hgpl, HN4, (by have := O4.out.box.1; omega), Nat.le_refl _⟩)
    have hwB : w.heap.size ≤ w3.heap.size := HPW.out.below.size
    clear hcell hb O2 O4 HB hgpl hgp
    generalize altsP [] (bts s) = xs at *
    generalize hn : xs.length = n at *
    have HN := hid hn
    clear hn
    have HWB := hid hwB
    generalize hB : w3.heap.size = B at *
    clear hB
    go_upto_block 0 with fail
    go_wp2_with fail
    go_loopw [21] (fun i wr => ∃ (k : Nat) (v : Value) (r : List (List CompL)), i = .int .i64 k ∧ k ≤ n ∧ r.length = k ∧ Hid (altsF r (xs.drop k) = altsC xs) ∧ Hid (PW w B w.heap.size g4 gp xs v r wr)) (fun i _ => n - (intOf i).toNat)
    case atStart => exact ⟨0, _, [], rfl, Nat.zero_le _, rfl, hid (by rw [List.drop_zero]; exact altsF_start xs), HPW⟩
    case round =>
      obtain ⟨k, v, r, rfl, hk, hrk, HS, HPW⟩ := hrel
      by_cases hlt : k < n
      · have hlt' : k < xs.length := by rw [HN.out]; exact hlt
        have i0 : (0 : Int) ≤ (k : Int) := by omega
        have i1 : (k : Int) < (n : Int) := by omega
        obtain ⟨y, hy, hyn⟩ := str_of xs[k]
        have cy := held_str HPW.out.held hlt' hy
        have hy96 : y.size ≤ 96 := by rw [hyn]; exact HXL.out _ (List.getElem_mem hlt')
        have HXK := hid (List.drop_eq_getElem_cons hlt')
        rw [← hy] at HXK
        have hgl := HPW.out.held.1
        clear hyn hy
        go_wp2_with fail
        refine (ssplit_comma y wr (HL.out.kb HPW.out.below) (by omega)).mono ?_
        rintro _ w4 ⟨gq, cq, rfl, hgq, hgql, hcq, hcell, hb⟩
        have HQ := hid (show Held w4 gq (splitL 44 [] (bts y)) from ⟨hgql, hcell⟩)
        have HZL := hid (fun z (hz : z ∈ splitL 44 [] (bts y)) => (show z.length ≤ 96 by have h1 := splitL_mem_len hz; rw [bts_len] at h1; omega))
        have HCP := hid (show altsF r (bts y :: xs.drop (k + 1)) = match compsP (splitL 44 [] (bts y)) with | none => none | some a => altsF (r ++ [a]) (xs.drop (k + 1)) from altsF_cons _ _ _)
        rw [← HXK.out, HS.out] at HCP
        have hzn : (splitL 44 [] (bts y)).length ≤ 97 := by have h1 := (splitL_len 44 (bts y) []).2; rw [bts_len] at h1; omega
        have HPW := hid (HPW.out.kb hb.kb)
        have hB4 := HPW.out.size
        clear hcell hb cy hgq
        generalize splitL 44 [] (bts y) = zs at *
        generalize hm : zs.length = m at *
        have HM := hid hm
        clear hm hgl
        go_upto_block 2 with fail
        go_wp2_with fail
        go_loopw [28, 7] (fun j vs ur => ∃ (q : Nat) (l : List CompL) (va : Value), j = .int .i64 q ∧ va = vs ∧ q ≤ m ∧ l.length = q ∧ Hid (compsF l (zs.drop q) = compsP zs) ∧ Hid (OwnX ur w4.heap.size va l) ∧ Hid (KB w4.heap.size w4 ur)) (fun j _ _ => m - (intOf j).toNat)
        case atStart => exact ⟨0, [], _, rfl, rfl, Nat.zero_le _, rfl, hid (by rw [List.drop_zero]; exact compsF_start zs), hid .nil, hid (kb_refl _)⟩
        case round =>
          rename World => ur
          obtain ⟨q, l, va, rfl, rfl, hq, hlq, HCF, HOX, HBU⟩ := hrel
          by_cases hlq2 : q < m
          · have hlq' : q < zs.length := by rw [HM.out]; exact hlq2
            have j0 : (0 : Int) ≤ (q : Int) := by omega
            have j1 : (q : Int) < (m : Int) := by omega
            obtain ⟨z, hz, hzn⟩ := str_of zs[q]
            have HQU := hid (HQ.out.kb HBU.out)
            have cz := held_str HQU.out hlq' hz
            have hz96 : z.size ≤ 96 := by rw [hzn]; exact HZL.out _ (List.getElem_mem hlq')
            have HZK := hid (List.drop_eq_getElem_cons hlq')
            rw [← hz] at HZK
            have HCC := hid (compsF_cons l (bts z) (zs.drop (q + 1)))
            rw [← HZK.out, HCF.out] at HCC
            have hgl := HQU.out.1
            clear hzn hz
            go_wp2_with fail
            refine (strim_any z ur (by omega)).mono ?_
            rintro _ u1 ⟨t, rfl, ht, hb1⟩
            have HBU1 := hid (kb_tr HBU.out hb1.kb)
            have HOX1 := hid (HOX.out.below hb1)
            have ht96 : t.size ≤ 96 := by have h1 := trimB_len (bts z) 32; rw [← ht, bts_len, bts_len] at h1; omega
            have HXP := hid (xparse_any t u1 ((HL.out.kb HPW.out.below).kb HBU1.out) (by omega))
            rw [ht] at HXP
            clear ht hb1 cz
            cases ho : parseX (Lib.trimB (bts z) 32) with
            | none =>
              rw [ho] at HXP HCC
              clear ho
              have HNO : Hid (parseG (bts s) = ([], 6)) := hid (HPN.out (by rw [HCP.out, HCC.out]))
              go_wp2_with fail
              refine HXP.out.mono ?_
              rintro _ u2 ⟨cc, rfl, -, hb2⟩
              dsimp only [Option.isSome_none]
              have HPU := hid (HPW.out.kb (kb_tr HBU1.out hb2.kb))
              clear hb2 HXP
              go_upto_if 39 with fail
              refine wp_name ?_
              intro u3 hu3
              have HPU := hid (show PW w B w.heap.size g4 gp xs v r u3 by rw [hu3]; exact HPU.out.kb (kb_new _ (.cells cc.cells.toArray 52)))
              clear hu3
              have y0 := HPU.out.o2.box.2 0 _ rfl
              have sf : ∀ j, u3.frozen? ⟨w.heap.size, j, none⟩ = false := HPU.out.o2.soft
              have yl := HPU.out.o2.box.1
              go_wp2_with fail
              refine body_name ?_
              intro w9 hw9
              have O9 : Own w.heap.size w9 w.heap.size [.slice none 0 0] := by rw [hw9]; exact HPU.out.o2.put (j := 0) (by simp) _
              have B9 : KB w.heap.size w w9 := by rw [hw9]; exact kb_put HPU.out.below (Nat.le_refl _) _
              clear hw9
              have k0 := O9.box.2 0 _ rfl
              refine bodyPost_ret (v := .tuple #[rangeV none 0 0, .int .i64 6]) (by simp [results, Tryz.results22, go_sem, k0]) rfl ?_
              rw [show parseG (bts s) = ([], 6) from HNO.out]
              exact gpost_err B9
            | some x =>
              rw [ho] at HXP HCC
              clear ho
              go_wp2_with fail
              refine HXP.out.mono ?_
              rintro _ u2 ⟨cc, rfl, hcc, hb2⟩
              obtain rfl : cc = x := hcc x rfl
              dsimp only [Option.isSome_some]
              have HBU2 := hid (kb_tr HBU1.out hb2.kb)
              have HOX2 := hid (HOX1.out.below hb2)
              clear hb2 HXP hcc
              go_upto_if 39 with fail
              refine wp_name ?_
              intro u3 hu3
              have HX3 := hid (show Box u3 u2.heap.size cc.cells by rw [hu3]; exact Box.new u2 cc.cells 52)
              have HOX3 := hid (show OwnX u3 w4.heap.size va l by rw [hu3]; exact HOX2.out.below (below_new _ _))
              have HBU3 := hid (show KB w4.heap.size w4 u3 by rw [hu3]; exact kb_tr HBU2.out (kb_new _ _))
              clear hu3
              obtain ⟨x0, x1, x2, x3, x4, x5, x6⟩ := HX3.out.get7
              have xl := HX3.out.1
              have hsz := HBU3.out.size
              have hl97 : l.length ≤ 97 := by omega
              go_wp2_with (first | (at_builtin; refine wpList_app1g EKcomps rfl (.tmp 41) (.tmp 43) rfl (CompL.cells cc) HOX3.out rfl rfl rfl (oneX _) (by unfold maxLen; omega) (by omega) hsz ?_; intro v' w' h2 h3 h4))
              go_roundw
              case rel => exact ⟨q + 1, l ++ [cc], _, by go_num, rfl, by omega, by rw [List.length_append, hlq]; rfl, hid HCC.out.symm, hid (OwnL.snoc h2), hid (Go.RowKit.Below.trans HBU3.out h3.kb)⟩
              case measure => simp [intOf]; omega
          · obtain rfl : q = m := by omega
            have HCE : Hid (compsP zs = some l) := hid (by
              have := HCF.out
              rw [List.drop_eq_nil_of_le (by rw [HM.out]; exact Nat.le_refl _), compsF_end] at this
              exact this.symm)
            subst hlq
            subst hrk
            have hge : ¬ (l.length : Int) < (l.length : Int) := by omega
            rw [HCE.out] at HCP
            obtain ⟨Aa, ca, rfl, hcs, hab, -⟩ := OwnL.lies cells7 HOX.out
            have HPU := hid (HPW.out.kb HBU.out)
            have HCS := hid hcs
            have HAB : Hid (∀ ad, Aa = some ad → B ≤ ad.block ∧ v.ownBlock ≠ some ad.block) := hid (fun ad had => by
              have h1 := (hab ad had).1
              refine ⟨by omega, fun e => ?_⟩
              obtain ⟨hs, -, h2, -⟩ := HPW.out.heads
              have := (h2.lt _ e).2
              omega)
            obtain ⟨hs, e1, e2, e3⟩ := HPU.out.heads
            have HE1 := hid e1
            have HE2 := hid e2
            have HE3 := hid e3
            clear hcs hab HOX e1 e2 e3
            have y0 := HPU.out.o4.box.2 0 _ rfl
            have sf : ∀ j, ur.frozen? ⟨g4, j, none⟩ = false := HPU.out.o4.soft
            have yl := HPU.out.o4.box.1
            have hsz := HPU.out.size
            have hr97 : r.length ≤ 97 := by omega
            have HL4 := hid HPU.out.lo4
            go_wp2_with (first | (at_builtin; refine wpList_app1y EKheads rfl (.tmp 47) (.tmp 49) rfl [.slice Aa l.length ca] HE2.out rfl rfl rfl (one1 _ rfl) (by unfold maxLen; omega) (by omega) hsz ?_; intro v' w' h2 h3 h4 h5; obtain ⟨A9, c9, rfl⟩ := own_slice h2; have HNX := hid (HPU.out.next HE1.out HE3.out h2 h3.kb h4 h5 HCS.out (fun _ => HAB.out) HWB.out); have HO4 := hid (HPU.out.o4.kbB HL4.out h3.kb); clear h2 h3 h4 h5 y0 sf yl; have y0 := HO4.out.box.2 0 _ rfl; have sf : ∀ j, w'.frozen? ⟨g4, j, none⟩ = false := HO4.out.soft; have yl := HO4.out.box.1))
            go_roundw
            case rel => exact ⟨r.length + 1, _, r ++ [l], by go_num, by omega, by rw [List.length_append]; rfl, hid HCP.out.symm, HNX⟩
            case measure => simp [intOf]; omega
      · obtain rfl : k = n := by omega
        subst hrk
        have hge : ¬ (r.length : Int) < (r.length : Int) := by omega
        have HAE : Hid (altsC xs = some r) := hid (by
          have := HS.out
          rw [List.drop_eq_nil_of_le (by rw [HN.out]; exact Nat.le_refl _), altsF_end] at this
          exact this.symm)
        have HPR := hid (HPS.out r HAE.out)
        have HRF := hid (altsC_fit (fun x hx => by have := HXL.out x hx; omega) HAE.out)
        have HRL := hid (altsC_len (B := 96) (fun x hx => HXL.out x hx) HAE.out)
        obtain ⟨A, c, rfl, hal⟩ := HPW.out.heads.alts
        have HAL := hid hal
        have y0 := HPW.out.o4.box.2 0 _ rfl
        have yl := HPW.out.o4.box.1
        clear hal
        have HFW := hid (text_any A c r wr (HL.out.kb HPW.out.below) HAL.out HRF.out (by omega) (fun a ha => by have := HRL.out.2 a ha; omega))
        go_wp2_with fail
        refine HFW.out.mono ?_
        rintro _ u1 ⟨tt, rfl, -, hb1⟩
        have HPU := hid (HPW.out.kb hb1)
        have HAL := hid (HAL.out.kb hb1)
        clear hb1 y0 yl
        cases hfe : fewG r
        · rw [hfe] at HPR
          have y0 := HPU.out.o2.box.2 0 _ rfl
          have sf : ∀ j, u1.frozen? ⟨w.heap.size, j, none⟩ = false := HPU.out.o2.soft
          have yl := HPU.out.o2.box.1
          go_wp2_with fail
          refine body_name ?_
          intro w9 hw9
          have O9 : Own w.heap.size w9 w.heap.size [.slice none 0 0] := by rw [hw9]; exact HPU.out.o2.put (j := 0) (by simp) _
          have B9 : KB w.heap.size w w9 := by rw [hw9]; exact kb_put HPU.out.below (Nat.le_refl _) _
          clear hw9
          have k0 := O9.box.2 0 _ rfl
          refine bodyPost_ret (v := .tuple #[rangeV none 0 0, .int .i64 6]) (by simp [results, Tryz.results22, go_sem, k0]) rfl ?_
          rw [show parseG (bts s) = ([], 6) from HPR.out]
          exact gpost_err B9
        · rw [hfe, if_pos rfl] at HPR
          have HTX := hid (may7_any A c r u1 (HL.out.kb HPU.out.below) HAL.out HRF.out (by omega) (fun a ha => by have := HRL.out.2 a ha; omega))
          have HMG := hid (show mayG r = (fewG r && decide ((rangeT r).length ≤ 96)) from rfl)
          rw [hfe, Bool.true_and] at HMG
          clear hfe
          have y4 := HPU.out.o4.box.2 0 _ rfl
          have yl4 := HPU.out.o4.box.1
          go_wp2_with fail
          refine HTX.out.mono ?_
          rintro _ u2 ⟨rfl, hb2⟩
          have HPU := hid (HPU.out.kb hb2)
          have HAL := hid (HAL.out.kb hb2)
          rw [HMG.out]
          clear hb2 y4 yl4 HMG
          have y0 := HPU.out.o2.box.2 0 _ rfl
          have sf : ∀ j, u2.frozen? ⟨w.heap.size, j, none⟩ = false := HPU.out.o2.soft
          have yl := HPU.out.o2.box.1
          have y4 := HPU.out.o4.box.2 0 _ rfl
          have yl4 := HPU.out.o4.box.1
          generalize (rangeT r).length = tl at *
          by_cases ht96 : tl ≤ 96
          · rw [if_pos ht96] at HPR
            have hde : decide (tl ≤ 96) = true := decide_eq_true ht96
            rw [hde]
            go_wp2_with fail
            refine body_name ?_
            intro w9 hw9
            have O9 : Own w.heap.size w9 w.heap.size [.slice A r.length c] := by rw [hw9]; exact HPU.out.o2.put (j := 0) (by simp) _
            have B9 : KB w.heap.size w w9 := by rw [hw9]; exact kb_put HPU.out.below (Nat.le_refl _) _
            have A9 : Alts w9 A r := by
              rw [hw9]
              obtain ⟨A', c', e, h⟩ := (HPU.out.heads.put (j := 0) HPU.out.lo2 (.slice A r.length c)).alts
              injection e with e
              rw [← e] at h; exact h
            clear hw9
            have k0 := O9.box.2 0 _ rfl
            refine bodyPost_ret (v := .tuple #[rangeV A r.length c, .int .i64 0]) (by simp [results, Tryz.results22, go_sem, k0]) rfl ?_
            rw [show parseG (bts s) = (r, 0) from HPR.out]
            exact ⟨A, c, rfl, A9, B9⟩
          · rw [if_neg ht96] at HPR
            have hde : decide (tl ≤ 96) = false := decide_eq_false ht96
            rw [hde]
            go_wp2_with fail
            refine body_name ?_
            intro w9 hw9
            have O9 : Own w.heap.size w9 w.heap.size [.slice none 0 0] := by rw [hw9]; exact HPU.out.o2.put (j := 0) (by simp) _
            have B9 : KB w.heap.size w w9 := by rw [hw9]; exact kb_put HPU.out.below (Nat.le_refl _) _
            clear hw9
            have k0 := O9.box.2 0 _ rfl
            refine bodyPost_ret (v := .tuple #[rangeV none 0 0, .int .i64 3]) (by simp [results, Tryz.results22, go_sem, k0]) rfl ?_
            rw [show parseG (bts s) = ([], 3) from HPR.out]
            exact gpost_err B9
end Go.Proofs.YtplmlahpmnjneaaGreatDoor
