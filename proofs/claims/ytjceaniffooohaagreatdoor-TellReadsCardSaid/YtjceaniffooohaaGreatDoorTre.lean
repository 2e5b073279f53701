/- Contracts: linchpinref8.words, rows. -/
import Derived.Test.YtjceaniffooohaaGreatDoorTrd
namespace Go.Proofs.YtjceaniffooohaaGreatDoor
open Go.RowKit Go.Lib
open Rw
set_option linter.unusedVariables false
set_option linter.unusedSimpArgs false

theorem words_any (s : ByteArray) (w : World) (hs : s.size ≤ 4398046511104) : Calls Tryz.prog 127 #[.string s] w (Parts w (splitL 32 [] (bts s))) := by
  have HP := hid (rsplit_any s 32 w hs)
  go_enter Tryz.func127, Tryz.ntmps127
  go_wp2_with fail
  refine HP.out.mono ?_
  rintro _ w1 ⟨g, cap, rfl, hg, hgl, hcap, hcell, hb⟩
  have H := hid (And.intro hg (And.intro hgl (And.intro hcap (And.intro hcell hb))))
  clear hg hgl hcap hcell hb
  go_wp2_with fail
  go_ret
  exact ⟨g, cap, rfl, H.out⟩
/-! ### Plain -/
theorem splitL_mem (b : UInt8) : ∀ (l cur : List UInt8), ∀ p ∈ splitL b cur l, p.length ≤ cur.length + l.length
  | [], cur, p, hp => by simp [splitL] at hp; subst hp; omega
  | c :: r, cur, p, hp => by
    unfold splitL at hp
    split at hp
    · rcases List.mem_cons.1 hp with e | e
      · subst e; omega
      · have := splitL_mem b r [] p e; simp at this ⊢; omega
    · have := splitL_mem b r (cur ++ [c]) p hp; simp at this ⊢; omega
theorem rcut_fit {x : List UInt8} {f : Bool} {c : CutL} (h : rcutP x f = some c) (hx : x.length ≤ 4398046511103) : c.fit := by
  rw [rcutP] at h
  cases hp : Lib.hasPrefix x [if f then 62 else 60]
  · rw [hp] at h; cases h
  · rw [hp] at h
    simp only [Bool.not_true, Bool.false_eq_true, if_false] at h
    cases hv : parseV (Lib.trimPrefix (x.drop 1) [61]) with
    | none => rw [hv] at h; cases h
    | some v =>
      rw [hv] at h
      injection h with h
      subst h
      refine parse_fit hv ?_
      have := trim_len (x.drop 1) [61]
      rw [List.length_drop] at this
      omega
theorem rone_fit {ls : List (List UInt8)} {s : SpanL} (h : roneP ls = some s) (hz : ∀ x ∈ ls, x.length ≤ 4398046511103) : s.fit := by
  cases ls with
  | nil => cases h
  | cons w0 r =>
    by_cases hst : r = [] ∧ w0 = [42]
    · rw [roneP, if_pos hst] at h
      injection h with h; subst h; exact fit_full
    · rw [rone_no hst] at h
      cases h1 : rcutP w0 true with
      | none =>
        rw [h1] at h
        simp only at h
        unfold lastO at h
        split at h
        · cases h
        · rename_i d hd
          split at h
          · injection h with h; subst h
            exact ⟨firstC_fit, rcut_fit hd (hz _ (by simp))⟩
          · cases h
      | some c =>
        rw [h1] at h
        simp only at h
        cases r with
        | nil => injection h with h; subst h; exact ⟨rcut_fit h1 (hz _ (by simp)), fit_full.2⟩
        | cons u q =>
          simp only [nextO] at h
          unfold lastO at h
          split at h
          · cases h
          · rename_i d hd
            split at h
            · injection h with h; subst h
              exact ⟨rcut_fit h1 (hz _ (by simp)), rcut_fit hd (hz _ (by simp))⟩
            · cases h
/-- the rounds: the words from fr to k are at hand, the rest is to come -/
structure RowSt (ws : List (List UInt8)) (k fr : Nat) (l : List SpanL) (R : Option (List SpanL)) : Prop where
  run : k ≤ ws.length → rrowsW ((ws.take k).drop fr) (ws.drop k) l = R
  done : k = ws.length + 1 → some l = R
  le : fr ≤ k
  len : l.length ≤ fr
  fit : fitL l
theorem RowSt.start (ws : List (List UInt8)) : RowSt ws 0 0 [] (rrowsW [] ws []) := ⟨fun _ => by simp, fun h => by omega, Nat.le_refl _, Nat.le_refl _, fun i hi => by simp at hi⟩
theorem take_step {ws : List (List UInt8)} {k fr : Nat} (hk : k < ws.length) (hf : fr ≤ k) : (ws.take (k + 1)).drop fr = (ws.take k).drop fr ++ [ws[k]] := by
  rw [List.take_succ_eq_append_getElem hk, List.drop_append_of_le_length (by rw [List.length_take]; omega)]
theorem RowSt.word {ws : List (List UInt8)} {k fr : Nat} {l : List SpanL} {R : Option (List SpanL)} (h : RowSt ws k fr l R) (hk : k < ws.length) (hw : ws[k] ≠ [111, 114]) : RowSt ws (k + 1) fr l R := by
  refine ⟨fun _ => ?_, fun e => by omega, by have := h.le; omega, h.len, h.fit⟩
  have h1 := h.run (by omega)
  rw [List.drop_eq_getElem_cons hk, rrowsW, if_neg hw] at h1
  rw [take_step hk h.le]; exact h1
theorem RowSt.none_at {ws : List (List UInt8)} {k : Nat} {l : List SpanL} {R : Option (List SpanL)} (h : RowSt ws k k l R) (hk : k ≤ ws.length) (hw : ∀ hl : k < ws.length, ws[k] = [111, 114]) : R = none := by
  have h1 := h.run hk
  have e : (ws.take k).drop k = [] := List.drop_eq_nil_of_le (by rw [List.length_take]; omega)
  rw [e] at h1
  rcases Nat.lt_or_ge k ws.length with hl | hl
  · rw [List.drop_eq_getElem_cons hl, rrowsW, if_pos (hw hl), if_pos rfl] at h1; exact h1.symm
  · rw [List.drop_eq_nil_of_le hl, rrowsW, if_pos rfl] at h1; exact h1.symm
theorem cur_ne {ws : List (List UInt8)} {k fr : Nat} (hk : k ≤ ws.length) (hf : fr < k) : (ws.take k).drop fr ≠ [] := by
  intro e
  have := congrArg List.length e
  rw [List.length_drop, List.length_take, List.length_nil] at this
  omega
theorem RowSt.bad {ws : List (List UInt8)} {k fr : Nat} {l : List SpanL} {R : Option (List SpanL)} (h : RowSt ws k fr l R) (hk : k ≤ ws.length) (hf : fr < k) (hw : ∀ hl : k < ws.length, ws[k] = [111, 114]) (ho : roneP ((ws.take k).drop fr) = none) : R = none := by
  have h1 := h.run hk
  have hne := cur_ne hk hf
  rcases Nat.lt_or_ge k ws.length with hl | hl
  · rw [List.drop_eq_getElem_cons hl, rrowsW, if_pos (hw hl), if_neg hne, ho] at h1; exact h1.symm
  · rw [List.drop_eq_nil_of_le hl, rrowsW, if_neg hne, ho] at h1; exact h1.symm
theorem RowSt.good {ws : List (List UInt8)} {k fr : Nat} {l : List SpanL} {R : Option (List SpanL)} {x : SpanL} (h : RowSt ws k fr l R) (hk : k ≤ ws.length) (hf : fr < k) (hw : ∀ hl : k < ws.length, ws[k] = [111, 114]) (ho : roneP ((ws.take k).drop fr) = some x) (hx : x.fit) : RowSt ws (k + 1) (k + 1) (l ++ [x]) R := by
  have h1 := h.run hk
  have hne := cur_ne hk hf
  refine ⟨fun h2 => ?_, fun h2 => ?_, Nat.le_refl _, by have := h.len; simp; omega, fitL_snoc h.fit hx⟩
  · have hl : k < ws.length := by omega
    rw [List.drop_eq_getElem_cons hl, rrowsW, if_pos (hw hl), if_neg hne, ho] at h1
    have e : (ws.take (k + 1)).drop (k + 1) = [] := List.drop_eq_nil_of_le (by rw [List.length_take]; omega)
    rw [e]; exact h1
  · rw [List.drop_eq_nil_of_le (show ws.length ≤ k by omega), rrowsW, if_neg hne, ho] at h1; exact h1
theorem HeldO.sub {w : World} {g : Nat} {ws : List (List UInt8)} {k fr : Nat} (h : HeldO w g 0 ws) (hk : k ≤ ws.length) : HeldO w g fr ((ws.take k).drop fr) := by
  refine ⟨h.1, fun j hj => ?_⟩
  rw [List.length_drop, List.length_take] at hj
  have := h.2 (fr + j) (by omega)
  rw [Nat.zero_add] at this
  rw [this]
  congr 3
  rw [List.getD_eq_getElem?_getD, List.getD_eq_getElem?_getD, List.getElem?_drop, List.getElem?_take, if_pos (by omega)]
set_option maxRecDepth 100000 in
set_option maxHeartbeats 4000000 in
theorem rrows8_any (s : ByteArray) (w : World) (hs : s.size ≤ 30000) : Calls Tryz.prog 77 #[.string s] w (RowsPost w (rrowP (bts s))) := by
  by_cases h45 : bts s = [45]
  · have HR := hid (show rrowP (bts s) = some [] by rw [rrowP, if_pos h45])
    rw [HR.out]
    have h45b : (s.toList == [45]) = true := by simpa using h45
    clear h45
    go_enter Tryz.func77, Tryz.ntmps77
    go_wp2_with fail
    go_ret2
    exact ⟨none, 0, rfl, ⟨Spans.nil, fun ad h => (by cases h)⟩, fun i hi => (by simp at hi), by simp, Below.refl _ _⟩
  · have HR := hid (show rrowP (bts s) = rrowsW [] (splitL 32 [] (bts s)) [] by rw [rrowP, if_neg h45])
    have h45b : (s.toList == [45]) = false := by simpa using h45
    clear h45
    have HZ := hid (show ∀ x ∈ splitL 32 [] (bts s), x.length ≤ 4398046511103 from fun x hx => by
      have := splitL_mem 32 (bts s) [] x hx
      rw [bts_len] at this
      simp at this
      omega)
    have hwl := (splitL_len 32 (bts s) []).2
    rw [bts_len] at hwl
    have HWD := hid (words_any s w (by omega))
    generalize splitL 32 [] (bts s) = ws at *
    generalize hrr : rrowP (bts s) = R
    have HRR := hid (HR.out.symm.trans hrr)
    clear hrr HR
    generalize hn : ws.length = n at *
    have HN := hid hn
    clear hn
    go_enter Tryz.func77, Tryz.ntmps77
    go_wp2_with fail
    refine HWD.out.mono ?_
    rintro _ w1 ⟨g, cap, rfl, hg, hgl, hcap, hcell, hb⟩
    rw [HN.out] at hcap
    rw [HN.out]
    have HH := hid (show HeldO w1 g 0 ws from ⟨hgl, fun j hj => by rw [Nat.zero_add]; exact hcell j hj⟩)
    have HB := hid hb
    have HGL := hid hgl
    clear hg hgl hcell hb h45b HWD
    go_wp2_with fail
    go_loopw [7, 6, 4] (fun i f o wr => ∃ (k fr : Nat) (v : Value) (l : List SpanL), i = .int .i64 k ∧ f = .int .i64 fr ∧ v = o ∧ fr ≤ k ∧ k ≤ n + 1 ∧ l.length ≤ fr ∧ Hid (RowSt ws k fr l R) ∧ Hid (OwnS wr w1.heap.size v l) ∧ Below w1.heap.size w1 wr) (fun i _ _ _ => n + 1 - (intOf i).toNat)
    case atStart => exact ⟨0, 0, _, [], rfl, rfl, rfl, Nat.le_refl _, Nat.zero_le _, Nat.le_refl _, hid (by rw [← HRR.out]; exact RowSt.start ws), hid (OwnS.nil _ _), Below.refl _ _⟩
    case round =>
      obtain ⟨k, fr, v, l, rfl, rfl, rfl, hfk, hkn, hlf, HST, HO, hbr⟩ := hrel
      by_cases hk1 : k = n + 1
      · have HDONE := hid (HST.out.done (by rw [HN.out]; exact hk1))
        obtain ⟨A, cap2, hv, hspn⟩ := own_spanB HO.out
        subst hv
        have HSPN := hid hspn
        have hkgt : (n : Int) < (k : Int) := by omega
        clear hspn
        go_wp2_with fail
        go_ret2
        rw [← HDONE.out]
        exact ⟨A, cap2, rfl, ⟨HSPN.out.1, fun ad h => by have := HSPN.out.2 ad h; have h2 := HB.out.size; omega⟩, HST.out.fit, by simp only [Option.getD_some]; omega, below_tr HB.out hbr⟩
      · have hkle : k ≤ n := by omega
        have hki : (k : Int) ≤ (n : Int) := by omega
        have HHR := hid (HH.out.below hbr)
        obtain ⟨bw, hbw⟩ : ∃ bw : Bool, (bw = true ↔ ∃ hl : k < ws.length, ws[k] ≠ [111, 114]) := by
          by_cases e : ∃ hl : k < ws.length, ws[k] ≠ [111, 114]
          · exact ⟨true, by simp [e]⟩
          · exact ⟨false, by simp only [Bool.false_eq_true, false_iff]; exact e⟩
        have HBW := hid hbw
        clear hbw
        have hgw := HHR.out.1
        go_upto_region 9 with fail
        go_cut [30] from 14 to 49 (fun b wx => b = .bool bw ∧ wx = wr)
        case first =>
          by_cases hlt : k < n
          · have hlt' : k < ws.length := by rw [HN.out]; exact hlt
            have cx := HHR.out.2 k hlt'
            rw [Nat.zero_add, List.getD_eq_getElem?_getD, List.getElem?_eq_getElem hlt', Option.getD_some] at cx
            have hki2 : (k : Int) < (n : Int) := by omega
            have hk0 : (0 : Int) ≤ (k : Int) := by omega
            have HSX := hid (show (strB ws[k]).toList = ws[k] from bts_strB _)
            by_cases hor : ws[k] = [111, 114]
            · have d1 : ((strB ws[k]).toList == [111, 114]) = true := by rw [HSX.out, hor]; rfl
              have hE := hid (show bw = false by
                rw [Bool.eq_false_iff]
                intro e
                obtain ⟨_, h2⟩ := HBW.out.1 e
                exact h2 hor)
              clear hor
              generalize ws[k] = x at *
              go_wp2_with fail
              go_meet
              case rel => exact ⟨by rw [hE.out], rfl⟩
            · have d1 : ((strB ws[k]).toList == [111, 114]) = false := by rw [HSX.out]; simpa using hor
              have hE := hid (show bw = true from HBW.out.2 ⟨hlt', hor⟩)
              clear hor
              generalize ws[k] = x at *
              go_wp2_with fail
              go_meet
              case rel => exact ⟨by rw [hE.out], rfl⟩
          · have hE := hid (show bw = false by
              rw [Bool.eq_false_iff]
              intro e
              obtain ⟨h1, _⟩ := HBW.out.1 e
              rw [HN.out] at h1
              exact hlt h1)
            have hkge : ¬ (k : Int) < (n : Int) := by omega
            go_wp2_with fail
            go_meet
            case rel => exact ⟨by rw [hE.out], rfl⟩
        case rest =>
          obtain ⟨rfl, hwx⟩ := hcut
          subst hwx
          cases bw
          · have HW := hid (show ∀ hl : k < ws.length, ws[k] = [111, 114] from fun hl => by
              apply Decidable.byContradiction
              intro e
              have := HBW.out.2 ⟨hl, e⟩
              cases this)
            by_cases hkf : k = fr
            · subst hkf
              have HNO := hid (show R = none from HST.out.none_at (by rw [HN.out]; exact hkle) HW.out)
              go_wp2_with fail
              go_ret2
              rw [HNO.out]
              exact rows_none (below_tr HB.out hbr)
            · have hf : fr < k := by omega
              have hlen : ((ws.take k).drop fr).length = k - fr := by rw [List.length_drop, List.length_take, HN.out]; omega
              have hkw : k ≤ ws.length := by rw [HN.out]; exact hkle
              have HZC := hid (show ∀ x ∈ (ws.take k).drop fr, x.length ≤ 4398046511103 from fun x hx => HZ.out x (List.mem_of_mem_take (List.mem_of_mem_drop hx)))
              have HONE := hid (fun u (h : Below w1.heap.size w1 u) => rone_any g fr (cap - fr) ((ws.take k).drop fr) u ((HH.out.below h).sub hkw) (cur_ne hkw hf) (by rw [hlen]; omega) HZC.out (by rw [hlen]; omega))
              rw [hlen] at HONE
              have HGOOD := hid (fun (x : SpanL) (h : roneP ((ws.take k).drop fr) = some x) => HST.out.good (x := x) hkw hf HW.out h (rone_fit h HZC.out))
              have HBAD := hid (fun (h : roneP ((ws.take k).drop fr) = none) => HST.out.bad hkw hf HW.out h)
              clear hlen hkw
              generalize roneP ((ws.take k).drop fr) = oo at *
              have i0 : (0 : Int) ≤ (fr : Int) := by omega
              have i1 : (fr : Int) ≤ (k : Int) := by omega
              have i2 : (k : Int) ≤ (cap : Int) := by omega
              have hcf : cap ≠ fr := by omega
              have hkf2 : ((k : Int) == (fr : Int)) = false := by simp; omega
              go_wp2_with fail
              all_goals first | (exfalso; omega) | skip
              refine (HONE.out _ hbr).mono ?_
              rintro _ w2 ⟨x, rfl, hx, hb⟩
              have HBR := hid (below_tr hbr hb)
              have HO2 := hid (HO.out.below hb)
              have HX := hid hx
              clear hb hx
              cases oo with
              | none =>
                have HNO := hid (HBAD.out rfl)
                dsimp only [Option.isSome_none]
                go_wp2_with fail
                go_ret2
                rw [HNO.out]
                exact rows_none (below_tr HB.out (below_tr HBR.out (below_new _ _)))
              | some x2 =>
                obtain rfl := HX.out x2 rfl
                have HG := hid (HGOOD.out x rfl)
                dsimp only [Option.isSome_some]
                go_upto_region 15 with fail
                refine wp_name ?_
                intro w3 hw3
                have HO3 := hid (show OwnS w3 w1.heap.size v l by rw [hw3]; exact HO2.out.below (below_new _ _))
                have O8 := hid (show Own w1.heap.size w3 w2.heap.size x.cells by rw [hw3]; exact Own.new w2 x.cells 83 HBR.out.size)
                have HBR3 := hid (show Below w1.heap.size w1 w3 by rw [hw3]; exact below_tr HBR.out (below_new _ _))
                clear hw3
                obtain ⟨⟨y0, y1, y2, y3, y4, y5, y6⟩, ⟨y7, y8, y9, y10, y11, y12, y13⟩⟩ := O8.out.box.get14
                have hlt8 := O8.out.box.1
                have hsz := hid HBR3.out.size
                go_wp2_with (first | (at_builtin; refine wpList_app1g EKspans rfl (.tmp 44) (.tmp 46) rfl (SpanL.cells x) HO3.out rfl rfl rfl (oneS1 _) (by unfold maxLen; omega) (by omega) hsz.out ?_; intro v' w' h2 h3 h4))
                go_roundw
                case rel =>
                  exact ⟨k + 1, k + 1, v', l ++ [x], by go_num, by go_num, rfl, Nat.le_refl _, by omega, by simp; omega, HG, hid (OwnS.app h2), HBR3.out.trans h3⟩
                case measure => simp [intOf]; omega
          · have HW := hid (HBW.out.1 rfl)
            have hlt : k < n := by obtain ⟨h1, _⟩ := HW.out; rw [HN.out] at h1; exact h1
            go_wp2_with fail
            go_roundw
            case rel =>
              obtain ⟨h1, h2⟩ := HW.out
              exact ⟨k + 1, fr, v, l, by go_num, rfl, rfl, by omega, by omega, hlf, hid (HST.out.word h1 h2), HO, hbr⟩
            case measure => simp [intOf]; omega
end Go.Proofs.YtjceaniffooohaaGreatDoor
