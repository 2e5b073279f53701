/- Contracts: linchpinref8.Parse. -/
import Derived.Test.YtjceaniffooohaaGreatDoorTre
import Derived.Test.YtjceaniffooohaaGreatDoorTza
namespace Go.Proofs.YtjceaniffooohaaGreatDoor
open Go.RowKit Go.Lib
open Rw
set_option linter.unusedVariables false
set_option linter.unusedSimpArgs false

theorem occ_past {s sub : List UInt8} {j : Nat} (h0 : 0 < sub.length) (h : s.length < j + sub.length) : Lib.occAt s sub j = false := by
  rw [Bool.eq_false_iff]; intro ho
  unfold Lib.occAt at ho
  rw [List.isPrefixOf_iff_prefix] at ho
  have := ho.length_le
  rw [List.length_drop] at this
  omega
theorem occ_three (s : ByteArray) (k : Nat) (hk : k + 3 ≤ s.size) : Lib.occAt (bts s) slB k = ((s.extract k (k + 3)).toList == [32, 47, 32]) := by
  have e : (s.extract k (k + 3)).toList = ((bts s).drop k).take 3 := by
    have := bts_extract s k (k + 3)
    rw [show k + 3 - k = 3 by omega] at this
    exact this
  rw [e, Bool.eq_iff_iff, Lib.occAt, List.isPrefixOf_iff_prefix, beq_iff_eq]
  constructor
  · rintro ⟨t, ht⟩
    rw [← ht]; rfl
  · intro h
    refine ⟨((bts s).drop k).drop 3, ?_⟩
    have := List.take_append_drop 3 ((bts s).drop k)
    rw [h] at this
    exact this
theorem cut_found {s : List UInt8} {k : Nat} (hk : k ≤ s.length) (ho : Lib.occAt s slB k = true) (hn : ∀ j, j < k → Lib.occAt s slB j = false) : Lib.cut s slB = (s.take k, s.drop (k + 3), true) := by
  have h := Lib.index_first hk ho hn
  unfold Lib.cut
  rw [h, if_pos (by omega), Int.toNat_natCast]; rfl
theorem cut_nowhere {s : List UInt8} (hn : ∀ j, Lib.occAt s slB j = false) : Lib.cut s slB = (s, [], false) := by
  have h := Lib.index_none (s := s) (sub := slB) (fun j _ => hn j)
  unfold Lib.cut
  rw [h, if_neg (by omega)]
def setO (o1 o2 : Option (List SpanL)) (s : List UInt8) : Option (List SpanL × List SpanL) := match o1 with
  | none => none
  | some l => match o2 with
    | none => none
    | some m => if s ≠ [] ∧ setT l m = s then some (l, m) else none
theorem rset_form (s : List UInt8) : setP s = setO (rrowP (Lib.cut s slB).1) (rpreP (Lib.cut s slB).2.1) s := by rw [← rsetP_eq]; rfl
theorem rrows_len : ∀ (ws cur : List (List UInt8)) (out l : List SpanL), rrowsW cur ws out = some l → l.length ≤ out.length + ws.length + 1
  | [], cur, out, l, h => by
    rw [rrowsW] at h
    split at h
    · cases h
    · split at h
      · cases h
      · injection h with h; subst h; simp
  | w :: r, cur, out, l, h => by
    rw [rrowsW] at h
    split at h
    · split at h
      · cases h
      · split at h
        · cases h
        · have := rrows_len r [] _ l h; simp at this ⊢; omega
    · have := rrows_len r _ out l h; simp; omega
theorem rrow_len {s : List UInt8} {l : List SpanL} (h : rrowP s = some l) : l.length ≤ s.length + 2 := by
  unfold rrowP at h
  split at h
  · injection h with h; subst h; simp
  · have := rrows_len _ _ _ _ h
    have h2 := (splitL_len 32 s []).2
    simp at this
    omega
theorem rrow_getD (s : List UInt8) : ((rrowP s).getD []).length ≤ s.length + 2 := by
  cases h : rrowP s with
  | none => simp
  | some l => simpa using rrow_len h
theorem rpre_getD (s : List UInt8) : ((rpreP s).getD []).length ≤ s.length + 2 := by
  unfold rpreP
  split
  · simp
  · exact rrow_getD s
theorem bslash : bts (⟨#[32, 47, 32]⟩ : ByteArray) = [32, 47, 32] := bts_lit [32, 47, 32]
set_option maxRecDepth 100000 in
set_option maxHeartbeats 4000000 in
theorem rparse8_any (s : ByteArray) (w : World) (hs : s.size ≤ 30000) : Calls Tryz.prog 44 #[.string s] w (TellPost w (setP (bts s))) := by
  have HSF := hid (rset_form (bts s))
  generalize hso : setP (bts s) = so
  rw [hso] at HSF
  clear hso
  have HCUT0 : Hid (∃ p q : List UInt8, (Lib.cut (bts s) slB).1 = p ∧ (Lib.cut (bts s) slB).2.1 = q) := hid ⟨_, _, rfl, rfl⟩
  obtain ⟨p, q, hp, hq⟩ := HCUT0.out
  rw [hp, hq] at HSF
  have HCP := hid hp
  have HCQ := hid hq
  clear hp hq HCUT0
  go_enter Tryz.func44, Tryz.ntmps44
  go_upto_block 0 with fail
  refine wp_name ?_
  intro w1 hw1
  have O1 := hid (show Own w.heap.size w1 w.heap.size [.slice none 0 0, .slice none 0 0] by rw [hw1]; exact Own.new w [.slice none 0 0, .slice none 0 0] 31 (Nat.le_refl _))
  have HB := hid (show Below w.heap.size w w1 by rw [hw1]; exact below_new _ _)
  clear hw1
  go_cut [4, 5] from 10 to 62 (fun rv pv wx => ∃ r t : ByteArray, rv = .string r ∧ pv = .string t ∧ r.size ≤ s.size ∧ t.size ≤ s.size ∧ Hid (bts r = p) ∧ Hid (bts t = q) ∧ Hid (Own w.heap.size wx w.heap.size [.slice none 0 0, .slice none 0 0]) ∧ Hid (Below w.heap.size w wx))
  case first =>
    go_wp2_with fail
    go_loop [6, 4, 5] (fun i rv pv => ∃ k : Nat, i = .int .i64 k ∧ k ≤ s.size ∧ rv = .string s ∧ pv = .string ⟨#[]⟩ ∧ Hid (∀ j, j < k → Lib.occAt (bts s) slB j = false)) (fun i _ _ => s.size - (intOf i).toNat)
    case atStart => exact ⟨0, rfl, Nat.zero_le _, rfl, rfl, hid (fun j hj => absurd hj (Nat.not_lt_zero _))⟩
    case round =>
      obtain ⟨k, rfl, hk, rfl, rfl, HN⟩ := hrel
      by_cases h3 : k + 3 ≤ s.size
      · have HOC := hid (occ_three s k h3)
        have hlt : (k : Int) + 2 < (s.size : Int) := by omega
        have hk0 : (0 : Int) ≤ (k : Int) := by omega
        generalize hx : ((s.extract k (k + 3)).toList == [32, 47, 32]) = bx at *
        have HX := hid hx
        clear hx
        cases bx
        · have d1 : ((s.extract k (k + 3)).toList == [32, 47, 32]) = false := HX.out
          go_wp2_with fail
          go_round
          case rel => exact ⟨k + 1, by go_num, by omega, rfl, rfl, hid (fun j hj => by
            rcases Nat.lt_or_ge j k with h | h
            · exact HN.out j h
            · obtain rfl : j = k := by omega
              exact HOC.out)⟩
          case measure => simp [intOf]; omega
        · have d1 : ((s.extract k (k + 3)).toList == [32, 47, 32]) = true := HX.out
          have HF := hid (cut_found (s := bts s) (by rw [bts_len]; omega) HOC.out HN.out)
          go_wp2_with fail
          refine wp_plan (.last [0, 1, 2, 3, 4, 5, 6, 7, 8]) (by kernel_rfl) (by intro _ _ d _ _ h; cases d <;> exact h) (by kernel_rfl) ?_
          have hk3 : (k : Int) + 3 ≤ (s.size : Int) := by omega
          refine plan_last ?_
          simp only [pickOps, List.map_cons, List.map_nil, List.getElem?_toArray, List.getElem?_cons_zero, List.getElem?_cons_succ, Option.getD_some]
          repeat go_big_quiet_step (fail)
          refine wpQuiet_nil ?_
          go_wp2_with fail
          go_meet
          case rel =>
            refine ⟨s.extract 0 k, s.extract (k + 3) s.size, rfl, rfl, by rw [ByteArray.size_extract]; omega, by rw [ByteArray.size_extract]; omega, hid ?_, hid ?_, hid (O1.out.below (Below.refl _ _).drew), hid (below_tr HB.out (Below.refl _ _).drew)⟩
            · rw [← HCP.out, HF.out, bts_extract]; simp
            · rw [← HCQ.out, HF.out, bts_extract, List.take_of_length_le]
              rw [List.length_drop, bts_len]; omega
      · have hge : ¬ (k : Int) + 2 < (s.size : Int) := by omega
        have HF := hid (cut_nowhere (s := bts s) (fun j => by
          rcases Nat.lt_or_ge j k with h | h
          · exact HN.out j h
          · exact occ_past (by decide) (by rw [bts_len]; simp only [slB, List.length_cons, List.length_nil]; omega)))
        go_wp2_with fail
        go_meet
        case rel =>
          exact ⟨s, ⟨#[]⟩, rfl, rfl, Nat.le_refl _, Nat.zero_le _, hid (by rw [← HCP.out, HF.out]), hid (by rw [← HCQ.out, HF.out]; exact bts_lit []), O1, HB⟩
  case rest =>
    obtain ⟨r, t, rfl, rfl, hrs, hts, HR, HT, O1, HB⟩ := hcut
    have HR1 := hid (fun u => rrows8_any r u (by omega))
    have HR2 := hid (fun u => rrows8_any t u (by omega))
    rw [HR.out] at HR1
    rw [HT.out] at HR2
    have HL1 := hid (show ((rrowP p).getD []).length ≤ 40000 by have := rrow_getD p; rw [← HR.out, bts_len] at this; rw [← HR.out]; omega)
    have HL2 := hid (show ((rpreP q).getD []).length ≤ 40000 by have := rpre_getD q; rw [← HT.out, bts_len] at this; rw [← HT.out]; omega)
    have HQ0 := hid (fun (h : t.toList = []) => (show rpreP q = some [] by rw [rpreP, if_pos (HT.out.symm.trans h)]))
    have HQ1 := hid (fun (h : ¬ t.toList = []) => (show rpreP q = rrowP q by rw [rpreP, if_neg (fun e => h (HT.out.trans e))]))
    generalize rrowP p = o1 at *
    generalize rpreP q = o2 at *
    go_wp2_with fail
    refine calls_name ?_
    intro w2 hw2
    have h12 : w.heap.size < wc.heap.size := O1.out.box.1
    have O1 := hid (show Own w.heap.size w2 w.heap.size [.slice none 0 0, .slice none 0 0] by rw [hw2]; exact O1.out.alloc _)
    have O7 := hid (show Own w.heap.size w2 wc.heap.size [.slice none 0 0, .slice none 0 0] by rw [hw2]; exact Own.new wc [.slice none 0 0, .slice none 0 0] 31 HB.out.size)
    have HB := hid (show Below w.heap.size w w2 by rw [hw2]; exact below_tr HB.out (below_new _ _))
    clear hw2
    generalize wc.heap.size = g7 at *
    refine (HR1.out _).mono ?_
    rintro _ w3 ⟨A, c, rfl, hsa, hfa, -, hb⟩
    have h23 := hb.size
    have h72 : g7 < w2.heap.size := O7.out.box.1
    have HSA := hid hsa
    have HFA := hid hfa
    have O1 := hid (O1.out.below hb)
    have O7 := hid (O7.out.below hb)
    have HB := hid (below_tr HB.out hb)
    clear hsa hfa hb HR1
    generalize hla : (o1.getD []).length = la at *
    have HLA := hid hla
    clear hla
    obtain ⟨y0, y1⟩ := O7.out.box.get2
    have sf7 : ∀ j, w3.frozen? ⟨g7, j, none⟩ = false := O7.out.soft
    have hlt7 := O7.out.box.1
    go_upto_if 38 with fail
    refine wp_name ?_
    intro w4 hw4
    have O7 := hid (show Own w.heap.size w4 g7 [.slice A la c, .slice none 0 0] by rw [hw4]; exact O7.out.put (j := 0) (by simp) _)
    have O1 := hid (show Own w.heap.size w4 w.heap.size [.slice none 0 0, .slice none 0 0] by rw [hw4]; exact O1.out.other (Nat.ne_of_lt h12) _)
    have HB := hid (show Below w.heap.size w w4 by rw [hw4]; exact below_put HB.out O7.out.low _)
    have HSA := hid (show SpanB w4 w2.heap.size A (o1.getD []) by rw [hw4]; exact spanB_put HSA.out h72 _)
    have h24 : w2.heap.size ≤ w4.heap.size := by rw [hw4, World.size_setCell]; exact h23
    clear hw4 y0 y1 sf7 hlt7
    go_cut [9] from 38 to 62 (fun bv wx => ∃ (B : Option Addr) (d : Nat), bv = .bool o2.isSome ∧ Hid (SpanB wx w2.heap.size B (o2.getD [])) ∧ Hid (SpanB wx w2.heap.size A (o1.getD [])) ∧ Hid (fitL (o2.getD [])) ∧ Hid (Own w.heap.size wx g7 [.slice A la c, .slice B (o2.getD []).length d]) ∧ Hid (Own w.heap.size wx w.heap.size [.slice none 0 0, .slice none 0 0]) ∧ Hid (Below w.heap.size w wx))
    case first =>
      rcases str_case t with ⟨e4, n4⟩ | e4
      · rw [show (!t.toList.isEmpty) = true by rw [e4]; rfl]
        have HE := hid (HQ1.out n4)
        rw [← HE.out] at HR2
        go_wp2_with fail
        refine (HR2.out _).mono ?_
        rintro _ w5 ⟨B, d, rfl, hsb, hfb, -, hb⟩
        have HSB := hid (show SpanB w5 w2.heap.size B (o2.getD []) from hsb.low h24)
        have HFB := hid hfb
        have O1 := hid (O1.out.below hb)
        have O7 := hid (O7.out.below hb)
        have HB := hid (below_tr HB.out hb)
        have HSA := hid (spanB_below HSA.out hb)
        clear hsb hfb hb HR2
        generalize hlb : (o2.getD []).length = lb at *
        have HLB := hid hlb
        clear hlb
        generalize hi2 : o2.isSome = i2 at *
        have HI2 := hid hi2
        clear hi2
        obtain ⟨y0, y1⟩ := O7.out.box.get2
        have sf7 : ∀ j, w5.frozen? ⟨g7, j, none⟩ = false := O7.out.soft
        have hlt7 := O7.out.box.1
        go_wp2_with fail
        go_meet
        case rel =>
          exact ⟨B, d, rfl, hid (spanB_put HSB.out h72 _), hid (spanB_put HSA.out h72 _), HFB, hid (O7.out.put (j := 1) (by simp) _), hid (O1.out.other (Nat.ne_of_lt h12) _), hid (below_put HB.out O7.out.low _)⟩
      · rw [show (!t.toList.isEmpty) = false by rw [e4]; rfl]
        have HE := hid (HQ0.out e4)
        go_wp2_with fail
        go_meet
        case rel =>
          exact ⟨none, 0, by rw [HE.out]; rfl, hid (by rw [HE.out]; exact spanB_none _ _), HSA, hid (by rw [HE.out]; exact fit_nil), hid (by rw [HE.out]; exact O7.out), O1, HB⟩
    case rest =>
      obtain ⟨B, d, rfl, HSB, HSA, HFB, O7, O1, HB⟩ := hcut
      have HPR := hid (fun u (h : Below wc.heap.size wc u) => rprint8_any A B c d (o1.getD []) (o2.getD []) u (HSA.out.1.below h) (HSB.out.1.below h) HFA.out HFB.out (by rw [HLA.out]; exact HL1.out) HL2.out)
      have HOK0 : Hid (∃ ok : Bool, so.isSome = ok ∧ ok = (o1.isSome && (o2.isSome && (!(bts s).isEmpty && decide (setT (o1.getD []) (o2.getD []) = bts s))))) := hid ⟨_, rfl, by
        rw [HSF.out]
        cases o1 with
        | none => rfl
        | some l =>
          cases o2 with
          | none => rfl
          | some m =>
            simp only [setO, Option.getD_some, Option.isSome_some, Bool.true_and]
            by_cases e1 : bts s = []
            · simp [e1]
            · by_cases e2 : setT l m = bts s
              · simp [e1, e2]
              · simp [e1, e2]⟩
      obtain ⟨ok, hok1, hok2⟩ := HOK0.out
      have HOK1 := hid hok1
      have HOK2 := hid hok2
      clear hok1 hok2 HOK0 HQ0 HQ1
      rw [HLA.out] at HPR
      generalize hlb : (o2.getD []).length = lb at *
      have HLB := hid hlb
      clear hlb
      generalize hi1 : o1.isSome = i1 at *
      generalize hi2 : o2.isSome = i2 at *
      have HI1 := hid hi1
      have HI2 := hid hi2
      clear hi1 hi2
      generalize hst : setT (o1.getD []) (o2.getD []) = st at *
      have HST := hid hst
      clear hst
      go_upto_region 13 with fail
      go_cut [60] from 45 to 62 (fun b wx => b = .bool (!ok) ∧ Hid (SpanB wx w2.heap.size B (o2.getD [])) ∧ Hid (SpanB wx w2.heap.size A (o1.getD [])) ∧ Hid (Own w.heap.size wx g7 [.slice A la c, .slice B lb d]) ∧ Hid (Own w.heap.size wx w.heap.size [.slice none 0 0, .slice none 0 0]) ∧ Hid (Below w.heap.size w wx))
      case first =>
        obtain ⟨y0, y1⟩ := O7.out.box.get2
        have hlt7 := O7.out.box.1
        cases i1
        · have HE := hid (show ok = false by rw [HOK2.out]; rfl)
          go_wp2_with fail
          go_meet
          case rel => exact ⟨by rw [HE.out]; rfl, HSB, HSA, O7, O1, HB⟩
        · cases i2
          · have HE := hid (show ok = false by rw [HOK2.out]; rfl)
            go_wp2_with fail
            go_meet
            case rel => exact ⟨by rw [HE.out]; rfl, HSB, HSA, O7, O1, HB⟩
          · rcases str_case s with ⟨e4, n4⟩ | e4
            · have HE := hid (show ok = decide (st = bts s) by rw [HOK2.out]; rw [show (bts s).isEmpty = false from e4]; rfl)
              go_wp2_with fail
              refine (HPR.out _ (Below.refl _ _)).mono ?_
              rintro _ w5 ⟨tx, rfl, htx, hb⟩
              have HTX := hid htx
              have O1 := hid (O1.out.below hb)
              have O7 := hid (O7.out.below hb)
              have HB := hid (below_tr HB.out hb)
              have HSA := hid (spanB_below HSA.out hb)
              have HSB := hid (spanB_below HSB.out hb)
              clear htx hb HPR y0 y1 hlt7
              by_cases he : tx = s
              · subst he
                have HE2 := hid (show ok = true by rw [HE.out, ← HTX.out]; simp)
                go_wp2_with fail
                go_meet
                case rel => exact ⟨by rw [HE2.out]; simp, HSB, HSA, O7, O1, HB⟩
              · have hl2 : (tx.toList == s.toList) = false := by
                  rw [Bool.eq_false_iff]
                  intro e
                  exact he (bts_inj (by simpa using e))
                have HE2 := hid (show ok = false by
                  rw [HE.out, ← HTX.out]
                  simp only [decide_eq_false_iff_not]
                  exact fun e => he (bts_inj e))
                go_wp2_with fail
                go_meet
                case rel => exact ⟨by rw [HE2.out]; simp, HSB, HSA, O7, O1, HB⟩
            · have HE := hid (show ok = false by rw [HOK2.out, show (bts s).isEmpty = true by rw [bts, e4]; rfl]; rfl)
              go_wp2_with fail
              go_meet
              case rel => exact ⟨by rw [HE.out]; rfl, HSB, HSA, O7, O1, HB⟩
      case rest =>
        obtain ⟨rfl, HSB, HSA, O7, O1, HB⟩ := hcut
        obtain ⟨x0, x1⟩ := O1.out.box.get2
        obtain ⟨y0, y1⟩ := O7.out.box.get2
        have sf1 : ∀ j, wc.frozen? ⟨w.heap.size, j, none⟩ = false := O1.out.soft
        have hlt1 := O1.out.box.1
        have hlt7 := O7.out.box.1
        cases ok
        · have HNO := hid (show so = none by
            have := HOK1.out
            cases so with
            | none => rfl
            | some x => cases this)
          go_wp2_with fail
          refine body_name ?_
          intro w9 hw9
          have O9 : Own w.heap.size w9 w.heap.size [.slice none 0 0, .slice none 0 0] := by rw [hw9]; exact O1.out.set2 _ _
          have B9 : Below w.heap.size w w9 := by rw [hw9]; exact below_put (below_put HB.out (Nat.le_refl _) _) (Nat.le_refl _) _
          clear hw9
          obtain ⟨k0, k1⟩ := O9.box.get2
          refine bodyPost_ret (v := .tuple #[setV none 0 0 none 0 0, .int .i64 2]) (by simp [results, Tryz.results44, go_sem, k0, k1, setV]) rfl ?_
          rw [HNO.out]
          exact tell_none B9
        · have HYES : Hid (∃ l m, o1 = some l ∧ o2 = some m ∧ so = some (l, m)) := hid (by
            have h0 := HOK1.out
            rw [HSF.out] at h0
            cases o1 with
            | none => cases h0
            | some l =>
              cases o2 with
              | none => cases h0
              | some m =>
                refine ⟨l, m, rfl, rfl, ?_⟩
                rw [HSF.out]
                simp only [setO] at h0 ⊢
                split at h0
                · rename_i hc; rw [if_pos hc]
                · cases h0)
          go_wp2_with fail
          refine body_name ?_
          intro w9 hw9
          have O9 : Own w.heap.size w9 w.heap.size [.slice A la c, .slice B lb d] := by rw [hw9]; exact O1.out.set2 _ _
          have B9 : Below w.heap.size w w9 := by rw [hw9]; exact below_put (below_put HB.out (Nat.le_refl _) _) (Nat.le_refl _) _
          have hle : w.heap.size < w2.heap.size := by omega
          have SA9 : SpanB w9 w2.heap.size A (o1.getD []) := by rw [hw9]; exact spanB_put (spanB_put HSA.out hle _) hle _
          have SB9 : SpanB w9 w2.heap.size B (o2.getD []) := by rw [hw9]; exact spanB_put (spanB_put HSB.out hle _) hle _
          clear hw9
          obtain ⟨k0, k1⟩ := O9.box.get2
          refine bodyPost_ret (v := .tuple #[setV A la c B lb d, .int .i64 0]) (by simp [results, Tryz.results44, go_sem, k0, k1, setV]) rfl ?_
          obtain ⟨l, m, e1, e2, e3⟩ := HYES.out
          have hla := HLA.out
          have hlb := HLB.out
          have hfa := HFA.out
          have hfb := HFB.out
          have hl1 := HL1.out
          have hl2 := HL2.out
          rw [e1] at SA9 hla hfa
          rw [e2] at SB9 hlb hfb
          rw [e3]
          simp only [Option.getD_some] at SA9 SB9 hla hlb hfa hfb
          refine ⟨A, c, B, d, ?_, SA9.low (by omega), SB9.low (by omega), hfa, hfb, ?_, ?_, B9⟩
          · simp only [Option.getD_some, hla, hlb]; rfl
          · simp only [Option.getD_some]; omega
          · simp only [Option.getD_some]; omega
end Go.Proofs.YtjceaniffooohaaGreatDoor
