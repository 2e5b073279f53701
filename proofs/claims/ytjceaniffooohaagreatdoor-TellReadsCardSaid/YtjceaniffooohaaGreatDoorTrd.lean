/- Contracts: linchpinref8.one. -/
import Derived.Test.YtjceaniffooohaaGreatDoorTrc
namespace Go.Proofs.YtjceaniffooohaaGreatDoor
open Go.RowKit Go.Lib
open Rw
set_option linter.unusedVariables false
set_option linter.unusedSimpArgs false

/-- words lie there, from a place on -/
def HeldO (w : World) (g off : Nat) (ls : List (List UInt8)) : Prop := g < w.heap.size ∧ ∀ j, j < ls.length → w.cell? ⟨g, off + j, none⟩ = some (.string (strB (ls.getD j [])))
theorem HeldO.below {w w' : World} {g off : Nat} {ls : List (List UInt8)} (h : HeldO w g off ls) (hb : Below w.heap.size w w') : HeldO w' g off ls :=
  ⟨Nat.lt_of_lt_of_le h.1 hb.size, fun j hj => (hb.cell (p := ⟨g, off + j, none⟩) h.1).trans (h.2 j hj)⟩
/-- a span has come back, and whether it is one -/
def SpanOk (w : World) (o : Option SpanL) (e : Ending) (w' : World) : Prop := ∃ s : SpanL, e = .returned (.tuple #[s.val, .bool o.isSome]) ∧ (∀ u, o = some u → s = u) ∧ Below w.heap.size w w'
theorem Own.fr14 {B : Nat} {w : World} {g : Nat} {a b : CutL} (h : Own B w g (SpanL.cells ⟨a, b⟩)) (c : CutL) :
    Own B (((((((w.setCell ⟨g, 0, none⟩ (.int .i64 c.en)).setCell ⟨g, 1, none⟩ (.int .i64 c.v.maj)).setCell ⟨g, 2, none⟩ (.int .i64 c.v.min)).setCell ⟨g, 3, none⟩ (.int .i64 c.v.pat)).setCell ⟨g, 4, none⟩ (.string c.v.pre)).setCell ⟨g, 5, none⟩ (.string c.v.bld)).setCell ⟨g, 6, none⟩ (.bool c.aft)) g (SpanL.cells ⟨c, b⟩) :=
  ⟨h.box.set (o := 0) (vs := c.cells) (by simp), h.soft.set (o := 0) (vs := c.cells), h.low⟩
theorem Own.til14 {B : Nat} {w : World} {g : Nat} {a b : CutL} (h : Own B w g (SpanL.cells ⟨a, b⟩)) (c : CutL) :
    Own B (((((((w.setCell ⟨g, 7, none⟩ (.int .i64 c.en)).setCell ⟨g, 8, none⟩ (.int .i64 c.v.maj)).setCell ⟨g, 9, none⟩ (.int .i64 c.v.min)).setCell ⟨g, 10, none⟩ (.int .i64 c.v.pat)).setCell ⟨g, 11, none⟩ (.string c.v.pre)).setCell ⟨g, 12, none⟩ (.string c.v.bld)).setCell ⟨g, 13, none⟩ (.bool c.aft)) g (SpanL.cells ⟨a, c⟩) :=
  ⟨h.box.set (o := 7) (vs := c.cells) (by simp), h.soft.set (o := 7) (vs := c.cells), h.low⟩
theorem below_cells {w w1 : World} (h : Below w.heap.size w w1) {g : Nat} (hg : w.heap.size ≤ g) (o : Nat) (vs : List Value) : Below w.heap.size w (w1.setCells g o vs) := Below.setCells hg vs o h
/-- what 'one' answers where its last word is read -/
def lastO (f : CutL) (o : Option CutL) (m : Nat) : Option SpanL := match o with
  | none => none
  | some d => if m = 1 then some ⟨f, d⟩ else none
def nextO (c : CutL) : List (List UInt8) → Option SpanL
  | [] => some ⟨c, lastC⟩
  | u :: q => lastO c (rcutP u false) (q.length + 1)
theorem rone_star {w0 : List UInt8} (h : w0 = [42]) : roneP [w0] = some fullS := by rw [roneP, if_pos ⟨rfl, h⟩]
theorem rone_no {w0 : List UInt8} {r : List (List UInt8)} (h : ¬ (r = [] ∧ w0 = [42])) : roneP (w0 :: r) = match rcutP w0 true with
    | some c => nextO c r
    | none => lastO firstC (rcutP w0 false) (r.length + 1) := by
  rw [roneP, if_neg h]
  cases rcutP w0 true with
  | none =>
    simp only [lastO]
    cases rcutP w0 false with
    | none => rfl
    | some d => cases r <;> simp
  | some c =>
    cases r with
    | nil => rfl
    | cons u q =>
      simp only [nextO, lastO]
      cases rcutP u false with
      | none => rfl
      | some d => cases q <;> simp
abbrev zero14 : List Value := [.int .i64 0, .int .i64 0, .int .i64 0, .int .i64 0, .string ⟨#[]⟩, .string ⟨#[]⟩, .bool false, .int .i64 0, .int .i64 0, .int .i64 0, .int .i64 0, .string ⟨#[]⟩, .string ⟨#[]⟩, .bool false]
theorem Own.set14 {B : Nat} {w : World} {g : Nat} {cs : List Value} (h : Own B w g cs) (hl : cs.length = 14) (s : SpanL) : Own B (w.setCells g 0 s.cells) g s.cells := by
  refine ⟨?_, h.soft.set (o := 0) (vs := s.cells), h.low⟩
  have := h.box.set (o := 0) (vs := s.cells) (by simp [hl])
  rw [List.take_zero, List.nil_append, List.drop_eq_nil_of_le (by simp [hl]), List.append_nil] at this
  exact this
set_option maxRecDepth 100000 in
set_option maxHeartbeats 2000000 in
theorem rone_any (g off cap : Nat) (ls : List (List UInt8)) (w : World) (hH : HeldO w g off ls) (hne : ls ≠ []) (hcap : ls.length ≤ cap) (hz : ∀ x ∈ ls, x.length ≤ 4398046511103) (hln : ls.length ≤ 4398046511103) :
    Calls Tryz.prog 128 #[.slice (some ⟨g, off, none⟩) ls.length cap] w (SpanOk w (roneP ls)) := by
  have HH := hid hH
  have HZ := hid hz
  clear hH hz
  obtain ⟨w0, r, rfl⟩ : ∃ w0 r, ls = w0 :: r := by
    cases ls with
    | nil => exact absurd rfl hne
    | cons a b => exact ⟨a, b, rfl⟩
  clear hne
  have c0 : w.cell? ⟨g, off, none⟩ = some (.string (strB w0)) := HH.out.2 0 (by simp)
  have hg := HH.out.1
  have hg1 : g < w.heap.size + 1 := by omega
  have hg2 : g < w.heap.size + 1 + 1 := by omega
  generalize hoc : roneP (w0 :: r) = oc
  have HOC := hid hoc
  clear hoc
  have hz0 : (strB w0).size ≤ 4398046511103 := by rw [strB_sz]; exact HZ.out w0 (by simp)
  have HP1 := hid (fun u => rcut8_any (strB w0) true u hz0)
  rw [bts_strB] at HP1
  have HR := hid (show (w0 :: r).length = r.length + 1 from rfl)
  generalize hn : (w0 :: r).length = n at *
  have HN := hid hn
  clear hn
  by_cases hst : r = [] ∧ w0 = [42]
  · have HE : Hid (oc = some fullS) := hid (by rw [← HOC.out, hst.1]; exact rone_star hst.2)
    have d1 : ((n : Int) == 1) = true := by
      have := HR.out
      rw [hst.1] at this
      simp at this
      simp [this]
    have hn1 : 1 ≤ n := by have := HR.out; omega
    have d2 : ((strB w0).toList == [42]) = true := by rw [show (strB w0).toList = w0 from bts_strB w0, hst.2]; rfl
    clear hst
    go_enter Tryz.func128, Tryz.ntmps128
    go_wp2_with fail
    refine body_name ?_
    intro w9 hw9
    have O9 : Own w.heap.size w9 w.heap.size fullS.cells := by
      rw [hw9]
      exact (Own.new w fullS.cells 83 (Nat.le_refl _)).alloc _
    have B9 : Below w.heap.size w w9 := by rw [hw9]; exact below_tr (below_new _ _) (below_new _ _)
    clear hw9
    obtain ⟨⟨k0, k1, k2, k3, k4, k5, k6⟩, k7, k8, k9, k10, k11, k12, k13⟩ := O9.box.get14
    refine bodyPost_ret (v := .tuple #[fullS.val, .bool true]) (by simp [results, Tryz.results128, go_sem, k0, k1, k2, k3, k4, k5, k6, k7, k8, k9, k10, k11, k12, k13, fullS, firstC, lastC, zeroV]) rfl ?_
    rw [HE.out]
    exact ⟨fullS, rfl, fun u h => (by injection h), B9⟩
  · have HE := hid (HOC.out.symm.trans (rone_no hst))
    have hn1 : 1 ≤ n := by have := HR.out; omega
    have hcase : n = 1 ∨ 1 < n := by omega
    have HST := hid (show n = 1 → ((strB w0).toList == [42]) = false by
      intro e
      rw [show (strB w0).toList = w0 from bts_strB w0]
      rw [Bool.eq_false_iff]
      intro k
      refine hst ⟨?_, by simpa using k⟩
      have := HR.out
      exact List.eq_nil_of_length_eq_zero (by omega))
    clear hst
    go_enter Tryz.func128, Tryz.ntmps128
    go_upto_region 2 with fail
    refine wp_name ?_
    intro w1 hw1
    have O1 := hid (show Own w.heap.size w1 w.heap.size zero14 by rw [hw1]; exact (Own.new w zero14 83 (Nat.le_refl _)).alloc _)
    have O4 := hid (show Own w.heap.size w1 (w.heap.size + 1) fullS.cells by rw [hw1]; exact Own.new2 w _ fullS.cells 83 (Nat.le_refl _))
    have HB := hid (show Below w.heap.size w w1 by rw [hw1]; exact below_tr (below_new _ _) (below_new _ _))
    clear hw1 c0
    have c0 : w1.cell? ⟨g, off, none⟩ = some (.string (strB w0)) := (HH.out.below HB.out).2 0 (by simp)
    go_cut [20] from 12 to 53 (fun b wx => b = .bool false ∧ wx = w1)
    case first =>
      rcases hcase with h1 | h1
      · have d1 : ((n : Int) == 1) = true := by simp [h1]
        have d2 := HST.out h1
        go_wp2_with fail
        go_meet
        case rel => exact ⟨rfl, rfl⟩
      · have d1 : ((n : Int) == 1) = false := by simp; omega
        go_wp2_with fail
        go_meet
        case rel => exact ⟨rfl, rfl⟩
    case rest =>
      obtain ⟨rfl, rfl⟩ := hcut
      go_wp2_with fail
      refine (HP1.out _).mono ?_
      rintro _ w2 ⟨c, rfl, hc, hb⟩
      have HC := hid hc
      have O1 := hid (O1.out.below hb)
      have O4 := hid (O4.out.below hb)
      have HB := hid (below_tr HB.out hb)
      have hne4 : w.heap.size ≠ w.heap.size + 1 := by omega
      clear hb hc c0
      generalize his : (rcutP w0 true).isSome = is at *
      have HIS := hid his
      clear his
      go_upto_if 29 with fail
      refine wp_name ?_
      intro w3 hw3
      have h42 : w.heap.size + 1 < w2.heap.size := O4.out.box.1
      have O1 := hid (show Own w.heap.size w3 w.heap.size zero14 by rw [hw3]; exact O1.out.alloc _)
      have O4 := hid (show Own w.heap.size w3 (w.heap.size + 1) fullS.cells by rw [hw3]; exact O4.out.alloc _)
      have O5 := hid (show Own w.heap.size w3 w2.heap.size c.cells by rw [hw3]; exact Own.new w2 c.cells 81 HB.out.size)
      have HB := hid (show Below w.heap.size w w3 by rw [hw3]; exact below_tr HB.out (below_new _ _))
      clear hw3
      generalize w2.heap.size = g5 at *
      have HH3 := hid (HH.out.below HB.out)
      go_cut [0] from 30 to 53 (fun lv wx => ∃ (k : Nat) (f : CutL) (cap' : Nat), lv = .slice (some ⟨g, off + k, none⟩) (n - k) cap' ∧ k < n ∧ Hid (HeldO wx g off (w0 :: r)) ∧ Hid (Own w.heap.size wx (w.heap.size + 1) (SpanL.cells ⟨f, lastC⟩)) ∧ Hid (Own w.heap.size wx w.heap.size zero14) ∧ Hid (Below w.heap.size w wx) ∧ Hid (oc = lastO f (rcutP ((w0 :: r).getD k []) false) (n - k)))
      case first =>
        cases is
        · have hnone : rcutP w0 true = none := by
            have := HIS.out
            cases h : rcutP w0 true with
            | none => rfl
            | some x => rw [h] at this; cases this
          have HE2 : Hid (oc = lastO firstC (rcutP w0 false) n) := hid (by rw [HE.out, hnone, HR.out])
          clear hnone
          go_wp2_with fail
          go_meet
          case rel => exact ⟨0, firstC, cap, rfl, hn1, HH3, O4, O1, HB, HE2⟩
        · have HSOME : Hid (rcutP w0 true = some c) := hid (by
            have := HIS.out
            cases h : rcutP w0 true with
            | none => rw [h] at this; cases this
            | some x => rw [HC.out x h])
          have HE2 : Hid (oc = nextO c r) := hid (by rw [HE.out, HSOME.out])
          obtain ⟨z0, z1, z2, z3, z4, z5, z6⟩ := O5.out.box.get7
          have hlt5 := O5.out.box.1
          have hlt4 := O4.out.box.1
          have sf4 : ∀ j, w3.frozen? ⟨w.heap.size + 1, j, none⟩ = false := O4.out.soft
          obtain ⟨⟨y0, y1, y2, y3, y4, y5, y6⟩, -⟩ := O4.out.box.get14
          go_upto_region 7 with fail
          refine wp_name ?_
          intro w4 hw4
          have O4 := hid (show Own w.heap.size w4 (w.heap.size + 1) (SpanL.cells ⟨c, lastC⟩) by rw [hw4]; exact O4.out.fr14 c)
          have O1 := hid (show Own w.heap.size w4 w.heap.size zero14 by
            rw [hw4]
            exact ((((((O1.out.other hne4 _).other hne4 _).other hne4 _).other hne4 _).other hne4 _).other hne4 _).other hne4 _)
          have HB := hid (show Below w.heap.size w w4 by rw [hw4]; exact below_set7 HB.out (Nat.le_succ _) _ _ _ _ _ _ _)
          have HH4 := hid (HH.out.below HB.out)
          clear hw4 z0 z1 z2 z3 z4 z5 z6 hlt5 hlt4 sf4 y0 y1 y2 y3 y4 y5 y6
          rcases hcase with h1 | h1
          · have HE3 : Hid (oc = some ⟨c, lastC⟩) := hid (by
              have h2 := HR.out
              have h3 : r = [] := List.eq_nil_of_length_eq_zero (by omega)
              rw [HE2.out, h3]; rfl)
            have d1 : ((n : Int) == 1) = true := by simp [h1]
            obtain ⟨⟨y0, y1, y2, y3, y4, y5, y6⟩, ⟨y7, y8, y9, y10, y11, y12, y13⟩⟩ := O4.out.box.get14
            obtain ⟨⟨x0, x1, x2, x3, x4, x5, x6⟩, ⟨x7, x8, x9, x10, x11, x12, x13⟩⟩ := O1.out.box.get14
            have hlt4 := O4.out.box.1
            have hlt1 := O1.out.box.1
            have sf1 : ∀ j, w4.frozen? ⟨w.heap.size, j, none⟩ = false := O1.out.soft
            go_wp2_with fail
            refine body_name ?_
            intro w9 hw9
            have hw9 : w9 = w4.setCells w.heap.size 0 (SpanL.cells ⟨c, lastC⟩) := hw9
            have O9 : Own w.heap.size w9 w.heap.size (SpanL.cells ⟨c, lastC⟩) := by rw [hw9]; exact O1.out.set14 rfl _
            have B9 : Below w.heap.size w w9 := by rw [hw9]; exact below_cells HB.out (Nat.le_refl _) _ _
            clear hw9
            obtain ⟨⟨k0, k1, k2, k3, k4, k5, k6⟩, k7, k8, k9, k10, k11, k12, k13⟩ := O9.box.get14
            refine bodyPost_ret (v := .tuple #[SpanL.val ⟨c, lastC⟩, .bool true]) (by simp [results, Tryz.results128, go_sem, k0, k1, k2, k3, k4, k5, k6, k7, k8, k9, k10, k11, k12, k13]) rfl ?_
            rw [HE3.out]
            exact ⟨_, rfl, fun u h => (by injection h), B9⟩
          · have d1 : ((n : Int) == 1) = false := by simp; omega
            have hcap1 : cap ≠ 1 := by omega
            go_wp2_with fail
            all_goals first | (exfalso; omega) | skip
            go_meet
            case rel =>
              refine ⟨1, c, cap - 1, ?_, h1, HH4, O4, O1, HB, hid ?_⟩
              · first | rfl | (rw [if_neg hcap1]; rfl)
              · obtain ⟨u, q, rfl⟩ : ∃ u q, r = u :: q := by
                  cases r with
                  | nil => have := HR.out; simp at this; omega
                  | cons u q => exact ⟨u, q, rfl⟩
                rw [HE2.out]
                have h2 := HR.out
                have h3 : n - 1 = q.length + 1 := by simp at h2; omega
                rw [h3]; rfl
      case rest =>
        obtain ⟨k, f, cap2, rfl, hk, HH5, O4, O1, HB, HEF⟩ := hcut
        have hkl : k < (w0 :: r).length := by rw [HN.out]; exact hk
        have c1 := HH5.out.2 k hkl
        have hgw := HH5.out.1
        have hzk : (strB ((w0 :: r).getD k [])).size ≤ 4398046511103 := by
          rw [strB_sz]
          refine HZ.out _ ?_
          rw [List.getD_eq_getElem?_getD, List.getElem?_eq_getElem hkl, Option.getD_some]
          exact List.getElem_mem hkl
        have HP2 := hid (fun u => rcut8_any (strB ((w0 :: r).getD k [])) false u hzk)
        rw [bts_strB] at HP2
        generalize (w0 :: r).getD k [] = wk at *
        have hm : 1 ≤ n - k := by omega
        generalize n - k = m at *
        clear HE HP1 hzk hkl
        go_wp2_with fail
        refine (HP2.out _).mono ?_
        rintro _ w5 ⟨d, rfl, hd, hb⟩
        have HD := hid hd
        have O1 := hid (O1.out.below hb)
        have O4 := hid (O4.out.below hb)
        have HB := hid (below_tr HB.out hb)
        clear hb hd c1 HP2
        generalize hoo : rcutP wk false = oo at *
        have HIS2 : Hid (oc.isSome = (oo.isSome && decide (m = 1))) := hid (by
          rw [HEF.out]
          unfold lastO
          cases oo with
          | none => rfl
          | some x => by_cases e : m = 1 <;> simp [e])
        have HOU : Hid (∀ u, oc = some u → (⟨f, d⟩ : SpanL) = u) := hid (by
          intro u hu
          rw [HEF.out] at hu
          unfold lastO at hu
          cases oo with
          | none => cases hu
          | some x =>
            simp only at hu
            split at hu
            · injection hu with hu; rw [← hu, HD.out x rfl]
            · cases hu)
        clear HEF HD hoo
        generalize oo.isSome = is2 at *
        go_upto_region 11 with fail
        refine wp_name ?_
        intro w6 hw6
        have h52 : w.heap.size + 1 < w5.heap.size := O4.out.box.1
        have O1 := hid (show Own w.heap.size w6 w.heap.size zero14 by rw [hw6]; exact O1.out.alloc _)
        have O4 := hid (show Own w.heap.size w6 (w.heap.size + 1) (SpanL.cells ⟨f, lastC⟩) by rw [hw6]; exact O4.out.alloc _)
        have O7 := hid (show Own w.heap.size w6 w5.heap.size d.cells by rw [hw6]; exact Own.new w5 d.cells 81 HB.out.size)
        have HB := hid (show Below w.heap.size w w6 by rw [hw6]; exact below_tr HB.out (below_new _ _))
        clear hw6
        generalize w5.heap.size = g7 at *
        obtain ⟨z0, z1, z2, z3, z4, z5, z6⟩ := O7.out.box.get7
        have hlt7 := O7.out.box.1
        have hlt4 := O4.out.box.1
        have sf4 : ∀ j, w6.frozen? ⟨w.heap.size + 1, j, none⟩ = false := O4.out.soft
        obtain ⟨-, ⟨y7, y8, y9, y10, y11, y12, y13⟩⟩ := O4.out.box.get14
        go_upto_region 12 with fail
        refine wp_name ?_
        intro w7 hw7
        have O4 := hid (show Own w.heap.size w7 (w.heap.size + 1) (SpanL.cells ⟨f, d⟩) by rw [hw7]; exact O4.out.til14 d)
        have O1 := hid (show Own w.heap.size w7 w.heap.size zero14 by
          rw [hw7]
          exact ((((((O1.out.other hne4 _).other hne4 _).other hne4 _).other hne4 _).other hne4 _).other hne4 _).other hne4 _)
        have HB := hid (show Below w.heap.size w w7 by
          rw [hw7]
          exact below_put (below_put (below_put (below_put (below_put (below_put (below_put HB.out (Nat.le_succ _) _) (Nat.le_succ _) _) (Nat.le_succ _) _) (Nat.le_succ _) _) (Nat.le_succ _) _) (Nat.le_succ _) _) (Nat.le_succ _) _)
        clear hw7 z0 z1 z2 z3 z4 z5 z6 hlt7 hlt4 sf4 y7 y8 y9 y10 y11 y12 y13
        obtain ⟨⟨y0, y1, y2, y3, y4, y5, y6⟩, ⟨y7, y8, y9, y10, y11, y12, y13⟩⟩ := O4.out.box.get14
        obtain ⟨⟨x0, x1, x2, x3, x4, x5, x6⟩, ⟨x7, x8, x9, x10, x11, x12, x13⟩⟩ := O1.out.box.get14
        have hlt4 := O4.out.box.1
        have hlt1 := O1.out.box.1
        have sf1 : ∀ j, w7.frozen? ⟨w.heap.size, j, none⟩ = false := O1.out.soft
        have hdm : (((m : Int) == 1) = true ∧ decide (m = 1) = true) ∨ (((m : Int) == 1) = false ∧ decide (m = 1) = false) := by
          by_cases e : m = 1
          · exact .inl ⟨by simp [e], by simp [e]⟩
          · exact .inr ⟨by simp; omega, by simp [e]⟩
        rcases hdm with ⟨dm, de⟩ | ⟨dm, de⟩
        all_goals rw [de] at HIS2
        all_goals clear de
        all_goals cases is2
        all_goals
          go_wp2_with fail
          refine body_name ?_
          intro w9 hw9
          have hw9 : w9 = w7.setCells w.heap.size 0 (SpanL.cells ⟨f, d⟩) := hw9
          have O9 : Own w.heap.size w9 w.heap.size (SpanL.cells ⟨f, d⟩) := by rw [hw9]; exact O1.out.set14 rfl _
          have B9 : Below w.heap.size w w9 := by rw [hw9]; exact below_cells HB.out (Nat.le_refl _) _ _
          clear hw9
          obtain ⟨⟨k0, k1, k2, k3, k4, k5, k6⟩, k7, k8, k9, k10, k11, k12, k13⟩ := O9.box.get14
          refine bodyPost_ret (v := .tuple #[SpanL.val ⟨f, d⟩, .bool oc.isSome]) (by simp [results, Tryz.results128, go_sem, k0, k1, k2, k3, k4, k5, k6, k7, k8, k9, k10, k11, k12, k13, HIS2.out]) rfl ?_
          exact ⟨_, rfl, HOU.out, B9⟩
end Go.Proofs.YtjceaniffooohaaGreatDoor
