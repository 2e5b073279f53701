import Derived.Test.YtplmlahpmnjneaaGreatDoorMCq
import Derived.Test.YtplmlahpmnjneaaGreatDoorMSetR
namespace Go.Proofs.YtplmlahpmnjneaaGreatDoor
open Go.RowKit Go.Lib
open Rw
set_option linter.unusedVariables false
set_option linter.unusedSimpArgs false
def tilP (parts : Int) (v : Ver) : CutL := if parts < 3 ∧ 0 < parts then highP v (parts - 1) else ⟨0, v, true⟩
def TwoPost (w : World) (s : SpanL) (e : Ending) (w' : World) : Prop := e = .returned (.tuple #[s.fr.val, s.til.val]) ∧ Below w.heap.size w w'
theorem bare_bld {v : Ver} (h : bts v.bld = []) : bareV v = v := ver_ext rfl rfl rfl rfl (h.symm ▸ bts_e)
theorem own_new3 (w : World) (o1 o2 : Obj) (cs : List Value) (t : TypeId) {B : Nat} (hB : B ≤ w.heap.size) : Own B (((w.alloc o1).alloc o2).alloc (.cells cs.toArray t)) (w.heap.size + 1 + 1) cs := by
  have := Own.new ((w.alloc o1).alloc o2) cs t (B := B) (by rw [World.size_alloc, World.size_alloc]; omega)
  rwa [World.size_alloc, World.size_alloc] at this
theorem box_drew {w : World} {g : Nat} {cs : List Value} (h : Box w g cs) : Box w.drew g cs := ⟨h.1, h.2⟩
theorem two_drew {w w1 : World} {g g4 g6 o : Nat} {vs c4 c6 : List Value} (h : Below w.heap.size w w1) (hg : w.heap.size ≤ g) (h4 : Box w1 g4 c4) (h6 : Box w1 g6 c6) (n4 : g4 ≠ g) (n6 : g6 ≠ g) : Below w.heap.size w (w1.setCells g o vs).drew ∧ Box (w1.setCells g o vs).drew g4 c4 ∧ Box (w1.setCells g o vs).drew g6 c6 :=
  ⟨(below_cells h hg o vs).drew, box_drew (h4.setOther n4), box_drew (h6.setOther n6)⟩
structure SpC (w : World) (gx g4 g6 : Nat) (cx c4 c6 : List Value) (u : World) : Prop where
  below : Below w.heap.size w u
  x : Box u gx cx
  a : Box u g4 c4
  b : Box u g6 c6
theorem SpC.on {w u u' : World} {gx g4 g6 : Nat} {cx c4 c6 : List Value} (h : SpC w gx g4 g6 cx c4 c6 u) (hb : Below u.heap.size u u') : SpC w gx g4 g6 cx c4 c6 u' := ⟨below_tr h.below hb, h.x.below hb, h.a.below hb, h.b.below hb⟩
theorem SpC.put {w u : World} {gx g4 g6 g o : Nat} {cx c4 c6 vs : List Value} (h : SpC w gx g4 g6 cx c4 c6 u) (hg : w.heap.size ≤ g) (nx : gx ≠ g) (n4 : g4 ≠ g) (n6 : g6 ≠ g) : SpC w gx g4 g6 cx c4 c6 (u.setCells g o vs) := ⟨below_cells h.below hg o vs, box_cells h.x nx, box_cells h.a n4, box_cells h.b n6⟩
theorem plan_onN {P : Program} {ops : Array Oper} {Q : Exit → Act → World → Prop} {S : World → Prop} {p : Plan} {w : World} {a : Act} (h1 : S w) (h2 : ∀ w', w' = w → wpPlan P ops (fun _ u => ∃ z : SW S, u = z.v) Q p w' a w') :
    planK (fun u => ∃ z : SW S, u = z.v) (fun a'' w' => wpPlan P ops (fun _ u => ∃ z : SW S, u = z.v) Q p w' a'' w') Q .normal a w := plan_onS h1 (h2 w rfl)
set_option maxRecDepth 100000 in
set_option maxHeartbeats 16000000 in
theorem rspan_a (c : CompL) (w : World) (hc : c.fit) (hm : MayX c) (hop : c.op = 1 ∨ c.op = 2 ∨ c.op = 3) : Calls Tryz.prog 118 #[c.val] w (TwoPost w (spanX c)) := by
  obtain ⟨op, parts, v⟩ := c
  have HOP := hid hop
  clear hop
  dsimp only at HOP
  have HBV : bareV v = v := bare_bld hm.bld
  have HBF := hid (fun u => rbefore_any v u)
  have HBH := hid (fun u => rbehind3_any v u)
  rw [HBV] at HBF HBH
  have HVF := hid (show v.fit from hc)
  have M := hid hm
  clear HBV hc hm
  have h1 : 0 ≤ parts := by have := M.out.many; simp only at this; omega
  have h3 : parts ≤ 3 := by have := M.out.many; simp only at this; omega
  have hop1 : 1 ≤ op := M.out.op.1
  have hop9 : op ≤ 9 := M.out.op.2
  generalize hsp : spanX ⟨op, parts, v⟩ = sp at *
  have HSP := hid hsp
  clear hsp
  go_enter Tryz.func118, Tryz.ntmps118
  go_upto_region 1 with fail
  refine wp_name ?_
  intro w1 hw1
  have HX := hid (show Box w1 w.heap.size (CompL.cells ⟨op, parts, v⟩) by rw [hw1]; exact (Box.new w (CompL.cells ⟨op, parts, v⟩) 52).below (below_tr (below_new _ _) (below_new _ _)))
  have O2 := hid (show Own w.heap.size w1 (w.heap.size + 1) zero7C by rw [hw1]; exact (Own.new2 w _ zero7C 98 (Nat.le_refl _)).alloc _)
  have O3 := hid (show Own w.heap.size w1 (w.heap.size + 1 + 1) zero7C by rw [hw1]; exact own_new3 w _ _ zero7C 98 (Nat.le_refl _))
  have HB := hid (show Below w.heap.size w w1 by rw [hw1]; exact below_tr (below_new _ _) (below_tr (below_new _ _) (below_new _ _)))
  clear hw1
  have n23 : w.heap.size + 1 ≠ w.heap.size + 1 + 1 := by omega
  have n2x : w.heap.size ≠ w.heap.size + 1 := by omega
  have n3x : w.heap.size ≠ w.heap.size + 1 + 1 := by omega
  have l2 : w.heap.size ≤ w.heap.size + 1 := by omega
  have l3 : w.heap.size ≤ w.heap.size + 1 + 1 := by omega
  generalize w.heap.size + 1 + 1 = g3 at *
  generalize w.heap.size + 1 = g2 at *
  have t2 := O2.out.box.1
  have t3 := O3.out.box.1
  go_cut [4, 5] from 7 to 77 (fun pa b wx => ∃ g4 : Nat, pa = .pointer (some ⟨g4, 0, none⟩) ∧ b = .int .i64 (parts - 1) ∧ Hid (Own w1.heap.size wx g4 (CutL.cells ⟨0, v, false⟩)) ∧ Hid (Below w1.heap.size w1 wx))
  case first =>
    have hS : Below w1.heap.size w1 w1.drew := (Below.refl _ _).drew
    refine wp_planS (fun u => Below w1.heap.size w1 u) (.two [0, 1, 3, 4, 5] 2 6 (.call [] 6 (.call [] 7 (.last [8]))) (.call [] 2 (.call [] 7 (.last [8])))) (by first | assumption | skip) (by kernel_rfl) (by intro _ _ d _ _ h; cases d <;> exact h) (by kernel_rfl) ?_
    have iS : Nonempty (SW fun u => Below w1.heap.size w1 u) := ⟨⟨_, hS⟩⟩
    have q1 := fun (z : SW fun u => Below w1.heap.size w1 u) => (HX.out.below z.ok).get7.2.1
    have q2 := fun (z : SW fun u => Below w1.heap.size w1 u) => (HX.out.below z.ok).get7.2.2.1
    have q3 := fun (z : SW fun u => Below w1.heap.size w1 u) => (HX.out.below z.ok).get7.2.2.2.1
    have q4 := fun (z : SW fun u => Below w1.heap.size w1 u) => (HX.out.below z.ok).get7.2.2.2.2.1
    have q5 := fun (z : SW fun u => Below w1.heap.size w1 u) => (HX.out.below z.ok).get7.2.2.2.2.2.1
    have q6 := fun (z : SW fun u => Below w1.heap.size w1 u) => (HX.out.below z.ok).get7.2.2.2.2.2.2
    refine plan_two ?_
    simp only [pickOps, List.map_cons, List.map_nil, List.getElem?_toArray, List.getElem?_cons_zero, List.getElem?_cons_succ, Option.getD_some]
    repeat go_big_quiet_step (fail)
    refine wpQuiet_nil ?_
    refine ⟨?_, ?_⟩
    · go_wp2_with fail
      refine (HBF.out _).mono ?_
      rintro _ w2 ⟨rfl, hb2⟩
      have HB2 := hid (below_tr hS hb2)
      go_wp2_with fail
      refine plan_onS (HB2.out) ?_
      refine plan_call ?_
      simp only [pickOps, List.map_cons, List.map_nil, List.getElem?_toArray, List.getElem?_cons_zero, List.getElem?_cons_succ, Option.getD_some]
      repeat go_big_quiet_step (fail)
      refine wpQuiet_nil ?_
      go_wp2_with fail
      try go_wp2_with fail
      refine plan_onS (below_tr HB2.out (below_new _ _)) ?_
      refine plan_call ?_
      simp only [pickOps, List.map_cons, List.map_nil, List.getElem?_toArray, List.getElem?_cons_zero, List.getElem?_cons_succ, Option.getD_some]
      repeat go_big_quiet_step (fail)
      refine wpQuiet_nil ?_
      go_wp2_with fail
      try go_wp2_with fail
      refine plan_onS (below_tr HB2.out (below_new _ _)) ?_
      refine plan_last ?_
      simp only [pickOps, List.map_cons, List.map_nil, List.getElem?_toArray, List.getElem?_cons_zero, List.getElem?_cons_succ, Option.getD_some]
      repeat go_big_quiet_step (fail)
      refine wpQuiet_nil ?_
      go_wp2_with fail
      go_meet
      case rel => exact ⟨w2.heap.size, rfl, rfl, hid (Own.new w2 (CutL.cells ⟨0, v, false⟩) 98 HB2.out.size), hid (below_tr HB2.out (below_new _ _))⟩
    · try go_wp2_with fail
      refine plan_onS (below_tr hS (below_new _ _)) ?_
      refine plan_call ?_
      simp only [pickOps, List.map_cons, List.map_nil, List.getElem?_toArray, List.getElem?_cons_zero, List.getElem?_cons_succ, Option.getD_some]
      repeat go_big_quiet_step (fail)
      refine wpQuiet_nil ?_
      go_wp2_with fail
      refine (HBF.out _).mono ?_
      rintro _ w2 ⟨rfl, hb2⟩
      have O4 := hid (show Own w1.heap.size w2 w1.heap.size (CutL.cells ⟨0, zeroV, false⟩) from (Own.new w1.drew (CutL.cells ⟨0, zeroV, false⟩) 98 (Nat.le_refl _)).below hb2)
      have HB2 := hid (below_tr (below_tr hS (below_new _ _)) hb2)
      clear hb2
      go_wp2_with fail
      refine plan_onS (HB2.out) ?_
      obtain ⟨z0, z1, z2, z3, z4, z5, z6⟩ := O4.out.box.get7
      have sf4 : ∀ j, w2.frozen? ⟨w1.heap.size, j, none⟩ = false := O4.out.soft
      have ll4 : w1.heap.size < w2.heap.size := O4.out.box.1
      refine plan_call ?_
      simp only [pickOps, List.map_cons, List.map_nil, List.getElem?_toArray, List.getElem?_cons_zero, List.getElem?_cons_succ, Option.getD_some]
      repeat go_big_quiet_step (fail)
      refine wpQuiet_nil ?_
      go_wp2_with fail
      try go_wp2_with fail
      refine plan_onS (below_cells (w := w1) (w1 := w2) (g := w1.heap.size) HB2.out (Nat.le_refl _) 0 (CutL.cells ⟨0, v, false⟩)) ?_
      refine plan_last ?_
      simp only [pickOps, List.map_cons, List.map_nil, List.getElem?_toArray, List.getElem?_cons_zero, List.getElem?_cons_succ, Option.getD_some]
      repeat go_big_quiet_step (fail)
      refine wpQuiet_nil ?_
      go_wp2_with fail
      go_meet
      case rel => exact ⟨w1.heap.size, rfl, rfl, hid (own_c7 (B := w1.heap.size) (w := w2) (g := w1.heap.size) (a := ⟨0, zeroV, false⟩) (b := ⟨0, v, false⟩) O4.out), hid (below_cells (w := w1) (w1 := w2) (g := w1.heap.size) HB2.out (Nat.le_refl _) 0 (CutL.cells ⟨0, v, false⟩))⟩
  case rest =>
    obtain ⟨g4, rfl, rfl, O4, HB1⟩ := hcut
    have HX := hid (HX.out.below HB1.out)
    have O2 := hid (O2.out.below HB1.out)
    have O3 := hid (O3.out.below HB1.out)
    have n4x : w.heap.size ≠ g4 := by have := O4.out.low; have := HB.out.size; have := t2; omega
    have n42 : g2 ≠ g4 := by have := O4.out.low; omega
    have n43 : g3 ≠ g4 := by have := O4.out.low; omega
    have O4 := hid (show Own w.heap.size wc g4 (CutL.cells ⟨0, v, false⟩) from ⟨O4.out.box, O4.out.soft, Nat.le_trans HB.out.size O4.out.low⟩)
    have HB := hid (below_tr HB.out HB1.out)
    clear t2 t3 HB1
    obtain ⟨x0, x1, x2, x3, x4, x5, x6⟩ := HX.out.get7
    go_upto_region 3 with fail
    refine (HBH.out _).mono ?_
    rintro _ w2 ⟨rfl, hb⟩
    have HX := hid (HX.out.below hb)
    have O2 := hid (O2.out.below hb)
    have O3 := hid (O3.out.below hb)
    have O4 := hid (O4.out.below hb)
    have HB := hid (below_tr HB.out hb)
    clear hb x0 x1 x2 x3 x4 x5 x6
    go_upto_region 3 with fail
    refine wp_name ?_
    intro w3 hw3
    have O6 := hid (show Own w.heap.size w3 w2.heap.size (CutL.cells ⟨0, v, true⟩) by rw [hw3]; exact Own.new w2 (CutL.cells ⟨0, v, true⟩) 98 HB.out.size)
    have n6x : w.heap.size ≠ w2.heap.size := by have := HX.out.1; omega
    have n62 : g2 ≠ w2.heap.size := by have := O2.out.box.1; omega
    have n63 : g3 ≠ w2.heap.size := by have := O3.out.box.1; omega
    have n64 : g4 ≠ w2.heap.size := by have := O4.out.box.1; omega
    have HX := hid (show Box w3 w.heap.size (CompL.cells ⟨op, parts, v⟩) by rw [hw3]; exact HX.out.below (below_new _ _))
    have O2 := hid (show Own w.heap.size w3 g2 zero7C by rw [hw3]; exact O2.out.alloc _)
    have O3 := hid (show Own w.heap.size w3 g3 zero7C by rw [hw3]; exact O3.out.alloc _)
    have O4 := hid (show Own w.heap.size w3 g4 (CutL.cells ⟨0, v, false⟩) by rw [hw3]; exact O4.out.alloc _)
    have HB := hid (show Below w.heap.size w w3 by rw [hw3]; exact below_tr HB.out (below_new _ _))
    clear hw3
    generalize w2.heap.size = g6 at *
    obtain ⟨x0, x1, x2, x3, x4, x5, x6⟩ := HX.out.get7
    have HTL : Hid (∃ tl : CutL, tilP parts v = tl) := hid ⟨_, rfl⟩
    obtain ⟨tl, htl⟩ := HTL.out
    have HTL := hid htl
    clear htl
    go_cut [23] from 16 to 77 (fun b wx => b = .bool (decide (parts < 3 ∧ 0 < parts)) ∧ wx = w3)
    case first =>
      have hp' : parts = 0 ∨ parts = 1 ∨ parts = 2 ∨ parts = 3 := by omega
      have HPV := hid hp'
      by_cases hp1 : parts < 3
      · by_cases hp2 : 0 < parts
        · have HE := hid (show decide (parts < 3 ∧ 0 < parts) = true by simp [hp1, hp2])
          go_wp2_with fail
          go_meet
          case rel => exact ⟨by rw [HE.out], rfl⟩
        · have HE := hid (show decide (parts < 3 ∧ 0 < parts) = false by simp [hp2])
          go_wp2_with fail
          go_meet
          case rel => exact ⟨by rw [HE.out], rfl⟩
      · have HE := hid (show decide (parts < 3 ∧ 0 < parts) = false by simp [hp1])
        go_wp2_with fail
        go_meet
        case rel => exact ⟨by rw [HE.out], rfl⟩
    obtain ⟨rfl, hwx⟩ := hcut
    subst hwx
    go_upto_if 23 with fail
    go_cut [] from 23 to 77 (fun wx => Hid (Own w.heap.size wx g6 tl.cells) ∧ Hid (Own w.heap.size wx g2 zero7C) ∧ Hid (Own w.heap.size wx g3 zero7C) ∧ Hid (Own w.heap.size wx g4 (CutL.cells ⟨0, v, false⟩)) ∧ Hid (Box wx w.heap.size (CompL.cells ⟨op, parts, v⟩)) ∧ Hid (Below w.heap.size w wx))
    case first =>
      by_cases hp : parts < 3 ∧ 0 < parts
      · have HE := hid (show highP v (parts - 1) = tl by rw [← HTL.out, tilP, if_pos hp])
        have HHI := hid (fun u => rhigh_any v (parts - 1) u HVF.out M.out.v (by omega))
        rw [HE.out] at HHI
        obtain ⟨hp1, hp2⟩ := hp
        simp only [hp1, hp2, and_self, decide_true]
        go_wp2_with fail
        refine (HHI.out _).mono ?_
        rintro _ w4 ⟨rfl, hb⟩
        have HX := hid (HX.out.below hb)
        have O2 := hid (O2.out.below hb)
        have O3 := hid (O3.out.below hb)
        have O4 := hid (O4.out.below hb)
        have O6 := hid (O6.out.below hb)
        have HB := hid (below_tr HB.out hb)
        clear hb x0 x1 x2 x3 x4 x5 x6 HHI
        obtain ⟨z0, z1, z2, z3, z4, z5, z6⟩ := O6.out.box.get7
        have sf6 : ∀ j, w4.frozen? ⟨g6, j, none⟩ = false := O6.out.soft
        have l6 := O6.out.box.1
        have low6 := O6.out.low
        go_wp2_with fail
        go_meet
        case rel => exact ⟨hid (own_c7 O6.out), hid (own_cells (k := g6) (o := 0) (vs := tl.cells) O2.out n62), hid (own_cells (k := g6) (o := 0) (vs := tl.cells) O3.out n63), hid (own_cells (k := g6) (o := 0) (vs := tl.cells) O4.out n64), hid (box_cells (k := g6) (o := 0) (vs := tl.cells) HX.out n6x), hid (below_cells HB.out low6 0 tl.cells)⟩
      · have HE := hid (show tl = ⟨0, v, true⟩ by rw [← HTL.out, tilP, if_neg hp])
        have hp' : parts = 0 ∨ parts = 3 := by omega
        have HTE := HE.out
        subst HTE
        simp only [hp, decide_false]
        clear hp
        rcases hp' with rfl | rfl
        · go_wp2_with fail
          go_meet
          case rel => exact ⟨O6, O2, O3, O4, HX, HB⟩
        · go_wp2_with fail
          go_meet
          case rel => exact ⟨O6, O2, O3, O4, HX, HB⟩
    case rest =>
      obtain ⟨O6, O2, O3, O4, HX, HB⟩ := hcut
      have t2 := O2.out.box.1
      have t3 := O3.out.box.1
      have HBE := hid (fun (h : 1 ≤ parts) => (show behindX ⟨op, parts, v⟩ = tl by
        rw [← HTL.out, tilP, behindX, highP]
        by_cases hq : parts < 3
        · rw [if_pos hq, if_pos ⟨hq, by omega⟩, show parts - 1 + 1 = parts by omega]
        · rw [if_neg hq, if_neg (fun e => hq e.1)]))
      have hops : op = 1 ∨ op = 2 ∨ op = 3 := HOP.out
      have C0 := hid (show SpC w w.heap.size g4 g6 (CompL.cells ⟨op, parts, v⟩) (CutL.cells ⟨0, v, false⟩) tl.cells wc from ⟨HB.out, HX.out, O4.out.box, O6.out.box⟩)
      obtain ⟨x0, x1, x2, x3, x4, x5, x6⟩ := HX.out.get7
      go_upto_block 0 with fail
      have l2' := O2.out.low
      have l3' := O3.out.low
      have m1 : op = 9 ∨ 1 ≤ parts := by have := M.out.many; simp only at this; omega
      clear HB t2 t3
      rcases hops with rfl | rfl | rfl
      · have HS := hid (show sp = ⟨⟨0, v, false⟩, tl⟩ by rw [← HSP.out]; simp [spanX, lowX, HBE.out (by omega)])
        go_upto_region 8 with fail
        have hS := C0.out.on (Below.refl _ _).drew
        have O2 := hid (O2.out.below (Below.refl _ _).drew)
        have O3 := hid (O3.out.below (Below.refl _ _).drew)
        refine wp_planS (fun u => SpC w w.heap.size g4 g6 (CompL.cells ⟨1, parts, v⟩) (CutL.cells ⟨0, v, false⟩) tl.cells u) (.call [0, 1] 2 (.call [] 3 (.last []))) (by first | assumption | skip) (by kernel_rfl) (by intro _ _ d _ _ h; cases d <;> exact h) (by kernel_rfl) ?_
        have iS : Nonempty (SW fun u => SpC w w.heap.size g4 g6 (CompL.cells ⟨1, parts, v⟩) (CutL.cells ⟨0, v, false⟩) tl.cells u) := ⟨⟨_, hS⟩⟩
        have q0 := fun (z : SW fun u => SpC w w.heap.size g4 g6 (CompL.cells ⟨1, parts, v⟩) (CutL.cells ⟨0, v, false⟩) tl.cells u) => z.ok.a.get7.1
        have q1 := fun (z : SW fun u => SpC w w.heap.size g4 g6 (CompL.cells ⟨1, parts, v⟩) (CutL.cells ⟨0, v, false⟩) tl.cells u) => z.ok.a.get7.2.1
        have q2 := fun (z : SW fun u => SpC w w.heap.size g4 g6 (CompL.cells ⟨1, parts, v⟩) (CutL.cells ⟨0, v, false⟩) tl.cells u) => z.ok.a.get7.2.2.1
        have q3 := fun (z : SW fun u => SpC w w.heap.size g4 g6 (CompL.cells ⟨1, parts, v⟩) (CutL.cells ⟨0, v, false⟩) tl.cells u) => z.ok.a.get7.2.2.2.1
        have q4 := fun (z : SW fun u => SpC w w.heap.size g4 g6 (CompL.cells ⟨1, parts, v⟩) (CutL.cells ⟨0, v, false⟩) tl.cells u) => z.ok.a.get7.2.2.2.2.1
        have q5 := fun (z : SW fun u => SpC w w.heap.size g4 g6 (CompL.cells ⟨1, parts, v⟩) (CutL.cells ⟨0, v, false⟩) tl.cells u) => z.ok.a.get7.2.2.2.2.2.1
        have q6 := fun (z : SW fun u => SpC w w.heap.size g4 g6 (CompL.cells ⟨1, parts, v⟩) (CutL.cells ⟨0, v, false⟩) tl.cells u) => z.ok.a.get7.2.2.2.2.2.2
        have r0 := fun (z : SW fun u => SpC w w.heap.size g4 g6 (CompL.cells ⟨1, parts, v⟩) (CutL.cells ⟨0, v, false⟩) tl.cells u) => z.ok.b.get7.1
        have r1 := fun (z : SW fun u => SpC w w.heap.size g4 g6 (CompL.cells ⟨1, parts, v⟩) (CutL.cells ⟨0, v, false⟩) tl.cells u) => z.ok.b.get7.2.1
        have r2 := fun (z : SW fun u => SpC w w.heap.size g4 g6 (CompL.cells ⟨1, parts, v⟩) (CutL.cells ⟨0, v, false⟩) tl.cells u) => z.ok.b.get7.2.2.1
        have r3 := fun (z : SW fun u => SpC w w.heap.size g4 g6 (CompL.cells ⟨1, parts, v⟩) (CutL.cells ⟨0, v, false⟩) tl.cells u) => z.ok.b.get7.2.2.2.1
        have r4 := fun (z : SW fun u => SpC w w.heap.size g4 g6 (CompL.cells ⟨1, parts, v⟩) (CutL.cells ⟨0, v, false⟩) tl.cells u) => z.ok.b.get7.2.2.2.2.1
        have r5 := fun (z : SW fun u => SpC w w.heap.size g4 g6 (CompL.cells ⟨1, parts, v⟩) (CutL.cells ⟨0, v, false⟩) tl.cells u) => z.ok.b.get7.2.2.2.2.2.1
        have r6 := fun (z : SW fun u => SpC w w.heap.size g4 g6 (CompL.cells ⟨1, parts, v⟩) (CutL.cells ⟨0, v, false⟩) tl.cells u) => z.ok.b.get7.2.2.2.2.2.2
        obtain ⟨a0, a1, a2, a3, a4, a5, a6⟩ := (show Box wc g2 zero7C from O2.out.box).get7
        have sf : ∀ j, wc.frozen? ⟨g2, j, none⟩ = false := O2.out.soft
        have tt : g2 < wc.heap.size := O2.out.box.1
        refine plan_call ?_
        simp only [pickOps, List.map_cons, List.map_nil, List.getElem?_toArray, List.getElem?_cons_zero, List.getElem?_cons_succ, Option.getD_some]
        repeat go_big_quiet_step (fail)
        refine wpQuiet_nil ?_
        go_wp2_with fail
        refine plan_onN ((SpC.put (g := g2) (o := 0) (vs := (CutL.cells ⟨0, v, false⟩)) C0.out l2' n2x n42.symm n62.symm).on (Below.refl _ _).drew) ?_
        intro u1 hw
        have hSu1 := ((SpC.put (g := g2) (o := 0) (vs := (CutL.cells ⟨0, v, false⟩)) C0.out l2' n2x n42.symm n62.symm).on (Below.refl _ _).drew)
        replace hw : u1 = (wc.setCells g2 0 (CutL.cells ⟨0, v, false⟩)).drew := hw
        rw [← hw] at hSu1
        have O2 := hid (show Own w.heap.size u1 g2 (CutL.cells ⟨0, v, false⟩) by rw [hw]; exact (own_c7 (a := ⟨0, zeroV, false⟩) (show Own w.heap.size wc g2 zero7C from ⟨O2.out.box, O2.out.soft, O2.out.low⟩)).below (Below.refl _ _).drew)
        have O3 := hid (show Own w.heap.size u1 g3 zero7C by rw [hw]; exact (own_cells (show Own w.heap.size wc g3 zero7C from ⟨O3.out.box, O3.out.soft, O3.out.low⟩) n23.symm).below (Below.refl _ _).drew)
        clear hw a0 a1 a2 a3 a4 a5 a6 sf tt
        obtain ⟨a0, a1, a2, a3, a4, a5, a6⟩ := O3.out.box.get7
        have sf : ∀ j, (u1).frozen? ⟨g3, j, none⟩ = false := O3.out.soft
        have tt := O3.out.box.1
        refine plan_call ?_
        simp only [pickOps, List.map_cons, List.map_nil, List.getElem?_toArray, List.getElem?_cons_zero, List.getElem?_cons_succ, Option.getD_some]
        repeat go_big_quiet_step (fail)
        refine wpQuiet_nil ?_
        go_wp2_with fail
        refine plan_onN (SpC.put (g := g3) (o := 0) (vs := tl.cells) hSu1 l3' n3x n43.symm n63.symm) ?_
        intro u2 hw
        have hSu2 := (SpC.put (g := g3) (o := 0) (vs := tl.cells) hSu1 l3' n3x n43.symm n63.symm)
        replace hw : u2 = (u1).setCells g3 0 tl.cells := hw
        rw [← hw] at hSu2
        have O3 := hid (show Own w.heap.size u2 g3 tl.cells by rw [hw]; exact own_c7 (a := ⟨0, zeroV, false⟩) O3.out)
        have O2 := hid (show Own w.heap.size u2 g2 (CutL.cells ⟨0, v, false⟩) by rw [hw]; exact own_cells O2.out n23)
        clear hw a0 a1 a2 a3 a4 a5 a6 sf tt
        refine plan_last ?_
        simp only [pickOps, List.map_cons, List.map_nil, List.getElem?_toArray, List.getElem?_cons_zero, List.getElem?_cons_succ, Option.getD_some]
        repeat go_big_quiet_step (fail)
        refine wpQuiet_nil ?_
        go_wp2_with fail
        obtain ⟨a0, a1, a2, a3, a4, a5, a6⟩ := O2.out.box.get7
        obtain ⟨b0, b1, b2, b3, b4, b5, b6⟩ := O3.out.box.get7
        rw [HS.out]
        refine bodyPost_ret (v := .tuple #[CutL.val ⟨0, v, false⟩, CutL.val tl]) (by simp [results, Tryz.results118, go_sem, a0, a1, a2, a3, a4, a5, a6, b0, b1, b2, b3, b4, b5, b6]) rfl ⟨rfl, hSu2.below⟩
      · have HS := hid (show sp = ⟨⟨0, v, false⟩, tl⟩ by rw [← HSP.out]; simp [spanX, lowX, HBE.out (by omega)])
        go_upto_region 8 with fail
        have hS := C0.out.on (Below.refl _ _).drew
        have O2 := hid (O2.out.below (Below.refl _ _).drew)
        have O3 := hid (O3.out.below (Below.refl _ _).drew)
        refine wp_planS (fun u => SpC w w.heap.size g4 g6 (CompL.cells ⟨2, parts, v⟩) (CutL.cells ⟨0, v, false⟩) tl.cells u) (.call [0, 1] 2 (.call [] 3 (.last []))) (by first | assumption | skip) (by kernel_rfl) (by intro _ _ d _ _ h; cases d <;> exact h) (by kernel_rfl) ?_
        have iS : Nonempty (SW fun u => SpC w w.heap.size g4 g6 (CompL.cells ⟨2, parts, v⟩) (CutL.cells ⟨0, v, false⟩) tl.cells u) := ⟨⟨_, hS⟩⟩
        have q0 := fun (z : SW fun u => SpC w w.heap.size g4 g6 (CompL.cells ⟨2, parts, v⟩) (CutL.cells ⟨0, v, false⟩) tl.cells u) => z.ok.a.get7.1
        have q1 := fun (z : SW fun u => SpC w w.heap.size g4 g6 (CompL.cells ⟨2, parts, v⟩) (CutL.cells ⟨0, v, false⟩) tl.cells u) => z.ok.a.get7.2.1
        have q2 := fun (z : SW fun u => SpC w w.heap.size g4 g6 (CompL.cells ⟨2, parts, v⟩) (CutL.cells ⟨0, v, false⟩) tl.cells u) => z.ok.a.get7.2.2.1
        have q3 := fun (z : SW fun u => SpC w w.heap.size g4 g6 (CompL.cells ⟨2, parts, v⟩) (CutL.cells ⟨0, v, false⟩) tl.cells u) => z.ok.a.get7.2.2.2.1
        have q4 := fun (z : SW fun u => SpC w w.heap.size g4 g6 (CompL.cells ⟨2, parts, v⟩) (CutL.cells ⟨0, v, false⟩) tl.cells u) => z.ok.a.get7.2.2.2.2.1
        have q5 := fun (z : SW fun u => SpC w w.heap.size g4 g6 (CompL.cells ⟨2, parts, v⟩) (CutL.cells ⟨0, v, false⟩) tl.cells u) => z.ok.a.get7.2.2.2.2.2.1
        have q6 := fun (z : SW fun u => SpC w w.heap.size g4 g6 (CompL.cells ⟨2, parts, v⟩) (CutL.cells ⟨0, v, false⟩) tl.cells u) => z.ok.a.get7.2.2.2.2.2.2
        have r0 := fun (z : SW fun u => SpC w w.heap.size g4 g6 (CompL.cells ⟨2, parts, v⟩) (CutL.cells ⟨0, v, false⟩) tl.cells u) => z.ok.b.get7.1
        have r1 := fun (z : SW fun u => SpC w w.heap.size g4 g6 (CompL.cells ⟨2, parts, v⟩) (CutL.cells ⟨0, v, false⟩) tl.cells u) => z.ok.b.get7.2.1
        have r2 := fun (z : SW fun u => SpC w w.heap.size g4 g6 (CompL.cells ⟨2, parts, v⟩) (CutL.cells ⟨0, v, false⟩) tl.cells u) => z.ok.b.get7.2.2.1
        have r3 := fun (z : SW fun u => SpC w w.heap.size g4 g6 (CompL.cells ⟨2, parts, v⟩) (CutL.cells ⟨0, v, false⟩) tl.cells u) => z.ok.b.get7.2.2.2.1
        have r4 := fun (z : SW fun u => SpC w w.heap.size g4 g6 (CompL.cells ⟨2, parts, v⟩) (CutL.cells ⟨0, v, false⟩) tl.cells u) => z.ok.b.get7.2.2.2.2.1
        have r5 := fun (z : SW fun u => SpC w w.heap.size g4 g6 (CompL.cells ⟨2, parts, v⟩) (CutL.cells ⟨0, v, false⟩) tl.cells u) => z.ok.b.get7.2.2.2.2.2.1
        have r6 := fun (z : SW fun u => SpC w w.heap.size g4 g6 (CompL.cells ⟨2, parts, v⟩) (CutL.cells ⟨0, v, false⟩) tl.cells u) => z.ok.b.get7.2.2.2.2.2.2
        obtain ⟨a0, a1, a2, a3, a4, a5, a6⟩ := (show Box wc g2 zero7C from O2.out.box).get7
        have sf : ∀ j, wc.frozen? ⟨g2, j, none⟩ = false := O2.out.soft
        have tt : g2 < wc.heap.size := O2.out.box.1
        refine plan_call ?_
        simp only [pickOps, List.map_cons, List.map_nil, List.getElem?_toArray, List.getElem?_cons_zero, List.getElem?_cons_succ, Option.getD_some]
        repeat go_big_quiet_step (fail)
        refine wpQuiet_nil ?_
        go_wp2_with fail
        refine plan_onN ((SpC.put (g := g2) (o := 0) (vs := (CutL.cells ⟨0, v, false⟩)) C0.out l2' n2x n42.symm n62.symm).on (Below.refl _ _).drew) ?_
        intro u1 hw
        have hSu1 := ((SpC.put (g := g2) (o := 0) (vs := (CutL.cells ⟨0, v, false⟩)) C0.out l2' n2x n42.symm n62.symm).on (Below.refl _ _).drew)
        replace hw : u1 = (wc.setCells g2 0 (CutL.cells ⟨0, v, false⟩)).drew := hw
        rw [← hw] at hSu1
        have O2 := hid (show Own w.heap.size u1 g2 (CutL.cells ⟨0, v, false⟩) by rw [hw]; exact (own_c7 (a := ⟨0, zeroV, false⟩) (show Own w.heap.size wc g2 zero7C from ⟨O2.out.box, O2.out.soft, O2.out.low⟩)).below (Below.refl _ _).drew)
        have O3 := hid (show Own w.heap.size u1 g3 zero7C by rw [hw]; exact (own_cells (show Own w.heap.size wc g3 zero7C from ⟨O3.out.box, O3.out.soft, O3.out.low⟩) n23.symm).below (Below.refl _ _).drew)
        clear hw a0 a1 a2 a3 a4 a5 a6 sf tt
        obtain ⟨a0, a1, a2, a3, a4, a5, a6⟩ := O3.out.box.get7
        have sf : ∀ j, (u1).frozen? ⟨g3, j, none⟩ = false := O3.out.soft
        have tt := O3.out.box.1
        refine plan_call ?_
        simp only [pickOps, List.map_cons, List.map_nil, List.getElem?_toArray, List.getElem?_cons_zero, List.getElem?_cons_succ, Option.getD_some]
        repeat go_big_quiet_step (fail)
        refine wpQuiet_nil ?_
        go_wp2_with fail
        refine plan_onN (SpC.put (g := g3) (o := 0) (vs := tl.cells) hSu1 l3' n3x n43.symm n63.symm) ?_
        intro u2 hw
        have hSu2 := (SpC.put (g := g3) (o := 0) (vs := tl.cells) hSu1 l3' n3x n43.symm n63.symm)
        replace hw : u2 = (u1).setCells g3 0 tl.cells := hw
        rw [← hw] at hSu2
        have O3 := hid (show Own w.heap.size u2 g3 tl.cells by rw [hw]; exact own_c7 (a := ⟨0, zeroV, false⟩) O3.out)
        have O2 := hid (show Own w.heap.size u2 g2 (CutL.cells ⟨0, v, false⟩) by rw [hw]; exact own_cells O2.out n23)
        clear hw a0 a1 a2 a3 a4 a5 a6 sf tt
        refine plan_last ?_
        simp only [pickOps, List.map_cons, List.map_nil, List.getElem?_toArray, List.getElem?_cons_zero, List.getElem?_cons_succ, Option.getD_some]
        repeat go_big_quiet_step (fail)
        refine wpQuiet_nil ?_
        go_wp2_with fail
        obtain ⟨a0, a1, a2, a3, a4, a5, a6⟩ := O2.out.box.get7
        obtain ⟨b0, b1, b2, b3, b4, b5, b6⟩ := O3.out.box.get7
        rw [HS.out]
        refine bodyPost_ret (v := .tuple #[CutL.val ⟨0, v, false⟩, CutL.val tl]) (by simp [results, Tryz.results118, go_sem, a0, a1, a2, a3, a4, a5, a6, b0, b1, b2, b3, b4, b5, b6]) rfl ⟨rfl, hSu2.below⟩
      · have HS := hid (show sp = ⟨firstC, ⟨0, v, false⟩⟩ by rw [← HSP.out]; simp [spanX, lowX])
        go_upto_region 10 with fail
        have hS := C0.out.on (Below.refl _ _).drew
        have O2 := hid (O2.out.below (Below.refl _ _).drew)
        have O3 := hid (O3.out.below (Below.refl _ _).drew)
        refine wp_planS (fun u => SpC w w.heap.size g4 g6 (CompL.cells ⟨3, parts, v⟩) (CutL.cells ⟨0, v, false⟩) tl.cells u) (.call [1] 0 (.call [] 2 (.call [] 3 (.last [])))) (by first | assumption | skip) (by kernel_rfl) (by intro _ _ d _ _ h; cases d <;> exact h) (by kernel_rfl) ?_
        have iS : Nonempty (SW fun u => SpC w w.heap.size g4 g6 (CompL.cells ⟨3, parts, v⟩) (CutL.cells ⟨0, v, false⟩) tl.cells u) := ⟨⟨_, hS⟩⟩
        have q0 := fun (z : SW fun u => SpC w w.heap.size g4 g6 (CompL.cells ⟨3, parts, v⟩) (CutL.cells ⟨0, v, false⟩) tl.cells u) => z.ok.a.get7.1
        have q1 := fun (z : SW fun u => SpC w w.heap.size g4 g6 (CompL.cells ⟨3, parts, v⟩) (CutL.cells ⟨0, v, false⟩) tl.cells u) => z.ok.a.get7.2.1
        have q2 := fun (z : SW fun u => SpC w w.heap.size g4 g6 (CompL.cells ⟨3, parts, v⟩) (CutL.cells ⟨0, v, false⟩) tl.cells u) => z.ok.a.get7.2.2.1
        have q3 := fun (z : SW fun u => SpC w w.heap.size g4 g6 (CompL.cells ⟨3, parts, v⟩) (CutL.cells ⟨0, v, false⟩) tl.cells u) => z.ok.a.get7.2.2.2.1
        have q4 := fun (z : SW fun u => SpC w w.heap.size g4 g6 (CompL.cells ⟨3, parts, v⟩) (CutL.cells ⟨0, v, false⟩) tl.cells u) => z.ok.a.get7.2.2.2.2.1
        have q5 := fun (z : SW fun u => SpC w w.heap.size g4 g6 (CompL.cells ⟨3, parts, v⟩) (CutL.cells ⟨0, v, false⟩) tl.cells u) => z.ok.a.get7.2.2.2.2.2.1
        have q6 := fun (z : SW fun u => SpC w w.heap.size g4 g6 (CompL.cells ⟨3, parts, v⟩) (CutL.cells ⟨0, v, false⟩) tl.cells u) => z.ok.a.get7.2.2.2.2.2.2
        refine plan_call ?_
        simp only [pickOps, List.map_cons, List.map_nil, List.getElem?_toArray, List.getElem?_cons_zero, List.getElem?_cons_succ, Option.getD_some]
        repeat go_big_quiet_step (fail)
        refine wpQuiet_nil ?_
        go_wp2_with fail
        refine (first_any _).mono ?_
        rintro _ u0 ⟨rfl, hb⟩
        have hSu0 := hS.on hb
        have O2 := hid (O2.out.below hb)
        have O3 := hid (O3.out.below hb)
        clear hb
        go_wp2_with fail
        refine plan_onS (hSu0) ?_
        obtain ⟨a0, a1, a2, a3, a4, a5, a6⟩ := O2.out.box.get7
        have sf : ∀ j, (u0).frozen? ⟨g2, j, none⟩ = false := O2.out.soft
        have tt := O2.out.box.1
        refine plan_call ?_
        simp only [pickOps, List.map_cons, List.map_nil, List.getElem?_toArray, List.getElem?_cons_zero, List.getElem?_cons_succ, Option.getD_some]
        repeat go_big_quiet_step (fail)
        refine wpQuiet_nil ?_
        go_wp2_with fail
        refine plan_onN (SpC.put (g := g2) (o := 0) (vs := firstC.cells) hSu0 l2' n2x n42.symm n62.symm) ?_
        intro u1 hw
        have hSu1 := (SpC.put (g := g2) (o := 0) (vs := firstC.cells) hSu0 l2' n2x n42.symm n62.symm)
        replace hw : u1 = (u0).setCells g2 0 firstC.cells := hw
        rw [← hw] at hSu1
        have O2 := hid (show Own w.heap.size u1 g2 firstC.cells by rw [hw]; exact own_c7 (a := ⟨0, zeroV, false⟩) O2.out)
        have O3 := hid (show Own w.heap.size u1 g3 zero7C by rw [hw]; exact own_cells O3.out n23.symm)
        clear hw a0 a1 a2 a3 a4 a5 a6 sf tt
        obtain ⟨a0, a1, a2, a3, a4, a5, a6⟩ := O3.out.box.get7
        have sf : ∀ j, (u1).frozen? ⟨g3, j, none⟩ = false := O3.out.soft
        have tt := O3.out.box.1
        refine plan_call ?_
        simp only [pickOps, List.map_cons, List.map_nil, List.getElem?_toArray, List.getElem?_cons_zero, List.getElem?_cons_succ, Option.getD_some]
        repeat go_big_quiet_step (fail)
        refine wpQuiet_nil ?_
        go_wp2_with fail
        refine plan_onN (SpC.put (g := g3) (o := 0) (vs := (CutL.cells ⟨0, v, false⟩)) hSu1 l3' n3x n43.symm n63.symm) ?_
        intro u2 hw
        have hSu2 := (SpC.put (g := g3) (o := 0) (vs := (CutL.cells ⟨0, v, false⟩)) hSu1 l3' n3x n43.symm n63.symm)
        replace hw : u2 = (u1).setCells g3 0 (CutL.cells ⟨0, v, false⟩) := hw
        rw [← hw] at hSu2
        have O3 := hid (show Own w.heap.size u2 g3 (CutL.cells ⟨0, v, false⟩) by rw [hw]; exact own_c7 (a := ⟨0, zeroV, false⟩) O3.out)
        have O2 := hid (show Own w.heap.size u2 g2 firstC.cells by rw [hw]; exact own_cells O2.out n23)
        clear hw a0 a1 a2 a3 a4 a5 a6 sf tt
        refine plan_last ?_
        simp only [pickOps, List.map_cons, List.map_nil, List.getElem?_toArray, List.getElem?_cons_zero, List.getElem?_cons_succ, Option.getD_some]
        repeat go_big_quiet_step (fail)
        refine wpQuiet_nil ?_
        go_wp2_with fail
        obtain ⟨a0, a1, a2, a3, a4, a5, a6⟩ := O2.out.box.get7
        obtain ⟨b0, b1, b2, b3, b4, b5, b6⟩ := O3.out.box.get7
        rw [HS.out]
        refine bodyPost_ret (v := .tuple #[CutL.val firstC, CutL.val ⟨0, v, false⟩]) (by simp [results, Tryz.results118, go_sem, a0, a1, a2, a3, a4, a5, a6, b0, b1, b2, b3, b4, b5, b6]) rfl ⟨rfl, hSu2.below⟩
end Go.Proofs.YtplmlahpmnjneaaGreatDoor
