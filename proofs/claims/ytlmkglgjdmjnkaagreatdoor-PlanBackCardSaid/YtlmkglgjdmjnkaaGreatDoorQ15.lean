/- Parts 15 of the proofs. -/
import Derived.Test.YtlmkglgjdmjnkaaGreatDoorQ13
import Derived.Shelf.Abstract
namespace Go.Proofs.YtlmkglgjdmjnkaaGreatDoor
open Go.RowKit Go.Lib
open Rw
set_option linter.unusedVariables false
set_option linter.unusedSimpArgs false
set_option maxHeartbeats 400000 in
theorem eqlVv (a b : Ver) (w : World) : (binOp .eql 29 a.val b.val).run Tryz.prog w = .ok (.bool (eqVer a b)) w := by
  rw [run_eql_struct, show (10000 : Nat) = 9994 + 6 from rfl, eqV_in]; rfl
set_option maxRecDepth 100000 in
set_option maxHeartbeats 2000000 in
theorem psame_any (x y : LockL) (hx hy : LockH) (w : World) (h1 : LockIs w x hx) (h2 : LockIs w y hy) : Calls Tryz.prog 19 #[x.val hx, y.val hy] w (BoolK w (eqLk x y)) := by
  have hxl := h1.ln
  have HV := hid (show eqLk x y = (sameB x.name y.name && (eqVer x.v y.v && (sameB x.shelf y.shelf && ((x.sum == y.sum) && eqL sameB x.feats y.feats)))) from rfl)
  have hnv := fun u => eqlVv x.v y.v u
  have hgv := fun op a b u => eqgV op a b x.v y.v u
  have H2 := hid (two_boxes w (x.cells hx) (y.cells hy) 33 33)
  have HE := hid (fun u (hb : KB w.heap.size w u) => eqtexts_any hx.A hy.A hx.c hy.c x.feats y.feats u (h1.tx.kb hb) (h2.tx.kb hb) (by omega))
  clear h1 h2
  obtain ⟨xn, xv, xs, xm, xf⟩ := x
  obtain ⟨yn, yv, ys, ym, yf⟩ := y
  dsimp only [LockL.cells, LockL.val, Ver.val] at hxl HV hnv hgv H2 HE ⊢
  generalize eqLk _ _ = res at *
  obtain ⟨q1, e1⟩ : ∃ q, (xn.toList == yn.toList) = q := ⟨_, rfl⟩
  obtain ⟨q3, e3⟩ : ∃ q, (xs.toList == ys.toList) = q := ⟨_, rfl⟩
  obtain ⟨q4, e4⟩ : ∃ q, (xm == ym) = q := ⟨_, rfl⟩
  replace HV := hid (show res = (q1 && (eqVer xv yv && (q3 && (q4 && eqL sameB xf yf)))) from by rw [HV.out, sameB, sameB, e1, e3, e4])
  generalize eqVer xv yv = q2 at *
  generalize eqL sameB xf yf = q5 at *
  generalize xf.length = n at *
  generalize yf.length = m at *
  go_enter Tryz.func19, Tryz.ntmps19
  go_upto_region 1 with fail
  refine wp_name ?_
  intro u1 hu
  have HG := hid (show Box u1 w.heap.size _ ∧ Box u1 (w.heap.size + 1) _ ∧ KB w.heap.size w u1 from by rw [hu]; exact H2.out)
  have G1 := hid HG.out.1
  have G2 := hid HG.out.2.1
  have HB1 := hid HG.out.2.2
  clear hu H2 HG
  generalize w.heap.size + 1 = g2 at *
  have x0 := G1.out.2 0 _ rfl
  have x1 := G1.out.2 1 _ rfl
  have x2 := G1.out.2 2 _ rfl
  have x3 := G1.out.2 3 _ rfl
  have x4 := G1.out.2 4 _ rfl
  have x5 := G1.out.2 5 _ rfl
  have x6 := G1.out.2 6 _ rfl
  have x7 := G1.out.2 7 _ rfl
  have x8 := G1.out.2 8 _ rfl
  have xl := G1.out.1
  have y0 := G2.out.2 0 _ rfl
  have y1 := G2.out.2 1 _ rfl
  have y2 := G2.out.2 2 _ rfl
  have y3 := G2.out.2 3 _ rfl
  have y4 := G2.out.2 4 _ rfl
  have y5 := G2.out.2 5 _ rfl
  have y6 := G2.out.2 6 _ rfl
  have y7 := G2.out.2 7 _ rfl
  have y8 := G2.out.2 8 _ rfl
  have yl := G2.out.1
  cases q1
  · go_wp2_with fail
    try rw [Exit.noGoto_ret]
    try go_ret
    exact ⟨by rw [HV.out] <;> rfl, HB1.out⟩
  cases q2
  · go_wp2_with fail
    try rw [Exit.noGoto_ret]
    try go_ret
    exact ⟨by rw [HV.out] <;> rfl, HB1.out⟩
  cases q3
  · go_wp2_with fail
    try rw [Exit.noGoto_ret]
    try go_ret
    exact ⟨by rw [HV.out] <;> rfl, HB1.out⟩
  cases q4
  · go_wp2_with fail
    try rw [Exit.noGoto_ret]
    try go_ret
    exact ⟨by rw [HV.out] <;> rfl, HB1.out⟩
  go_wp2_with fail
  refine (HE.out _ HB1.out).mono ?_
  rintro _ u2 ⟨rfl, hb⟩
  have HB2 := hid (kb_tr HB1.out hb)
  clear hb x0 x1 x2 x3 x4 x5 x6 x7 x8 xl y0 y1 y2 y3 y4 y5 y6 y7 y8 yl
  go_wp2_with fail
  try rw [Exit.noGoto_ret]
  try go_ret
  exact ⟨by rw [HV.out] <;> rfl, HB2.out⟩
set_option maxRecDepth 100000 in
set_option maxHeartbeats 1000000 in
theorem phas1_any (y x : LockL) (hy hx : LockH) (g : Nat) (w : World) (hg : Box w g (x.cells hx)) (h1 : LockIs w y hy) (h2 : LockIs w x hx) : Calls Tryz.prog 55 #[y.val hy, .pointer (some ⟨g, 0, none⟩)] w (BoolK w (eqLk y x)) := by
  have HB0 := hid (show KB w.heap.size w (w.alloc (.cells (y.cells hy).toArray 33)) from kb_new _ _)
  have HY0 := hid (Box.new w (y.cells hy) 33)
  have HC := hid (fun u (hb : KB w.heap.size w u) => psame_any y x hy hx u (h1.kb hb) (h2.kb hb))
  have HG := hid hg
  clear hg h1 h2
  generalize eqLk y x = res at *
  obtain ⟨xn, xv, xs, xm, xf⟩ := x
  obtain ⟨yn, yv, ys, ym, yf⟩ := y
  dsimp only [LockL.cells, LockL.val] at HB0 HY0 HC HG ⊢
  generalize xf.length = n at *
  generalize yf.length = m at *
  go_enter Tryz.func55, Tryz.ntmps55
  go_upto_region 1 with fail
  refine wp_name ?_
  intro u1 hu
  have G1 := hid (show Box u1 w.heap.size _ from by rw [hu]; exact HY0.out)
  have HB1 := hid (show KB w.heap.size w u1 from by rw [hu]; exact HB0.out)
  clear hu HB0 HY0
  have y0 := G1.out.2 0 _ rfl
  have y1 := G1.out.2 1 _ rfl
  have y2 := G1.out.2 2 _ rfl
  have y3 := G1.out.2 3 _ rfl
  have y4 := G1.out.2 4 _ rfl
  have y5 := G1.out.2 5 _ rfl
  have y6 := G1.out.2 6 _ rfl
  have y7 := G1.out.2 7 _ rfl
  have y8 := G1.out.2 8 _ rfl
  have yl := G1.out.1
  have x0 := (HG.out.kb HB1.out).2 0 _ rfl
  have x1 := (HG.out.kb HB1.out).2 1 _ rfl
  have x2 := (HG.out.kb HB1.out).2 2 _ rfl
  have x3 := (HG.out.kb HB1.out).2 3 _ rfl
  have x4 := (HG.out.kb HB1.out).2 4 _ rfl
  have x5 := (HG.out.kb HB1.out).2 5 _ rfl
  have x6 := (HG.out.kb HB1.out).2 6 _ rfl
  have x7 := (HG.out.kb HB1.out).2 7 _ rfl
  have x8 := (HG.out.kb HB1.out).2 8 _ rfl
  have xl := (HG.out.kb HB1.out).1
  go_wp2_with fail
  refine (HC.out _ HB1.out).mono ?_
  rintro _ u2 ⟨rfl, hb⟩
  have HB2 := hid (kb_tr HB1.out hb)
  clear hb x0 x1 x2 x3 x4 x5 x6 x7 x8 xl y0 y1 y2 y3 y4 y5 y6 y7 y8 yl
  go_wp2_with fail
  try rw [Exit.noGoto_ret]
  try go_ret
  exact ⟨rfl, HB2.out⟩
set_option maxRecDepth 100000 in
set_option maxHeartbeats 1000000 in
theorem lkindex_any (F : Nat) (cb : Array Value) (q : LP → Bool) (A : Option Addr) (c : Nat) (l : List LP) (w : World) (hA : Locks w A l) (hn : l.length ≤ 9223372036854775807)
    (eg : ∀ args w, (callFunc F args).run Tryz.prog w = .ok (.enter F args) w)
    (hC : ∀ (x : LP) (u : World), x ∈ l → KB w.heap.size w u → Calls Tryz.prog F (#[x.1.val x.2] ++ cb) u (BoolK u (q x))) :
    Calls Tryz.prog 85 #[.slice A l.length c, .func (.func F) #[] cb] w (IntK w (findP q 0 l)) := by
  have HA := hid hA
  have HIT := hid hC
  clear hA hC
  generalize hnn : l.length = n at *
  have HN := hid hnn
  clear hnn
  go_enter Tryz.func85, Tryz.ntmps85
  go_upto_block 0 with fail
  go_wp2_with fail
  go_loopw [8] (fun i wr => ∃ k : Nat, i = .int .i64 (k : Int) ∧ k ≤ n ∧ Hid (findP q 0 l = findP q k (l.drop k)) ∧ Hid (KB w.heap.size w wr)) (fun i _ => n - (intOf i).toNat)
  case atStart => exact ⟨0, rfl, Nat.zero_le _, hid rfl, hid (kb_refl _)⟩
  case round =>
    obtain ⟨k, rfl, hk, HD, HB⟩ := hrel
    by_cases hlt : k < n
    · have hlt' : k < l.length := by rw [HN.out]; exact hlt
      obtain ⟨b, off, hA, -, ⟨cl, c0, c1, c2, c3, c4, c5, c6, c7, c8⟩⟩ := lock_at (HA.out.kb HB.out) hlt'
      subst hA
      have HS := hid (find_drop (q := q) hlt')
      have HM := hid (List.getElem_mem hlt')
      have k0 : (0 : Int) ≤ (k : Int) := by omega
      have k1 : (k : Int) < (n : Int) := by omega
      generalize l[k] = x at *
      have HC := hid (HIT.out x wr HM.out HB.out)
      generalize q x = bq at *
      obtain ⟨⟨yn, yv, ys, ym, yf⟩, hy⟩ := x
      dsimp only [LockL.val] at c0 c1 c2 c3 c4 c5 c6 c7 c8 HC
      generalize yf.length = n1 at *
      clear HM
      go_wp2_with fail
      refine HC.out.mono ?_
      rintro _ u2 ⟨rfl, hb⟩
      have HB2 := hid (kb_tr HB.out hb)
      clear hb c0 c1 c2 c3 c4 c5 c6 c7 c8 cl
      cases bq
      · go_wp2_with fail
        go_roundw
        case rel => exact ⟨k + 1, by go_num, by omega, hid (by rw [HD.out, HS.out]; rfl), HB2⟩
        case measure => simp [intOf] <;> omega
      · have HE := hid (show findP q 0 l = (k : Int) by rw [HD.out, HS.out]; rfl)
        go_wp2_with fail
        try rw [Exit.noGoto_ret]
        try go_ret
        exact ⟨by rw [HE.out] <;> rfl, HB2.out⟩
    · obtain rfl : k = n := by omega
      have k1 : ¬ (k : Int) < (k : Int) := by omega
      have HE := hid (show findP q 0 l = -1 by rw [HD.out, find_end (by rw [HN.out]; exact Nat.le_refl _)])
      go_wp2_with fail
      try rw [Exit.noGoto_ret]
      try go_ret
      exact ⟨by rw [HE.out] <;> rfl, HB.out⟩
theorem find_any {α : Type} {q : α → Bool} : ∀ (l : List α) (i : Nat), decide (0 ≤ findP q i l) = l.any q
  | [], i => rfl
  | x :: l, i => by
    rw [findP, List.any_cons]
    cases h : q x
    · rw [if_neg (by simp), find_any l (i + 1), Bool.false_or]
    · rw [if_pos rfl, Bool.true_or, decide_eq_true (by omega)]
set_option maxRecDepth 100000 in
set_option maxHeartbeats 1000000 in
theorem lkcontains_any (F : Nat) (cb : Array Value) (q : LP → Bool) (A : Option Addr) (c : Nat) (l : List LP) (w : World) (hA : Locks w A l) (hn : l.length ≤ 9223372036854775807)
    (eg : ∀ args w, (callFunc F args).run Tryz.prog w = .ok (.enter F args) w)
    (hC : ∀ (x : LP) (u : World), x ∈ l → KB w.heap.size w u → Calls Tryz.prog F (#[x.1.val x.2] ++ cb) u (BoolK u (q x))) :
    Calls Tryz.prog 54 #[.slice A l.length c, .func (.func F) #[] cb] w (BoolK w (l.any q)) := by
  have HI := hid (lkindex_any F cb q A c l w hA hn eg hC)
  have HF := hid (find_any (q := q) l 0)
  clear hA hC hn
  generalize l.any q = res at *
  generalize findP q 0 l = z at *
  generalize l.length = n at *
  go_enter Tryz.func54, Tryz.ntmps54
  go_wp2_with fail
  refine HI.out.mono ?_
  rintro _ u2 ⟨rfl, hb⟩
  have HB := hid hb
  clear hb
  go_wp2_with fail
  try rw [Exit.noGoto_ret]
  try go_ret
  exact ⟨by rw [← HF.out] <;> rfl, HB.out⟩
set_option maxRecDepth 100000 in
set_option maxHeartbeats 1000000 in
theorem phas_any (A : Option Addr) (c : Nat) (l : List LP) (x : LockL) (hx : LockH) (w : World) (ha : Locks w A l) (hxi : LockIs w x hx) (hn : l.length ≤ 9223372036854775807) : Calls Tryz.prog 20 #[.slice A l.length c, x.val hx] w (BoolK w ((l.map (·.1)).any fun y => eqLk y x)) := by
  have HI := hid (fun (g : Nat) (u : World) (hb : KB w.heap.size w u) (hg : Box u g (x.cells hx)) => lkcontains_any 55 #[.pointer (some ⟨g, 0, none⟩)] (fun p => eqLk p.1 x) A c l u (ha.kb hb) hn (enters_of Tryz.func55 (by kernel_rfl) rfl)
    (fun y u2 hm h2 => phas1_any y.1 x y.2 hx g u2 (hg.kb h2) ((ha.sub y hm).kb (kb_tr hb h2)) (hxi.kb (kb_tr hb h2))))
  have HF := hid (show ((l.map (·.1)).any fun y => eqLk y x) = l.any (fun p : LP => eqLk p.1 x) from by rw [List.any_map]; rfl)
  have HB0 := hid (show KB w.heap.size w (w.alloc (.cells (x.cells hx).toArray 33)) from kb_new _ _)
  have HX0 := hid (Box.new w (x.cells hx) 33)
  have hmf : ∀ (fn : Fn) (first cap : Array Value) (w : World), (Instr.makeFunc fn first cap).run Tryz.prog w = .ok (.func fn first cap) w := fun _ _ _ _ => rfl
  clear ha hxi
  generalize ((l.map (·.1)).any fun y => eqLk y x) = res at *
  generalize l.any (fun p : LP => eqLk p.1 x) = z at *
  generalize l.length = n at *
  obtain ⟨xn, xv, xs, xm, xf⟩ := x
  dsimp only [LockL.cells, LockL.val] at HI HB0 HX0 ⊢
  generalize xf.length = m at *
  go_enter Tryz.func20, Tryz.ntmps20
  go_upto_region 1 with fail
  refine wp_name ?_
  intro u1 hu
  have HB1 := hid (show KB w.heap.size w u1 from by rw [hu]; exact HB0.out)
  have HC := hid (HI.out w.heap.size u1 HB1.out (by rw [hu]; exact HX0.out))
  clear hu HB0 HX0 HI
  generalize w.heap.size = g1 at HC ⊢
  go_wp2_with fail
  refine HC.out.mono ?_
  rintro _ u2 ⟨rfl, hb⟩
  have HB2 := hid (kb_tr HB1.out hb)
  clear hb
  go_wp2_with fail
  try rw [Exit.noGoto_ret]
  try go_ret
  exact ⟨by rw [HF.out] <;> rfl, HB2.out⟩
def CopyK (w : World) (x : LockL) (e : Ending) (w' : World) : Prop := ∃ h : LockH, e = .returned (x.val h) ∧ LkSub (mask w' w.heap.size none) (x, h) ∧ KB w.heap.size w w'
theorem strs_of_own {w : World} {B : Nat} {v : Value} {l : List ByteArray} (h : w.ownsRow B 9 1 v l.length (l.map Value.string)) : ∃ A c, v = .slice A l.length c ∧ l.length ≤ c ∧ Texts (mask w B none) A l := by
  obtain ⟨hl, (⟨rfl, h0⟩ | ⟨g, cap, cur, rfl, hb, hg, h1, h2, h3, h4⟩)⟩ := h
  · have : l = [] := List.eq_nil_of_length_eq_zero h0
    subst this
    exact ⟨none, 0, rfl, Nat.le_refl _, .inl rfl⟩
  · refine ⟨_, _, rfl, h1, .inr ⟨g, 0, rfl, by rw [mask_size]; exact (Array.getElem?_eq_some_iff.1 hg).1, fun i hi => mask_cell.2 ⟨⟨hb, fun e => by cases e⟩, ?_⟩⟩⟩
    have hi2 : i < cur.size := by omega
    have : cur.toList[i]? = some (Value.string l[i]) := by
      have e : (cur.toList.take (l.length * 1))[i]? = (l.map Value.string)[i]? := by rw [h4]
      rw [List.getElem?_take_of_lt (by omega)] at e
      rw [e, List.getElem?_map, List.getElem?_eq_getElem hi]
      rfl
    unfold World.cell?
    dsimp only
    rw [hg]
    simpa using this
theorem cellT_flat (l : List ByteArray) : l.flatMap cellT = l.map Value.string := by
  induction l with
  | nil => rfl
  | cons a l ih => rw [List.flatMap_cons, List.map_cons, ih]; rfl
theorem src_texts {w : World} {A : Option Addr} {l : List ByteArray} (h : Texts w A l) : SrcOf w A l.length 1 (l.map Value.string) ∧ (∀ ad, A = some ad → 0 < (l.map Value.string).length → ad.block < w.heap.size) := by
  have e := cellT_flat l
  have h1 := lies_src (f := cellT) (fun _ => rfl) Nat.zero_lt_one (texts_lies h)
  have h2 := lies_old (texts_lies h) (Nat.le_refl _)
  rw [e] at h1 h2
  exact ⟨h1, h2⟩
theorem mask_set9 (w : World) {B g : Nat} (hg : g < B) (b0 b1 b2 b3 b4 b5 b6 b7 b8 : Value) : Mono (mask w B none) (mask (((((((((w.setCell ⟨g, 0, none⟩ b0).setCell ⟨g, 1, none⟩ b1).setCell ⟨g, 2, none⟩ b2).setCell ⟨g, 3, none⟩ b3).setCell ⟨g, 4, none⟩ b4).setCell ⟨g, 5, none⟩ b5).setCell ⟨g, 6, none⟩ b6).setCell ⟨g, 7, none⟩ b7).setCell ⟨g, 8, none⟩ b8) B none) :=
  ((((((((mask_put (.inl hg)).trans (mask_put (.inl hg))).trans (mask_put (.inl hg))).trans (mask_put (.inl hg))).trans (mask_put (.inl hg))).trans (mask_put (.inl hg))).trans (mask_put (.inl hg))).trans (mask_put (.inl hg))).trans (mask_put (.inl hg))
set_option maxRecDepth 100000 in
set_option maxHeartbeats 2000000 in
theorem pcopied_any (x : LockL) (hx : LockH) (w : World) (h : LockIs w x hx) : Calls Tryz.prog 25 #[x.val hx] w (CopyK w x) := by
  have HB0 := hid (show KB w.heap.size w (w.alloc (.cells (x.cells hx).toArray 33)) from kb_new _ _)
  have HX0 := hid (Own.new w (x.cells hx) 33 (B := w.heap.size) (Nat.le_refl _))
  have HC := hid (fun u (hb : KB w.heap.size w u) => clone_strs hx.A hx.c x.feats.length (x.feats.map Value.string) u (src_texts (h.tx.kb hb)).1 (src_texts (h.tx.kb hb)).2 (fun v hv => by obtain ⟨s, -, rfl⟩ := List.mem_map.1 hv; rfl) (by have := h.ln; omega))
  have HT := hid (fun (u : World) (B : Nat) (v : Value) (hr : u.ownsRow B 9 1 v x.feats.length (x.feats.map Value.string)) => strs_of_own hr)
  have HI := hid (fun (u : World) (A : Option Addr) (c : Nat) (h1 : Texts u A x.feats) (h2 : x.feats.length ≤ c) => show LkSub u (x, ⟨A, c⟩) from ⟨h1, h.ln, h2, h.fit⟩)
  clear h
  obtain ⟨xn, xv, xs, xm, xf⟩ := x
  dsimp only [LockL.cells, LockL.val] at HB0 HX0 HC HT HI ⊢
  obtain ⟨n, hn⟩ : ∃ n, xf.length = n := ⟨_, rfl⟩
  rw [hn] at HB0 HX0 HC HT HI ⊢
  have HN := hid hn
  clear hn
  go_enter Tryz.func25, Tryz.ntmps25
  go_upto_region 1 with fail
  refine wp_name ?_
  intro u1 hu
  have HX := hid (show Own w.heap.size u1 w.heap.size [.string xn, .int .i64 xv.maj, .int .i64 xv.min, .int .i64 xv.pat, .string xv.pre, .string xv.bld, .string xs, .int .u64 xm, .slice hx.A n hx.c] by rw [hu]; exact HX0.out.alloc _)
  have HO := hid (show Own w.heap.size u1 (w.heap.size + 1) [.string ⟨#[]⟩, .int .i64 0, .int .i64 0, .int .i64 0, .string ⟨#[]⟩, .string ⟨#[]⟩, .string ⟨#[]⟩, .int .u64 0, .slice none 0 0] by rw [hu]; exact Own.new2 w _ [.string ⟨#[]⟩, .int .i64 0, .int .i64 0, .int .i64 0, .string ⟨#[]⟩, .string ⟨#[]⟩, .string ⟨#[]⟩, .int .u64 0, .slice none 0 0] 33 (Nat.le_refl _))
  have HB1 := hid (show KB w.heap.size w u1 by rw [hu]; exact kb_tr HB0.out (kb_new _ _))
  clear hu HB0 HX0
  have hg : w.heap.size ≤ w.heap.size + 1 := by omega
  have hne : w.heap.size ≠ w.heap.size + 1 := by omega
  generalize w.heap.size + 1 = g2 at *
  have x8 := HX.out.box.2 8 _ rfl
  have xl := HX.out.box.1
  go_wp2_with fail
  refine (HC.out _ HB1.out).mono ?_
  rintro _ u2 ⟨v, rfl, hrow, hb⟩
  obtain ⟨A, c, rfl, hc, ht⟩ := HT.out _ _ _ hrow
  have HT2 := hid ht
  have HCC := hid hc
  have HB2 := hid (kb_tr HB1.out hb)
  have HX2 := hid (HX.out.kb hb)
  have HO2 := hid (HO.out.kb hb)
  clear hrow ht hc hb x8 xl HC HT
  have x8 := HX2.out.box.2 8 _ rfl
  have xf8 := HX2.out.soft 8
  have xl := HX2.out.box.1
  go_upto_region 2 with fail
  refine wp_name ?_
  intro u3 hu
  have HX3 := hid (show Own w.heap.size u3 w.heap.size [.string xn, .int .i64 xv.maj, .int .i64 xv.min, .int .i64 xv.pat, .string xv.pre, .string xv.bld, .string xs, .int .u64 xm, .slice A n c] by rw [hu]; exact HX2.out.put (j := 8) (by simp) _)
  have HO3 := hid (show Own w.heap.size u3 g2 [.string ⟨#[]⟩, .int .i64 0, .int .i64 0, .int .i64 0, .string ⟨#[]⟩, .string ⟨#[]⟩, .string ⟨#[]⟩, .int .u64 0, .slice none 0 0] by rw [hu]; exact HO2.out.other (Ne.symm hne) _)
  have HB3 := hid (show KB w.heap.size w u3 by rw [hu]; exact kb_putJ HB2.out (Nat.le_refl _) _)
  have HM3 := hid (show Mono (mask u2 u1.heap.size none) (mask u3 u1.heap.size none) by rw [hu]; exact mask_put (.inl HX.out.box.1))
  clear hu x8 xf8 xl HX2 HO2
  have x0 := HX3.out.box.2 0 _ rfl
  have x1 := HX3.out.box.2 1 _ rfl
  have x2 := HX3.out.box.2 2 _ rfl
  have x3 := HX3.out.box.2 3 _ rfl
  have x4 := HX3.out.box.2 4 _ rfl
  have x5 := HX3.out.box.2 5 _ rfl
  have x6 := HX3.out.box.2 6 _ rfl
  have x7 := HX3.out.box.2 7 _ rfl
  have x8 := HX3.out.box.2 8 _ rfl
  have xl := HX3.out.box.1
  have y0 := HO3.out.box.2 0 _ rfl
  have y1 := HO3.out.box.2 1 _ rfl
  have y2 := HO3.out.box.2 2 _ rfl
  have y3 := HO3.out.box.2 3 _ rfl
  have y4 := HO3.out.box.2 4 _ rfl
  have y5 := HO3.out.box.2 5 _ rfl
  have y6 := HO3.out.box.2 6 _ rfl
  have y7 := HO3.out.box.2 7 _ rfl
  have y8 := HO3.out.box.2 8 _ rfl
  have sf : ∀ j, u3.frozen? ⟨g2, j, none⟩ = false := HO3.out.soft
  have yl := HO3.out.box.1
  go_wp2_with fail
  refine body_name ?_
  intro w9 hw9
  have O9 : Own w.heap.size w9 g2 [.string xn, .int .i64 xv.maj, .int .i64 xv.min, .int .i64 xv.pat, .string xv.pre, .string xv.bld, .string xs, .int .u64 xm, .slice A n c] := by rw [hw9]; exact HO3.out.set9 _ _ _ _ _ _ _ _ _
  have B9 : KB w.heap.size w w9 := by rw [hw9]; exact kb_set9 HB3.out hg _ _ _ _ _ _ _ _ _
  have M9 : Mono (mask u3 u1.heap.size none) (mask w9 u1.heap.size none) := by rw [hw9]; exact mask_set9 u3 HO.out.box.1 _ _ _ _ _ _ _ _ _
  clear hw9 x0 x1 x2 x3 x4 x5 x6 x7 x8 xl y0 y1 y2 y3 y4 y5 y6 y7 y8 yl sf
  have k0 := O9.box.2 0 _ rfl
  have k1 := O9.box.2 1 _ rfl
  have k2 := O9.box.2 2 _ rfl
  have k3 := O9.box.2 3 _ rfl
  have k4 := O9.box.2 4 _ rfl
  have k5 := O9.box.2 5 _ rfl
  have k6 := O9.box.2 6 _ rfl
  have k7 := O9.box.2 7 _ rfl
  have k8 := O9.box.2 8 _ rfl
  refine bodyPost_ret (v := .agg #[.string xn, .int .i64 xv.maj, .int .i64 xv.min, .int .i64 xv.pat, .string xv.pre, .string xv.bld, .string xs, .int .u64 xm, .slice A n c]) (by simp [results, Tryz.results25, go_sem, k0, k1, k2, k3, k4, k5, k6, k7, k8]) rfl ?_
  refine ⟨⟨A, c⟩, by dsimp only [LockL.val]; rw [HN.out], HI.out _ _ _ ?_ HCC.out, B9⟩
  exact RowOf.mono TextAt.mono HT2.out ((HM3.out.trans M9).trans (mask_less HB1.out.size (fun k e => by cases e)))
end Go.Proofs.YtlmkglgjdmjnkaaGreatDoor
