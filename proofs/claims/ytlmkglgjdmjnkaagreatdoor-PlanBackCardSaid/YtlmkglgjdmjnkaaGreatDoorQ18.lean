/- Parts 18 of the proofs. -/
import Derived.Test.YtlmkglgjdmjnkaaGreatDoorQ17
namespace Go.Proofs.YtlmkglgjdmjnkaaGreatDoor
open Go.RowKit Go.Lib
open Rw
set_option linter.unusedVariables false
set_option linter.unusedSimpArgs false
def LinesLK (w : World) (e : Ending) (w' : World) : Prop := ∃ (v : Value) (ps : List LP), e = .returned v ∧ LinesG w' w.heap.size v ps ∧ KB w.heap.size w w'
theorem ints_first {w : World} {A : Option Addr} {zs : List Int} (h : IntsAt w A zs) (hz : 0 < zs.length) : ∃ b off z, A = some ⟨b, off, none⟩ ∧ b < w.heap.size ∧ w.cell? ⟨b, off, none⟩ = some (.int .i64 z) := by
  rcases h with h | ⟨b, off, rfl, hb, hc⟩
  · subst h; simp at hz
  · exact ⟨b, off, _, rfl, hb, hc 0 hz⟩
theorem lock_field (s : ByteArray) (A : Option Addr) (n c : Nat) (u : World) : (Instr.field 56 (.agg #[.string s, .string ⟨#[]⟩, .string ⟨#[]⟩, .slice A n c]) 1).run Tryz.prog u = .ok (.slice A n c) u := by kernel_rfl
theorem deep_moved {w w' : World} {B : Nat} {v v' : Value} {ps qs : List LP} (h : Deep 33 9 lkC LkSub w B v ps) (hb : KB w.heap.size w w') (hO : w'.ownsRow w.heap.size 33 9 v' qs.length (qs.flatMap lkC)) (hB : B ≤ w.heap.size) (hq : ∀ p ∈ qs, p ∈ ps) : Deep 33 9 lkC LkSub w' B v' qs :=
  ⟨own_lowB hO hB, fun p hp => LkSub.mono _ _ _ (mask_mono hb.size fun k hk h1 h2 => ⟨⟨h1, fun e => by have := (World.ownsRow.lt hO k e).1; omega⟩, hb.block k hk⟩) (h.2 p (hq p hp))⟩
theorem turn_un {l : List LockL} {x : LockL} (h : UnN (x :: l)) : UnN (l ++ [x]) := by
  have := List.pairwise_cons.1 h
  exact List.pairwise_append.2 ⟨this.2, List.pairwise_singleton _ _, fun a ha b hb => by rcases List.mem_singleton.1 hb with rfl; exact Ne.symm (this.1 a ha)⟩
theorem turn_own {w : World} {B n k : Nat} {v : Value} {ps : List LP} {p : LP} {xs : List Value} (h : w.ownsRow B 33 9 v k xs) (hn : ps.length = n) (hk : k = n - 1 + 1) (hx : xs = (ps.drop 1).flatMap lkC ++ lkC p) : w.ownsRow B 33 9 v (ps.drop 1 ++ [p]).length ((ps.drop 1 ++ [p]).flatMap lkC) := by
  have e1 : (ps.drop 1 ++ [p]).length = k := by rw [List.length_append, List.length_drop, hn, hk]; rfl
  have e2 : (ps.drop 1 ++ [p]).flatMap lkC = xs := by rw [List.flatMap_append, hx]; simp
  rw [e1, e2]
  exact h
set_option maxRecDepth 100000 in
set_option maxHeartbeats 4000000 in
theorem glines_any (A : Option Addr) (c : Nat) (zs : List Int) (w : World) (hz : IntsAt w A zs) (hzn : zs.length ≤ 9223372036854775807) : Calls Tryz.prog 7 #[.slice A zs.length c] w (LinesLK w) := by
  have HL := hid (glock_any A c zs w hz hzn)
  have HP := hid (fun v u => gplace_any v 3 u (by omega) (by omega))
  have HZ := hid (fun h => ints_first hz h)
  clear hz
  generalize zs.length = zn at *
  go_enter Tryz.func7, Tryz.ntmps7
  go_wp2_with fail
  refine HL.out.mono ?_
  rintro _ w1 ⟨s, v, ps, rfl, ⟨hD, hU, h4⟩, hb⟩
  obtain ⟨Av, cv, rfl, hc, hl, hs⟩ := hD.fresh lk_len LkSub.mono
  have HD := hid hD
  have HU := hid hU
  have H4 := hid h4
  have HB := hid hb
  have HLK := hid (show Locks w1 Av ps from ⟨hl.mono (Mono.of_mask _ _ _), fun p hp => LkSub.mono _ _ _ (Mono.of_mask _ _ _) (hs p hp)⟩)
  have HCV := hid hc
  clear hD hU h4 hb hl hs hc HL
  obtain ⟨n, hn⟩ : ∃ n, ps.length = n := ⟨_, rfl⟩
  rw [hn] at HD HCV
  rw [hn]
  have HNP := hid hn
  clear hn
  have hlf := fun u => lock_field s Av n cv u
  by_cases hz0 : 0 < zn
  · obtain ⟨b, off, z, rfl, hbl, hcell⟩ := HZ.out hz0
    have hi0 : (0 : Int) < (zn : Int) := by omega
    have c0 := cell_kb hbl HB.out hcell
    have cl : b < w1.heap.size := Nat.lt_of_lt_of_le hbl HB.out.size
    have HPX := hid (HP.out z)
    clear HZ HP hcell hbl
    by_cases h1 : 1 < n
    · have hi1 : (1 : Int) < (n : Int) := by omega
      generalize placeI z 3 = q at *
      by_cases hq : q = 0
      · subst hq
        have hlen : 1 ≤ n := by omega
        have hn4 : n ≤ 4 := by have h := H4.out; rw [HNP.out] at h; exact h
        obtain ⟨p, hp⟩ : ∃ p, ps[0]? = some p := ⟨ps[0]'(by rw [HNP.out]; omega), List.getElem?_eq_getElem _⟩
        have HPS := hid (show ps = p :: ps.drop 1 from by cases ps with | nil => cases hp | cons a r => injection hp with hp; subst hp; rfl)
        obtain ⟨g, og, hA, hix, hcx⟩ := lock_at (k := 0) HLK.out (by rw [HNP.out]; omega)
        have hp0 : ps[0]'(by rw [HNP.out]; omega) = p := by rw [List.getElem?_eq_getElem (by rw [HNP.out]; omega)] at hp; injection hp
        rw [hp0, Nat.zero_mul, Nat.add_zero] at hcx
        subst hA
        have HCX := hid hcx
        clear hix hcx hp0 hp
        have s1 := fun u => show (Instr.slice 24 (.slice (some ⟨g, og, none⟩) n cv) (some (.int .i64 1)) none none).run Tryz.prog u = .ok (.slice (tlL (some ⟨g, og, none⟩) 1 cv) (n - 1) (cv - 1)) u from sll_tail (some ⟨g, og, none⟩) n cv 1 hlen u
        have s2 := fun u => show (Instr.sliceAt 24 (.slice (some ⟨g, og, none⟩) n cv) (some (.int .i64 1)) none none).run Tryz.prog u = .ok (.slice (tlL (some ⟨g, og, none⟩) 1 cv) (n - 1) (cv - 1)) u from sll_tailAt (some ⟨g, og, none⟩) n cv 1 hlen u
        have hS : KB w1.heap.size w1 w1.drew := kb_drewJ (kb_refl _)
        have HS2 := hid (fun u (hb : KB w1.heap.size w1 u) => show SrcOf u (tlL (some ⟨g, og, none⟩) 1 cv) (n - 1) 9 ((ps.drop 1).flatMap lkC) from by have h := src_drop (HLK.out.kb hb).row (c := cv) (k := 1) (by rw [HNP.out]; omega) (by rw [HNP.out]; exact HCV.out); rwa [HNP.out] at h)
        go_wp2_with fail
        refine (HPX.out _).mono ?_
        rintro _ _ ⟨rfl, rfl⟩
        go_upto_region 3 with fail
        have HC0 := hid c0
        clear c0 cl
        refine wp_planS (fun u => KB w1.heap.size w1 u) (.two [0, 1, 3, 4, 5] 2 6 (.call [] 6 (.call [] 7 (.last [8]))) (.call [] 2 (.call [] 7 (.last [8])))) (by first | assumption | skip) (by kernel_rfl) (by intro _ _ d _ _ h; cases d <;> exact h) (by kernel_rfl) ?_
        have iS : Nonempty (SW fun u => KB w1.heap.size w1 u) := ⟨⟨_, hS⟩⟩
        have x0 := fun (z : SW fun u => KB w1.heap.size w1 u) => (HCX.out.kb z.ok).c0
        have x1 := fun (z : SW fun u => KB w1.heap.size w1 u) => (HCX.out.kb z.ok).c1
        have x2 := fun (z : SW fun u => KB w1.heap.size w1 u) => (HCX.out.kb z.ok).c2
        have x3 := fun (z : SW fun u => KB w1.heap.size w1 u) => (HCX.out.kb z.ok).c3
        have x4 := fun (z : SW fun u => KB w1.heap.size w1 u) => (HCX.out.kb z.ok).c4
        have x5 := fun (z : SW fun u => KB w1.heap.size w1 u) => (HCX.out.kb z.ok).c5
        have x6 := fun (z : SW fun u => KB w1.heap.size w1 u) => (HCX.out.kb z.ok).c6
        have x7 := fun (z : SW fun u => KB w1.heap.size w1 u) => (HCX.out.kb z.ok).c7
        have x8 := fun (z : SW fun u => KB w1.heap.size w1 u) => (HCX.out.kb z.ok).c8
        have xl := fun (z : SW fun u => KB w1.heap.size w1 u) => (HCX.out.kb z.ok).lt
        with_reducible refine plan_two ?_
        simp only [pickOps, List.map_cons, List.map_nil, List.getElem?_toArray, List.getElem?_cons_zero, List.getElem?_cons_succ, Option.getD_some]
        repeat go_big_quiet_step (fail)
        refine wpQuiet_nil ?_
        refine ⟨?_, ?_⟩
        · go_wp2_with (at_builtin; refine wpList_appx EKlocks rfl (.const (.slice none 0 0)) (.tmp 23) rfl rfl (World.ownsRow_nil _ w1.heap.size _ _) rfl (HS2.out _ hS) (lks_one _) (by unfold maxLen; omega) (by omega) (Nat.le_refl _) ?_; intro v3 w4 h2 h3 h4)
          have HB4 := hid (show KB w1.heap.size w1 w4 from Go.RowKit.Below.trans hS h3.kb)
          have HO4 := hid h2
          clear h2 h3 h4
          refine plan_onS HB4.out ?_
          with_reducible refine plan_call ?_
          simp only [pickOps, List.map_cons, List.map_nil, List.getElem?_toArray, List.getElem?_cons_zero, List.getElem?_cons_succ, Option.getD_some]
          repeat go_big_quiet_step (fail)
          refine wpQuiet_nil ?_
          go_wp2_with fail
          refine plan_onS (kb_tr HB4.out (kb_new _ _)) ?_
          with_reducible refine plan_call ?_
          simp only [pickOps, List.map_cons, List.map_nil, List.getElem?_toArray, List.getElem?_cons_zero, List.getElem?_cons_succ, Option.getD_some]
          repeat go_big_quiet_step (fail)
          refine wpQuiet_nil ?_
          go_wp2_with (at_builtin; refine wpList_appx EKlocks rfl (.tmp 24) (.tmp 28) rfl rfl (row_kb HO4.out (kb_new _ _)) rfl (src_alloc _ (lkC p) 33 9 rfl) (lk_one p) (by unfold maxLen; omega) (by omega) (by rw [World.size_alloc]; have := HB4.out.size; omega) ?_; intro v5 w5 h2 h3 h4)
          have HB5 := hid (show KB w1.heap.size w1 w5 from Go.RowKit.Below.trans (kb_tr HB4.out (kb_new _ _)) h3.kb)
          have HO5 := hid (turn_own (p := p) h2 HNP.out (by omega) (by simp))
          clear h2 h3 h4
          refine plan_onS HB5.out ?_
          with_reducible refine plan_last ?_
          simp only [pickOps, List.map_cons, List.map_nil, List.getElem?_toArray, List.getElem?_cons_zero, List.getElem?_cons_succ, Option.getD_some]
          repeat go_big_quiet_step (fail)
          refine wpQuiet_nil ?_
          clear iS x0 x1 x2 x3 x4 x5 x6 x7 x8 xl s1 s2
          go_wp2_with fail
          try rw [Exit.noGoto_ret]
          try go_ret
          exact ⟨_, ps.drop 1 ++ [p], rfl, ⟨deep_moved HD.out HB5.out HO5.out HB.out.size (fun y hy => by rw [HPS.out]; rcases List.mem_append.1 hy with hy | hy; exact List.mem_cons_of_mem _ hy; rcases List.mem_singleton.1 hy with rfl; exact List.mem_cons_self ..), by rw [List.map_append]; have h := HU.out; rw [HPS.out, List.map_cons] at h; exact turn_un h, by rw [List.length_append, List.length_drop, HNP.out]; show n - 1 + 1 ≤ 4; omega⟩, kb_tr HB.out HB5.out⟩
        · go_wp2_with fail
          have HB2 := hid (show KB w1.heap.size w1 ((w1.alloc (.cells #[.string p.1.name, .int .i64 p.1.v.maj, .int .i64 p.1.v.min, .int .i64 p.1.v.pat, .string p.1.v.pre, .string p.1.v.bld, .string p.1.shelf, .int .u64 p.1.sum, .slice p.2.A p.1.feats.length p.2.c] 33)).drew) from kb_drewJ (kb_new _ _))
          have HBX := hid (show Box ((w1.alloc (.cells #[.string p.1.name, .int .i64 p.1.v.maj, .int .i64 p.1.v.min, .int .i64 p.1.v.pat, .string p.1.v.pre, .string p.1.v.bld, .string p.1.shelf, .int .u64 p.1.sum, .slice p.2.A p.1.feats.length p.2.c] 33)).drew) w1.heap.size (lkC p) from (Box.new w1 (lkC p) 33).kb (kb_drewJ (kb_refl _)))
          generalize ((w1.alloc (.cells #[.string p.1.name, .int .i64 p.1.v.maj, .int .i64 p.1.v.min, .int .i64 p.1.v.pat, .string p.1.v.pre, .string p.1.v.bld, .string p.1.shelf, .int .u64 p.1.sum, .slice p.2.A p.1.feats.length p.2.c] 33)).drew) = w2 at *
          refine plan_onS HB2.out ?_
          with_reducible refine plan_call ?_
          simp only [pickOps, List.map_cons, List.map_nil, List.getElem?_toArray, List.getElem?_cons_zero, List.getElem?_cons_succ, Option.getD_some]
          repeat go_big_quiet_step (fail)
          refine wpQuiet_nil ?_
          go_wp2_with (at_builtin; refine wpList_appx EKlocks rfl (.const (.slice none 0 0)) (.tmp 23) rfl rfl (World.ownsRow_nil _ w1.heap.size _ _) rfl (HS2.out _ HB2.out) (lks_one _) (by unfold maxLen; omega) (by omega) HB2.out.size ?_; intro v3 w4 h2 h3 h4)
          have HB4 := hid (show KB w1.heap.size w1 w4 from Go.RowKit.Below.trans HB2.out h3.kb)
          have HO4 := hid h2
          have HBX4 := hid (HBX.out.grown h4 (fun e => by cases e))
          clear h2 h3 h4
          refine plan_onS HB4.out ?_
          with_reducible refine plan_call ?_
          simp only [pickOps, List.map_cons, List.map_nil, List.getElem?_toArray, List.getElem?_cons_zero, List.getElem?_cons_succ, Option.getD_some]
          repeat go_big_quiet_step (fail)
          refine wpQuiet_nil ?_
          go_wp2_with (at_builtin; refine wpList_appx EKlocks rfl (.tmp 24) (.tmp 28) rfl rfl HO4.out rfl (src_boxQ HBX4.out (show (lkC p).length = 1 * 9 from rfl)) (lk_one p) (by unfold maxLen; omega) (by omega) HB4.out.size ?_; intro v5 w5 h2 h3 h4)
          have HB5 := hid (show KB w1.heap.size w1 w5 from Go.RowKit.Below.trans HB4.out h3.kb)
          have HO5 := hid (turn_own (p := p) h2 HNP.out (by omega) (by simp))
          clear h2 h3 h4
          refine plan_onS HB5.out ?_
          with_reducible refine plan_last ?_
          simp only [pickOps, List.map_cons, List.map_nil, List.getElem?_toArray, List.getElem?_cons_zero, List.getElem?_cons_succ, Option.getD_some]
          repeat go_big_quiet_step (fail)
          refine wpQuiet_nil ?_
          clear iS x0 x1 x2 x3 x4 x5 x6 x7 x8 xl s1 s2
          go_wp2_with fail
          try rw [Exit.noGoto_ret]
          try go_ret
          exact ⟨_, ps.drop 1 ++ [p], rfl, ⟨deep_moved HD.out HB5.out HO5.out HB.out.size (fun y hy => by rw [HPS.out]; rcases List.mem_append.1 hy with hy | hy; exact List.mem_cons_of_mem _ hy; rcases List.mem_singleton.1 hy with rfl; exact List.mem_cons_self ..), by rw [List.map_append]; have h := HU.out; rw [HPS.out, List.map_cons] at h; exact turn_un h, by rw [List.length_append, List.length_drop, HNP.out]; show n - 1 + 1 ≤ 4; omega⟩, kb_tr HB.out HB5.out⟩
      · refine ?_
        have hq0 : (q == 0) = false := by rw [beq_eq_false_iff_ne]; exact hq
        go_wp2_with fail
        refine (HPX.out _).mono ?_
        rintro _ _ ⟨rfl, rfl⟩
        go_wp2_with fail
        try rw [Exit.noGoto_ret]
        try go_ret
        exact ⟨_, ps, rfl, ⟨by rw [← HNP.out] at HD ⊢; exact HD.out, HU.out, H4.out⟩, HB.out⟩
    · have hi1 : ¬ (1 : Int) < (n : Int) := by omega
      go_wp2_with fail
      try rw [Exit.noGoto_ret]
      try go_ret
      exact ⟨_, ps, rfl, ⟨by rw [← HNP.out] at HD ⊢; exact HD.out, HU.out, H4.out⟩, HB.out⟩
  · have hi0 : ¬ (0 : Int) < (zn : Int) := by omega
    go_wp2_with fail
    try rw [Exit.noGoto_ret]
    try go_ret
    exact ⟨_, ps, rfl, ⟨by rw [← HNP.out] at HD ⊢; exact HD.out, HU.out, H4.out⟩, HB.out⟩
end Go.Proofs.YtlmkglgjdmjnkaaGreatDoor
namespace Go.Proofs.YtlmkglgjdmjnkaaGreatDoor
open Go.RowKit Go.Lib
open Rw
set_option linter.unusedVariables false
set_option linter.unusedSimpArgs false
theorem Tryz.info35 : (Tryz.prog.info? 35).map (fun i => (i.zero, i.size, i.bytes)) = some (some (.agg #[.int .i64 0, .string ⟨#[]⟩, .int .i64 0, .int .i64 0, .int .i64 0, .string ⟨#[]⟩, .string ⟨#[]⟩, .string ⟨#[]⟩, .int .u64 0, .slice none 0 0]), 10, 128) := by kernel_rfl
theorem EKmoves : EK Tryz.prog 26 35 10 128 := .mk' _ Tryz.underlying26 Tryz.info35 rfl (by omega)
theorem Moves.take {w : World} {A : Option Addr} {l : List MP} (h : Moves w A l) (k : Nat) : Moves w A (l.take k) := by
  refine ⟨?_, fun p hp => h.sub p (List.mem_of_mem_take hp)⟩
  rcases h.row with h | ⟨b, off, h1, h2, h3⟩
  · exact .inl (by rw [h]; simp)
  · refine .inr ⟨b, off, h1, h2, fun i hi j v hv => ?_⟩
    have hi' : i < l.length := by rw [List.length_take] at hi; omega
    rw [List.getElem_take] at hv
    exact h3 i hi' j v hv
structure RowMv (w0 w : World) (v : Value) (ms : List MP) : Prop where
  own : OwnL 35 10 mvC w w0.heap.size v ms
  sub : ∀ m ∈ ms, MvSub w0 m
theorem RowMv.kb {w0 w w' : World} {v : Value} {ms : List MP} (h : RowMv w0 w v ms) (hb : KB w.heap.size w w') : RowMv w0 w' v ms := ⟨h.own.kb hb, h.sub⟩
theorem LinesG.locks {w : World} {B : Nat} {v : Value} {ps : List LP} (h : LinesG w B v ps) : ∃ A c, v = .slice A ps.length c ∧ ps.length ≤ c ∧ Locks w A ps := by
  obtain ⟨A, c, rfl, hc, hl, hs⟩ := h.1.fresh lk_len LkSub.mono
  exact ⟨A, c, rfl, hc, hl.mono (Mono.of_mask _ _ _), fun p hp => LkSub.mono _ _ _ (Mono.of_mask _ _ _) (hs p hp)⟩
end Go.Proofs.YtlmkglgjdmjnkaaGreatDoor
namespace Go.Proofs.YtlmkglgjdmjnkaaGreatDoor
open Go.RowKit Go.Lib
open Rw
set_option linter.unusedVariables false
set_option linter.unusedSimpArgs false
structure WantP where
  unit : Int
  fin : List SpanL
  pre : List SpanL
  A : Option Addr
  c : Nat
  B : Option Addr
  d : Nat
structure NeedP where
  l : List WantP
  A : Option Addr
  c : Nat
structure CandP where
  v : Ver
  shelf : Int
  needs : List NeedP
  bars : List WantP
  A : Option Addr
  c : Nat
  B : Option Addr
  d : Nat
structure UnitP where
  name : ByteArray
  feature : ByteArray
  cands : List CandP
  A : Option Addr
  c : Nat
abbrev wtC (x : WantP) : List Value := [.int .i64 x.unit, .slice x.A x.fin.length x.c, .slice x.B x.pre.length x.d]
abbrev ndC (x : NeedP) : List Value := [.slice x.A x.l.length x.c]
abbrev cdC (x : CandP) : List Value := [.int .i64 x.v.maj, .int .i64 x.v.min, .int .i64 x.v.pat, .string x.v.pre, .string x.v.bld, .int .i64 x.shelf, .slice x.A x.needs.length x.c, .slice x.B x.bars.length x.d]
abbrev utC (x : UnitP) : List Value := [.string x.name, .string x.feature, .slice x.A x.cands.length x.c]
structure WantIs (w : World) (x : WantP) : Prop where
  s1 : Spans w x.A x.fin
  s2 : Spans w x.B x.pre
  f1 : fitL x.fin
  f2 : fitL x.pre
  n1 : x.fin.length ≤ 1000000
  n2 : x.pre.length ≤ 1000000
structure WantsAt (w : World) (A : Option Addr) (l : List WantP) : Prop where
  row : Lies 3 wtC w A l
  sub : ∀ x ∈ l, WantIs w x
  len : l.length ≤ 1000000
structure NeedsAt (w : World) (A : Option Addr) (l : List NeedP) : Prop where
  row : Lies 1 ndC w A l
  sub : ∀ x ∈ l, WantsAt w x.A x.l
  len : l.length ≤ 1000000
structure CandIs (w : World) (x : CandP) : Prop where
  v : x.v.fit
  needs : NeedsAt w x.A x.needs
  bars : WantsAt w x.B x.bars
structure CandsAt (w : World) (A : Option Addr) (l : List CandP) : Prop where
  row : Lies 8 cdC w A l
  sub : ∀ x ∈ l, CandIs w x
  len : l.length ≤ 1000000
structure UnitIs (w : World) (x : UnitP) : Prop where
  cands : CandsAt w x.A x.cands
  s1 : x.name.size ≤ 1000000
  s2 : x.feature.size ≤ 1000000
structure UnitsAt (w : World) (A : Option Addr) (l : List UnitP) : Prop where
  row : Lies 3 utC w A l
  sub : ∀ x ∈ l, UnitIs w x
  len : l.length ≤ 1000000
theorem WantIs.kb {w w' : World} {x : WantP} (h : WantIs w x) (hb : KB w.heap.size w w') : WantIs w' x := ⟨h.s1.kb hb, h.s2.kb hb, h.f1, h.f2, h.n1, h.n2⟩
theorem WantsAt.kb {w w' : World} {A : Option Addr} {l : List WantP} (h : WantsAt w A l) (hb : KB w.heap.size w w') : WantsAt w' A l := ⟨h.row.kb hb, fun x hx => (h.sub x hx).kb hb, h.len⟩
theorem NeedsAt.kb {w w' : World} {A : Option Addr} {l : List NeedP} (h : NeedsAt w A l) (hb : KB w.heap.size w w') : NeedsAt w' A l := ⟨h.row.kb hb, fun x hx => (h.sub x hx).kb hb, h.len⟩
theorem CandIs.kb {w w' : World} {x : CandP} (h : CandIs w x) (hb : KB w.heap.size w w') : CandIs w' x := ⟨h.v, h.needs.kb hb, h.bars.kb hb⟩
theorem CandsAt.kb {w w' : World} {A : Option Addr} {l : List CandP} (h : CandsAt w A l) (hb : KB w.heap.size w w') : CandsAt w' A l := ⟨h.row.kb hb, fun x hx => (h.sub x hx).kb hb, h.len⟩
theorem UnitIs.kb {w w' : World} {x : UnitP} (h : UnitIs w x) (hb : KB w.heap.size w w') : UnitIs w' x := ⟨h.cands.kb hb, h.s1, h.s2⟩
theorem UnitsAt.kb {w w' : World} {A : Option Addr} {l : List UnitP} (h : UnitsAt w A l) (hb : KB w.heap.size w w') : UnitsAt w' A l := ⟨h.row.kb hb, fun x hx => (h.sub x hx).kb hb, h.len⟩
theorem want_at {w : World} {A : Option Addr} {l : List WantP} {k : Nat} (h : WantsAt w A l) (hk : k < l.length) : ∃ b off, A = some ⟨b, off, none⟩ ∧ WantIs w l[k] ∧ b < w.heap.size ∧ w.cell? ⟨b, off + k * 3, none⟩ = some (.int .i64 l[k].unit) ∧ w.cell? ⟨b, off + k * 3 + 1, none⟩ = some (.slice l[k].A l[k].fin.length l[k].c) ∧ w.cell? ⟨b, off + k * 3 + 2, none⟩ = some (.slice l[k].B l[k].pre.length l[k].d) := by
  obtain ⟨b, off, hA, hl, h2⟩ := h.row.at_ hk
  exact ⟨b, off, hA, h.sub _ (List.getElem_mem hk), hl, h2 0 _ rfl, h2 1 _ rfl, h2 2 _ rfl⟩
def mayW (n : Int) (x : WantP) : Bool := !(decide (x.unit < 1) || (decide (n ≤ x.unit) || !mayS x.fin x.pre))
set_option maxRecDepth 100000 in
set_option maxHeartbeats 4000000 in
theorem wwants_any (A : Option Addr) (c : Nat) (l : List WantP) (n : Int) (w : World) (hF : First w) (hA : WantsAt w A l) : Calls Tryz.prog 176 #[.slice A l.length c, .int .i64 n] w (BoolK w (l.all (mayW n))) := by
  have HA := hid hA
  have HF := hid hF
  have HR0 := hid (show l.all (mayW n) = (l.drop 0).all (mayW n) from rfl)
  have hlen := hA.len
  clear hA hF
  generalize l.all (mayW n) = res at *
  obtain ⟨m, hm⟩ : ∃ m, l.length = m := ⟨_, rfl⟩
  rw [hm] at hlen ⊢
  have HM := hid hm
  clear hm
  go_enter Tryz.func176, Tryz.ntmps176
  go_upto_block 0 with fail
  go_wp2_with fail
  go_loopw [9] (fun iv wr => ∃ k : Nat, iv = .int .i64 (k : Int) ∧ k ≤ m ∧ Hid (res = (l.drop k).all (mayW n)) ∧ Hid (KB w.heap.size w wr)) (fun iv _ => m - (intOf iv).toNat)
  case atStart => exact ⟨0, rfl, Nat.zero_le _, HR0, hid (kb_refl _)⟩
  case round =>
    clear HR0
    rename World => wr
    obtain ⟨k, rfl, hk, HR, HK⟩ := hrel
    have k0 : (0 : Int) ≤ (k : Int) := by omega
    by_cases hlt : k < m
    · have h1 : k < l.length := by rw [HM.out]; exact hlt
      have k1 : (k : Int) < (m : Int) := by omega
      obtain ⟨b, off, hA, hx, hbl, c0, c1, c2⟩ := want_at (HA.out.kb HK.out) h1
      subst hA
      have HX := hid hx
      have HST := hid (HR.out.trans (by rw [List.drop_eq_getElem_cons h1, List.all_cons]))
      clear hx HR
      generalize l[k] = x at *
      clear h1
      go_upto_region 4 with fail
      refine wp_name ?_
      intro u1 hu1
      have HG := hid (show Box u1 wr.heap.size (wtC x) from by rw [hu1]; exact Box.new wr (wtC x) 89)
      have HK1 := hid (show KB wr.heap.size wr u1 from by rw [hu1]; exact kb_new _ _)
      have HKK := hid (kb_tr HK.out HK1.out)
      clear hu1 c0 c1 c2 hbl
      have HS := hid (show Calls _ _ _ u1 _ from smay_any x.A x.B x.c x.d x.fin x.pre u1 (HF.out.kb HKK.out) (HX.out.s1.kb HK1.out) (HX.out.s2.kb HK1.out) HX.out.f1 HX.out.f2 (by have := HX.out.n1; omega) (by have := HX.out.n2; omega))
      have HMW := hid (show mayW n x = !(decide (x.unit < 1) || (decide (n ≤ x.unit) || !mayS x.fin x.pre)) from rfl)
      have x0 := HG.out.2 0 _ rfl
      have x1 := HG.out.2 1 _ rfl
      have x2 := HG.out.2 2 _ rfl
      have xl := HG.out.1
      unfold setV at HS
      generalize mayS x.fin x.pre = ms at *
      generalize x.fin.length = nf at *
      generalize x.pre.length = np at *
      by_cases g1 : x.unit < 1
      · have HRS := hid (show res = false from by rw [HST.out, HMW.out]; simp [g1])
        go_wp2_with fail
        try rw [Exit.noGoto_ret]
        try (first | go_ret | go_ret2)
        exact ⟨by rw [HRS.out]; rfl, HKK.out⟩
      · by_cases g2 : n ≤ x.unit
        · have HRS := hid (show res = false from by rw [HST.out, HMW.out]; simp [g2])
          go_wp2_with fail
          try rw [Exit.noGoto_ret]
          try (first | go_ret | go_ret2)
          exact ⟨by rw [HRS.out]; rfl, HKK.out⟩
        · go_wp2_with fail
          refine HS.out.mono ?_
          rintro _ u2 ⟨rfl, hb⟩
          have HK2 := hid (kb_tr HKK.out hb.kb)
          clear hb
          cases ms with
          | false =>
            have HRS := hid (show res = false from by rw [HST.out, HMW.out]; simp)
            go_wp2_with fail
            try rw [Exit.noGoto_ret]
            try (first | go_ret | go_ret2)
            exact ⟨by rw [HRS.out]; rfl, HK2.out⟩
          | true =>
            have HRS := hid (show res = (l.drop (k + 1)).all (mayW n) from by rw [HST.out, HMW.out]; simp [g1, g2])
            go_wp2_with fail
            refine ⟨⟨k + 1, by go_num, by omega, HRS, HK2⟩, ?_⟩
            simp [intOf] <;> omega
    · obtain rfl : k = m := by omega
      have k1 : ¬ (k : Int) < (k : Int) := by omega
      have HRS := hid (show res = true from by rw [HR.out, List.drop_eq_nil_of_le (by rw [HM.out]; exact Nat.le_refl _)]; rfl)
      go_wp2_with fail
      try rw [Exit.noGoto_ret]
      try (first | go_ret | go_ret2)
      exact ⟨by rw [HRS.out]; rfl, HK.out⟩
end Go.Proofs.YtlmkglgjdmjnkaaGreatDoor
namespace Go.Proofs.YtlmkglgjdmjnkaaGreatDoor
open Go.RowKit Go.Lib
open Rw
set_option linter.unusedVariables false
set_option linter.unusedSimpArgs false
def mayN (n : Int) (x : NeedP) : Bool := !(decide (x.l.length < 1) || (decide (24 < x.l.length) || !x.l.all (mayW n)))
def mayCd (n : Int) (x : CandP) : Bool := !(decide (24 < x.needs.length) || decide (24 < x.bars.length)) && (x.needs.all (mayN n) && x.bars.all (mayW n))
theorem need_at {w : World} {A : Option Addr} {l : List NeedP} {k : Nat} (h : NeedsAt w A l) (hk : k < l.length) : ∃ b off, A = some ⟨b, off, none⟩ ∧ WantsAt w l[k].A l[k].l ∧ b < w.heap.size ∧ w.cell? ⟨b, off + k * 1, none⟩ = some (.slice l[k].A l[k].l.length l[k].c) := by
  obtain ⟨b, off, hA, hl, h2⟩ := h.row.at_ hk
  exact ⟨b, off, hA, h.sub _ (List.getElem_mem hk), hl, h2 0 _ rfl⟩
set_option maxRecDepth 100000 in
set_option maxHeartbeats 4000000 in
theorem wcand_any (x : CandP) (n : Int) (w : World) (hF : First w) (hA : CandIs w x) : Calls Tryz.prog 145 #[.agg #[.int .i64 x.v.maj, .int .i64 x.v.min, .int .i64 x.v.pat, .string x.v.pre, .string x.v.bld, .int .i64 x.shelf, .slice x.A x.needs.length x.c, .slice x.B x.bars.length x.d], .int .i64 n] w (BoolK w (mayCd n x)) := by
  have HB0 := hid (kb_new w (.cells (cdC x).toArray 79))
  have HX := hid (Box.new w (cdC x) 79)
  have HN := hid (hA.needs.kb HB0.out)
  have HFF := hid (hF.kb HB0.out)
  have hbl := hA.bars.len
  have hnl := hA.needs.len
  have HBW := hid (fun u (hb : KB w.heap.size w u) => show Calls Tryz.prog 176 #[.slice x.B x.bars.length x.d, .int .i64 n] u (BoolK u (x.bars.all (mayW n))) from wwants_any x.B x.d x.bars n u (hF.kb hb) (hA.bars.kb hb))
  have HV := hid (show mayCd n x = (!(decide (24 < x.needs.length) || decide (24 < x.bars.length)) && (x.needs.all (mayN n) && x.bars.all (mayW n))) from rfl)
  clear hF hA
  generalize mayCd n x = res at *
  obtain ⟨⟨v1, v2, v3, v4, v5⟩, sh, ns, bs, A, c, B, d⟩ := x
  dsimp only [cdC] at HX HN hbl hnl HBW HV HB0 HFF ⊢
  generalize bs.all (mayW n) = rb at *
  generalize bs.length = nb at *
  obtain ⟨m, hm⟩ : ∃ m, ns.length = m := ⟨_, rfl⟩
  rw [hm] at hnl HX HV HB0 HFF HN ⊢
  have HM := hid hm
  clear hm
  have HR0 := hid (show ns.all (mayN n) = (ns.drop 0).all (mayN n) from rfl)
  go_enter Tryz.func145, Tryz.ntmps145
  go_upto_region 1 with fail
  refine wp_name ?_
  intro u0 hu0
  rw [← hu0] at HX HB0 HFF HN
  clear hu0
  have x6 := HX.out.2 6 _ rfl
  have x7 := HX.out.2 7 _ rfl
  have xl := HX.out.1
  by_cases g1 : 24 < m
  · have i1 : (24 : Int) < (m : Int) := by omega
    have HRS := hid (show res = false from by rw [HV.out]; simp [g1])
    go_wp2_with fail
    go_ret
    exact ⟨by rw [HRS.out]; rfl, HB0.out⟩
  · have i1 : ¬ (24 : Int) < (m : Int) := by omega
    by_cases g2 : 24 < nb
    · have i2 : (24 : Int) < (nb : Int) := by omega
      have HRS := hid (show res = false from by rw [HV.out]; simp [g2])
      go_wp2_with fail
      go_ret
      exact ⟨by rw [HRS.out]; rfl, HB0.out⟩
    · have i2 : ¬ (24 : Int) < (nb : Int) := by omega
      have HV2 := hid (show res = (ns.all (mayN n) && rb) from by rw [HV.out]; simp [g1, g2])
      clear HV
      generalize ns.all (mayN n) = ra at *
      go_upto_block 0 with fail
      go_wp2_with fail
      go_loopw [20] (fun iv wr => ∃ k : Nat, iv = .int .i64 (k : Int) ∧ k ≤ m ∧ Hid (ra = (ns.drop k).all (mayN n)) ∧ Hid (KB u0.heap.size u0 wr)) (fun iv _ => m - (intOf iv).toNat)
      case atStart => exact ⟨0, rfl, Nat.zero_le _, HR0, hid (kb_refl _)⟩
      case round =>
        clear HR0 x6 x7 xl
        rename World => wr
        obtain ⟨k, rfl, hk, HR, HK⟩ := hrel
        have HKK := hid (kb_tr HB0.out HK.out)
        have k0 : (0 : Int) ≤ (k : Int) := by omega
        by_cases hlt : k < m
        · have h1 : k < ns.length := by rw [HM.out]; exact hlt
          have k1 : (k : Int) < (m : Int) := by omega
          obtain ⟨b, off, hA, hx, hbl, c0⟩ := need_at (HN.out.kb HK.out) h1
          subst hA
          have HST := hid (HR.out.trans (by rw [List.drop_eq_getElem_cons h1, List.all_cons]))
          rw [Nat.mul_one] at c0
          clear HR
          generalize ns[k] = y at *
          clear h1
          have hyl := hx.len
          have HW := hid (wwants_any y.A y.c y.l n wr (HFF.out.kb HK.out) hx)
          have HMN := hid (show mayN n y = !(decide (y.l.length < 1) || (decide (24 < y.l.length) || !y.l.all (mayW n))) from rfl)
          clear hx
          generalize y.l.all (mayW n) = ry at *
          generalize y.l.length = ny at *
          by_cases g3 : ny < 1
          · have j3 : (ny : Int) < 1 := by omega
            have HRS := hid (show res = false from by rw [HV2.out, HST.out, HMN.out]; simp [g3])
            go_wp2_with fail
            try rw [Exit.noGoto_ret]
            try (first | go_ret | go_ret2)
            exact ⟨by rw [HRS.out]; rfl, HKK.out⟩
          · have j3 : ¬ (ny : Int) < 1 := by omega
            by_cases g4 : 24 < ny
            · have j4 : (24 : Int) < (ny : Int) := by omega
              have HRS := hid (show res = false from by rw [HV2.out, HST.out, HMN.out]; simp [g4])
              go_wp2_with fail
              try rw [Exit.noGoto_ret]
              try (first | go_ret | go_ret2)
              exact ⟨by rw [HRS.out]; rfl, HKK.out⟩
            · have j4 : ¬ (24 : Int) < (ny : Int) := by omega
              go_wp2_with fail
              refine HW.out.mono ?_
              rintro _ u2 ⟨rfl, hb⟩
              have HK2 := hid (kb_tr HK.out hb)
              have HKK2 := hid (kb_tr HKK.out hb)
              clear hb
              cases ry with
              | false =>
                have HRS := hid (show res = false from by rw [HV2.out, HST.out, HMN.out]; simp)
                go_wp2_with fail
                try rw [Exit.noGoto_ret]
                try (first | go_ret | go_ret2)
                exact ⟨by rw [HRS.out]; rfl, HKK2.out⟩
              | true =>
                have HRS := hid (show ra = (ns.drop (k + 1)).all (mayN n) from by rw [HST.out, HMN.out]; simp [g3, g4])
                go_wp2_with fail
                refine ⟨⟨k + 1, by go_num, by omega, HRS, HK2⟩, ?_⟩
                simp [intOf] <;> omega
        · obtain rfl : k = m := by omega
          have k1 : ¬ (k : Int) < (k : Int) := by omega
          have HRS := hid (show res = rb from by rw [HV2.out, HR.out, List.drop_eq_nil_of_le (by rw [HM.out]; exact Nat.le_refl _)]; simp)
          have HXW := hid (HX.out.kb HK.out)
          have x7 := HXW.out.2 7 _ rfl
          have xl := HXW.out.1
          go_wp2_with fail
          refine (HBW.out _ HKK.out).mono ?_
          rintro _ u2 ⟨rfl, hb⟩
          go_wp2_with fail
          try rw [Exit.noGoto_ret]
          try (first | go_ret | go_ret2)
          exact ⟨by rw [HRS.out]; rfl, kb_tr HKK.out hb⟩
end Go.Proofs.YtlmkglgjdmjnkaaGreatDoor
namespace Go.Proofs.YtlmkglgjdmjnkaaGreatDoor
open Go.RowKit Go.Lib
open Rw
set_option linter.unusedVariables false
set_option linter.unusedSimpArgs false
def orI (p q : Int) : Int := if p ≠ 0 then p else q
set_option maxHeartbeats 1000000 in
theorem cmpor_any (g : Nat) (p q : Int) (w : World) (hB : Box w g [.int .i64 p, .int .i64 q]) : Calls Tryz.prog 167 #[.slice (some ⟨g, 0, none⟩) 2 2] w fun e w' => e = .returned (.int .i64 (orI p q)) ∧ w = w' := by
  have c0 := hB.2 0 _ rfl
  have c1 := hB.2 1 _ rfl
  have cl := hB.1
  have HO := hid (show orI p q = if p ≠ 0 then p else q from rfl)
  generalize orI p q = r at *
  clear hB
  go_enter Tryz.func167, Tryz.ntmps167
  go_upto_block 0 with fail
  go_wp2_with fail
  go_loop [8] (fun i => (i = .int .i64 0 ∨ (i = .int .i64 1 ∧ p = 0) ∨ (i = .int .i64 2 ∧ p = 0 ∧ q = 0))) (fun i => 2 - (intOf i).toNat)
  case atStart => exact .inl rfl
  case round =>
    rcases hrel with rfl | ⟨rfl, hp⟩ | ⟨rfl, hp, hq⟩
    · by_cases hp : p = 0
      · subst hp
        go_wp2_with fail
        go_round
        case rel => exact .inr (.inl ⟨rfl, by first | trivial | rfl⟩)
        case measure => simp [intOf]
      · have e0 : (p != 0) = true := by rw [bne_iff_ne]; exact hp
        have HR := hid (HO.out.trans (if_pos hp))
        go_wp2_with fail
        try rw [Exit.noGoto_ret]
        try (first | go_ret | go_ret2)
        exact ⟨by rw [HR.out]; rfl, rfl⟩
    · subst hp
      by_cases hq : q = 0
      · subst hq
        go_wp2_with fail
        go_round
        case rel => exact .inr (.inr ⟨rfl, by first | trivial | rfl, by first | trivial | rfl⟩)
        case measure => simp [intOf]
      · have e0 : (q != 0) = true := by rw [bne_iff_ne]; exact hq
        have HR := hid (HO.out.trans (if_neg (by simp)))
        go_wp2_with fail
        try rw [Exit.noGoto_ret]
        try (first | go_ret | go_ret2)
        exact ⟨by rw [HR.out]; rfl, rfl⟩
    · subst hp
      subst hq
      have HR := hid (HO.out.trans (if_neg (by simp)))
      go_wp2_with fail
      try rw [Exit.noGoto_ret]
      try (first | go_ret | go_ret2)
      exact ⟨by rw [HR.out]; rfl, rfl⟩
def ordU (a b c d : ByteArray) : Int := orI (cmpB (bts a) (bts c)) (cmpB (bts b) (bts d))
set_option maxHeartbeats 1000000 in
theorem worder_any (a b c d : ByteArray) (w : World) : Calls Tryz.prog 142 #[.agg #[.string a, .string b], .agg #[.string c, .string d]] w (IntK w (ordU a b c d)) := by
  have HC1 := hid (fun u => cmps_any a c u)
  have HC2 := hid (fun u => cmps_any b d u)
  have HU := hid (show ordU a b c d = orI (cmpB (bts a) (bts c)) (cmpB (bts b) (bts d)) from rfl)
  generalize cmpB (bts a) (bts c) = p at *
  generalize cmpB (bts b) (bts d) = q at *
  go_enter Tryz.func142, Tryz.ntmps142
  go_upto_region 1 with fail
  refine wp_name ?_
  intro u1 hu1
  have HB1 := hid (show Box u1 w.heap.size [.string a, .string b] from by rw [hu1]; exact (Box.new w [.string a, .string b] _).kb (kb_new _ _))
  have HB2 := hid (show Box u1 (w.heap.size + 1) [.string c, .string d] from by rw [hu1]; have h := Box.new (w.alloc (.cells [.string a, .string b].toArray 206)) [.string c, .string d] 206; rwa [World.size_alloc] at h)
  have HK := hid (show KB w.heap.size w u1 from by rw [hu1]; exact kb_tr (kb_new _ _) (kb_new _ _))
  clear hu1
  generalize w.heap.size + 1 = g2 at *
  have hS : KB u1.heap.size u1 u1.drew := kb_drewJ (kb_refl _)
  refine wp_planS (fun u => KB u1.heap.size u1 u) (.call [0, 1, 2, 3, 5, 6, 7, 8] 4 (.call [] 9 (.call [] 10 (.call [] 11 (.last [12]))))) (by first | assumption | skip) (by kernel_rfl) (by intro _ _ d _ _ h; cases d <;> exact h) (by kernel_rfl) ?_
  have iS : Nonempty (SW fun u => KB u1.heap.size u1 u) := ⟨⟨_, hS⟩⟩
  have x0 := fun (z : SW fun u => KB u1.heap.size u1 u) => (HB1.out.kb z.ok).2 0 _ rfl
  have x1 := fun (z : SW fun u => KB u1.heap.size u1 u) => (HB1.out.kb z.ok).2 1 _ rfl
  have xl := fun (z : SW fun u => KB u1.heap.size u1 u) => (HB1.out.kb z.ok).1
  have y0 := fun (z : SW fun u => KB u1.heap.size u1 u) => (HB2.out.kb z.ok).2 0 _ rfl
  have y1 := fun (z : SW fun u => KB u1.heap.size u1 u) => (HB2.out.kb z.ok).2 1 _ rfl
  have yl := fun (z : SW fun u => KB u1.heap.size u1 u) => (HB2.out.kb z.ok).1
  with_reducible refine plan_call ?_
  simp only [pickOps, List.map_cons, List.map_nil, List.getElem?_toArray, List.getElem?_cons_zero, List.getElem?_cons_succ, Option.getD_some]
  repeat go_big_quiet_step (fail)
  refine wpQuiet_nil ?_
  go_wp2_with fail
  refine (HC1.out _).mono ?_
  rintro _ _ ⟨rfl, rfl⟩
  go_wp2_with fail
  refine plan_onS (hS) ?_
  with_reducible refine plan_call ?_
  simp only [pickOps, List.map_cons, List.map_nil, List.getElem?_toArray, List.getElem?_cons_zero, List.getElem?_cons_succ, Option.getD_some]
  repeat go_big_quiet_step (fail)
  refine wpQuiet_nil ?_
  go_wp2_with fail
  refine (HC2.out _).mono ?_
  rintro _ _ ⟨rfl, rfl⟩
  go_wp2_with fail
  refine plan_onS (hS) ?_
  with_reducible refine plan_call ?_
  simp only [pickOps, List.map_cons, List.map_nil, List.getElem?_toArray, List.getElem?_cons_zero, List.getElem?_cons_succ, Option.getD_some]
  repeat go_big_quiet_step (fail)
  refine wpQuiet_nil ?_
  go_wp2_with fail
  have HBX := hid (show Box ((u1.alloc (.cells #[.int .i64 p, .int .i64 q] 3)).drew) u1.heap.size [.int .i64 p, .int .i64 q] from (Box.new u1 [.int .i64 p, .int .i64 q] 3).kb (kb_drewJ (kb_refl _)))
  have HK2 := hid (show KB u1.heap.size u1 ((u1.alloc (.cells #[.int .i64 p, .int .i64 q] 3)).drew) from kb_drewJ (kb_new _ _))
  generalize ((u1.alloc (.cells #[.int .i64 p, .int .i64 q] 3)).drew) = u2 at *
  refine plan_onS HK2.out ?_
  with_reducible refine plan_call ?_
  simp only [pickOps, List.map_cons, List.map_nil, List.getElem?_toArray, List.getElem?_cons_zero, List.getElem?_cons_succ, Option.getD_some]
  repeat go_big_quiet_step (fail)
  refine wpQuiet_nil ?_
  go_wp2_with fail
  refine (cmpor_any u1.heap.size p q u2 HBX.out).mono ?_
  rintro _ _ ⟨rfl, rfl⟩
  go_wp2_with fail
  refine plan_onS (HK2.out) ?_
  with_reducible refine plan_last ?_
  simp only [pickOps, List.map_cons, List.map_nil, List.getElem?_toArray, List.getElem?_cons_zero, List.getElem?_cons_succ, Option.getD_some]
  repeat go_big_quiet_step (fail)
  refine wpQuiet_nil ?_
  clear iS x0 x1 xl y0 y1 yl
  go_wp2_with fail
  try rw [Exit.noGoto_ret]
  try go_ret
  exact ⟨by rw [HU.out]; rfl, kb_tr HK.out HK2.out⟩
end Go.Proofs.YtlmkglgjdmjnkaaGreatDoor
namespace Go.Proofs.YtlmkglgjdmjnkaaGreatDoor
open Go.RowKit Go.Lib
open Rw
set_option linter.unusedVariables false
set_option linter.unusedSimpArgs false
def fitsG : List Int → List UnitP → Bool
  | [], _ => true
  | _ :: _, [] => false
  | z :: zs, u :: us => !(decide (z < -1) || decide ((u.cands.length : Int) ≤ z)) && fitsG zs us
def fitsC (us : List UnitP) (zs : List Int) : Bool := decide (zs.length = us.length) && fitsG zs us
theorem fits_drop {zs : List Int} {us : List UnitP} {k : Nat} (h1 : k < zs.length) (h2 : k < us.length) : fitsG (zs.drop k) (us.drop k) = (!(decide (zs[k] < -1) || decide ((us[k].cands.length : Int) ≤ zs[k])) && fitsG (zs.drop (k + 1)) (us.drop (k + 1))) := by
  rw [List.drop_eq_getElem_cons h1, List.drop_eq_getElem_cons h2, fitsG]
theorem unit_at {w : World} {A : Option Addr} {l : List UnitP} {k : Nat} (h : UnitsAt w A l) (hk : k < l.length) : ∃ b off, A = some ⟨b, off, none⟩ ∧ UnitIs w l[k] ∧ b < w.heap.size ∧ w.cell? ⟨b, off + k * 3, none⟩ = some (.string l[k].name) ∧ w.cell? ⟨b, off + k * 3 + 1, none⟩ = some (.string l[k].feature) ∧ w.cell? ⟨b, off + k * 3 + 2, none⟩ = some (.slice l[k].A l[k].cands.length l[k].c) := by
  obtain ⟨b, off, hA, hl, h2⟩ := h.row.at_ hk
  exact ⟨b, off, hA, h.sub _ (List.getElem_mem hk), hl, h2 0 _ rfl, h2 1 _ rfl, h2 2 _ rfl⟩
theorem int_at {w : World} {A : Option Addr} {zs : List Int} {k : Nat} (h : IntsAt w A zs) (hk : k < zs.length) : ∃ b off, A = some ⟨b, off, none⟩ ∧ b < w.heap.size ∧ w.cell? ⟨b, off + k, none⟩ = some (.int .i64 zs[k]) := by
  rcases h with h | ⟨b, off, rfl, hb, hc⟩
  · subst h; simp at hk
  · have := hc k hk
    rw [List.getD_eq_getElem?_getD, List.getElem?_eq_getElem hk, Option.getD_some] at this
    exact ⟨b, off, rfl, hb, this⟩
set_option maxRecDepth 100000 in
set_option maxHeartbeats 4000000 in
theorem cfits_any (U : Option Addr) (uc : Nat) (us : List UnitP) (A : Option Addr) (c : Nat) (zs : List Int) (w : World) (hU : UnitsAt w U us) (hA : IntsAt w A zs) (hn : zs.length ≤ 9223372036854775807) : Calls Tryz.prog 104 #[.agg #[.slice U us.length uc], .slice A zs.length c] w (BoolK w (fitsC us zs)) := by
  have HB0 := hid (kb_new w (.cells [.slice U us.length uc].toArray 42))
  have HX := hid (Box.new w [.slice U us.length uc] 42)
  have HU := hid (hU.kb HB0.out)
  have HZ := hid (hA.kb HB0.out)
  have hul := hU.len
  have HV := hid (show fitsC us zs = (decide (zs.length = us.length) && fitsG (zs.drop 0) (us.drop 0)) from rfl)
  clear hU hA
  generalize fitsC us zs = res at *
  obtain ⟨m, hm⟩ : ∃ m, us.length = m := ⟨_, rfl⟩
  obtain ⟨n, hnn⟩ : ∃ n, zs.length = n := ⟨_, rfl⟩
  rw [hm] at hul HX HV HB0 HU HZ ⊢
  rw [hnn] at hn HV ⊢
  have HM := hid hm
  have HN := hid hnn
  clear hm hnn
  go_enter Tryz.func104, Tryz.ntmps104
  go_upto_region 1 with fail
  refine wp_name ?_
  intro u0 hu0
  rw [← hu0] at HX HB0 HU HZ
  clear hu0
  have xl := HX.out.1
  have x0 := HX.out.2 0 _ rfl
  by_cases g1 : n = m
  · subst g1
    have HV2 := hid (show res = fitsG (zs.drop 0) (us.drop 0) from by rw [HV.out]; simp)
    clear HV
    go_upto_block 0 with fail
    go_wp2_with fail
    go_loopw [15] (fun iv wr => ∃ k : Nat, iv = .int .i64 (k : Int) ∧ k ≤ n ∧ Hid (res = fitsG (zs.drop k) (us.drop k)) ∧ wr = u0) (fun iv _ => n - (intOf iv).toNat)
    case atStart => exact ⟨0, rfl, Nat.zero_le _, HV2, rfl⟩
    case round =>
      clear HV2
      rename World => wr
      obtain ⟨k, rfl, hk, HR, rfl⟩ := hrel
      have k0 : (0 : Int) ≤ (k : Int) := by omega
      by_cases hlt : k < n
      · have h1 : k < zs.length := by rw [HN.out]; exact hlt
        have h2 : k < us.length := by rw [HM.out]; exact hlt
        have k1 : (k : Int) < (n : Int) := by omega
        obtain ⟨bz, oz, hz, hbz, cz⟩ := int_at HZ.out h1
        obtain ⟨bu, ou, hu, hui, hbu, cn, cf, cc⟩ := unit_at HU.out h2
        subst hz
        subst hu
        have hcl := hui.cands.len
        have HST := hid (HR.out.trans (fits_drop h1 h2))
        clear HR hui cn cf
        generalize zs[k] = z at *
        generalize us[k] = y at *
        clear h1 h2
        generalize y.cands.length = nc at *
        by_cases g2 : z < -1
        · have HRS := hid (show res = false from by rw [HST.out]; simp [g2])
          go_wp2_with fail
          try rw [Exit.noGoto_ret]
          try (first | go_ret | go_ret2)
          exact ⟨by rw [HRS.out]; rfl, HB0.out⟩
        · by_cases g3 : (nc : Int) ≤ z
          · have HRS := hid (show res = false from by rw [HST.out]; simp [g3])
            go_wp2_with fail
            try rw [Exit.noGoto_ret]
            try (first | go_ret | go_ret2)
            exact ⟨by rw [HRS.out]; rfl, HB0.out⟩
          · have HRS := hid (show res = fitsG (zs.drop (k + 1)) (us.drop (k + 1)) from by rw [HST.out]; simp [g2, g3])
            go_wp2_with fail
            first
              | (go_roundw
                 case rel => exact ⟨k + 1, by go_num, by omega, HRS, by first | trivial | rfl⟩
                 case measure => simp [intOf] <;> omega)
              | (refine ⟨⟨k + 1, by go_num, by omega, HRS, by first | trivial | rfl⟩, ?_⟩
                 simp [intOf] <;> omega)
      · obtain rfl : k = n := by omega
        have k1 : ¬ (k : Int) < (k : Int) := by omega
        have HRS := hid (show res = true from by rw [HR.out, List.drop_eq_nil_of_le (by rw [HN.out]; exact Nat.le_refl _)]; rfl)
        go_wp2_with fail
        try rw [Exit.noGoto_ret]
        try (first | go_ret | go_ret2)
        exact ⟨by rw [HRS.out]; rfl, HB0.out⟩
  · have HRS := hid (show res = false from by rw [HV.out, decide_eq_false g1]; rfl)
    have i1 : ¬ (n : Int) = (m : Int) := by omega
    have e1 : ((n : Int) != (m : Int)) = true := by rw [bne_iff_ne]; exact i1
    go_wp2_with fail
    go_ret
    exact ⟨by rw [HRS.out]; rfl, HB0.out⟩
end Go.Proofs.YtlmkglgjdmjnkaaGreatDoor
