/- Lines by numbers: linchpinlaw39.lines. -/
import Derived.Test.YtlmkglgjdmjnkaaGreatDoorP10
namespace Go.Proofs.YtlmkglgjdmjnkaaGreatDoor
open Go.RowKit Go.Lib
open Rw
set_option linter.unusedVariables false
set_option linter.unusedSimpArgs false

def LinesLK (w : World) (e : Ending) (w' : World) : Prop := ∃ (v : Value) (ps : List LP), e = .returned v ∧ LinesG w' w.heap.size v ps ∧ KB w.heap.size w w'
theorem ints_first {w : World} {A : Option Addr} {zs : List Int} (h : IntsAt w A zs) (hz : 0 < zs.length) : ∃ b off z, A = some ⟨b, off, none⟩ ∧ b < w.heap.size ∧ w.cell? ⟨b, off, none⟩ = some (.int .i64 z) := by
  rcases h with h | ⟨b, off, rfl, hb, hc⟩
  · subst h; simp at hz
  · exact ⟨b, off, _, rfl, hb, hc 0 hz⟩
theorem lock_field (s : ByteArray) (A : Option Addr) (n c : Nat) (u : World) : (Instr.field 56 (.agg #[.string s, .string ⟨#[]⟩, .string ⟨#[]⟩, .slice A n c]) 1).run Tryz.prog u = .ok (.slice A n c) u := by kernel_rfl
/-- lines copied into a row that was laid since -/
theorem deep_moved {w w' : World} {B : Nat} {v v' : Value} {ps qs : List LP} (h : Deep 33 9 lkC LkSub w B v ps) (hb : KB w.heap.size w w') (hO : w'.ownsRow w.heap.size 33 9 v' qs.length (qs.flatMap lkC)) (hB : B ≤ w.heap.size) (hq : ∀ p ∈ qs, p ∈ ps) : Deep 33 9 lkC LkSub w' B v' qs :=
  ⟨own_lowB hO hB, fun p hp => LkSub.mono _ _ _ (mask_mono hb.size fun k hk h1 h2 => ⟨⟨h1, fun e => by have := (World.ownsRow.lt hO k e).1; omega⟩, hb.block k hk⟩) (h.2 p (hq p hp))⟩
theorem turn_un {l : List LockL} {x : LockL} (h : UnN (x :: l)) : UnN (l ++ [x]) := by
  have := List.pairwise_cons.1 h
  exact List.pairwise_append.2 ⟨this.2, List.pairwise_singleton _ _, fun a ha b hb => by rcases List.mem_singleton.1 hb with rfl; exact Ne.symm (this.1 a ha)⟩
theorem turn_own {w : World} {B n k : Nat} {v : Value} {ps : List LP} {p : LP} {xs : List Value} (h : w.ownsRow B 33 9 v k xs) (hn : ps.length = n) (hk : k = n - 1 + 1) (hx : xs = (ps.drop 1).flatMap lkC ++ lkC p) : w.ownsRow B 33 9 v (ps.drop 1 ++ [p]).length ((ps.drop 1 ++ [p]).flatMap lkC) := by
  have e1 : (ps.drop 1 ++ [p]).length = k := by rw [List.length_append, List.length_drop, hn, hk]; rfl
  have e2 : (ps.drop 1 ++ [p]).flatMap lkC = xs := by rw [List.flatMap_append, hx]; simp
  rw [e1, e2]
  exact h
set_option maxRecDepth 100000 in
set_option maxHeartbeats 4000000 in
theorem glines_any (A : Option Addr) (c : Nat) (zs : List Int) (w : World) (hz : IntsAt w A zs) (hzn : zs.length ≤ 9223372036854775807) : Calls Tryz.prog 7 #[.slice A zs.length c] w (LinesLK w) := by
  have HL := hid (glock_any A c zs w hz hzn)
  have HP := hid (fun v u => gplace_any v 3 u (by omega) (by omega))
  have HZ := hid (fun h => ints_first hz h)
  clear hz
  generalize zs.length = zn at *
  go_enter Tryz.func7, Tryz.ntmps7
  go_wp2_with fail
  refine HL.out.mono ?_
  rintro _ w1 ⟨s, v, ps, rfl, ⟨hD, hU, h4⟩, hb⟩
  obtain ⟨Av, cv, rfl, hc, hl, hs⟩ := hD.fresh lk_len LkSub.mono
  have HD := hid hD
  have HU := hid hU
  have H4 := hid h4
  have HB := hid hb
  have HLK := hid (show Locks w1 Av ps from ⟨hl.mono (Mono.of_mask _ _ _), fun p hp => LkSub.mono _ _ _ (Mono.of_mask _ _ _) (hs p hp)⟩)
  have HCV := hid hc
  clear hD hU h4 hb hl hs hc HL
  obtain ⟨n, hn⟩ : ∃ n, ps.length = n := ⟨_, rfl⟩
  rw [hn] at HD HCV
  rw [hn]
  have HNP := hid hn
  clear hn
  have hlf := fun u => lock_field s Av n cv u
  by_cases hz0 : 0 < zn
  · obtain ⟨b, off, z, rfl, hbl, hcell⟩ := HZ.out hz0
    have hi0 : (0 : Int) < (zn : Int) := by omega
    have c0 := cell_kb hbl HB.out hcell
    have cl : b < w1.heap.size := Nat.lt_of_lt_of_le hbl HB.out.size
    have HPX := hid (HP.out z)
    clear HZ HP hcell hbl
    by_cases h1 : 1 < n
    · have hi1 : (1 : Int) < (n : Int) := by omega
      generalize placeI z 3 = q at *
      by_cases hq : q = 0
      · subst hq
        have hlen : 1 ≤ n := by omega
        have hn4 : n ≤ 4 := by have h := H4.out; rw [HNP.out] at h; exact h
        obtain ⟨p, hp⟩ : ∃ p, ps[0]? = some p := ⟨ps[0]'(by rw [HNP.out]; omega), List.getElem?_eq_getElem _⟩
        have HPS := hid (show ps = p :: ps.drop 1 from by cases ps with | nil => cases hp | cons a r => injection hp with hp; subst hp; rfl)
        obtain ⟨g, og, hA, hix, hcx⟩ := lock_at (k := 0) HLK.out (by rw [HNP.out]; omega)
        have hp0 : ps[0]'(by rw [HNP.out]; omega) = p := by rw [List.getElem?_eq_getElem (by rw [HNP.out]; omega)] at hp; injection hp
        rw [hp0, Nat.zero_mul, Nat.add_zero] at hcx
        subst hA
        have HCX := hid hcx
        clear hix hcx hp0 hp
        have s1 := fun u => show (Instr.slice 24 (.slice (some ⟨g, og, none⟩) n cv) (some (.int .i64 1)) none none).run Tryz.prog u = .ok (.slice (tlL (some ⟨g, og, none⟩) 1 cv) (n - 1) (cv - 1)) u from sll_tail (some ⟨g, og, none⟩) n cv 1 hlen u
        have s2 := fun u => show (Instr.sliceAt 24 (.slice (some ⟨g, og, none⟩) n cv) (some (.int .i64 1)) none none).run Tryz.prog u = .ok (.slice (tlL (some ⟨g, og, none⟩) 1 cv) (n - 1) (cv - 1)) u from sll_tailAt (some ⟨g, og, none⟩) n cv 1 hlen u
        have hS : KB w1.heap.size w1 w1.drew := kb_drewJ (kb_refl _)
        have HS2 := hid (fun u (hb : KB w1.heap.size w1 u) => show SrcOf u (tlL (some ⟨g, og, none⟩) 1 cv) (n - 1) 9 ((ps.drop 1).flatMap lkC) from by have h := src_drop (HLK.out.kb hb).row (c := cv) (k := 1) (by rw [HNP.out]; omega) (by rw [HNP.out]; exact HCV.out); rwa [HNP.out] at h)
        go_wp2_with fail
        refine (HPX.out _).mono ?_
        rintro _ _ ⟨rfl, rfl⟩
        go_upto_region 3 with fail
        have HC0 := hid c0
        clear c0 cl
        refine wp_planS (fun u => KB w1.heap.size w1 u) (.two [0, 1, 3, 4, 5] 2 6 (.call [] 6 (.call [] 7 (.last [8]))) (.call [] 2 (.call [] 7 (.last [8])))) (by first | assumption | skip) (by kernel_rfl) (by intro _ _ d _ _ h; cases d <;> exact h) (by kernel_rfl) ?_
        have iS : Nonempty (SW fun u => KB w1.heap.size w1 u) := ⟨⟨_, hS⟩⟩
        have x0 := fun (z : SW fun u => KB w1.heap.size w1 u) => (HCX.out.kb z.ok).c0
        have x1 := fun (z : SW fun u => KB w1.heap.size w1 u) => (HCX.out.kb z.ok).c1
        have x2 := fun (z : SW fun u => KB w1.heap.size w1 u) => (HCX.out.kb z.ok).c2
        have x3 := fun (z : SW fun u => KB w1.heap.size w1 u) => (HCX.out.kb z.ok).c3
        have x4 := fun (z : SW fun u => KB w1.heap.size w1 u) => (HCX.out.kb z.ok).c4
        have x5 := fun (z : SW fun u => KB w1.heap.size w1 u) => (HCX.out.kb z.ok).c5
        have x6 := fun (z : SW fun u => KB w1.heap.size w1 u) => (HCX.out.kb z.ok).c6
        have x7 := fun (z : SW fun u => KB w1.heap.size w1 u) => (HCX.out.kb z.ok).c7
        have x8 := fun (z : SW fun u => KB w1.heap.size w1 u) => (HCX.out.kb z.ok).c8
        have xl := fun (z : SW fun u => KB w1.heap.size w1 u) => (HCX.out.kb z.ok).lt
        with_reducible refine plan_two ?_
        simp only [pickOps, List.map_cons, List.map_nil, List.getElem?_toArray, List.getElem?_cons_zero, List.getElem?_cons_succ, Option.getD_some]
        repeat go_big_quiet_step (fail)
        refine wpQuiet_nil ?_
        refine ⟨?_, ?_⟩
        · go_wp2_with (at_builtin; refine wpList_appx EKlocks rfl (.const (.slice none 0 0)) (.tmp 23) rfl rfl (World.ownsRow_nil _ w1.heap.size _ _) rfl (HS2.out _ hS) (lks_one _) (by unfold maxLen; omega) (by omega) (Nat.le_refl _) ?_; intro v3 w4 h2 h3 h4)
          have HB4 := hid (show KB w1.heap.size w1 w4 from Go.RowKit.Below.trans hS h3.kb)
          have HO4 := hid h2
          clear h2 h3 h4
          refine plan_onS HB4.out ?_
          with_reducible refine plan_call ?_
          simp only [pickOps, List.map_cons, List.map_nil, List.getElem?_toArray, List.getElem?_cons_zero, List.getElem?_cons_succ, Option.getD_some]
          repeat go_big_quiet_step (fail)
          refine wpQuiet_nil ?_
          go_wp2_with fail
          refine plan_onS (kb_tr HB4.out (kb_new _ _)) ?_
          with_reducible refine plan_call ?_
          simp only [pickOps, List.map_cons, List.map_nil, List.getElem?_toArray, List.getElem?_cons_zero, List.getElem?_cons_succ, Option.getD_some]
          repeat go_big_quiet_step (fail)
          refine wpQuiet_nil ?_
          go_wp2_with (at_builtin; refine wpList_appx EKlocks rfl (.tmp 24) (.tmp 28) rfl rfl (row_kb HO4.out (kb_new _ _)) rfl (src_alloc _ (lkC p) 33 9 rfl) (lk_one p) (by unfold maxLen; omega) (by omega) (by rw [World.size_alloc]; have := HB4.out.size; omega) ?_; intro v5 w5 h2 h3 h4)
          have HB5 := hid (show KB w1.heap.size w1 w5 from Go.RowKit.Below.trans (kb_tr HB4.out (kb_new _ _)) h3.kb)
          have HO5 := hid (turn_own (p := p) h2 HNP.out (by omega) (by simp))
          clear h2 h3 h4
          refine plan_onS HB5.out ?_
          with_reducible refine plan_last ?_
          simp only [pickOps, List.map_cons, List.map_nil, List.getElem?_toArray, List.getElem?_cons_zero, List.getElem?_cons_succ, Option.getD_some]
          repeat go_big_quiet_step (fail)
          refine wpQuiet_nil ?_
          clear iS x0 x1 x2 x3 x4 x5 x6 x7 x8 xl s1 s2
          go_wp2_with fail
          try rw [Exit.noGoto_ret]
          try go_ret
          exact ⟨_, ps.drop 1 ++ [p], rfl, ⟨deep_moved HD.out HB5.out HO5.out HB.out.size (fun y hy => by rw [HPS.out]; rcases List.mem_append.1 hy with hy | hy; exact List.mem_cons_of_mem _ hy; rcases List.mem_singleton.1 hy with rfl; exact List.mem_cons_self ..), by rw [List.map_append]; have h := HU.out; rw [HPS.out, List.map_cons] at h; exact turn_un h, by rw [List.length_append, List.length_drop, HNP.out]; show n - 1 + 1 ≤ 4; omega⟩, kb_tr HB.out HB5.out⟩
        · go_wp2_with fail
          have HB2 := hid (show KB w1.heap.size w1 ((w1.alloc (.cells #[.string p.1.name, .int .i64 p.1.v.maj, .int .i64 p.1.v.min, .int .i64 p.1.v.pat, .string p.1.v.pre, .string p.1.v.bld, .string p.1.shelf, .int .u64 p.1.sum, .slice p.2.A p.1.feats.length p.2.c] 33)).drew) from kb_drewJ (kb_new _ _))
          have HBX := hid (show Box ((w1.alloc (.cells #[.string p.1.name, .int .i64 p.1.v.maj, .int .i64 p.1.v.min, .int .i64 p.1.v.pat, .string p.1.v.pre, .string p.1.v.bld, .string p.1.shelf, .int .u64 p.1.sum, .slice p.2.A p.1.feats.length p.2.c] 33)).drew) w1.heap.size (lkC p) from (Box.new w1 (lkC p) 33).kb (kb_drewJ (kb_refl _)))
          generalize ((w1.alloc (.cells #[.string p.1.name, .int .i64 p.1.v.maj, .int .i64 p.1.v.min, .int .i64 p.1.v.pat, .string p.1.v.pre, .string p.1.v.bld, .string p.1.shelf, .int .u64 p.1.sum, .slice p.2.A p.1.feats.length p.2.c] 33)).drew) = w2 at *
          refine plan_onS HB2.out ?_
          with_reducible refine plan_call ?_
          simp only [pickOps, List.map_cons, List.map_nil, List.getElem?_toArray, List.getElem?_cons_zero, List.getElem?_cons_succ, Option.getD_some]
          repeat go_big_quiet_step (fail)
          refine wpQuiet_nil ?_
          go_wp2_with (at_builtin; refine wpList_appx EKlocks rfl (.const (.slice none 0 0)) (.tmp 23) rfl rfl (World.ownsRow_nil _ w1.heap.size _ _) rfl (HS2.out _ HB2.out) (lks_one _) (by unfold maxLen; omega) (by omega) HB2.out.size ?_; intro v3 w4 h2 h3 h4)
          have HB4 := hid (show KB w1.heap.size w1 w4 from Go.RowKit.Below.trans HB2.out h3.kb)
          have HO4 := hid h2
          have HBX4 := hid (HBX.out.grown h4 (fun e => by cases e))
          clear h2 h3 h4
          refine plan_onS HB4.out ?_
          with_reducible refine plan_call ?_
          simp only [pickOps, List.map_cons, List.map_nil, List.getElem?_toArray, List.getElem?_cons_zero, List.getElem?_cons_succ, Option.getD_some]
          repeat go_big_quiet_step (fail)
          refine wpQuiet_nil ?_
          go_wp2_with (at_builtin; refine wpList_appx EKlocks rfl (.tmp 24) (.tmp 28) rfl rfl HO4.out rfl (src_boxQ HBX4.out (show (lkC p).length = 1 * 9 from rfl)) (lk_one p) (by unfold maxLen; omega) (by omega) HB4.out.size ?_; intro v5 w5 h2 h3 h4)
          have HB5 := hid (show KB w1.heap.size w1 w5 from Go.RowKit.Below.trans HB4.out h3.kb)
          have HO5 := hid (turn_own (p := p) h2 HNP.out (by omega) (by simp))
          clear h2 h3 h4
          refine plan_onS HB5.out ?_
          with_reducible refine plan_last ?_
          simp only [pickOps, List.map_cons, List.map_nil, List.getElem?_toArray, List.getElem?_cons_zero, List.getElem?_cons_succ, Option.getD_some]
          repeat go_big_quiet_step (fail)
          refine wpQuiet_nil ?_
          clear iS x0 x1 x2 x3 x4 x5 x6 x7 x8 xl s1 s2
          go_wp2_with fail
          try rw [Exit.noGoto_ret]
          try go_ret
          exact ⟨_, ps.drop 1 ++ [p], rfl, ⟨deep_moved HD.out HB5.out HO5.out HB.out.size (fun y hy => by rw [HPS.out]; rcases List.mem_append.1 hy with hy | hy; exact List.mem_cons_of_mem _ hy; rcases List.mem_singleton.1 hy with rfl; exact List.mem_cons_self ..), by rw [List.map_append]; have h := HU.out; rw [HPS.out, List.map_cons] at h; exact turn_un h, by rw [List.length_append, List.length_drop, HNP.out]; show n - 1 + 1 ≤ 4; omega⟩, kb_tr HB.out HB5.out⟩
      · refine ?_
        have hq0 : (q == 0) = false := by rw [beq_eq_false_iff_ne]; exact hq
        go_wp2_with fail
        refine (HPX.out _).mono ?_
        rintro _ _ ⟨rfl, rfl⟩
        go_wp2_with fail
        try rw [Exit.noGoto_ret]
        try go_ret
        exact ⟨_, ps, rfl, ⟨by rw [← HNP.out] at HD ⊢; exact HD.out, HU.out, H4.out⟩, HB.out⟩
    · have hi1 : ¬ (1 : Int) < (n : Int) := by omega
      go_wp2_with fail
      try rw [Exit.noGoto_ret]
      try go_ret
      exact ⟨_, ps, rfl, ⟨by rw [← HNP.out] at HD ⊢; exact HD.out, HU.out, H4.out⟩, HB.out⟩
  · have hi0 : ¬ (0 : Int) < (zn : Int) := by omega
    go_wp2_with fail
    try rw [Exit.noGoto_ret]
    try go_ret
    exact ⟨_, ps, rfl, ⟨by rw [← HNP.out] at HD ⊢; exact HD.out, HU.out, H4.out⟩, HB.out⟩
end Go.Proofs.YtlmkglgjdmjnkaaGreatDoor
