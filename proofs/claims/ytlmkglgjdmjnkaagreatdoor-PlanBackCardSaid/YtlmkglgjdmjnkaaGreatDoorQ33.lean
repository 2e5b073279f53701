/- Parts 33 of the proofs. -/
import Derived.Test.YtlmkglgjdmjnkaaGreatDoorQ31
import Derived.Test.YtlmkglgjdmjnkaaGreatDoorQ32
import Derived.Test.YtlmkglgjdmjnkaaGreatDoorQ30
namespace Go.Proofs.YtlmkglgjdmjnkaaGreatDoor
open Go.RowKit Go.Lib
open Rw
set_option linter.unusedVariables false
set_option linter.unusedSimpArgs false
section
variable {n N n2 B0 B1 b g j : Nat} {w w' : World} {A B C D : Option Addr} {l m p q : List SpanL} {v : Value}
theorem SpanB.keep (h : SpanB w B0 A l) (k : Keep (some g) w w') (hg : g < B0) : SpanB w' B0 A l := by
  refine ⟨?_, h.2⟩
  rcases h.1 with e | ⟨b, off, rfl, hlt, hc⟩
  · exact .inl e
  · have hb : B0 ≤ b := h.2 _ rfl
    have e := k.2 b hlt (fun e => by injection e with e; omega)
    exact .inr ⟨b, off, rfl, Nat.lt_of_lt_of_le hlt k.1, fun i hi j u hj => (World.cell?_of_block e).trans (hc i hi j u hj)⟩
theorem SpanB.masked (h : SpanB w B0 A l) (hb : b ≤ B0) : Spans (mask w b none) A l := by
  rcases h.1 with e | ⟨b', off, rfl, hlt, hc⟩
  · exact .inl e
  · have hb2 : B0 ≤ b' := h.2 _ rfl
    exact .inr ⟨b', off, rfl, by rw [mask_size]; exact hlt, fun i hi j u hj => mask_cell.2 ⟨⟨by show b ≤ b'; omega, fun e => by cases e⟩, hc i hi j u hj⟩⟩
structure SetFr (n : Nat) (w : World) (B0 : Nat) (A : Option Addr) (l : List SpanL) (B : Option Addr) (m : List SpanL) : Prop where
  rel : SpanB w B0 A l
  pre : SpanB w B0 B m
  frel : fitL l
  fpre : fitL m
  nrel : l.length ≤ n
  npre : m.length ≤ n
theorem SetFr.none : SetFr n w B0 none [] none [] := ⟨SpanB.nil _ _, SpanB.nil _ _, fit_nil, fit_nil, Nat.zero_le _, Nat.zero_le _⟩
theorem SetFr.kb (h : SetFr n w B0 A l B m) (hb : KB w.heap.size w w') : SetFr n w' B0 A l B m := ⟨h.rel.kb hb, h.pre.kb hb, h.frel, h.fpre, h.nrel, h.npre⟩
theorem SetFr.keep (h : SetFr n w B0 A l B m) (k : Keep (some g) w w') (hg : g < B0) : SetFr n w' B0 A l B m := ⟨h.rel.keep k hg, h.pre.keep k hg, h.frel, h.fpre, h.nrel, h.npre⟩
theorem SetFr.low (h : SetFr n w B0 A l B m) (hb : b ≤ B0) (hn : n ≤ N) : SetFr N w b A l B m := ⟨h.rel.low hb, h.pre.low hb, h.frel, h.fpre, Nat.le_trans h.nrel hn, Nat.le_trans h.npre hn⟩
def SetK (n : Nat) (w : World) (e : Ending) (w' : World) : Prop := ∃ l m A c B d, e = .returned (setV A l.length c B m.length d) ∧ SetFr n w' w.heap.size A l B m ∧ KB w.heap.size w w'
theorem SetK.of {e : Ending} (h : SetPost w l m e w') (h1 : fitL l) (h2 : fitL m) (h3 : l.length ≤ n) (h4 : m.length ≤ n) : SetK n w e w' := by
  obtain ⟨A, c, B, d, he, ha, hb, hw⟩ := h
  exact ⟨l, m, A, c, B, d, he, ⟨ha, hb, h1, h2, h3, h4⟩, hw.kb⟩
theorem kor_any (N c d c2 d2 : Nat) (h : SetFr n w B0 A l B m) (k : SetFr n2 w B1 C p D q) (hN : 1 + 2 * (n + n2) ≤ N) (hn : n + n2 ≤ 4000) : Calls Tryz.prog 96 #[setV A l.length c B m.length d, setV C p.length c2 D q.length d2] w (SetK N w) := by
  have h1 := h.nrel; have h2 := h.npre; have h3 := k.nrel; have h4 := k.npre
  refine (rsor_any A B C D c d c2 d2 l m p q w h.rel.1 h.pre.1 k.rel.1 k.pre.1 h.frel h.fpre k.frel k.fpre (by omega) (by omega) (by omega) (by omega)).mono fun e w' hp => ?_
  have g1 := rorL_good h.frel k.frel
  have g2 := rorL_good h.fpre k.fpre
  have G := pair_good (b := mayS l m && mayS p q) (N := N) ⟨g1.1, by omega⟩ ⟨g2.1, by omega⟩
  rw [if_pair (y := rorL m q), if_pair2 (x := rorL l p)] at hp
  exact SetK.of hp G.1.1 G.2.1 G.1.2 G.2.2
theorem knot_any (N c d : Nat) (h : SetFr n w B0 A l B m) (hN : 1 + 2 * n ≤ N) (hn : n ≤ 4000) : Calls Tryz.prog 97 #[setV A l.length c B m.length d] w (SetK N w) := by
  have h1 := h.nrel; have h2 := h.npre
  refine (rsnot_any A B c d l m w h.rel.1 h.pre.1 h.frel h.fpre (by omega) (by omega)).mono fun e w' hp => ?_
  have g1 := rnotL_good h.frel
  have g2 := rnotL_good h.fpre
  have G := pair_good (b := mayS l m) (N := N) ⟨g1.1, by omega⟩ ⟨g2.1, by omega⟩
  exact SetK.of hp G.1.1 G.2.1 G.1.2 G.2.2
theorem kexact_any (v : Ver) (w : World) (hv : v.fit) : Calls Tryz.prog 32 #[v.val] w (SetK 1 w) := by
  have g := exact_good hv
  exact (rsexact_any v w hv).mono fun e w' hp => SetK.of hp g.1.1 g.1.2 g.2.1 g.2.2
theorem kall_any (w : World) : Calls Tryz.prog 50 #[] w (SetK 1 w) :=
  (rsall_any w).mono fun e w' ⟨A, c, B, d, he, ha, hb, hw⟩ => ⟨wholeL, wholeL, A, c, B, d, he, ⟨ha, hb, whole_fit, whole_fit, Nat.le_refl _, Nat.le_refl _⟩, hw.kb⟩
end
def GEnv (w0 : World) (gG : Nat) (z : Value) : Prop := First w0 ∧ w0.heap.size ≤ gG ∧ ∃ A c zs, z = .slice A zs.length c ∧ IntsAt w0 A zs ∧ zs.length ≤ 9223372036854775807
def NextK (w0 wr : World) (gG : Nat) (z : Value) (i : Nat) (n : Int) (u : World) (e : Ending) (w' : World) : Prop := (∃ q : Nat, (q : Int) < n ∧ e = .returned (.int .i64 (q : Int))) ∧ RR w0 wr gG z (i + 1) w' ∧ Keep (some gG) u w'
theorem gnx_any {w0 : World} {gG : Nat} {z : Value} (E : GEnv w0 gG z) (wr : World) (i : Nat) (n : Int) (u : World) (hR : RR w0 wr gG z i u) (hi : i ≤ 100000) (hn : 0 < n) (hn2 : n ≤ 2000000000) : Calls Tryz.prog 33 #[.pointer (some ⟨gG, 0, none⟩), .int .i64 n] u (NextK w0 wr gG z i n u) := by
  obtain ⟨hF, hg, A, c, zs, rfl, hz, hzn⟩ := E
  refine (gnext_any w0 w0.heap.size gG A c zs i n u hz hzn hR.kb hg hR.ctr hi hn hn2).mono ?_
  rintro _ w' ⟨rfl, rfl⟩
  obtain ⟨h1, h2⟩ := nextG_bd zs (i : Int) n hn
  obtain ⟨q, hq⟩ := Int.eq_ofNat_of_zero_le h1
  exact ⟨⟨q, by omega, by rw [hq]⟩, hR.next, ((Keep.refl _ _).put _ (.inl rfl)).trans (Keep.kb (kb_drewJ (kb_refl _)))⟩
theorem noB_keep {g : Nat} {w w' : World} (h : Keep (some g) w w') : Mono (maskB w (noB g)) (maskB w' (noB g)) := maskB_mono h.1 fun k hk hs => ⟨hs, h.2 k hk (fun e => by injection e with e; subst e; simp at hs)⟩
theorem RR.self {w0 w u : World} {g i : Nat} {z : Value} (h : RR w0 w g z i u) : RR w0 u g z i u := ⟨Keep.refl _ _, h.ctr, h.kb⟩
theorem RR.from {w0 w w1 u : World} {g i i' : Nat} {z : Value} (h : RR w0 w g z i w1) (k : RR w0 w1 g z i' u) : RR w0 w g z i' u := ⟨h.keep.trans k.keep, k.ctr, k.kb⟩
theorem RR.putB {w0 wr u : World} {g i k j : Nat} {z : Value} (h : RR w0 wr g z i u) (hk : wr.heap.size ≤ k) (hg : w0.heap.size ≤ k) (hne : g ≠ k) (x : Value) : RR w0 wr g z i (u.setCell ⟨k, j, none⟩ x) :=
  ⟨h.keep.put x (.inr hk), h.ctr.other hne x, kb_putJ h.kb hg x⟩
theorem RR.grown {w0 wr u u' : World} {g i : Nat} {z : Value} {o : Option Nat} (h : RR w0 wr g z i u) (hg : u.grownBy u' o) (ho : ∀ k, o = some k → wr.heap.size ≤ k) (hw : w0.heap.size ≤ wr.heap.size) (hl : g < wr.heap.size) : RR w0 wr g z i u' :=
  ⟨⟨Nat.le_trans h.keep.1 hg.size, fun k hk hn => (hg.block k (Nat.lt_of_lt_of_le hk h.keep.1) (fun e => by have := ho k e.symm; omega)).trans (h.keep.2 k hk hn)⟩, h.ctr.grown hg (fun e => by have := ho _ e.symm; omega), h.kb.grown hg (Nat.le_trans hw h.keep.1) (fun k hk => Nat.le_trans hw (ho k hk))⟩
def nOf : Nat → Nat
  | 0 => 0
  | k + 1 => 1 + 2 * (nOf k + 1)
theorem nOf_le : ∀ k, k ≤ 4 → nOf k ≤ 45 := by decide
def SetG (w0 w : World) (gG : Nat) (z : Value) (i : Nat) (e : Ending) (w' : World) : Prop := (∃ l m A c B d, e = .returned (setV A l.length c B m.length d) ∧ SetFr 1000 w' w.heap.size A l B m) ∧ RR w0 w gG z (i + 2) w'
set_option maxRecDepth 100000 in
set_option maxHeartbeats 4000000 in
theorem gset_any {w0 : World} {gG : Nat} {z : Value} (E : GEnv w0 gG z) (i : Nat) (w : World) (hR : RR w0 w gG z i w) (hi : i ≤ 90000) (C : Option Addr) (cc : Nat) (cs : List CandP) (hC : Lies 8 cdC (maskB w (noB gG)) C cs) (hv : ∀ x ∈ cs, x.v.fit) (hn : cs.length ≤ 4) : Calls Tryz.prog 68 #[.pointer (some ⟨gG, 0, none⟩), .slice C cs.length cc] w (SetG w0 w gG z i) := by
  have EE := hid E
  have HC := hid hC
  have HV := hid hv
  have hgw : gG < w.heap.size := hR.ctr.box.1
  have hw0 : w0.heap.size ≤ w.heap.size := hR.kb.size
  have HR1 := hid (hR.more (kb_new w (.cells [Value.slice none 0 0, .slice none 0 0].toArray 86)))
  have HO1 := hid (Own.new w [Value.slice none 0 0, .slice none 0 0] 86 (Nat.le_refl _))
  clear E hC hv hR
  obtain ⟨n, hcn⟩ : ∃ n, cs.length = n := ⟨_, rfl⟩
  rw [hcn] at hn ⊢
  have HCN := hid hcn
  clear hcn
  go_enter Tryz.func68, Tryz.ntmps68
  go_upto_region 1 with fail
  refine wp_name ?_
  intro u1 hu1
  rw [← hu1] at HR1 HO1
  clear hu1
  go_wp2_with fail
  refine (gnx_any EE.out w i 8 u1 HR1.out (by omega) (by omega) (by omega)).mono ?_
  rintro _ u2 ⟨⟨q, hq, rfl⟩, hR2, hK2⟩
  have HR2 := hid hR2
  have HO2 := hid (hK2.own HO1.out (fun e => by injection e with e; omega))
  clear hR2 hK2 HR1 HO1
  go_wp2_with fail
  refine (rsnone_any _).mono ?_
  rintro _ u3 ⟨rfl, hb⟩
  have HR3 := hid (HR2.out.more hb.kb)
  have HO3 := hid (HO2.out.kb hb.kb)
  clear hb HR2 HO2
  go_upto_block 0 with fail
  refine wp_name ?_
  intro wl hwl
  have h43 : w.heap.size < u3.heap.size := HO3.out.box.1
  obtain ⟨g4, hg4⟩ : ∃ g, g = w.heap.size := ⟨_, rfl⟩
  obtain ⟨g6, hg6⟩ : ∃ g, g = u3.heap.size := ⟨_, rfl⟩
  have HO6 := hid (show Own w.heap.size wl g6 [.slice none 0 0, .slice none 0 0] from by rw [hwl, hg6]; first | exact Own.new u3 [.slice none 0 0, .slice none 0 0] 86 (by omega) | exact own_set2 (Own.new u3 [.slice none 0 0, .slice none 0 0] 86 (by omega)) _ _)
  have HO4 := hid (show Own w.heap.size wl g4 [.slice none 0 0, .slice none 0 0] from by rw [hwl, hg4]; first | exact HO3.out.alloc _ | exact ((HO3.out.alloc _).other (by omega) _).other (by omega) _)
  have HRL := hid (show RR w0 w gG z (i + 1) wl from by rw [hwl]; first | exact HR3.out.more (kb_new _ _) | exact ((HR3.out.more (kb_new _ _)).putB (by omega) (by omega) (by omega) _).putB (by omega) (by omega) (by omega) _)
  have hlw : wl.heap.size = u3.heap.size + 1 := by rw [hwl]; simp
  have hq4 : gG < g4 := by omega
  have hq6 : g4 < g6 := by omega
  have hql : wl.heap.size = g6 + 1 := by omega
  rw [← hg4, ← hg6]
  have hgl : w.heap.size ≤ g4 ∧ g4 ≤ w.heap.size := by omega
  clear hwl HR3 HO3 h43 hlw hg6 hg4
  go_wp2_with fail
  go_loopw [7] (fun iv wr => ∃ (k : Nat) (l m : List SpanL) (A : Option Addr) (c : Nat) (B : Option Addr) (d : Nat), iv = .int .i64 (k : Int) ∧ k ≤ n ∧ Hid (SetFr (nOf k) wr wl.heap.size A l B m) ∧ Hid (Own w.heap.size wr g6 [.slice A l.length c, .slice B m.length d]) ∧ Hid (Own w.heap.size wr g4 [.slice none 0 0, .slice none 0 0]) ∧ Hid (RR w0 w gG z (i + 1) wr) ∧ Hid (wl.heap.size ≤ wr.heap.size)) (fun iv _ => n - (intOf iv).toNat)
  case atStart => exact ⟨0, [], [], none, 0, none, 0, rfl, Nat.zero_le _, hid SetFr.none, HO6, HO4, HRL, hid (Nat.le_refl _)⟩
  case round =>
    clear HO6 HO4 HRL
    rename World => wr
    obtain ⟨k, l, m, A, c, B, d, rfl, hk, HS, HO6, HO4, HR, HSZ⟩ := hrel
    have k0 : (0 : Int) ≤ (k : Int) := by omega
    by_cases hlt : k < n
    · have k1 : (k : Int) < (n : Int) := by omega
      obtain ⟨bt, hbt⟩ : ∃ b, (bits BinOp.and IntKind.i64 ((q : Int) / 2 ^ k) 1 == 1) = b := ⟨_, rfl⟩
      have hn1 : nOf (k + 1) = 1 + 2 * (nOf k + 1) := rfl
      have hn4 : nOf k ≤ 45 := nOf_le k (by omega)
      cases bt with
      | false =>
        go_wp2_with fail
        refine ⟨⟨k + 1, l, m, A, c, B, d, by go_num, by omega, hid (HS.out.low (Nat.le_refl _) (by omega)), HO6, HO4, HR, HSZ⟩, ?_⟩
        simp [intOf] <;> omega
      | true =>
        have h1 : k < cs.length := by rw [HCN.out]; exact hlt
        obtain ⟨bc, oc, hCe, hbc, hcc⟩ := HC.out.at_ h1
        subst hCe
        rw [maskB_size] at hbc
        have HVF := hid (HV.out _ (List.getElem_mem h1))
        have HCC := hid (fun (u : World) (hu : KB g6 wr u) (j : Nat) (v : Value) (h : (cdC cs[k])[j]? = some v) => show u.cell? ⟨bc, oc + k * 8 + j, none⟩ = some v from by
          obtain ⟨e1, e2⟩ := maskB_cell.1 (hcc j v h)
          have e1 : bc ≠ gG := by simpa using e1
          have e3 := HR.out.keep.2 bc hbc (fun e => by injection e with e; exact e1 e.symm)
          have e4 := hu.block bc (by omega)
          exact (World.cell?_of_block (e4.trans e3)).trans e2)
        have HBL := hid (fun (u : World) (hu : KB g6 wr u) => show bc < u.heap.size from Nat.lt_of_lt_of_le hbc (Nat.le_trans HR.out.keep.1 hu.size))
        clear hcc hbc
        generalize cs[k] = y at *
        obtain ⟨yv, ysh, yn, yb, yA, yk, yB, yd⟩ := y
        dsimp only at HCC HVF
        clear h1
        go_upto_region 7 with fail
        have hS : KB g6 wr wr.drew := kb_drewJ (Go.RowKit.Below.refl _ _)
        have hb0 : KB wr.heap.size wr wr.drew := kb_drewJ (kb_refl _)
        have h6w : g6 ≤ wr.heap.size := by have := HSZ.out; omega
        refine wp_planS (fun u => KB g6 wr u) (.two [1, 2, 3, 4, 5] 0 6 (.call [] 6 (.call [] 7 (.call [] 8 (.last [])))) (.call [] 0 (.call [] 7 (.call [] 8 (.last []))))) (by first | assumption | skip) (by kernel_rfl) (by intro _ _ d _ _ h; cases d <;> exact h) (by kernel_rfl) ?_
        have iS : Nonempty (SW fun u => KB g6 wr u) := ⟨⟨_, hS⟩⟩
        have t0 := fun (z : SW fun u => KB g6 wr u) => show z.v.cell? ⟨bc, oc + k * 8, none⟩ = _ from HCC.out _ z.ok 0 _ rfl
        have t1 := fun (z : SW fun u => KB g6 wr u) => HCC.out _ z.ok 1 _ rfl
        have t2 := fun (z : SW fun u => KB g6 wr u) => HCC.out _ z.ok 2 _ rfl
        have t3 := fun (z : SW fun u => KB g6 wr u) => HCC.out _ z.ok 3 _ rfl
        have t4 := fun (z : SW fun u => KB g6 wr u) => HCC.out _ z.ok 4 _ rfl
        have tl := fun (z : SW fun u => KB g6 wr u) => HBL.out _ z.ok
        with_reducible refine plan_two ?_
        simp only [pickOps, List.map_cons, List.map_nil, List.getElem?_toArray, List.getElem?_cons_zero, List.getElem?_cons_succ, Option.getD_some]
        repeat go_big_quiet_step (fail)
        refine wpQuiet_nil ?_
        refine ⟨?_, ?_⟩
        focus
          have x0 := (HO6.out.kb hb0).box.2 0 _ rfl
          have x1 := (HO6.out.kb hb0).box.2 1 _ rfl
          have xl := (HO6.out.kb hb0).box.1
          go_wp2_with fail
          refine plan_onS hS ?_
          with_reducible refine plan_call ?_
          simp only [pickOps, List.map_cons, List.map_nil, List.getElem?_toArray, List.getElem?_cons_zero, List.getElem?_cons_succ, Option.getD_some]
          repeat go_big_quiet_step (fail)
          refine wpQuiet_nil ?_
          go_wp2_with fail
          refine (kexact_any yv _ HVF.out).mono ?_
          rintro _ ua ⟨l1, m1, A1, c1, B1, d1, rfl, hs1, hb1⟩
          have hba : KB wr.heap.size wr ua := kb_tr hb0 hb1
          have hsa : KB g6 wr ua := hba.mono h6w
          go_wp2_with fail
          refine plan_onS (hsa) ?_
        rotate_left
        focus
          go_wp2_with fail
          refine (kexact_any yv _ HVF.out).mono ?_
          rintro _ ua ⟨l1, m1, A1, c1, B1, d1, rfl, hs1, hb1⟩
          have hba : KB wr.heap.size wr ua := kb_tr hb0 hb1
          have hsa : KB g6 wr ua := hba.mono h6w
          have x0 := (HO6.out.kb hba).box.2 0 _ rfl
          have x1 := (HO6.out.kb hba).box.2 1 _ rfl
          have xl := (HO6.out.kb hba).box.1
          go_wp2_with fail
          refine plan_onS (hsa) ?_
          with_reducible refine plan_call ?_
          simp only [pickOps, List.map_cons, List.map_nil, List.getElem?_toArray, List.getElem?_cons_zero, List.getElem?_cons_succ, Option.getD_some]
          repeat go_big_quiet_step (fail)
          refine wpQuiet_nil ?_
          go_wp2_with fail
          refine plan_onS hsa ?_
        all_goals
          with_reducible refine plan_call ?_
          simp only [pickOps, List.map_cons, List.map_nil, List.getElem?_toArray, List.getElem?_cons_zero, List.getElem?_cons_succ, Option.getD_some]
          repeat go_big_quiet_step (fail)
          refine wpQuiet_nil ?_
          go_wp2_with fail
          refine (kor_any (nOf (k + 1)) c d c1 d1 (HS.out.kb hba) hs1 (by omega) (by omega)).mono ?_
          rintro _ ub ⟨l2, m2, A2, c2, B2, d2, rfl, hs2, hb2⟩
          have hbb : KB wr.heap.size wr ub := kb_tr hba hb2
          have hsb : KB g6 wr ub := hbb.mono h6w
          have hOb := HO6.out.kb hbb
          have z0 := hOb.box.2 0 _ rfl
          have z1 := hOb.box.2 1 _ rfl
          have zl := hOb.box.1
          have sf : ∀ j, ub.frozen? ⟨g6, j, none⟩ = false := hOb.soft
          go_wp2_with fail
          refine plan_onS (hsb) ?_
          with_reducible refine plan_call ?_
          simp only [pickOps, List.map_cons, List.map_nil, List.getElem?_toArray, List.getElem?_cons_zero, List.getElem?_cons_succ, Option.getD_some]
          repeat go_big_quiet_step (fail)
          refine wpQuiet_nil ?_
          go_wp2_with fail
          refine planK_name ?_
          intro uc hc
          have hc2 : KB g6 wr uc := by rw [hc]; exact (hsb.setCell (p := ⟨g6, 0, none⟩) (Nat.le_refl _) _).setCell (p := ⟨g6, 1, none⟩) (Nat.le_refl _) _
          refine plan_onS hc2 ?_
          with_reducible refine plan_last ?_
          simp only [pickOps, List.map_cons, List.map_nil, List.getElem?_toArray, List.getElem?_cons_zero, List.getElem?_cons_succ, Option.getD_some]
          repeat go_big_quiet_step (fail)
          refine wpQuiet_nil ?_
          have HSn := hid (show SetFr (nOf (k + 1)) uc wl.heap.size A2 l2 B2 m2 from (hs2.keep (g := g6) (by rw [hc]; exact ((Keep.refl _ _).put _ (.inl rfl)).put _ (.inl rfl)) (by have := hba.size; have := HSZ.out; omega)).low (by have := hba.size; have := HSZ.out; omega) (Nat.le_refl _))
          have HOn := hid (show Own w.heap.size uc g6 [.slice A2 l2.length c2, .slice B2 m2.length d2] from by rw [hc]; exact own_set2 hOb _ _)
          have HO4n := hid (show Own w.heap.size uc g4 [.slice none 0 0, .slice none 0 0] from by rw [hc]; exact ((HO4.out.kb hbb).other (by omega) _).other (by omega) _)
          have HRn := hid (show RR w0 w gG z (i + 1) uc from by rw [hc]; exact ((HR.out.more hbb).putB (by omega) (by omega) (by omega) _).putB (by omega) (by omega) (by omega) _)
          have HSZn := hid (show wl.heap.size ≤ uc.heap.size from by rw [hc, World.size_setCell, World.size_setCell]; exact Nat.le_trans HSZ.out hbb.size)
          clear hc hc2 z0 z1 zl sf hsb hbb hOb hs2 hb2 hs1 hb1 hba hsa x0 x1 xl t0 t1 t2 t3 t4 tl iS hS hb0 HS HO6 HO4 HR HSZ
          go_wp2_with fail
          refine (show _ ∧ _ from ⟨?_, ?_⟩)
          · exact ⟨k + 1, l2, m2, A2, c2, B2, d2, by go_num, by omega, HSn, HOn, HO4n, HRn, HSZn⟩
          · simp [intOf] <;> omega
    · obtain rfl : k = n := by omega
      have k1 : ¬ (k : Int) < (k : Int) := by omega
      have hn4 : nOf k ≤ 45 := nOf_le k hn
      go_wp2_with fail
      refine (gnx_any EE.out w (i + 1) 6 wr HR.out (by omega) (by omega) (by omega)).mono ?_
      rintro _ u4 ⟨⟨q2, hq2, rfl⟩, hR4, hK4⟩
      have HR4 := hid hR4
      have HO44 := hid (hK4.own HO4.out (fun e => by injection e with e; omega))
      have HO64 := hid (hK4.own HO6.out (fun e => by injection e with e; omega))
      have HS4 := hid (HS.out.keep hK4 (by omega))
      have hsz : wl.heap.size ≤ u4.heap.size := Nat.le_trans HSZ.out hK4.1
      clear hR4 hK4 HR HO4 HO6 HS HSZ
      have y0 := HO44.out.box.2 0 _ rfl
      have y1 := HO44.out.box.2 1 _ rfl
      have yl := HO44.out.box.1
      have sf : ∀ j, u4.frozen? ⟨g4, j, none⟩ = false := HO44.out.soft
      have z0 := HO64.out.box.2 0 _ rfl
      have z1 := HO64.out.box.2 1 _ rfl
      have zl := HO64.out.box.1
      have hend : ∀ (u w9 : World) (N : Nat) (l : List SpanL) (m : List SpanL) (A : Option Addr) (c : Nat) (B : Option Addr) (d : Nat), KB u4.heap.size u4 u → SetFr N u (g4 + 1) A l B m → N ≤ 1000 → w9 = (u.setCell ⟨g4, 0, none⟩ (.slice A l.length c)).setCell ⟨g4, 1, none⟩ (.slice B m.length d) → Box w9 g4 [.slice A l.length c, .slice B m.length d] ∧ SetG w0 w gG z i (.returned (setV A l.length c B m.length d)) w9 := by
        intro u w9 N l m A c B d hu hs hN h9
        refine ⟨?_, ⟨l, m, A, c, B, d, rfl, ?_⟩, ?_⟩
        · rw [h9]; exact (own_set2 (HO44.out.kb hu) _ _).box
        · exact (hs.keep (g := g4) (by rw [h9]; exact ((Keep.refl _ _).put _ (.inl rfl)).put _ (.inl rfl)) (by omega)).low (by omega) hN
        · rw [h9]; exact ((HR4.out.more hu).putB (by omega) (by omega) (by omega) _).putB (by omega) (by omega) (by omega) _
      have HEND := hid hend
      clear hend
      by_cases e0 : q2 = 0
      · subst e0
        clear z0 z1 zl y0 y1 yl sf
        go_wp2_with fail
        refine (kall_any _).mono ?_
        rintro _ u5 ⟨l1, m1, A1, c1, B1, d1, rfl, hs1, hb1⟩
        have hO5 := HO44.out.kb hb1
        have y0 := hO5.box.2 0 _ rfl
        have y1 := hO5.box.2 1 _ rfl
        have yl := hO5.box.1
        have sf : ∀ j, u5.frozen? ⟨g4, j, none⟩ = false := hO5.soft
        go_wp2_with fail
        try rw [Exit.noGoto_ret]
        refine body_name ?_
        intro w9 hw9
        obtain ⟨hx, hy⟩ := HEND.out u5 w9 1 l1 m1 A1 c1 B1 d1 hb1 (hs1.low (by omega) (Nat.le_refl _)) (by omega) hw9
        have k0 := hx.2 0 _ rfl
        have k1 := hx.2 1 _ rfl
        exact bodyPost_ret (v := setV A1 l1.length c1 B1 m1.length d1) (by simp [results, Tryz.results68, go_sem, k0, k1]) rfl hy
      · have e1 : ((q2 : Int) == 0) = false := by rw [beq_eq_false_iff_ne]; omega
        by_cases e2 : q2 = 1
        · subst e2
          clear y0 y1 yl sf
          go_wp2_with fail
          refine (knot_any 1000 _ _ HS4.out (by omega) (by omega)).mono ?_
          rintro _ u5 ⟨l1, m1, A1, c1, B1, d1, rfl, hs1, hb1⟩
          have hO5 := HO44.out.kb hb1
          have y0 := hO5.box.2 0 _ rfl
          have y1 := hO5.box.2 1 _ rfl
          have yl := hO5.box.1
          have sf : ∀ j, u5.frozen? ⟨g4, j, none⟩ = false := hO5.soft
          clear z0 z1 zl
          go_wp2_with fail
          try rw [Exit.noGoto_ret]
          refine body_name ?_
          intro w9 hw9
          obtain ⟨hx, hy⟩ := HEND.out u5 w9 1000 l1 m1 A1 c1 B1 d1 hb1 (hs1.low (by omega) (Nat.le_refl _)) (by omega) hw9
          have k0 := hx.2 0 _ rfl
          have k1 := hx.2 1 _ rfl
          exact bodyPost_ret (v := setV A1 l1.length c1 B1 m1.length d1) (by simp [results, Tryz.results68, go_sem, k0, k1]) rfl hy
        · have e3 : ((q2 : Int) == 1) = false := by rw [beq_eq_false_iff_ne]; omega
          go_wp2_with fail
          try rw [Exit.noGoto_ret]
          refine body_name ?_
          intro w9 hw9
          obtain ⟨hx, hy⟩ := HEND.out u4 w9 (nOf k) l m A c B d (kb_refl _) (HS4.out.low (by omega) (Nat.le_refl _)) (by omega) hw9
          have k0 := hx.2 0 _ rfl
          have k1 := hx.2 1 _ rfl
          exact bodyPost_ret (v := setV A l.length c B m.length d) (by simp [results, Tryz.results68, go_sem, k0, k1]) rfl hy
end Go.Proofs.YtlmkglgjdmjnkaaGreatDoor
namespace Go.Proofs.YtlmkglgjdmjnkaaGreatDoor
open Go.RowKit Go.Lib
open Rw
set_option linter.unusedVariables false
set_option linter.unusedSimpArgs false
def UHd (w : World) (U : Option Addr) (us : List UnitP) : Prop := Lies 3 utC w U us ∧ ∀ x ∈ us, Lies 8 cdC w x.A x.cands ∧ x.cands.length ≤ 4 ∧ ∀ y ∈ x.cands, y.v.fit
theorem UHd.mono {w w' : World} {U : Option Addr} {us : List UnitP} (h : UHd w U us) (m : Mono w w') : UHd w' U us := ⟨h.1.mono m, fun x hx => ⟨(h.2 x hx).1.mono m, (h.2 x hx).2⟩⟩
def inU (n : Nat) (x : WantP) : Prop := 0 ≤ x.unit ∧ x.unit < (n : Int)
def WantG (w0 w : World) (gG : Nat) (z : Value) (i n : Nat) (e : Ending) (w' : World) : Prop := (∃ x : WantP, e = .returned (.agg #[.int .i64 x.unit, .slice x.A x.fin.length x.c, .slice x.B x.pre.length x.d]) ∧ inU n x ∧ WantIs (mask w' w.heap.size none) x) ∧ RR w0 w gG z (i + 3) w'
theorem own_set3G {B : Nat} {w : World} {g : Nat} {a0 a1 a2 : Value} (h : Own B w g [a0, a1, a2]) (b0 b1 b2 : Value) : Own B (((w.setCell ⟨g, 0, none⟩ b0).setCell ⟨g, 1, none⟩ b1).setCell ⟨g, 2, none⟩ b2) g [b0, b1, b2] := by
  have := ((h.put (j := 0) (by simp) b0).put (j := 1) (by simp) b1).put (j := 2) (by simp) b2
  simpa using this
theorem WantIs.of {w : World} {b n : Nat} {A B : Option Addr} {l m : List SpanL} (u : Int) (c d : Nat) (h : SetFr n w b A l B m) (hn : n ≤ 1000000) : WantIs (mask w b none) ⟨u, l, m, A, c, B, d⟩ :=
  ⟨h.rel.masked (Nat.le_refl _), h.pre.masked (Nat.le_refl _), h.frel, h.fpre, Nat.le_trans h.nrel hn, Nat.le_trans h.npre hn⟩
set_option maxRecDepth 100000 in
set_option maxHeartbeats 4000000 in
theorem gwant_any {w0 : World} {gG : Nat} {z : Value} (E : GEnv w0 gG z) (i : Nat) (w : World) (hR : RR w0 w gG z i w) (hi : i ≤ 80000) (U : Option Addr) (uc : Nat) (us : List UnitP) (hU : UHd (maskB w (noB gG)) U us) (h2 : 2 ≤ us.length) (hln : us.length ≤ 1000) : Calls Tryz.prog 34 #[.pointer (some ⟨gG, 0, none⟩), .slice U us.length uc] w (WantG w0 w gG z i us.length) := by
  have EE := hid E
  have HU := hid hU
  have hgw : gG < w.heap.size := hR.ctr.box.1
  have hw0 : w0.heap.size ≤ w.heap.size := hR.kb.size
  have HR1 := hid (hR.more (kb_new w (.cells [Value.int .i64 0, .slice none 0 0, .slice none 0 0].toArray 89)))
  have HO1 := hid (Own.new w [Value.int .i64 0, .slice none 0 0, .slice none 0 0] 89 (Nat.le_refl _))
  clear E hU hR
  obtain ⟨n, hn⟩ : ∃ n, us.length = n := ⟨_, rfl⟩
  have HN := hid hn
  rw [hn] at h2 hln ⊢
  clear hn
  go_enter Tryz.func34, Tryz.ntmps34
  go_upto_region 1 with fail
  refine wp_name ?_
  intro u1 hu1
  rw [← hu1] at HR1 HO1
  clear hu1
  go_wp2_with fail
  refine (gnx_any EE.out w i ((n : Int) - 1) u1 HR1.out (by omega) (by omega) (by omega)).mono ?_
  rintro _ u2 ⟨⟨q, hq, rfl⟩, hR2, hK2⟩
  have HR2 := hid hR2
  have HO2 := hid (hK2.own HO1.out (fun e => by injection e with e; omega))
  clear hR2 hK2 HR1 HO1
  obtain ⟨p, hp⟩ : ∃ p : Nat, (1 : Int) + (q : Int) = (p : Int) := ⟨1 + q, by omega⟩
  have hp1 : 0 < p := by omega
  have hp2 : p < n := by omega
  go_upto_region 2 with fail
  clear hp hq
  have p0 : (0 : Int) ≤ (p : Int) := by omega
  have p1 : (p : Int) < (n : Int) := by omega
  have h1 : p < us.length := by rw [HN.out]; exact hp2
  obtain ⟨hl, hx⟩ := HU.out.mono (noB_keep HR2.out.keep)
  obtain ⟨hc1, hc2, hc3⟩ := hx _ (List.getElem_mem h1)
  obtain ⟨b, off, hA, hlt, hc⟩ := (hl.mono noB_all).at_ h1
  subst hA
  have y2 := hc 2 _ rfl
  have HC1 := hid hc1
  have HC3 := hid hc3
  clear hc hl hx hc1 hc3 HU
  have HSET := hid (gset_any EE.out (i + 1) u2 HR2.out.self (by omega) us[p].A us[p].c us[p].cands HC1.out HC3.out hc2)
  generalize us[p].A = cA at *
  generalize us[p].c = cc at *
  generalize us[p].cands.length = cn at *
  go_wp2_with fail
  refine HSET.out.mono ?_
  rintro _ u3 ⟨⟨l, m, A, c, B, d, rfl, hS⟩, hR3⟩
  have HR3 := hid (HR2.out.from hR3)
  have HO3 := hid (hR3.keep.own HO2.out (fun e => by injection e with e; omega))
  have HS := hid (hS.low (b := w.heap.size + 1) HO2.out.box.1 (Nat.le_refl _))
  have x0 := HO3.out.box.2 0 _ rfl
  have x1 := HO3.out.box.2 1 _ rfl
  have x2 := HO3.out.box.2 2 _ rfl
  have xl := HO3.out.box.1
  have sf : ∀ j, u3.frozen? ⟨w.heap.size, j, none⟩ = false := HO3.out.soft
  clear hS hR3 HSET y2
  go_wp2_with fail
  refine body_name ?_
  intro w9 hw9
  have O9 : Own w.heap.size w9 w.heap.size [.int .i64 (p : Int), .slice A l.length c, .slice B m.length d] := by rw [hw9]; exact own_set3G HO3.out _ _ _
  have R9 : RR w0 w gG z (i + 3) w9 := by rw [hw9]; exact ((HR3.out.putB (Nat.le_refl _) hw0 (by omega) _).putB (Nat.le_refl _) hw0 (by omega) _).putB (Nat.le_refl _) hw0 (by omega) _
  have K9 : Keep (some w.heap.size) u3 w9 := by rw [hw9]; exact (((Keep.refl _ _).put _ (.inl rfl)).put _ (.inl rfl)).put _ (.inl rfl)
  have S9 : SetFr 1000 w9 w.heap.size A l B m := by
    exact (HS.out.keep K9 (Nat.lt_succ_self _)).low (by omega) (Nat.le_refl _)
  clear hw9
  have k0 := O9.box.2 0 _ rfl
  have k1 := O9.box.2 1 _ rfl
  have k2 := O9.box.2 2 _ rfl
  refine bodyPost_ret (v := .agg #[.int .i64 (p : Int), .slice A l.length c, .slice B m.length d]) (by simp [results, Tryz.results34, go_sem, k0, k1, k2]) rfl ?_
  exact ⟨⟨⟨(p : Int), l, m, A, c, B, d⟩, rfl, ⟨by show (0 : Int) ≤ (p : Int); omega, by show (p : Int) < (n : Int); omega⟩, WantIs.of _ _ _ S9 (by omega)⟩, R9⟩
theorem EKneedsG : EK Tryz.prog 75 77 1 24 := .mk' (.slice none 0 0) Tryz.underlying75 (by kernel_rfl) rfl (by omega)
def WIs (n : Nat) (w : World) (x : WantP) : Prop := WantIs w x ∧ inU n x
theorem WIs.mono (n : Nat) : ∀ (w w' : World) (x : WantP), Mono w w' → WIs n w x → WIs n w' x := fun _ _ _ m h => ⟨h.1.mono m, h.2⟩
def NIs (n : Nat) (w : World) (x : NeedP) : Prop := WantsAt w x.A x.l ∧ ∀ y ∈ x.l, inU n y
theorem NIs.mono (n : Nat) : ∀ (w w' : World) (x : NeedP), Mono w w' → NIs n w x → NIs n w' x := fun _ _ _ m h => ⟨h.1.mono m, h.2⟩
theorem deep_lit {n : Nat} {u : World} {B : Nat} {x : WantP} (hx : WIs n (mask u B none) x) (hB : B ≤ u.heap.size) : Deep 89 3 wtC (WIs n) (u.alloc (.cells #[.int .i64 x.unit, .slice x.A x.fin.length x.c, .slice x.B x.pre.length x.d] 89)) B (.slice (some ⟨u.heap.size, 0, none⟩) 1 1) [x] := by
  refine ⟨World.ownsRow_lit u _ 1 hB (by unfold maxLen; omega) rfl, fun y hy => ?_⟩
  rcases List.mem_singleton.1 hy with rfl
  refine WIs.mono n _ _ _ ?_ hx
  refine mask_mono (kb_new u _).size fun k hk h1 _ => ⟨⟨h1, fun e => ?_⟩, (kb_new u _).block k hk⟩
  have e : some u.heap.size = some k := e
  injection e with e
  omega
def NeedG (w0 w : World) (gG : Nat) (z : Value) (i n most : Nat) (e : Ending) (w' : World) : Prop := (∃ (l : List NeedP) (A : Option Addr) (c : Nat), e = .returned (.slice A l.length c) ∧ NeedsAt (mask w' w.heap.size none) A l ∧ l.length ≤ most ∧ ∀ x ∈ l, ∀ y ∈ x.l, inU n y) ∧ ∃ j, j ≤ i + 40 ∧ RR w0 w gG z j w'
set_option maxRecDepth 100000 in
set_option maxHeartbeats 4000000 in
theorem gneeds_any {w0 : World} {gG : Nat} {z : Value} (E : GEnv w0 gG z) (i : Nat) (w : World) (hR : RR w0 w gG z i w) (hi : i ≤ 70000) (U : Option Addr) (uc : Nat) (us : List UnitP) (hU : UHd (maskB w (noB gG)) U us) (h2 : 2 ≤ us.length) (hln : us.length ≤ 1000) (most : Nat) (hm : most ≤ 3) : Calls Tryz.prog 31 #[.pointer (some ⟨gG, 0, none⟩), .slice U us.length uc, .int .i64 (most : Int)] w (NeedG w0 w gG z i us.length most) := by
  have EE := hid E
  have hgw : gG < w.heap.size := hR.ctr.box.1
  have hw0 : w0.heap.size ≤ w.heap.size := hR.kb.size
  have HR0 := hid hR
  have HW := hid (fun (i : Nat) (wr : World) (h : RR w0 w gG z i wr) (hi : i ≤ 80000) => gwant_any E i wr h.self hi U uc us (hU.mono (noB_keep h.keep)) h2 hln)
  clear E hU hR
  generalize us.length = n at *
  go_enter Tryz.func31, Tryz.ntmps31
  go_wp2_with fail
  refine (gnx_any EE.out w i ((most : Int) + 1) w HR0.out (by omega) (by omega) (by omega)).mono ?_
  rintro _ u1 ⟨⟨q, hq, rfl⟩, hR1, -⟩
  have HR1 := hid hR1
  clear hR1 HR0
  go_upto_block 0 with fail
  go_wp2_with fail
  go_loopw [7, 8] (fun ov kv wr => ∃ (k j : Nat) (v : Value) (ps : List NeedP), ov = v ∧ kv = .int .i64 (k : Int) ∧ k ≤ 3 ∧ Hid (ps.length + k ≤ most) ∧ Hid (j ≤ i + 1 + 8 * ps.length) ∧ Hid (Deep 77 1 ndC (NIs n) wr w.heap.size v ps) ∧ Hid (RR w0 w gG z j wr)) (fun _ kv _ => (intOf kv).toNat)
  case atStart => exact ⟨q, i + 1, _, [], rfl, rfl, by omega, hid (by simp; omega), hid (by simp), hid Deep.nil, HR1⟩
  case round =>
    clear HR1
    rename World => wr
    obtain ⟨k, j, v, ps, hv, rfl, hk, HP, HJ, HD, HR⟩ := hrel
    have hv := hv.symm
    subst hv
    by_cases hlt : 0 < k
    · have k1 : (0 : Int) < (k : Int) := by omega
      have hwr : w.heap.size ≤ wr.heap.size := HR.out.keep.1
      have hpl : ps.length ≤ 3 := by have := HP.out; omega
      have HX := hid (HW.out j wr HR.out (by have := HJ.out; omega))
      go_wp2_with fail
      refine HX.out.mono ?_
      rintro _ u2 ⟨⟨x, rfl, hxu, hx⟩, hR2⟩
      have HR2 := hid hR2
      have HX2 := hid (deep_lit (n := n) (B := wr.heap.size) ⟨hx, hxu⟩ hR2.keep.1)
      clear hx hxu hR2 HX
      go_upto_region 6 with fail
      refine wp_name ?_
      intro u3 hu3
      have HL3 := hid (show Deep 89 3 wtC (WIs n) u3 wr.heap.size (.slice (some ⟨u2.heap.size, 0, none⟩) 1 1) [x] from by rw [hu3]; exact HX2.out)
      have HR3 := hid (show RR w0 wr gG z (j + 3) u3 from by rw [hu3]; exact HR2.out.more (kb_new _ _))
      clear hu3 HX2 HR2
      go_wp2_with fail
      refine (gnx_any EE.out wr (j + 3) 3 u3 HR3.out (by have := HJ.out; omega) (by omega) (by omega)).mono ?_
      rintro _ u4 ⟨⟨q4, hq4, rfl⟩, hR4, hK4⟩
      have HR4 := hid hR4
      have HL4 := hid (HL3.out.keep (WIs.mono n) hK4 (show gG < wr.heap.size by omega))
      clear hR4 hK4 HR3 HL3
      go_upto_if 24 with fail
      go_cut [9] from 25 to 31 (fun rv wx => ∃ (jj : Nat) (xs : List WantP), Hid (jj ≤ j + 7) ∧ Hid (xs.length ≤ 2) ∧ Hid (Deep 89 3 wtC (WIs n) wx wr.heap.size rv xs) ∧ Hid (RR w0 wr gG z jj wx))
      case first =>
        by_cases hz : q4 = 0
        · subst hz
          go_wp2_with fail
          refine (HW.out (j + 4) u4 (HR.out.from HR4.out) (by have := HJ.out; omega)).mono ?_
          rintro _ u5 ⟨⟨y, rfl, hyu, hy⟩, hR5⟩
          have HR5 := hid (HR4.out.from hR5)
          have HL5 := hid (HL4.out.keep (WIs.mono n) hR5.keep (show gG < wr.heap.size by omega))
          have hs5 : wr.heap.size ≤ u5.heap.size := HR5.out.keep.1
          have hlv : u2.heap.size < u4.heap.size := HL4.out.lt _ rfl
          have HY := hid (show WIs n (mask u5 wr.heap.size (some u2.heap.size)) y from WIs.mono n _ _ _ (mask_less HR4.out.keep.1 (fun k e => by injection e with e; omega)) ⟨hy, hyu⟩)
          clear hy hyu hR5 HL4 HR4
          go_wp2_with (at_builtin; refine wpList_app1y EKwants rfl (.tmp 25) (.tmp 29) rfl (wtC y) HL5.out.1 rfl rfl rfl (by simp [Value.oneCell']) (by unfold maxLen; simp) (by simp) hs5 ?_; intro v9 w9 h2 h3 h4 h5)
          have HL9 := hid (Deep.snoc (WIs.mono n) HL5.out HY.out h2 h4 h5)
          have HR9 := hid (HR5.out.grown h4 (fun k e => (World.ownsRow.lt HL5.out.1 k e).1) (Nat.le_trans hw0 hwr) (show gG < wr.heap.size by omega))
          go_meet
          case rel => exact ⟨j + 7, [x] ++ [y], hid (Nat.le_refl _), hid (by simp), HL9, HR9⟩
        · have hz1 : ((q4 : Int) == 0) = false := by rw [beq_eq_false_iff_ne]; omega
          go_wp2_with fail
          go_meet
          case rel => exact ⟨j + 4, [x], hid (by omega), hid (by simp), HL4, HR4⟩
      case rest =>
        obtain ⟨jj, xs, HJJ, HXL, HLX, HRX⟩ := hcut
        clear HL4 HR4
        obtain ⟨Ar, cr, hvr, hcr, hlr, hsr⟩ := Deep.fresh (f := wtC) (n := 3) (fun _ => rfl) (WIs.mono n) HLX.out
        have hvr := hvr.symm
        subst hvr
        have HDc := hid (HD.out.keep (NIs.mono n) HRX.out.keep hgw)
        have HND := hid (show NIs n (mask wc w.heap.size _) ⟨xs, Ar, cr⟩ from NIs.mono n _ _ _ (mask_less hwr (Deep.lt HD.out)) ⟨⟨hlr, fun y hy => (hsr y hy).1, by show xs.length ≤ 1000000; have := HXL.out; omega⟩, fun y hy => (hsr y hy).2⟩)
        have hsc : w.heap.size ≤ wc.heap.size := Nat.le_trans hwr HRX.out.keep.1
        clear hcr hlr hsr HLX HD
        go_wp2_with (at_builtin; refine wpList_app1y EKneedsG rfl (.tmp 31) (.tmp 33) rfl (ndC ⟨xs, Ar, cr⟩) HDc.out.1 rfl rfl rfl (by simp [Value.oneCell']) (by unfold maxLen; omega) (by omega) hsc ?_; intro v9 w9 h2 h3 h4 h5)
        have HD9 := hid (Deep.snoc (NIs.mono n) HDc.out HND.out h2 h4 h5)
        refine ⟨⟨k - 1, jj, v9, ps ++ [⟨xs, Ar, cr⟩], rfl, by go_num, by omega, hid (by have := HP.out; simp; omega), hid (by have := HJJ.out; have := HJ.out; simp; omega), HD9, hid ((HR.out.from HRX.out).grown h4 (fun k e => (World.ownsRow.lt HDc.out.1 k e).1) hw0 hgw)⟩, ?_⟩
        simp [intOf] <;> omega
    · obtain rfl : k = 0 := by omega
      obtain ⟨A, c, hv, hc, hl, hs⟩ := Deep.fresh (f := ndC) (n := 1) (fun _ => rfl) (NIs.mono n) HD.out
      subst hv
      go_wp2_with fail
      go_ret
      exact ⟨⟨ps, A, c, rfl, ⟨hl, fun x hx => (hs x hx).1, by have := HP.out; omega⟩, by have := HP.out; omega, fun x hx => (hs x hx).2⟩, j, by have := HJ.out; have := HP.out; omega, HR.out⟩
end Go.Proofs.YtlmkglgjdmjnkaaGreatDoor
