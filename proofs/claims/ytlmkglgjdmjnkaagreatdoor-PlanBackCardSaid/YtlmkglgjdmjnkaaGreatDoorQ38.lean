/- Parts 38 of the proofs. -/
import Derived.Test.YtlmkglgjdmjnkaaGreatDoorQ37
import Derived.Test.YtlmkglgjdmjnkaaGreatDoorQ34
import Derived.Test.YtlmkglgjdmjnkaaGreatDoorQ16
import Derived.Test.YtlmkglgjdmjnkaaGreatDoorQ27
namespace Go.Proofs.YtlmkglgjdmjnkaaGreatDoor
open Go.RowKit Go.Lib
open Rw
set_option linter.unusedVariables false
set_option linter.unusedSimpArgs false
theorem EKw24 : EK Tryz.prog 137 166 2 16 := .mk' (.agg #[.int .i64 0, .int .i64 0]) Tryz.underlying137 (by kernel_rfl) rfl (by omega)
theorem EKr1 : EK Tryz.prog 136 137 1 24 := .mk' (.slice none 0 0) Tryz.underlying136 (by kernel_rfl) rfl (by omega)
theorem EKr2 : EK Tryz.prog 94 136 1 24 := .mk' (.slice none 0 0) Tryz.underlying94 (by kernel_rfl) rfl (by omega)
theorem EKr3 : EK Tryz.prog 93 94 1 24 := .mk' (.slice none 0 0) Tryz.underlying93 (by kernel_rfl) rfl (by omega)
def WantsK24 (n : Nat) (w : World) (e : Ending) (w' : World) : Prop := (∃ x : RowP (Int × Int), e = .returned (.slice x.A x.l.length x.c) ∧ WR n (mask w' w.heap.size none) x) ∧ KB w.heap.size w w'
theorem want_val {w : World} {A : Option Addr} {l : List WantP} {k : Nat} (h : WantsAt w A l) (hk : k < l.length) : ∃ b off, A = some ⟨b, off, none⟩ ∧ b < w.heap.size ∧ ∀ (u : World), KB w.heap.size w u → ∀ (j : Nat) (v : Value), (wtC l[k])[j]? = some v → u.cell? ⟨b, off + k * 3 + j, none⟩ = some v := by
  obtain ⟨b, off, hA, hl, h2⟩ := h.row.at_ hk
  exact ⟨b, off, hA, hl, fun u hu j v hv => cell_kb hl hu (h2 j v hv)⟩
set_option maxRecDepth 100000 in
set_option maxHeartbeats 4000000 in
theorem rwants24_any (U : Option Addr) (uc : Nat) (us : List UnitP) (A : Option Addr) (c : Nat) (l : List WantP) (w : World) (hU : UnitsAt w U us) (hW : WantsAt w A l) (hr : ∀ x ∈ l, inU us.length x) : Calls Tryz.prog 69 #[.agg #[.slice U us.length uc], .slice A l.length c] w (WantsK24 us.length w) := by
  have HB0 := hid (kb_new w (.cells [.slice U us.length uc].toArray 42))
  have HX := hid (Box.new w [.slice U us.length uc] 42)
  have hln := hW.len
  have HMT := hid (fun (k : Nat) (hk : k < l.length) (u : World) (hu : KB w.heap.size w u) => rmet21_any U uc us l[k] u (hU.kb hu) ((hW.sub _ (List.getElem_mem hk)).kb hu) (hr _ (List.getElem_mem hk)).1 (hr _ (List.getElem_mem hk)).2)
  have HWA := hid hW
  have HRR := hid hr
  clear hU hW hr
  obtain ⟨m, hm⟩ : ∃ m, l.length = m := ⟨_, rfl⟩
  have HM := hid hm
  rw [hm] at hln ⊢
  clear hm
  generalize us.length = n at *
  go_enter Tryz.func69, Tryz.ntmps69
  go_upto_block 0 with fail
  refine wp_name ?_
  intro u1 hu1
  rw [← hu1] at HX HB0
  clear hu1
  go_wp2_with fail
  go_loopw [5, 6] (fun ov iv wr => ∃ (k : Nat) (v : Value) (ps : List (Int × Int)), ov = v ∧ iv = .int .i64 (k : Int) ∧ k ≤ m ∧ Hid (ps.length = k) ∧ Hid (∀ y ∈ ps, 0 ≤ y.1 ∧ y.1 < (n : Int)) ∧ Hid (OwnL 166 2 wC wr u1.heap.size v ps) ∧ Hid (KB u1.heap.size u1 wr)) (fun _ iv _ => m - (intOf iv).toNat)
  case atStart => exact ⟨0, _, [], rfl, rfl, Nat.zero_le _, hid rfl, hid (fun _ h => by cases h), hid OwnL.nil, hid (kb_refl _)⟩
  case round =>
    rename World => wr
    obtain ⟨k, v, ps, hv, rfl, hk, HPL, HPB, HO, HK⟩ := hrel
    have hv := hv.symm
    subst hv
    have k0 : (0 : Int) ≤ (k : Int) := by omega
    have hsz : u1.heap.size ≤ wr.heap.size := HK.out.size
    by_cases hlt : k < m
    · have k1 : (k : Int) < (m : Int) := by omega
      have hl : k < l.length := by rw [HM.out]; exact hlt
      obtain ⟨b, off, hA, hbl, hcc⟩ := want_val HWA.out hl
      subst hA
      have hun := HRR.out _ (List.getElem_mem hl)
      have HMM := hid (HMT.out k hl)
      have HCC := hid hcc
      clear hcc
      generalize l[k] = x at *
      obtain ⟨xu, xf, xp, xA, xc, xB, xd⟩ := x
      dsimp only at HMM
      have hun : 0 ≤ xu ∧ xu < (n : Int) := hun
      go_upto_region 5 with fail
      have hb0 : KB wr.heap.size wr wr.drew := kb_drewJ (kb_refl _)
      have hS : KB u1.heap.size u1 wr.drew := kb_tr HK.out hb0
      refine wp_planS (fun u => KB u1.heap.size u1 u) (.call [0, 1, 2, 3, 4, 5, 6, 7, 8, 9, 10] 11 (.call [12] 13 (.call [] 14 (.last [15])))) (by first | assumption | skip) (by kernel_rfl) (by intro _ _ d _ _ h; cases d <;> exact h) (by kernel_rfl) ?_
      have iS : Nonempty (SW fun u => KB u1.heap.size u1 u) := ⟨⟨_, hS⟩⟩
      have x0 := fun (z : SW fun u => KB u1.heap.size u1 u) => (HX.out.kb z.ok).2 0 _ rfl
      have xl := fun (z : SW fun u => KB u1.heap.size u1 u) => (HX.out.kb z.ok).1
      have t0 := fun (z : SW fun u => KB u1.heap.size u1 u) => show z.v.cell? ⟨b, off + k * 3, none⟩ = _ from HCC.out _ (kb_tr HB0.out z.ok) 0 _ rfl
      have t1 := fun (z : SW fun u => KB u1.heap.size u1 u) => HCC.out _ (kb_tr HB0.out z.ok) 1 _ rfl
      have t2 := fun (z : SW fun u => KB u1.heap.size u1 u) => HCC.out _ (kb_tr HB0.out z.ok) 2 _ rfl
      have tl := fun (z : SW fun u => KB u1.heap.size u1 u) => Nat.lt_of_lt_of_le hbl (kb_tr HB0.out z.ok).size
      with_reducible refine plan_call ?_
      simp only [pickOps, List.map_cons, List.map_nil, List.getElem?_toArray, List.getElem?_cons_zero, List.getElem?_cons_succ, Option.getD_some]
      repeat go_big_quiet_step (fail)
      refine wpQuiet_nil ?_
      go_wp2_with fail
      refine (HMM.out _ (kb_tr HB0.out hS)).mono ?_
      rintro _ u2 ⟨⟨mv, rfl⟩, hb⟩
      have hb2 : KB wr.heap.size wr u2 := kb_tr hb0 hb
      go_wp2_with fail
      refine plan_onS (kb_tr HK.out hb2) ?_
      with_reducible refine plan_call ?_
      simp only [pickOps, List.map_cons, List.map_nil, List.getElem?_toArray, List.getElem?_cons_zero, List.getElem?_cons_succ, Option.getD_some]
      repeat go_big_quiet_step (fail)
      refine wpQuiet_nil ?_
      go_wp2_with fail
      refine plan_onS (kb_tr (kb_tr HK.out hb2) (kb_new _ _)) ?_
      have hown := HO.out.kb hb2
      have hpl := HPL.out
      have hs2 : u1.heap.size ≤ u2.heap.size := Nat.le_trans hsz hb2.size
      with_reducible refine plan_call ?_
      simp only [pickOps, List.map_cons, List.map_nil, List.getElem?_toArray, List.getElem?_cons_zero, List.getElem?_cons_succ, Option.getD_some]
      repeat go_big_quiet_step (fail)
      refine wpQuiet_nil ?_
      go_wp2_with (at_builtin; refine wpList_app1y EKw24 rfl (.tmp 13) (.tmp 26) rfl (wC (xu, mv)) hown rfl rfl rfl (by simp [Value.oneCell']) (by unfold maxLen; omega) (by omega) hs2 ?_; intro v9 w9 h2 h3 h4 h5)
      have hk9 : KB u1.heap.size u1 w9 := kb_row (kb_tr HK.out hb2) hown hs2 h4
      refine plan_onS hk9 ?_
      with_reducible refine plan_last ?_
      simp only [pickOps, List.map_cons, List.map_nil, List.getElem?_toArray, List.getElem?_cons_zero, List.getElem?_cons_succ, Option.getD_some]
      repeat go_big_quiet_step (fail)
      refine wpQuiet_nil ?_
      have HO9 := hid (show OwnL 166 2 wC w9 u1.heap.size v9 (ps ++ [(xu, mv)]) from OwnL.snoc h2)
      have HK9 := hid hk9
      clear hk9 h2 h3 h4 h5 hown hb hb2 hb0 hS x0 xl t0 t1 t2 tl iS HCC HMM
      go_wp2_with fail
      refine (show _ ∧ _ from ⟨?_, ?_⟩)
      · exact ⟨k + 1, v9, ps ++ [(xu, mv)], rfl, by go_num, by omega, hid (by rw [List.length_append, hpl]; rfl), hid (fun y hy => by
          rcases List.mem_append.1 hy with hy | hy
          · exact HPB.out y hy
          · rcases List.mem_singleton.1 hy with rfl
            exact hun), HO9, HK9⟩
      · simp [intOf] <;> omega
    · obtain rfl : k = m := by omega
      have k1 : ¬ (k : Int) < (k : Int) := by omega
      obtain ⟨A', c', hv, hlz, hlb, -⟩ := OwnL.lies (f := wC) (n := 2) (fun _ => rfl) HO.out
      subst hv
      go_wp2_with fail
      try rw [Exit.noGoto_ret]
      try go_ret
      refine ⟨⟨⟨ps, A', c'⟩, rfl, ?_, HPB.out, by show ps.length ≤ 1000000; rw [HPL.out]; exact hln⟩, kb_tr HB0.out HK.out⟩
      rcases hlz with hlz | ⟨b, off, rfl, h2, h3⟩
      · exact .inl hlz
      · exact .inr ⟨b, off, rfl, by rw [mask_size]; exact h2, fun i hi j u hj => mask_cell.2 ⟨⟨Nat.le_trans HB0.out.size (hlb _ rfl).1, fun e => by cases e⟩, h3 i hi j u hj⟩⟩
end Go.Proofs.YtlmkglgjdmjnkaaGreatDoor
namespace Go.Proofs.YtlmkglgjdmjnkaaGreatDoor
open Go.RowKit Go.Lib
open Rw
set_option linter.unusedVariables false
set_option linter.unusedSimpArgs false
section
variable {P : Program} {w : World} {base size n bytes : Nat} {t e : TypeId} {v : Value} {xs : List Value}
theorem step_appz (E : EK P t e size bytes) {ops : Array Oper} {o : Oper} {a : Act} {K : Act → World → Prop} {Q : Exit → Act → World → Prop} {F : Prop} (hgd : o.guard = none) (s x : Operand)
    (ho : o.op = .call { callee := .builtin .append, args := #[s, x], argTypes := #[t, t] }) (news : List Value)
    (hown : w.ownsRow base e size v n xs) (hs : a.eval s = v) {ad : Addr} {c : Nat} (hx : a.eval x = .slice (some ad) 1 c) (hl : news.length = size) (hsrc : ∀ j u, news[j]? = some u → w.cell? (ad.add j) = some u) (h1 : ∀ u ∈ news, u.oneCell' = true)
    (hm : n + 1 ≤ maxLen) (hn : (n + 1) * bytes ≤ 140737488355328) (hbase : base ≤ w.heap.size)
    (h : ∀ v' w', w'.ownsRow base e size v' (n + 1) (xs ++ news) → w.grownBy w' v.ownBlock → (∀ k, v'.ownBlock = some k → v.ownBlock = some k ∨ w.heap.size ≤ k) → K (a.put o.dst v') w') :
    if Region.wanted o (yielded ops a.tmps) = true then Oper.wp P o a w K Q else F := by
  rw [if_pos (by simp [Region.wanted, hgd])]
  obtain ⟨v', w', hrun, h2, _, h4, h5⟩ := run_appy (P := P) (w := w) E o.type hown (ad := ad) (m := 1) (c := c) (news := news) (by omega) hsrc h1 (by omega) hm hn hbase
  unfold Oper.wp execOp
  simp only [ho, resolve, invoke, builtin, Sem.run_bind, Sem.run_pure, Result.andThen_ok, List.map_toArray, List.map_cons, List.map_nil, hs, hx, hrun]
  exact h v' w' h2 h4 fun k hk => (h5 k hk).imp id fun h => by rw [h]; exact Nat.le_refl _
end
theorem one_src {x : World} {g : Nat} {c : Value} (h : x.cell? ⟨g, 0, none⟩ = some c) : ∀ (j : Nat) (u : Value), [c][j]? = some u → x.cell? ((⟨g, 0, none⟩ : Addr).add j) = some u := by
  intro j u hj
  rcases j with _ | j
  · injection hj with hj
    rw [addr_add0, ← hj]
    exact h
  · simp at hj
abbrev TNm : TypeId := 94
abbrev TBm : TypeId := 136
structure MW (w : World) (m B Bz gW g2 g3 k : Nat) (cW : List Value) (vF vN vB : Value) (ns : List (RowP (RowP (RowP (Int × Int))))) (XN : RowP (RowP (RowP (Int × Int)))) (bs : List (RowP (RowP (Int × Int)))) (XB : RowP (RowP (Int × Int))) (a b c e f h : Bool) (tF tN tB : Value) (x : World) : Prop where
  kb : KB w.heap.size w x
  bx : Box x gW cW
  o2 : Own w.heap.size x g2 [.slice none 0 0, .slice none 0 0, .slice none 0 0]
  o3 : Own w.heap.size x g3 [bif e then tF else vF, bif f then tN else vN, bif h then tB else vB]
  rF : ∃ fs : List Int, OwnL 3 1 inC x B (bif a then tF else vF) fs ∧ fs.length = bif a then k + 1 else k
  l2 : L2 TNm TBm (CR m) (NR m) B x (bif b then tN else vN) (bif c then tB else vB) (bif a then tF else vF).ownBlock (bif b then ns ++ [XN] else ns) (ns ++ [XN]) (bif c then bs ++ [XB] else bs) (bs ++ [XB])
  sz : Bz ≤ x.heap.size
section
variable {w : World} {m B Bz gW g2 g3 k : Nat} {cW : List Value} {vF vN vB : Value} {ns : List (RowP (RowP (RowP (Int × Int))))} {XN : RowP (RowP (RowP (Int × Int)))} {bs : List (RowP (RowP (Int × Int)))} {XB : RowP (RowP (Int × Int))} {a b c e f h : Bool} {tF tN tB v' : Value} {x x' : World}
theorem MW.up (H : MW w m B Bz gW g2 g3 k cW vF vN vB ns XN bs XB a b c e f h tF tN tB x) (hb : KB x.heap.size x x') : MW w m B Bz gW g2 g3 k cW vF vN vB ns XN bs XB a b c e f h tF tN tB x' := by
  obtain ⟨fs, h1, h2⟩ := H.rF
  exact ⟨kb_tr H.kb hb, H.bx.kb hb, H.o2.kb hb, H.o3.kb hb, ⟨fs, h1.kb hb, h2⟩, H.l2.kb (CR.mono m) (NR.mono m) hb, Nat.le_trans H.sz hb.size⟩
theorem MW.grow {o : Option Nat} (H : MW w m B Bz gW g2 g3 k cW vF vN vB ns XN bs XB a b c e f h tF tN tB x) (hw : w.heap.size ≤ B) (h1 : gW < B) (h2 : g2 < B) (h3 : g3 < B) (hg : x.grownBy x' o) (ho : ∀ q, o = some q → B ≤ q) : KB w.heap.size w x' ∧ Box x' gW cW ∧ Own w.heap.size x' g2 [.slice none 0 0, .slice none 0 0, .slice none 0 0] ∧ Own w.heap.size x' g3 [bif e then tF else vF, bif f then tN else vN, bif h then tB else vB] ∧ Bz ≤ x'.heap.size :=
  ⟨H.kb.grown hg H.kb.size (fun q e => Nat.le_trans hw (ho q e)), H.bx.grown hg (fun e => by have := ho _ e.symm; omega), H.o2.grown hg (fun e => by have := ho _ e.symm; omega), H.o3.grown hg (fun e => by have := ho _ e.symm; omega), Nat.le_trans H.sz hg.size⟩
theorem MW.stF {fs : List Int} {z : Int} (H : MW w m B Bz gW g2 g3 k cW vF vN vB ns XN bs XB false b c false f h tF tN tB x) (hw : w.heap.size ≤ B) (h1 : gW < B) (h2 : g2 < B) (h3 : g3 < B) (hf : OwnL 3 1 inC x B vF fs) (hl : fs.length = k) (hr : x'.ownsRow B 3 1 v' (fs.length + 1) (fs.flatMap inC ++ inC z)) (hg : x.grownBy x' vF.ownBlock) (hv : ∀ k, v'.ownBlock = some k → vF.ownBlock = some k ∨ x.heap.size ≤ k) : MW w m B Bz gW g2 g3 k cW vF vN vB ns XN bs XB true b c false f h v' tN tB x' := by
  obtain ⟨e1, e2, e3, e4, e5⟩ := H.grow hw h1 h2 h3 hg (fun q e => (World.ownsRow.lt hf q e).1)
  exact ⟨e1, e2, e3, e4, ⟨fs ++ [z], OwnL.snoc hr, by rw [List.length_append, hl]; rfl⟩, H.l2.app3 (CR.mono m) (NR.mono m) hg hv (fun q e => (World.ownsRow.lt hr q e).2), e5⟩
theorem MW.stN (H : MW w m B Bz gW g2 g3 k cW vF vN vB ns XN bs XB a false c e false h tF tN tB x) (hw : w.heap.size ≤ B) (h1 : gW < B) (h2 : g2 < B) (h3 : g3 < B) (hr : x'.ownsRow B TNm 1 v' (ns.length + 1) (ns.flatMap hdC ++ hdC XN)) (hg : x.grownBy x' vN.ownBlock) (hv : ∀ k, v'.ownBlock = some k → vN.ownBlock = some k ∨ x.heap.size ≤ k) : MW w m B Bz gW g2 g3 k cW vF vN vB ns XN bs XB a true c e false h tF v' tB x' := by
  obtain ⟨e1, e2, e3, e4, e5⟩ := H.grow hw h1 h2 h3 hg (fun q e => (World.ownsRow.lt H.l2.r1 q e).1)
  obtain ⟨fs, h5, h6⟩ := H.rF
  exact ⟨e1, e2, e3, e4, ⟨fs, own_keep h5 fun q hq => hg.block q (World.ownsRow.lt h5 q hq).2 (fun e => (H.l2.a3 q hq).1 e.symm), h6⟩, H.l2.app1 (CR.mono m) (NR.mono m) hr hg hv, e5⟩
theorem MW.stB (H : MW w m B Bz gW g2 g3 k cW vF vN vB ns XN bs XB a b false e f false tF tN tB x) (hw : w.heap.size ≤ B) (h1 : gW < B) (h2 : g2 < B) (h3 : g3 < B) (hr : x'.ownsRow B TBm 1 v' (bs.length + 1) (bs.flatMap hdC ++ hdC XB)) (hg : x.grownBy x' vB.ownBlock) (hv : ∀ k, v'.ownBlock = some k → vB.ownBlock = some k ∨ x.heap.size ≤ k) : MW w m B Bz gW g2 g3 k cW vF vN vB ns XN bs XB a b true e f false tF tN v' x' := by
  obtain ⟨e1, e2, e3, e4, e5⟩ := H.grow hw h1 h2 h3 hg (fun q e => (World.ownsRow.lt H.l2.r2 q e).1)
  obtain ⟨fs, h5, h6⟩ := H.rF
  exact ⟨e1, e2, e3, e4, ⟨fs, own_keep h5 fun q hq => hg.block q (World.ownsRow.lt h5 q hq).2 (fun e => (H.l2.a3 q hq).2.1 e.symm), h6⟩, H.l2.app2 (CR.mono m) (NR.mono m) hr hg hv, e5⟩
theorem MW.put {j : Nat} {u : Value} (H : MW w m B Bz gW g2 g3 k cW vF vN vB ns XN bs XB a b c e f h tF tN tB x) (h1 : gW ≠ g3) (h2 : g2 ≠ g3) (h3 : g3 < B) (hw : w.heap.size ≤ g3) : KB w.heap.size w (x.setCell ⟨g3, j, none⟩ u) ∧ Box (x.setCell ⟨g3, j, none⟩ u) gW cW ∧ Own w.heap.size (x.setCell ⟨g3, j, none⟩ u) g2 [.slice none 0 0, .slice none 0 0, .slice none 0 0] ∧ (∃ fs : List Int, OwnL 3 1 inC (x.setCell ⟨g3, j, none⟩ u) B (bif a then tF else vF) fs ∧ fs.length = bif a then k + 1 else k) ∧ L2 TNm TBm (CR m) (NR m) B (x.setCell ⟨g3, j, none⟩ u) (bif b then tN else vN) (bif c then tB else vB) (bif a then tF else vF).ownBlock (bif b then ns ++ [XN] else ns) (ns ++ [XN]) (bif c then bs ++ [XB] else bs) (bs ++ [XB]) ∧ Bz ≤ (x.setCell ⟨g3, j, none⟩ u).heap.size := by
  obtain ⟨fs, h5, h6⟩ := H.rF
  exact ⟨kb_putJ H.kb hw _, H.bx.putOther h1 _, H.o2.other h2 _, ⟨fs, own_keep h5 fun q hq => heap_put (fun e => by have := (World.ownsRow.lt h5 q hq).1; omega), h6⟩, H.l2.put (CR.mono m) (NR.mono m) h3 _, by rw [World.size_setCell]; exact H.sz⟩
theorem MW.s0 (H : MW w m B Bz gW g2 g3 k cW vF vN vB ns XN bs XB true b c false f h tF tN tB x) (h1 : gW ≠ g3) (h2 : g2 ≠ g3) (h3 : g3 < B) (hw : w.heap.size ≤ g3) : MW w m B Bz gW g2 g3 k cW vF vN vB ns XN bs XB true b c true f h tF tN tB (x.setCell ⟨g3, 0, none⟩ tF) := by
  obtain ⟨e1, e2, e3, e4, e5, e6⟩ := H.put (j := 0) (u := tF) h1 h2 h3 hw
  exact ⟨e1, e2, e3, H.o3.put (j := 0) (by simp) _, e4, e5, e6⟩
theorem MW.s1 (H : MW w m B Bz gW g2 g3 k cW vF vN vB ns XN bs XB a true c e false h tF tN tB x) (h1 : gW ≠ g3) (h2 : g2 ≠ g3) (h3 : g3 < B) (hw : w.heap.size ≤ g3) : MW w m B Bz gW g2 g3 k cW vF vN vB ns XN bs XB a true c e true h tF tN tB (x.setCell ⟨g3, 1, none⟩ tN) := by
  obtain ⟨e1, e2, e3, e4, e5, e6⟩ := H.put (j := 1) (u := tN) h1 h2 h3 hw
  exact ⟨e1, e2, e3, H.o3.put (j := 1) (by simp) _, e4, e5, e6⟩
theorem MW.s2 (H : MW w m B Bz gW g2 g3 k cW vF vN vB ns XN bs XB a b true e f false tF tN tB x) (h1 : gW ≠ g3) (h2 : g2 ≠ g3) (h3 : g3 < B) (hw : w.heap.size ≤ g3) : MW w m B Bz gW g2 g3 k cW vF vN vB ns XN bs XB a b true e f true tF tN tB (x.setCell ⟨g3, 2, none⟩ tB) := by
  obtain ⟨e1, e2, e3, e4, e5, e6⟩ := H.put (j := 2) (u := tB) h1 h2 h3 hw
  exact ⟨e1, e2, e3, H.o3.put (j := 2) (by simp) _, e4, e5, e6⟩
def W17 (w : World) (m B Bz gW g2 g3 k : Nat) (cW : List Value) (vF vN vB : Value) (ns : List (RowP (RowP (RowP (Int × Int))))) (XN : RowP (RowP (RowP (Int × Int)))) (bs : List (RowP (RowP (Int × Int)))) (XB : RowP (RowP (Int × Int))) (d : Nat → Bool) (x : World) (T : Nat → Value) : Prop :=
  MW w m B Bz gW g2 g3 k cW vF vN vB ns XN bs XB (d 6) (d 11) (d 16) (d 18) (d 20) (d 22) (T 6) (T 11) (T 16) x
theorem more_ne {d : Nat → Bool} {i j : Nat} (h : i ≠ j) : more d j i = d i := by unfold more; rw [if_neg h]
theorem more_eq {d : Nat → Bool} {j : Nat} : more d j j = true := by unfold more; rw [if_pos rfl]
theorem upd_ne {T : Nat → Value} {i j : Nat} {v : Value} (h : i ≠ j) : upd T j v i = T i := by unfold upd; rw [if_neg h]
theorem upd_eq {T : Nat → Value} {j : Nat} {v : Value} : upd T j v j = v := by unfold upd; rw [if_pos rfl]
theorem W17.q {d : Nat → Bool} {T : Nat → Value} {j : Nat} {v : Value} (H : W17 w m B Bz gW g2 g3 k cW vF vN vB ns XN bs XB d x T) (hj : (j != 6 && j != 11 && j != 16 && j != 18 && j != 20 && j != 22) = true) : W17 w m B Bz gW g2 g3 k cW vF vN vB ns XN bs XB (more d j) x (upd T j v) := by
  simp only [Bool.and_eq_true, bne_iff_ne] at hj
  unfold W17 at H ⊢
  rw [more_ne (Ne.symm hj.1.1.1.1.1), more_ne (Ne.symm hj.1.1.1.1.2), more_ne (Ne.symm hj.1.1.1.2), more_ne (Ne.symm hj.1.1.2), more_ne (Ne.symm hj.1.2), more_ne (Ne.symm hj.2), upd_ne (Ne.symm hj.1.1.1.1.1), upd_ne (Ne.symm hj.1.1.1.1.2), upd_ne (Ne.symm hj.1.1.1.2)]
  exact H
def F17 (g3 k Bz : Nat) (UV nv bv vF vN vB : Value) (j : Nat) (d : Nat → Bool) (x : World) (v : Value) : Prop := match j with
  | 0 => v = .pointer (some ⟨g3, 0, none⟩)
  | 1 => v = vF
  | 2 => v = UV
  | 3 => v = .int .i64 (k : Int)
  | 4 => ∃ z : Int, v = .int .i64 z
  | 5 => ∃ (g : Nat) (z : Int), v = .slice (some ⟨g, 0, none⟩) 1 1 ∧ Bz ≤ g ∧ g < x.heap.size ∧ x.cell? ⟨g, 0, none⟩ = some (.int .i64 z)
  | 7 => v = .pointer (some ⟨g3, 1, none⟩)
  | 8 => v = vN
  | 9 => v = nv
  | 10 => ∃ g : Nat, v = .slice (some ⟨g, 0, none⟩) 1 1 ∧ Bz ≤ g ∧ g < x.heap.size ∧ x.cell? ⟨g, 0, none⟩ = some nv
  | 12 => v = .pointer (some ⟨g3, 2, none⟩)
  | 13 => v = vB
  | 14 => v = bv
  | 15 => ∃ g : Nat, v = .slice (some ⟨g, 0, none⟩) 1 1 ∧ Bz ≤ g ∧ g < x.heap.size ∧ x.cell? ⟨g, 0, none⟩ = some bv
  | 17 => v = .pointer (some ⟨g3, 0, none⟩)
  | 19 => v = .pointer (some ⟨g3, 1, none⟩)
  | 21 => v = .pointer (some ⟨g3, 2, none⟩)
  | _ => True
theorem F17.mv {UV nv bv v : Value} {j : Nat} {d d' : Nat → Bool} (H : F17 g3 k Bz UV nv bv vF vN vB j d x v) (hs : x.heap.size ≤ x'.heap.size) (hk : ∀ g, Bz ≤ g → g < x.heap.size → x'.heap[g]? = x.heap[g]?) : F17 g3 k Bz UV nv bv vF vN vB j d' x' v := by
  unfold F17 at H ⊢
  split at H
  all_goals first
    | exact H
    | (obtain ⟨g, z, e1, e2, e3, e4⟩ := H; exact ⟨g, z, e1, e2, Nat.lt_of_lt_of_le e3 hs, (World.cell?_of_block (hk g e2 e3)).trans e4⟩)
    | (obtain ⟨g, e1, e2, e3, e4⟩ := H; exact ⟨g, e1, e2, Nat.lt_of_lt_of_le e3 hs, (World.cell?_of_block (hk g e2 e3)).trans e4⟩)
end
end Go.Proofs.YtlmkglgjdmjnkaaGreatDoor
