/- Parts 30 of the proofs. -/
import Derived.Test.YtlmkglgjdmjnkaaGreatDoorQ29
namespace Go.Proofs.YtlmkglgjdmjnkaaGreatDoor
open Go.RowKit Go.Lib
open Rw
set_option linter.unusedVariables false
set_option linter.unusedSimpArgs false
theorem rwhole_any (w : World) : Calls Tryz.prog 84 #[] w (WholePost w) := by
  go_enter Tryz.func84, Tryz.ntmps84
  go_wp2_with (first | (go_at_call 93; refine (first_any _).mono ?_; rintro _ w1 ⟨rfl, hb1⟩) | (go_at_call 95; refine (last_any _).mono ?_; rintro _ w2 ⟨rfl, hb2⟩))
  have hb := below_tr hb1 hb2
  go_ret
  exact ⟨_, _, rfl, ⟨Spans.one (Box.new w2 (SpanL.cells ⟨firstC, lastC⟩) 133), fun ad e => by injection e with e; rw [← e]; exact hb.size⟩, below_tr hb (below_new _ _)⟩
def AllPost (w : World) (e : Ending) (w' : World) : Prop := ∃ A c B d, e = .returned (setV A 1 c B 1 d) ∧ SpanB w' w.heap.size A wholeL ∧ SpanB w' w.heap.size B wholeL ∧ Below w.heap.size w w'
set_option maxHeartbeats 1000000 in
theorem rsall_any (w : World) : Calls Tryz.prog 50 #[] w (AllPost w) := by
  have HB0 := hid (below_new w (.cells [Value.slice none 0 0, .slice none 0 0].toArray 86))
  have HX := hid (Box.new w [Value.slice none 0 0, .slice none 0 0] 86)
  have HS := hid (Soft.new w [Value.slice none 0 0, .slice none 0 0].toArray 86)
  go_enter Tryz.func50, Tryz.ntmps50
  go_wp2_with fail
  refine (rwhole_any _).mono ?_
  rintro _ w1 ⟨A, c, rfl, h1, hb1⟩
  have HX1 := hid (HX.out.below hb1)
  have HS1 := hid (HS.out.below HX.out.1 hb1)
  have HB1 := hid (below_tr HB0.out hb1)
  have H1 := hid h1
  clear h1 hb1
  go_wp2_with fail
  refine (rwhole_any _).mono ?_
  rintro _ w2 ⟨B, d, rfl, h2, hb2⟩
  have HX2 := hid (HX1.out.below hb2)
  have hf : ∀ j, w2.frozen? ⟨w.heap.size, j, none⟩ = false := HS1.out.below HX1.out.1 hb2
  have HB2 := hid (below_tr HB1.out hb2)
  have HA := hid (H1.out.below hb2)
  have HBB := hid h2
  obtain ⟨y0, y1⟩ := HX2.out.get2
  have hlt := HX2.out.1
  clear h2 hb2
  have hg1 := HB0.out.size
  have hg2 := HX.out.1
  have hg3 := HX1.out.1
  go_wp2_with fail
  refine ret2 HX2.out (v := setV A 1 c B 1 d) (fun w3 h3 => ?_) rfl (fun h3 => ⟨A, c, B, d, rfl, (HA.out.set (by omega)).low (by omega), (HBB.out.set (by omega)).low (by omega), HB2.out.trans h3⟩)
  obtain ⟨k0, k1⟩ := h3.get2
  simp [results, Tryz.results50, go_sem, k0, k1]
theorem Spans.mono {w w' : World} {A : Option Addr} {l : List SpanL} (h : Spans w A l) (m : Mono w w') : Spans w' A l := by
  rcases h with h | ⟨b, off, rfl, hlt, hc⟩
  · exact .inl h
  · exact .inr ⟨b, off, rfl, Nat.lt_of_lt_of_le hlt m.1, fun i hi j u hj => m.2 _ _ (hc i hi j u hj)⟩
theorem WantIs.mono {w w' : World} {x : WantP} (h : WantIs w x) (m : Mono w w') : WantIs w' x := ⟨h.s1.mono m, h.s2.mono m, h.f1, h.f2, h.n1, h.n2⟩
theorem WantsAt.mono {w w' : World} {A : Option Addr} {l : List WantP} (h : WantsAt w A l) (m : Mono w w') : WantsAt w' A l := ⟨h.row.mono m, fun x hx => (h.sub x hx).mono m, h.len⟩
theorem NeedsAt.mono {w w' : World} {A : Option Addr} {l : List NeedP} (h : NeedsAt w A l) (m : Mono w w') : NeedsAt w' A l := ⟨h.row.mono m, fun x hx => (h.sub x hx).mono m, h.len⟩
theorem CandIs.mono {w w' : World} {x : CandP} (h : CandIs w x) (m : Mono w w') : CandIs w' x := ⟨h.v, h.needs.mono m, h.bars.mono m⟩
theorem CandsAt.mono {w w' : World} {A : Option Addr} {l : List CandP} (h : CandsAt w A l) (m : Mono w w') : CandsAt w' A l := ⟨h.row.mono m, fun x hx => (h.sub x hx).mono m, h.len⟩
theorem UnitIs.mono {w w' : World} {x : UnitP} (h : UnitIs w x) (m : Mono w w') : UnitIs w' x := ⟨h.cands.mono m, h.s1, h.s2⟩
theorem UnitsAt.mono {w w' : World} {A : Option Addr} {l : List UnitP} (h : UnitsAt w A l) (m : Mono w w') : UnitsAt w' A l := ⟨h.row.mono m, fun x hx => (h.sub x hx).mono m, h.len⟩
abbrev noB (g : Nat) : Nat → Bool := fun k => decide (k ≠ g)
theorem noB_kb {g : Nat} {w w' : World} (h : KB w.heap.size w w') : Mono (maskB w (noB g)) (maskB w' (noB g)) := maskB_mono h.size fun k hk hs => ⟨hs, h.block k hk⟩
theorem noB_put {g j : Nat} {w : World} {v : Value} : Mono (maskB w (noB g)) (maskB (w.setCell ⟨g, j, none⟩ v) (noB g)) := maskB_mono (by rw [World.size_setCell]; exact Nat.le_refl _) fun k hk hs => ⟨hs, heap_put (fun e => by rw [e] at hs; simp at hs)⟩
theorem noB_all {g : Nat} {w : World} : Mono (maskB w (noB g)) w := ⟨by rw [maskB_size]; exact Nat.le_refl _, fun p v e => (maskB_cell.1 e).2⟩
theorem lies_new {α : Type} {n : Nat} {f : α → List Value} (hf : ∀ a, (f a).length = n) (hn : 0 < n) {g : Nat} {w : World} {l : List α} {T : TypeId} (hg : g ≠ w.heap.size) : Lies n f (maskB (w.alloc (.cells (l.flatMap f).toArray T)) (noB g)) (some ⟨w.heap.size, 0, none⟩) l := by
  have hb := Box.new w (l.flatMap f) T
  refine .inr ⟨w.heap.size, 0, rfl, by rw [maskB_size]; exact hb.1, fun i hi j u hj => ?_⟩
  have hjn : j < n := by
    have := (List.getElem?_eq_some_iff.1 hj).1
    rwa [hf] at this
  refine maskB_cell.2 ⟨by simp [Ne.symm hg], ?_⟩
  rw [Nat.zero_add]
  exact hb.2 _ _ ((flat_get hf l i j hi hjn).trans hj)
def isW (u : Int) (x : WantP) : Prop := x.unit = u ∧ x.fin = wholeL ∧ x.pre = wholeL
def isN (u : Int) (x : NeedP) : Prop := ∃ y, x.l = [y] ∧ isW u y
def ant1 : Ver := ⟨1, 0, 0, ⟨#[]⟩, ⟨#[]⟩⟩
def noV : Ver := ⟨0, 0, 0, ⟨#[]⟩, ⟨#[]⟩⟩
def isC0 (x : CandP) : Prop := x.v = noV ∧ x.shelf = -1 ∧ x.bars = [] ∧ ∃ y, x.needs = [y] ∧ isN 2 y
def isC1 (x : CandP) : Prop := x.v = ant1 ∧ x.shelf = 0 ∧ x.bars = [] ∧ x.needs = []
def isC2 (x : CandP) : Prop := x.v = ant1 ∧ x.shelf = 0 ∧ x.bars = [] ∧ ∃ y, x.needs = [y] ∧ isN 1 y
def nmA : ByteArray := ⟨#[97, 110, 116]⟩
def nmB : ByteArray := ⟨#[98, 101, 101]⟩
def isU (n : ByteArray) (C : CandP → Prop) (x : UnitP) : Prop := x.name = n ∧ x.feature = ⟨#[]⟩ ∧ ∃ y, x.cands = [y] ∧ C y
def isSm (us : List UnitP) : Prop := ∃ a b c, us = [a, b, c] ∧ isU ⟨#[]⟩ isC0 a ∧ isU nmA isC1 b ∧ isU nmB isC2 c
def SmallK (w : World) (e : Ending) (w' : World) : Prop := ∃ U us, e = .returned (.agg #[.slice U 3 3]) ∧ UnitsAt w' U us ∧ isSm us ∧ KB w.heap.size w w'
section
variable (A B : Option Addr) (c d gv g0 : Nat)
def GZ (m : Nat) (y : World) (v : Value) : Prop := match m with
  | 0 => v = setV A 1 c B 1 d
  | 1 => v = .agg #[.int .i64 2, .slice A 1 c, .slice B 1 d]
  | 2 => ∃ P x, v = .slice P 1 1 ∧ WantsAt y P [x] ∧ isW 2 x
  | 3 => ∃ P x, v = .slice P 1 1 ∧ NeedsAt y P [x] ∧ isN 2 x
  | 4 => ∃ x : CandP, v = .agg (cdC x).toArray ∧ CandIs y x ∧ isC0 x
  | 5 => ∃ P x, v = .slice P 1 1 ∧ CandsAt y P [x] ∧ isC0 x
  | 6 => ∃ x : UnitP, v = .agg (utC x).toArray ∧ UnitIs y x ∧ isU ⟨#[]⟩ isC0 x
  | 7 => v = .slice (some ⟨gv, 0, none⟩) 4 4
  | 8 => v = .pointer (some ⟨gv, 0, none⟩)
  | 9 => v = ant1.val
  | 10 => ∃ x : CandP, v = .agg (cdC x).toArray ∧ CandIs y x ∧ isC1 x
  | 11 => ∃ P x, v = .slice P 1 1 ∧ CandsAt y P [x] ∧ isC1 x
  | 12 => ∃ x : UnitP, v = .agg (utC x).toArray ∧ UnitIs y x ∧ isU nmA isC1 x
  | 13 => v = .slice (some ⟨gv, 0, none⟩) 4 4
  | 14 => v = .pointer (some ⟨gv, 0, none⟩)
  | 15 => v = ant1.val
  | 16 => v = setV A 1 c B 1 d
  | 17 => v = .agg #[.int .i64 1, .slice A 1 c, .slice B 1 d]
  | 18 => ∃ P x, v = .slice P 1 1 ∧ WantsAt y P [x] ∧ isW 1 x
  | 19 => ∃ P x, v = .slice P 1 1 ∧ NeedsAt y P [x] ∧ isN 1 x
  | 20 => ∃ x : CandP, v = .agg (cdC x).toArray ∧ CandIs y x ∧ isC2 x
  | 21 => ∃ P x, v = .slice P 1 1 ∧ CandsAt y P [x] ∧ isC2 x
  | 22 => ∃ x : UnitP, v = .agg (utC x).toArray ∧ UnitIs y x ∧ isU nmB isC2 x
  | 23 => ∃ P us, v = .slice P 3 3 ∧ UnitsAt y P us ∧ isSm us
  | 24 => ∃ P us, v = .agg #[.slice P 3 3] ∧ UnitsAt y P us ∧ isSm us
  | _ => True
theorem GZ.mono {m : Nat} {y y' : World} {v : Value} (h : GZ A B c d gv m y v) (k : Mono y y') : GZ A B c d gv m y' v := by
  unfold GZ at h ⊢
  rcases m with _ | _ | _ | _ | _ | _ | _ | _ | _ | _ | _ | _ | _ | _ | _ | _ | _ | _ | _ | _ | _ | _ | _ | _ | _ | m <;> first
    | exact h
    | (obtain ⟨P, x, h1, h2, h3⟩ := h; exact ⟨P, x, h1, h2.mono k, h3⟩)
    | (obtain ⟨x, h1, h2, h3⟩ := h; exact ⟨x, h1, h2.mono k, h3⟩)
def FZ (m : Nat) (dn : Nat → Bool) (x : World) (v : Value) : Prop := dn 25 = false → GZ A B c d gv m (maskB x (noB g0)) v
def SmPost (w : World) (x : World) : Prop := ∃ U us, Box x g0 [.slice U 3 3] ∧ UnitsAt x U us ∧ isSm us ∧ KB w.heap.size w x
def WZ (w u : World) (dn : Nat → Bool) (x : World) (_ : Nat → Value) : Prop := (dn 25 = false → KB u.heap.size u x) ∧ (dn 25 = true → SmPost g0 w x)
variable {A B c d gv g0}
theorem more_z {dn : Nat → Bool} {j : Nat} (hj : 25 ≠ j) : more dn j 25 = dn 25 := by unfold more; rw [if_neg hj]
theorem WZ.kb {w u x x' : World} {dn : Nat → Bool} {T T' : Nat → Value} {j : Nat} (h : WZ g0 w u dn x T) (hj : 25 ≠ j) (h25 : dn 25 = false) (hb : KB x.heap.size x x') : WZ g0 w u (more dn j) x' T' := by
  refine ⟨fun _ => kb_tr (h.1 h25) hb, fun e => ?_⟩
  rw [more_z hj, h25] at e
  cases e
theorem FZ.kb {m j : Nat} {dn : Nat → Bool} {x x' : World} {v : Value} (h : FZ A B c d gv g0 m dn x v) (hj : 25 ≠ j) (hb : KB x.heap.size x x') : FZ A B c d gv g0 m (more dn j) x' v := fun e => (h (by rwa [more_z hj] at e)).mono A B c d gv (noB_kb hb)
theorem WZ.lt {w u x : World} {dn : Nat → Bool} {T : Nat → Value} (h : WZ g0 w u dn x T) (h25 : dn 25 = false) (hg : g0 < u.heap.size) : g0 ≠ x.heap.size := by
  have := (h.1 h25).size
  omega
end
end Go.Proofs.YtlmkglgjdmjnkaaGreatDoor
namespace Go.Proofs.YtlmkglgjdmjnkaaGreatDoor
open Go.RowKit Go.Lib
open Rw
set_option linter.unusedVariables false
set_option linter.unusedSimpArgs false
theorem span_noB {w : World} {base g : Nat} {A : Option Addr} {l : List SpanL} (h : Spans w A l) (hb : ∀ ad, A = some ad → base ≤ ad.block) (hg : g < base) : Spans (maskB w (noB g)) A l := by
  rcases h with h | ⟨b, off, rfl, hlt, hc⟩
  · exact .inl h
  · have h0 : base ≤ b := hb _ rfl
    refine .inr ⟨b, off, rfl, by rw [maskB_size]; exact hlt, fun i hi j u hj => maskB_cell.2 ⟨?_, hc i hi j u hj⟩⟩
    show decide (b ≠ g) = true
    rw [decide_eq_true_eq]
    omega
theorem noV_fit : noV.fit := by simp only [Ver.fit, noV]; decide
theorem ant_fit : ant1.fit := by simp only [Ver.fit, ant1]; decide
set_option maxRecDepth 100000 in
set_option maxHeartbeats 4000000 in
theorem lsmall_any (w : World) : Calls Tryz.prog 16 #[] w (SmallK w) := by
  go_enter Tryz.func16, Tryz.ntmps16
  go_wp2_with fail
  refine (gversions_any _).mono ?_
  rintro _ u1 ⟨rfl, hu1⟩
  have HV1 := hid (show Box u1 (w.heap.size + 1) (vrsL.flatMap Ver.cells) from by rw [hu1]; have h0 := Box.new (w.alloc (.cells #[.slice none 0 0] 42)) (vrsL.flatMap Ver.cells) 29; rwa [World.size_alloc] at h0)
  have HO1 := hid (show Own w.heap.size u1 w.heap.size [.slice none 0 0] from by rw [hu1]; exact (Own.new w [.slice none 0 0] 42 (Nat.le_refl _)).alloc _)
  have HK1 := hid (show KB w.heap.size w u1 from by rw [hu1]; exact kb_tr (kb_new _ _) (kb_new _ _))
  clear hu1
  go_wp2_with fail
  refine (rsall_any _).mono ?_
  rintro _ u2 ⟨A, c, B, d, rfl, hA, hB, hb⟩
  have HV2 := hid (HV1.out.kb hb.kb)
  have HO2 := hid (HO1.out.kb hb.kb)
  have HK2 := hid (kb_tr HK1.out hb.kb)
  have HSA := hid hA
  have HSB := hid hB
  clear hA hB hb
  go_upto_region 3 with fail
  refine wp_name ?_
  intro u3 hu3
  have HV3 := hid (show Box u3 (w.heap.size + 1) (vrsL.flatMap Ver.cells) from by rw [hu3]; exact HV2.out.kb (kb_new _ _))
  have HO3 := hid (show Own w.heap.size u3 w.heap.size [.slice none 0 0] from by rw [hu3]; exact HO2.out.kb (kb_new _ _))
  have HB3 := hid (show Box u3 u2.heap.size [.slice A 1 c, .slice B 1 d] from by rw [hu3]; exact Box.new u2 [.slice A 1 c, .slice B 1 d] 86)
  have HK3 := hid (show KB w.heap.size w u3 from by rw [hu3]; exact kb_tr HK2.out (kb_new _ _))
  have hz1 : w.heap.size < u1.heap.size := HO1.out.box.1
  have HWI := hid (fun (u : Int) => show WantIs (maskB u3 (noB w.heap.size)) ⟨u, wholeL, wholeL, A, c, B, d⟩ from by
    rw [hu3]
    exact ⟨span_noB (HSA.out.1.below (below_new _ _)) HSA.out.2 hz1, span_noB (HSB.out.1.below (below_new _ _)) HSB.out.2 hz1, whole_fit, whole_fit, by show 1 ≤ 1000000; decide, by show 1 ≤ 1000000; decide⟩)
  have HG0 := hid (show w.heap.size < u3.heap.size from HO3.out.box.1)
  clear hu3 hz1
  refine wp_region_T (fun T => { tmps := List.toArray ((.pointer (some ⟨w.heap.size, 0, none⟩)) :: (.slice (some ⟨w.heap.size + 1, 0, none⟩) 4 4) :: (.pointer (some ⟨u2.heap.size, 0, none⟩)) :: (.slice (some ⟨w.heap.size + 1, 0, none⟩) 4 4) :: (setV A 1 c B 1 d) :: T 0 :: T 1 :: T 2 :: T 3 :: T 4 :: T 5 :: T 6 :: T 7 :: T 8 :: T 9 :: T 10 :: T 11 :: T 12 :: T 13 :: T 14 :: T 15 :: T 16 :: T 17 :: T 18 :: T 19 :: T 20 :: T 21 :: T 22 :: T 23 :: T 24 :: []), defers := [] }) (FZ A B c d (w.heap.size + 1) w.heap.size) (WZ w.heap.size w u3) (fun _ => undef) 26 (by kernel_rfl) (by kernel_rfl) (by kernel_rfl) rfl ⟨fun _ => kb_drewJ (kb_refl _), fun e => by cases e⟩ ?_ ?_
  · intro j hj
    rcases j with _ | _ | _ | _ | _ | _ | _ | _ | _ | _ | _ | _ | _ | _ | _ | _ | _ | _ | _ | _ | _ | _ | _ | _ | _ | _ | j
    all_goals (intro dn T x o a ho hd hdep hsh hW hF ha)
    · have h25 : dn 25 = false := not_yet hsh (by as_aux_lemma => kernel_rfl) hd
      have hk := hW.1 h25
      have x0 := (HB3.out.kb hk).2 0 _ rfl
      have x1 := (HB3.out.kb hk).2 1 _ rfl
      have xl := (HB3.out.kb hk).1
      subst ha
      refine wpOp_step rfl ?_
      intro K' hK'
      go_wp2_with fail
      exact ⟨setV A 1 c B 1 d, by first | rfl | simp [upd, noV, ant1, nmA, nmB], hW.kb (by decide) h25 (kb_refl _), fun _ => rfl, fun m u _ h => h.kb (by decide) (kb_refl _)⟩
    · have h25 : dn 25 = false := not_yet hsh (by as_aux_lemma => kernel_rfl) hd
      have hk := hW.1 h25
      have e0 := hF 0 (dep_of (j := 0) ho (by as_aux_lemma => kernel_rfl) hdep) h25
      dsimp only [FZ, GZ] at e0
      dsimp only at ha
      rw [e0] at ha
      subst ha
      refine wpOp_step rfl ?_
      intro K' hK'
      go_wp2_with fail
      exact ⟨.agg #[.int .i64 2, .slice A 1 c, .slice B 1 d], by first | rfl | simp [upd, e0, noV, ant1, nmA, nmB], hW.kb (by decide) h25 (kb_refl _), fun _ => rfl, fun m u _ h => h.kb (by decide) (kb_refl _)⟩
    · have h25 : dn 25 = false := not_yet hsh (by as_aux_lemma => kernel_rfl) hd
      have hk := hW.1 h25
      have e1 := hF 1 (dep_of (j := 1) ho (by as_aux_lemma => kernel_rfl) hdep) h25
      dsimp only [FZ, GZ] at e1
      dsimp only at ha
      rw [e1] at ha
      subst ha
      refine wpOp_step rfl ?_
      intro K' hK'
      go_wp2_with fail
      exact ⟨.slice (some ⟨x.heap.size, 0, none⟩) 1 1, by first | rfl | simp [upd, e1, noV, ant1, nmA, nmB], hW.kb (by decide) h25 (kb_new _ _), fun _ => ⟨_, ⟨2, wholeL, wholeL, A, c, B, d⟩, rfl, ⟨lies_new (l := [⟨2, wholeL, wholeL, A, c, B, d⟩]) (f := wtC) (n := 3) (fun _ => rfl) (by omega) (hW.lt h25 HG0.out), fun y hy => by rcases List.mem_singleton.1 hy with rfl; exact ((HWI.out 2).mono (noB_kb hk)).mono (noB_kb (kb_new _ _)), Nat.le_of_ble_eq_true rfl⟩, rfl, rfl, rfl⟩, fun m u _ h => h.kb (by decide) (kb_new _ _)⟩
    · have h25 : dn 25 = false := not_yet hsh (by as_aux_lemma => kernel_rfl) hd
      have hk := hW.1 h25
      have e2 := hF 2 (dep_of (j := 2) ho (by as_aux_lemma => kernel_rfl) hdep) h25
      dsimp only [FZ, GZ] at e2
      obtain ⟨P, y, e2, hw, hx⟩ := e2
      dsimp only at ha
      rw [e2] at ha
      subst ha
      refine wpOp_step rfl ?_
      intro K' hK'
      go_wp2_with fail
      exact ⟨.slice (some ⟨x.heap.size, 0, none⟩) 1 1, by first | rfl | simp [upd, e2, noV, ant1, nmA, nmB], hW.kb (by decide) h25 (kb_new _ _), fun _ => ⟨_, ⟨[y], P, 1⟩, rfl, ⟨lies_new (l := [(⟨[y], P, 1⟩ : NeedP)]) (f := ndC) (n := 1) (fun _ => rfl) (by omega) (hW.lt h25 HG0.out), fun y hy => by rcases List.mem_singleton.1 hy with rfl; exact hw.mono (noB_kb (kb_new _ _)), Nat.le_of_ble_eq_true rfl⟩, y, rfl, hx⟩, fun m u _ h => h.kb (by decide) (kb_new _ _)⟩
    · have h25 : dn 25 = false := not_yet hsh (by as_aux_lemma => kernel_rfl) hd
      have hk := hW.1 h25
      have e3 := hF 3 (dep_of (j := 3) ho (by as_aux_lemma => kernel_rfl) hdep) h25
      dsimp only [FZ, GZ] at e3
      obtain ⟨P, y, e3, hw, hx⟩ := e3
      dsimp only at ha
      rw [e3] at ha
      subst ha
      refine wpOp_step rfl ?_
      intro K' hK'
      go_wp2_with fail
      exact ⟨.agg (cdC ⟨noV, -1, [y], [], P, 1, none, 0⟩).toArray, by first | rfl | simp [upd, e3, noV, ant1, nmA, nmB], hW.kb (by decide) h25 (kb_refl _), fun _ => ⟨⟨noV, -1, [y], [], P, 1, none, 0⟩, rfl, ⟨noV_fit, hw, ⟨.inl rfl, fun _ h => (by cases h), Nat.le_of_ble_eq_true rfl⟩⟩, rfl, rfl, rfl, y, rfl, hx⟩, fun m u _ h => h.kb (by decide) (kb_refl _)⟩
    · have h25 : dn 25 = false := not_yet hsh (by as_aux_lemma => kernel_rfl) hd
      have hk := hW.1 h25
      have e4 := hF 4 (dep_of (j := 4) ho (by as_aux_lemma => kernel_rfl) hdep) h25
      dsimp only [FZ, GZ] at e4
      obtain ⟨y, e4, hw, hx⟩ := e4
      dsimp only at ha
      rw [e4] at ha
      subst ha
      refine wpOp_step rfl ?_
      intro K' hK'
      go_wp2_with fail
      exact ⟨.slice (some ⟨x.heap.size, 0, none⟩) 1 1, by first | rfl | simp [upd, e4, noV, ant1, nmA, nmB], hW.kb (by decide) h25 (kb_new _ _), fun _ => ⟨_, y, rfl, ⟨lies_new (l := [y]) (f := cdC) (n := 8) (fun _ => rfl) (by omega) (hW.lt h25 HG0.out), fun y hy => by rcases List.mem_singleton.1 hy with rfl; exact hw.mono (noB_kb (kb_new _ _)), Nat.le_of_ble_eq_true rfl⟩, hx⟩, fun m u _ h => h.kb (by decide) (kb_new _ _)⟩
    · have h25 : dn 25 = false := not_yet hsh (by as_aux_lemma => kernel_rfl) hd
      have hk := hW.1 h25
      have e5 := hF 5 (dep_of (j := 5) ho (by as_aux_lemma => kernel_rfl) hdep) h25
      dsimp only [FZ, GZ] at e5
      obtain ⟨P, y, e5, hw, hx⟩ := e5
      dsimp only at ha
      rw [e5] at ha
      subst ha
      refine wpOp_step rfl ?_
      intro K' hK'
      go_wp2_with fail
      exact ⟨.agg (utC ⟨⟨#[]⟩, ⟨#[]⟩, [y], P, 1⟩).toArray, by first | rfl | simp [upd, e5, noV, ant1, nmA, nmB], hW.kb (by decide) h25 (kb_refl _), fun _ => ⟨⟨⟨#[]⟩, ⟨#[]⟩, [y], P, 1⟩, rfl, ⟨hw, Nat.le_of_ble_eq_true rfl, Nat.le_of_ble_eq_true rfl⟩, rfl, rfl, y, rfl, hx⟩, fun m u _ h => h.kb (by decide) (kb_refl _)⟩
    · have h25 : dn 25 = false := not_yet hsh (by as_aux_lemma => kernel_rfl) hd
      have hk := hW.1 h25
      subst ha
      refine wpOp_step rfl ?_
      intro K' hK'
      go_wp2_with fail
      exact ⟨.slice (some ⟨w.heap.size + 1, 0, none⟩) 4 4, by first | rfl | simp [upd, noV, ant1, nmA, nmB], hW.kb (by decide) h25 (kb_refl _), fun _ => rfl, fun m u _ h => h.kb (by decide) (kb_refl _)⟩
    · have h25 : dn 25 = false := not_yet hsh (by as_aux_lemma => kernel_rfl) hd
      have hk := hW.1 h25
      have e7 := hF 7 (dep_of (j := 7) ho (by as_aux_lemma => kernel_rfl) hdep) h25
      dsimp only [FZ, GZ] at e7
      dsimp only at ha
      rw [e7] at ha
      subst ha
      refine wpOp_step rfl ?_
      intro K' hK'
      go_wp2_with fail
      exact ⟨.pointer (some ⟨w.heap.size + 1, 0, none⟩), by first | rfl | simp [upd, e7, noV, ant1, nmA, nmB], hW.kb (by decide) h25 (kb_refl _), fun _ => rfl, fun m u _ h => h.kb (by decide) (kb_refl _)⟩
    · have h25 : dn 25 = false := not_yet hsh (by as_aux_lemma => kernel_rfl) hd
      have hk := hW.1 h25
      have e8 := hF 8 (dep_of (j := 8) ho (by as_aux_lemma => kernel_rfl) hdep) h25
      dsimp only [FZ, GZ] at e8
      have x0 := (HV3.out.kb hk).2 0 _ rfl
      have x1 := (HV3.out.kb hk).2 1 _ rfl
      have x2 := (HV3.out.kb hk).2 2 _ rfl
      have x3 := (HV3.out.kb hk).2 3 _ rfl
      have x4 := (HV3.out.kb hk).2 4 _ rfl
      have xl := (HV3.out.kb hk).1
      dsimp only at ha
      rw [e8] at ha
      subst ha
      refine wpOp_step rfl ?_
      intro K' hK'
      go_wp2_with fail
      exact ⟨ant1.val, by first | rfl | simp [upd, e8, noV, ant1, nmA, nmB], hW.kb (by decide) h25 (kb_refl _), fun _ => rfl, fun m u _ h => h.kb (by decide) (kb_refl _)⟩
    · have h25 : dn 25 = false := not_yet hsh (by as_aux_lemma => kernel_rfl) hd
      have hk := hW.1 h25
      have e9 := hF 9 (dep_of (j := 9) ho (by as_aux_lemma => kernel_rfl) hdep) h25
      dsimp only [FZ, GZ] at e9
      dsimp only at ha
      rw [e9] at ha
      subst ha
      refine wpOp_step rfl ?_
      intro K' hK'
      go_wp2_with fail
      exact ⟨.agg (cdC ⟨ant1, 0, [], [], none, 0, none, 0⟩).toArray, by first | rfl | simp [upd, e9, noV, ant1, nmA, nmB], hW.kb (by decide) h25 (kb_refl _), fun _ => ⟨⟨ant1, 0, [], [], none, 0, none, 0⟩, rfl, ⟨ant_fit, ⟨.inl rfl, fun _ h => (by cases h), Nat.le_of_ble_eq_true rfl⟩, ⟨.inl rfl, fun _ h => (by cases h), Nat.le_of_ble_eq_true rfl⟩⟩, rfl, rfl, rfl, rfl⟩, fun m u _ h => h.kb (by decide) (kb_refl _)⟩
    · have h25 : dn 25 = false := not_yet hsh (by as_aux_lemma => kernel_rfl) hd
      have hk := hW.1 h25
      have e10 := hF 10 (dep_of (j := 10) ho (by as_aux_lemma => kernel_rfl) hdep) h25
      dsimp only [FZ, GZ] at e10
      obtain ⟨y, e10, hw, hx⟩ := e10
      dsimp only at ha
      rw [e10] at ha
      subst ha
      refine wpOp_step rfl ?_
      intro K' hK'
      go_wp2_with fail
      exact ⟨.slice (some ⟨x.heap.size, 0, none⟩) 1 1, by first | rfl | simp [upd, e10, noV, ant1, nmA, nmB], hW.kb (by decide) h25 (kb_new _ _), fun _ => ⟨_, y, rfl, ⟨lies_new (l := [y]) (f := cdC) (n := 8) (fun _ => rfl) (by omega) (hW.lt h25 HG0.out), fun y hy => by rcases List.mem_singleton.1 hy with rfl; exact hw.mono (noB_kb (kb_new _ _)), Nat.le_of_ble_eq_true rfl⟩, hx⟩, fun m u _ h => h.kb (by decide) (kb_new _ _)⟩
    · have h25 : dn 25 = false := not_yet hsh (by as_aux_lemma => kernel_rfl) hd
      have hk := hW.1 h25
      have e11 := hF 11 (dep_of (j := 11) ho (by as_aux_lemma => kernel_rfl) hdep) h25
      dsimp only [FZ, GZ] at e11
      obtain ⟨P, y, e11, hw, hx⟩ := e11
      dsimp only at ha
      rw [e11] at ha
      subst ha
      refine wpOp_step rfl ?_
      intro K' hK'
      go_wp2_with fail
      exact ⟨.agg (utC ⟨nmA, ⟨#[]⟩, [y], P, 1⟩).toArray, by first | rfl | simp [upd, e11, noV, ant1, nmA, nmB], hW.kb (by decide) h25 (kb_refl _), fun _ => ⟨⟨nmA, ⟨#[]⟩, [y], P, 1⟩, rfl, ⟨hw, Nat.le_of_ble_eq_true rfl, Nat.le_of_ble_eq_true rfl⟩, rfl, rfl, y, rfl, hx⟩, fun m u _ h => h.kb (by decide) (kb_refl _)⟩
    · have h25 : dn 25 = false := not_yet hsh (by as_aux_lemma => kernel_rfl) hd
      have hk := hW.1 h25
      subst ha
      refine wpOp_step rfl ?_
      intro K' hK'
      go_wp2_with fail
      exact ⟨.slice (some ⟨w.heap.size + 1, 0, none⟩) 4 4, by first | rfl | simp [upd, noV, ant1, nmA, nmB], hW.kb (by decide) h25 (kb_refl _), fun _ => rfl, fun m u _ h => h.kb (by decide) (kb_refl _)⟩
    · have h25 : dn 25 = false := not_yet hsh (by as_aux_lemma => kernel_rfl) hd
      have hk := hW.1 h25
      have e13 := hF 13 (dep_of (j := 13) ho (by as_aux_lemma => kernel_rfl) hdep) h25
      dsimp only [FZ, GZ] at e13
      dsimp only at ha
      rw [e13] at ha
      subst ha
      refine wpOp_step rfl ?_
      intro K' hK'
      go_wp2_with fail
      exact ⟨.pointer (some ⟨w.heap.size + 1, 0, none⟩), by first | rfl | simp [upd, e13, noV, ant1, nmA, nmB], hW.kb (by decide) h25 (kb_refl _), fun _ => rfl, fun m u _ h => h.kb (by decide) (kb_refl _)⟩
    · have h25 : dn 25 = false := not_yet hsh (by as_aux_lemma => kernel_rfl) hd
      have hk := hW.1 h25
      have e14 := hF 14 (dep_of (j := 14) ho (by as_aux_lemma => kernel_rfl) hdep) h25
      dsimp only [FZ, GZ] at e14
      have x0 := (HV3.out.kb hk).2 0 _ rfl
      have x1 := (HV3.out.kb hk).2 1 _ rfl
      have x2 := (HV3.out.kb hk).2 2 _ rfl
      have x3 := (HV3.out.kb hk).2 3 _ rfl
      have x4 := (HV3.out.kb hk).2 4 _ rfl
      have xl := (HV3.out.kb hk).1
      dsimp only at ha
      rw [e14] at ha
      subst ha
      refine wpOp_step rfl ?_
      intro K' hK'
      go_wp2_with fail
      exact ⟨ant1.val, by first | rfl | simp [upd, e14, noV, ant1, nmA, nmB], hW.kb (by decide) h25 (kb_refl _), fun _ => rfl, fun m u _ h => h.kb (by decide) (kb_refl _)⟩
    · have h25 : dn 25 = false := not_yet hsh (by as_aux_lemma => kernel_rfl) hd
      have hk := hW.1 h25
      have x0 := (HB3.out.kb hk).2 0 _ rfl
      have x1 := (HB3.out.kb hk).2 1 _ rfl
      have xl := (HB3.out.kb hk).1
      subst ha
      refine wpOp_step rfl ?_
      intro K' hK'
      go_wp2_with fail
      exact ⟨setV A 1 c B 1 d, by first | rfl | simp [upd, noV, ant1, nmA, nmB], hW.kb (by decide) h25 (kb_refl _), fun _ => rfl, fun m u _ h => h.kb (by decide) (kb_refl _)⟩
    · have h25 : dn 25 = false := not_yet hsh (by as_aux_lemma => kernel_rfl) hd
      have hk := hW.1 h25
      have e16 := hF 16 (dep_of (j := 16) ho (by as_aux_lemma => kernel_rfl) hdep) h25
      dsimp only [FZ, GZ] at e16
      dsimp only at ha
      rw [e16] at ha
      subst ha
      refine wpOp_step rfl ?_
      intro K' hK'
      go_wp2_with fail
      exact ⟨.agg #[.int .i64 1, .slice A 1 c, .slice B 1 d], by first | rfl | simp [upd, e16, noV, ant1, nmA, nmB], hW.kb (by decide) h25 (kb_refl _), fun _ => rfl, fun m u _ h => h.kb (by decide) (kb_refl _)⟩
    · have h25 : dn 25 = false := not_yet hsh (by as_aux_lemma => kernel_rfl) hd
      have hk := hW.1 h25
      have e17 := hF 17 (dep_of (j := 17) ho (by as_aux_lemma => kernel_rfl) hdep) h25
      dsimp only [FZ, GZ] at e17
      dsimp only at ha
      rw [e17] at ha
      subst ha
      refine wpOp_step rfl ?_
      intro K' hK'
      go_wp2_with fail
      exact ⟨.slice (some ⟨x.heap.size, 0, none⟩) 1 1, by first | rfl | simp [upd, e17, noV, ant1, nmA, nmB], hW.kb (by decide) h25 (kb_new _ _), fun _ => ⟨_, ⟨1, wholeL, wholeL, A, c, B, d⟩, rfl, ⟨lies_new (l := [⟨1, wholeL, wholeL, A, c, B, d⟩]) (f := wtC) (n := 3) (fun _ => rfl) (by omega) (hW.lt h25 HG0.out), fun y hy => by rcases List.mem_singleton.1 hy with rfl; exact ((HWI.out 1).mono (noB_kb hk)).mono (noB_kb (kb_new _ _)), Nat.le_of_ble_eq_true rfl⟩, rfl, rfl, rfl⟩, fun m u _ h => h.kb (by decide) (kb_new _ _)⟩
    · have h25 : dn 25 = false := not_yet hsh (by as_aux_lemma => kernel_rfl) hd
      have hk := hW.1 h25
      have e18 := hF 18 (dep_of (j := 18) ho (by as_aux_lemma => kernel_rfl) hdep) h25
      dsimp only [FZ, GZ] at e18
      obtain ⟨P, y, e18, hw, hx⟩ := e18
      dsimp only at ha
      rw [e18] at ha
      subst ha
      refine wpOp_step rfl ?_
      intro K' hK'
      go_wp2_with fail
      exact ⟨.slice (some ⟨x.heap.size, 0, none⟩) 1 1, by first | rfl | simp [upd, e18, noV, ant1, nmA, nmB], hW.kb (by decide) h25 (kb_new _ _), fun _ => ⟨_, ⟨[y], P, 1⟩, rfl, ⟨lies_new (l := [(⟨[y], P, 1⟩ : NeedP)]) (f := ndC) (n := 1) (fun _ => rfl) (by omega) (hW.lt h25 HG0.out), fun y hy => by rcases List.mem_singleton.1 hy with rfl; exact hw.mono (noB_kb (kb_new _ _)), Nat.le_of_ble_eq_true rfl⟩, y, rfl, hx⟩, fun m u _ h => h.kb (by decide) (kb_new _ _)⟩
    · have h25 : dn 25 = false := not_yet hsh (by as_aux_lemma => kernel_rfl) hd
      have hk := hW.1 h25
      have e15 := hF 15 (dep_of (j := 15) ho (by as_aux_lemma => kernel_rfl) hdep) h25
      dsimp only [FZ, GZ] at e15
      have e19 := hF 19 (dep_of (j := 19) ho (by as_aux_lemma => kernel_rfl) hdep) h25
      dsimp only [FZ, GZ] at e19
      obtain ⟨P, y, e19, hw, hx⟩ := e19
      dsimp only at ha
      rw [e15, e19] at ha
      subst ha
      refine wpOp_step rfl ?_
      intro K' hK'
      go_wp2_with fail
      exact ⟨.agg (cdC ⟨ant1, 0, [y], [], P, 1, none, 0⟩).toArray, by first | rfl | simp [upd, e15, e19, noV, ant1, nmA, nmB], hW.kb (by decide) h25 (kb_refl _), fun _ => ⟨⟨ant1, 0, [y], [], P, 1, none, 0⟩, rfl, ⟨ant_fit, hw, ⟨.inl rfl, fun _ h => (by cases h), Nat.le_of_ble_eq_true rfl⟩⟩, rfl, rfl, rfl, y, rfl, hx⟩, fun m u _ h => h.kb (by decide) (kb_refl _)⟩
    · have h25 : dn 25 = false := not_yet hsh (by as_aux_lemma => kernel_rfl) hd
      have hk := hW.1 h25
      have e20 := hF 20 (dep_of (j := 20) ho (by as_aux_lemma => kernel_rfl) hdep) h25
      dsimp only [FZ, GZ] at e20
      obtain ⟨y, e20, hw, hx⟩ := e20
      dsimp only at ha
      rw [e20] at ha
      subst ha
      refine wpOp_step rfl ?_
      intro K' hK'
      go_wp2_with fail
      exact ⟨.slice (some ⟨x.heap.size, 0, none⟩) 1 1, by first | rfl | simp [upd, e20, noV, ant1, nmA, nmB], hW.kb (by decide) h25 (kb_new _ _), fun _ => ⟨_, y, rfl, ⟨lies_new (l := [y]) (f := cdC) (n := 8) (fun _ => rfl) (by omega) (hW.lt h25 HG0.out), fun y hy => by rcases List.mem_singleton.1 hy with rfl; exact hw.mono (noB_kb (kb_new _ _)), Nat.le_of_ble_eq_true rfl⟩, hx⟩, fun m u _ h => h.kb (by decide) (kb_new _ _)⟩
    · have h25 : dn 25 = false := not_yet hsh (by as_aux_lemma => kernel_rfl) hd
      have hk := hW.1 h25
      have e21 := hF 21 (dep_of (j := 21) ho (by as_aux_lemma => kernel_rfl) hdep) h25
      dsimp only [FZ, GZ] at e21
      obtain ⟨P, y, e21, hw, hx⟩ := e21
      dsimp only at ha
      rw [e21] at ha
      subst ha
      refine wpOp_step rfl ?_
      intro K' hK'
      go_wp2_with fail
      exact ⟨.agg (utC ⟨nmB, ⟨#[]⟩, [y], P, 1⟩).toArray, by first | rfl | simp [upd, e21, noV, ant1, nmA, nmB], hW.kb (by decide) h25 (kb_refl _), fun _ => ⟨⟨nmB, ⟨#[]⟩, [y], P, 1⟩, rfl, ⟨hw, Nat.le_of_ble_eq_true rfl, Nat.le_of_ble_eq_true rfl⟩, rfl, rfl, y, rfl, hx⟩, fun m u _ h => h.kb (by decide) (kb_refl _)⟩
    · have h25 : dn 25 = false := not_yet hsh (by as_aux_lemma => kernel_rfl) hd
      have hk := hW.1 h25
      have e6 := hF 6 (dep_of (j := 6) ho (by as_aux_lemma => kernel_rfl) hdep) h25
      dsimp only [FZ, GZ] at e6
      obtain ⟨y0, e6, hw0, hx0⟩ := e6
      have e12 := hF 12 (dep_of (j := 12) ho (by as_aux_lemma => kernel_rfl) hdep) h25
      dsimp only [FZ, GZ] at e12
      obtain ⟨y1, e12, hw1, hx1⟩ := e12
      have e22 := hF 22 (dep_of (j := 22) ho (by as_aux_lemma => kernel_rfl) hdep) h25
      dsimp only [FZ, GZ] at e22
      obtain ⟨y2, e22, hw2, hx2⟩ := e22
      dsimp only at ha
      rw [e6, e12, e22] at ha
      subst ha
      refine wpOp_step rfl ?_
      intro K' hK'
      go_wp2_with fail
      exact ⟨.slice (some ⟨x.heap.size, 0, none⟩) 3 3, by first | rfl | simp [upd, e6, e12, e22, noV, ant1, nmA, nmB], hW.kb (by decide) h25 (kb_new _ _), fun _ => ⟨_, [y0, y1, y2], rfl, ⟨lies_new (l := [y0, y1, y2]) (f := utC) (n := 3) (fun _ => rfl) (by omega) (hW.lt h25 HG0.out), fun y hy => by simp only [List.mem_cons, List.not_mem_nil, or_false] at hy; rcases hy with rfl | rfl | rfl <;> (first | exact hw0.mono (noB_kb (kb_new _ _)) | exact hw1.mono (noB_kb (kb_new _ _)) | exact hw2.mono (noB_kb (kb_new _ _))), Nat.le_of_ble_eq_true rfl⟩, y0, y1, y2, rfl, hx0, hx1, hx2⟩, fun m u _ h => h.kb (by decide) (kb_new _ _)⟩
    · have h25 : dn 25 = false := not_yet hsh (by as_aux_lemma => kernel_rfl) hd
      have hk := hW.1 h25
      have e23 := hF 23 (dep_of (j := 23) ho (by as_aux_lemma => kernel_rfl) hdep) h25
      dsimp only [FZ, GZ] at e23
      obtain ⟨P, us, e23, hw, hx⟩ := e23
      dsimp only at ha
      rw [e23] at ha
      subst ha
      refine wpOp_step rfl ?_
      intro K' hK'
      go_wp2_with fail
      exact ⟨.agg #[.slice P 3 3], by first | rfl | simp [upd, e23, noV, ant1, nmA, nmB], hW.kb (by decide) h25 (kb_refl _), fun _ => ⟨P, us, rfl, hw, hx⟩, fun m u _ h => h.kb (by decide) (kb_refl _)⟩
    · have h25 := hd
      have hk := hW.1 h25
      have e24 := hF 24 (dep_of (j := 24) ho (by as_aux_lemma => kernel_rfl) hdep) h25
      dsimp only [FZ, GZ] at e24
      obtain ⟨P, us, e24, hw, hx⟩ := e24
      have hO := HO3.out.kb hk
      have x0 := hO.box.2 0 _ rfl
      have xl := hO.box.1
      have sf : ∀ j, x.frozen? ⟨w.heap.size, j, none⟩ = false := hO.soft
      dsimp only at ha
      rw [e24] at ha
      subst ha
      refine wpOp_step rfl ?_
      intro K' hK'
      go_wp2_with fail
      exact ⟨undef, by simp [upd, e24], ⟨fun e => by simp [more] at e, fun _ => ⟨P, us, (hO.put (j := 0) (by simp) _).box, (hw.mono noB_put).mono noB_all, hx, kb_putJ (kb_tr HK3.out hk) (Nat.le_refl _) _⟩⟩, fun e => by simp [more] at e, fun m u _ h e => by simp [more] at e⟩
    · omega
  · intro dn T x hall hW hF a ha
    obtain ⟨U, us, hb, hun, hs, hkb⟩ := hW.2 (hall 25 (by decide))
    have HUN := hid hun
    have HS := hid hs
    have HKB := hid hkb
    have x0 := hb.2 0 _ rfl
    have xl := hb.1
    clear hun hs hkb hall hW hF
    subst ha
    go_wp2_with fail
    refine bodyPost_ret (v := .agg #[.slice U 3 3]) (by simp [results, Tryz.results16, go_sem, x0]) rfl ?_
    exact ⟨U, us, rfl, HUN.out, HS.out, HKB.out⟩
end Go.Proofs.YtlmkglgjdmjnkaaGreatDoor
namespace Go.Proofs.YtlmkglgjdmjnkaaGreatDoor
open Go.RowKit Go.Lib
open Rw
set_option linter.unusedVariables false
set_option linter.unusedSimpArgs false
theorem sortB_one (x : ByteArray) : sortB [x] = [x] := by
  unfold sortB
  rw [List.map_singleton, List.mergeSort_singleton, List.map_singleton, bts_back]
set_option maxRecDepth 100000 in
theorem small_groups {us : List UnitP} (h : isSm us) : groupsP us [0, 0, 0] = [[nmA], [nmB]] := by
  obtain ⟨⟨_, _, _, A1, c1⟩, ⟨_, _, _, A2, c2⟩, ⟨_, _, _, A3, c3⟩, rfl, ⟨rfl, rfl, ⟨_, _, _, _, P1, q1, R1, s1⟩, rfl, rfl, rfl, rfl, ⟨_, N1, n1⟩, rfl, ⟨_, _, _, W1, w1, V1, v1⟩, rfl, rfl, rfl, rfl⟩, ⟨rfl, rfl, ⟨_, _, _, _, P2, q2, R2, s2⟩, rfl, rfl, rfl, rfl, rfl⟩, ⟨rfl, rfl, ⟨_, _, _, _, P3, q3, R3, s3⟩, rfl, rfl, rfl, rfl, ⟨_, N3, n3⟩, rfl, ⟨_, _, _, W3, w3, V3, v3⟩, rfl, rfl, rfl, rfl⟩⟩ := h
  generalize hus : ([_, _, _] : List UnitP) = us
  have h1 : holdsC us [0, 0, 0] = true := by subst hus; kernel_rfl
  have h2 : packG 0 us [0, 0, 0] = [nmA, nmB] := by subst hus; kernel_rfl
  have hn : needB us [0, 0, 0] [nmA, nmB] 1 0 = true ∧ needB us [0, 0, 0] [nmA, nmB] 0 1 = false := by subst hus; exact ⟨by kernel_rfl, by kernel_rfl⟩
  have hz : ∀ R o, nextX [nmA, nmB] 2 R o = nextX [nmA, nmB] 2 R o := fun _ _ => rfl
  rw [groupsP, if_pos h1, h2]
  show groupsL [nmA, nmB] 2 (fun a b => reachB 2 (needB us [0, 0, 0] [nmA, nmB]) a b) 3 (fun _ => false) = _
  rw [groupsL_some (k := 0) (by subst hus; kernel_rfl), groupsL_some (k := 1) (by subst hus; kernel_rfl), groupsL_none (by subst hus; kernel_rfl)]
  rw [show (List.range' 0 2).flatMap (nameX [nmA, nmB] (fun a b => reachB 2 (needB us [0, 0, 0] [nmA, nmB]) a b) 0) = [nmA] from by subst hus; kernel_rfl, show (List.range' 0 2).flatMap (nameX [nmA, nmB] (fun a b => reachB 2 (needB us [0, 0, 0] [nmA, nmB]) a b) 1) = [nmB] from by subst hus; kernel_rfl, sortB_one, sortB_one]
theorem small_cat {us : List UnitP} (h : isSm us) : catP us [0, 0, 0] = [nmA, nmB] := by rw [catP, small_groups h]; rfl
def lnL (n : ByteArray) : LockL := ⟨n, noV, ⟨#[]⟩, 0, []⟩
def nmC : ByteArray := ⟨#[99, 111, 119]⟩
theorem ins_small {ps : List MQ} (hp : ps.map (·.1.1) = [mv3 (lnL nmB), mv3 (lnL nmA)]) : (insM (placeP [nmA, nmB]).1 ps).map (·.1.1) = [mv3 (lnL nmA), mv3 (lnL nmB)] := by
  match ps, hp with
  | [⟨(a, h1), f1⟩, ⟨(b, h2), f2⟩], hp =>
    simp only [List.map_cons, List.map_nil, List.cons.injEq, and_true] at hp
    obtain ⟨rfl, rfl⟩ := hp
    have h : (insM (placeP [nmA, nmB]).1 [⟨(mv3 (lnL nmB), h1), f1⟩, ⟨(mv3 (lnL nmA), h2), f2⟩]).map (·.1.1) = [mv3 (lnL nmA), mv3 (lnL nmB)] := by kernel_rfl
    exact h
theorem news_small : ([lnL nmB, lnL nmA].filter fun x => !hasL [lnL nmC] x) = [lnL nmB, lnL nmA] := by kernel_rfl
theorem gone_small : ([lnL nmC].reverse.filter fun x => !hasL [lnL nmB, lnL nmA] x) = [lnL nmC] := by kernel_rfl
theorem do_small : doL ([lnL nmC], []) [mv1 (lnL nmB), mv1 (lnL nmA), mv2 (lnL nmC), mv3 (lnL nmA), mv3 (lnL nmB)] = some [lnL nmA, lnL nmB] := by kernel_rfl
end Go.Proofs.YtlmkglgjdmjnkaaGreatDoor
