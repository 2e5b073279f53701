/- Parts 26 of the proofs. -/
import Derived.Test.YtlmkglgjdmjnkaaGreatDoorQ25
namespace Go.Proofs.YtlmkglgjdmjnkaaGreatDoor
open Go.RowKit Go.Lib
open Rw
set_option linter.unusedVariables false
set_option linter.unusedSimpArgs false
def readyB (n : Nat) (R : Nat → Nat → Bool) (o : Nat → Bool) (a : Nat) : Bool := !o a && (List.range' 0 n).all fun t => o t || (oneB R a t || !R a t)
def lessB (a b : ByteArray) : Bool := Op.bytesLess (bts a) (bts b)
def canX (names : List ByteArray) (s : ByteArray) : Option Nat → Bool
  | none => true
  | some k => lessB s (names.getD k ⟨#[]⟩)
def stepX (names : List ByteArray) (n : Nat) (R : Nat → Nat → Bool) (o : Nat → Bool) (nx : Option Nat) (a : Nat) : Option Nat := if readyB n R o a && canX names (names.getD a ⟨#[]⟩) nx then some a else nx
def nextX (names : List ByteArray) (n : Nat) (R : Nat → Nat → Bool) (o : Nat → Bool) : Option Nat := (List.range' 0 n).foldl (stepX names n R o) none
def nameX (names : List ByteArray) (R : Nat → Nat → Bool) (k j : Nat) : List ByteArray := if oneB R k j then [names.getD j ⟨#[]⟩] else []
def goneX (R : Nat → Nat → Bool) (k i : Nat) (o : Nat → Bool) : Nat → Bool := fun j => if decide (j < i) && oneB R k j then true else o j
def groupsL (names : List ByteArray) (n : Nat) (R : Nat → Nat → Bool) : Nat → (Nat → Bool) → List (List ByteArray)
  | 0, _ => []
  | f + 1, o => match nextX names n R o with
    | none => []
    | some k => sortB ((List.range' 0 n).flatMap (nameX names R k)) :: groupsL names n R f (goneX R k n o)
theorem groupsL_none {names : List ByteArray} {n : Nat} {R : Nat → Nat → Bool} {f : Nat} {o : Nat → Bool} (h : nextX names n R o = none) : groupsL names n R (f + 1) o = [] := by rw [groupsL, h]
theorem groupsL_some {names : List ByteArray} {n k : Nat} {R : Nat → Nat → Bool} {f : Nat} {o : Nat → Bool} (h : nextX names n R o = some k) : groupsL names n R (f + 1) o = sortB ((List.range' 0 n).flatMap (nameX names R k)) :: groupsL names n R f (goneX R k n o) := by rw [groupsL, h]
def groupsP (us : List UnitP) (zs : List Int) : List (List ByteArray) := if holdsC us zs then
  groupsL (packG 0 us zs) (packG 0 us zs).length (fun a b => reachB (packG 0 us zs).length (needB us zs (packG 0 us zs)) a b) ((packG 0 us zs).length + 1) (fun _ => false) else []
theorem packG_len : ∀ (i : Nat) (us : List UnitP) (zs : List Int), (packG i us zs).length ≤ us.length
  | _, [], _ => by simp [packG]
  | _, _ :: _, [] => by simp [packG]
  | i, y :: us, z :: zs => by
    rw [packG, List.length_append, List.length_cons]
    have := packG_len (i + 1) us zs
    split <;> simp <;> omega
def GroupsK (w : World) (gs : List (List ByteArray)) (e : Ending) (w' : World) : Prop := ∃ (A : Option Addr) (c : Nat) (ps : List GrpP), e = .returned (.slice A ps.length c) ∧ ps.map (·.l) = gs ∧ GrpsAt w' A ps ∧ KB w.heap.size w w'
theorem EKgrps : EK Tryz.prog 48 31 1 24 := .mk' (.slice none 0 0) Tryz.underlying48 (by kernel_rfl) rfl (by omega)
def GrpSub (w : World) (p : GrpP) : Prop := Lies 1 cellT w p.A p.l
theorem GrpSub.mono (w w' : World) (p : GrpP) (m : Mono w w') (h : GrpSub w p) : GrpSub w' p := Lies.mono h m
theorem lies_from {α : Type} {n : Nat} {f : α → List Value} {w0 w w' : World} {A : Option Addr} {l : List α} {x : Nat} (h : Lies n f w0 A l) (hk : KB w0.heap.size w0 w) (hg : w.grownBy w' (some x)) (hx : w0.heap.size ≤ x) : Lies n f w' A l := by
  rcases h with h | ⟨b, off, hA, hb, hc⟩
  · exact .inl h
  · have hbw := Nat.lt_of_lt_of_le hb hk.size
    exact .inr ⟨b, off, hA, Nat.lt_of_lt_of_le hbw hg.size, fun i hi j u hj => (World.cell?_of_block (hg.block b hbw (fun e => by injection e with e; omega))).trans ((World.cell?_of_block (hk.block b hb)).trans (hc i hi j u hj))⟩
theorem lies_mask {α : Type} {n : Nat} {f : α → List Value} {w : World} {A : Option Addr} {l : List α} {B : Nat} {r : Option Nat} (h : Lies n f w A l) (hx : ∀ ad, A = some ad → B ≤ ad.block ∧ r ≠ some ad.block) : Lies n f (mask w B r) A l := by
  rcases h with h | ⟨b, off, hA, hb, hc⟩
  · exact .inl h
  · exact .inr ⟨b, off, hA, by rw [mask_size]; exact hb, fun i hi j u hj => mask_cell.2 ⟨hx ⟨b, off, none⟩ hA, hc i hi j u hj⟩⟩
theorem goneX_more {n k : Nat} {R : Nat → Nat → Bool} {o : Nat → Bool} (hk : k < n) (ho : o k = false) : cntF n (goneX R k n o) < cntF n o := by
  refine Nat.lt_of_le_of_lt (cntF_mono fun j hj => ?_) (cntF_set hk ho)
  unfold setT at hj
  unfold goneX
  by_cases e : j = k
  · subst e
    simp [hk, oneB]
  · rw [if_neg e] at hj
    rw [hj]
    split <;> rfl
theorem goneX_step {k i : Nat} {R : Nat → Nat → Bool} {o : Nat → Bool} (j : Nat) : goneX R k (i + 1) o j = if j = i ∧ oneB R k i = true then true else goneX R k i o j := by
  unfold goneX
  by_cases e : j = i
  · subst e
    cases h : oneB R k j <;> simp
  · have h1 : decide (j < i + 1) = decide (j < i) := decide_eq_decide.2 (by omega)
    rw [h1]
    have h2 : ¬ (j = i ∧ oneB R k i = true) := fun h => e h.1
    rw [if_neg h2]
def lenV : Value → Nat | .slice _ l _ => l | _ => 0
def nxI : Option Nat → Int | none => -1 | some k => (k : Int)
set_option maxRecDepth 100000 in
set_option maxHeartbeats 2000000 in
theorem pgroups_any (U : Option Addr) (uc : Nat) (us : List UnitP) (A : Option Addr) (c : Nat) (zs : List Int) (w : World) (hF : First w) (hU : UnitsAt w U us) (hA : IntsAt w A zs) (hn : zs.length ≤ 9223372036854775807) : Calls Tryz.prog 15 #[.agg #[.slice U us.length uc], .slice A zs.length c] w (GroupsK w (groupsP us zs)) := by
  have HB0 := hid (kb_new w (.cells [.slice U us.length uc].toArray 42))
  have HX := hid (Box.new w [.slice U us.length uc] 42)
  have HU := hid (hU.kb HB0.out)
  have HZ := hid (hA.kb HB0.out)
  have HF := hid (hF.kb HB0.out)
  have HHO := hid (cholds_any U uc us A c zs (w.alloc (.cells [.slice U us.length uc].toArray 42)) HF.out HU.out HZ.out hn)
  have HPK := hid (fun (h1 : zs.length = us.length) (h2 : us.length ≤ 1000) u (hb : KB (w.alloc (.cells [.slice U us.length uc].toArray 42)).heap.size (w.alloc (.cells [.slice U us.length uc].toArray 42)) u) => ppack_any U uc us A c zs u (HU.out.kb hb) (HZ.out.kb hb) h1 h2)
  have HND := hid (fun (h1 : mayWd us = true) (h2 : fitsC us zs = true) (N : Option Addr) (nc : Nat) (h3 : (packG 0 us zs).length ≤ 1000) u (hb : KB (w.alloc (.cells [.slice U us.length uc].toArray 42)).heap.size (w.alloc (.cells [.slice U us.length uc].toArray 42)) u) (hN : Texts u N (packG 0 us zs)) => pneeds_any U uc us A c zs N nc (packG 0 us zs) u (HF.out.kb hb) (HU.out.kb hb) (HZ.out.kb hb) hN h3 h1 h2)
  have HGP := hid (show groupsP us zs = if holdsC us zs then groupsL (packG 0 us zs) (packG 0 us zs).length (fun a b => reachB (packG 0 us zs).length (needB us zs (packG 0 us zs)) a b) ((packG 0 us zs).length + 1) (fun _ => false) else [] from rfl)
  have HHD := hid (fun (h : holdsC us zs = true) => show (mayWd us = true ∧ fitsC us zs = true) ∧ (zs.length = us.length ∧ us.length ≤ 48 ∧ (packG 0 us zs).length ≤ 48) from by
    unfold holdsC mayCh at h
    simp only [Bool.and_eq_true] at h
    have h1 := mayWd_len h.1.1
    have h2 := h.1.2
    have h3 := packG_len 0 us zs
    unfold fitsC at h2
    simp only [Bool.and_eq_true, decide_eq_true_eq] at h2
    exact ⟨h.1, h2.1, h1.2, by omega⟩)
  clear hF hU hA
  generalize groupsP us zs = res at *
  generalize holdsC us zs = ho at *
  generalize mayWd us = mw at *
  generalize fitsC us zs = ft at *
  generalize needB us zs (packG 0 us zs) = G at *
  generalize packG 0 us zs = names at *
  generalize us.length = m at *
  generalize zs.length = nz at *
  go_enter Tryz.func15, Tryz.ntmps15
  go_upto_region 1 with fail
  refine wp_name ?_
  intro u0 hu0
  rw [← hu0] at HX HB0 HU HZ HF HHO HPK HND
  clear hu0
  have x0 := HX.out.2 0 _ rfl
  have xl := HX.out.1
  go_wp2_with fail
  refine HHO.out.mono ?_
  rintro _ u1 ⟨rfl, hb⟩
  have HK1 := hid hb
  clear hb x0 xl HHO
  cases ho with
  | false =>
    have HRS := hid (show res = [] from by rw [HGP.out]; rfl)
    go_wp2_with fail
    go_ret
    exact ⟨none, 0, [], rfl, by rw [HRS.out]; rfl, ⟨.inl rfl, fun _ h => (by cases h), by simp⟩, kb_tr HB0.out HK1.out⟩
  | true =>
  obtain ⟨⟨hmw, hft⟩, hzm, hm48, hn48⟩ := HHD.out rfl
  have HPQ := hid (HPK.out hzm (by omega) u1 HK1.out)
  have HNE := hid (HND.out hmw hft)
  clear HPK HND
  have HRS := hid (show res = _ from HGP.out.trans (if_pos rfl))
  clear HHD HGP hmw hft
  subst hzm
  obtain ⟨n, hnn⟩ : ∃ n, names.length = n := ⟨_, rfl⟩
  have HNL := hid hnn
  rw [hnn] at hn48 HRS HNE
  clear hnn
  have HXW := hid (HX.out.kb HK1.out)
  have x0 := HXW.out.2 0 _ rfl
  have xl := HXW.out.1
  go_wp2_with fail
  refine HPQ.out.mono ?_
  rintro _ u2 ⟨vN, rfl, hown, hb⟩
  obtain ⟨N, nc, rfl, hlN, hblk, -⟩ := OwnL.lies (f := cellT) (n := 1) (fun _ => rfl) hown
  have HK2 := hid (kb_tr HK1.out hb)
  have HLN := hid hlN
  have HTN := hid (lies_texts hlN)
  clear hown hb x0 xl HXW HPQ hlN hblk
  rw [HNL.out]
  have HNC := hid (HNE.out N nc (by omega) u2 HK2.out HTN.out)
  have HXW := hid (HX.out.kb HK2.out)
  have x0 := HXW.out.2 0 _ rfl
  have xl := HXW.out.1
  clear HNE
  go_wp2_with fail
  refine HNC.out.mono ?_
  rintro _ u3 ⟨g0, h0, F0, rfl, hmat, hfg, hb⟩
  have HK3 := hid (kb_tr HK2.out hb)
  have HLN3 := hid (HLN.out.kb hb)
  have HM0 := hid (hmat.same (F' := G) fun k j hk hj => hfg k j hk hj)
  clear hb hmat hfg x0 xl HXW HNC HLN HTN
  obtain ⟨i1, e1, e2, e3, e4⟩ := bools_info
  have HI1 := hid (And.intro e1 (And.intro e2 (And.intro e3 e4)))
  clear e1 e2 e3 e4
  go_upto_region 6 with (at_make; refine wpList_make_full u3 rfl _ _ _ rfl u3.heap.size 112 i1 (.slice none 0 0) 1 Tryz.underlying110 HI1.out.1 HI1.out.2.1 HI1.out.2.2.1 .i64 .i64 n n n rfl rfl rfl rfl (by rw [HI1.out.2.2.2]; omega) (by unfold maxLen; omega) (Nat.le_refl _) ?_; intro w4 h1 h2; have HR := hid (ArrV.of_own h1 (h1.lt _ rfl).2 (h1.lt _ rfl).1); have HB4 := hid (show KB u3.heap.size u3 w4 from (Go.RowKit.Below.refl _ _).grown h2 (Nat.le_refl _) (fun k hk => by cases hk)); clear h1 h2)
  refine wp_name ?_
  intro u4 hu4
  have HXR := hid (show Box u4 w4.heap.size [.slice (some ⟨u3.heap.size, 0, none⟩) n n] from by rw [hu4]; exact Box.new w4 [.slice (some ⟨u3.heap.size, 0, none⟩) n n] 110)
  have HK4 := hid (show KB u3.heap.size u3 u4 from kb_tr HB4.out (by rw [hu4]; exact kb_new _ _))
  have HM4 := hid (show Mat u3.heap.size u4 u3.heap.size n 0 (fun _ => 0) (fun _ _ => false) from by
    have hr := HR.out.kb (show KB w4.heap.size w4 u4 from by rw [hu4]; exact kb_new _ _)
    exact ⟨hr.same fun j _ => by rw [if_neg (by omega)], fun k hk => by omega, fun k hk => by omega, fun i j hi => by omega⟩)
  have HL4 := hid HR.out.lt
  clear hu4 HR HB4
  obtain ⟨R, hR⟩ : ∃ R : Nat → Nat → Bool, R = fun a b => reachB n G a b := ⟨_, rfl⟩
  have HRR := hid hR
  rw [← hR] at HRS
  clear hR
  go_upto_block 0 with fail
  go_wp2_with fail
  go_loopw [36] (fun iv wr => ∃ (k : Nat) (h : Nat → Nat), iv = .int .i64 (k : Int) ∧ k ≤ n ∧ Hid (Mat u3.heap.size wr u3.heap.size n k h R) ∧ Hid (Box wr w4.heap.size [.slice (some ⟨u3.heap.size, 0, none⟩) n n]) ∧ Hid (KB u3.heap.size u3 wr)) (fun iv _ => n - (intOf iv).toNat)
  case atStart => exact ⟨0, _, rfl, Nat.zero_le _, hid (HM4.out.same fun k j hk _ => by omega), HXR, HK4⟩
  case round =>
    clear HM4 HXR HK4
    rename World => wr
    obtain ⟨k, h, rfl, hk, HMT, HBX, HK⟩ := hrel
    have k0 : (0 : Int) ≤ (k : Int) := by omega
    by_cases hlt : k < n
    · have k1 : (k : Int) < (n : Int) := by omega
      have HLT := hid hlt
      have HS := hid HMT.out.row.lt
      have HRE := hid (preach_any u2.heap.size g0 n h0 G k wr.drew (by omega) hlt (HM0.out.kb (kb_drewJ HK.out)) (by have := HK.out.size; have := HM0.out.row.low; have := HM0.out.row.lt; show _ ≤ wr.heap.size; omega))
      go_upto_region 9 with fail
      have hS : Box wr.drew w4.heap.size [.slice (some ⟨u3.heap.size, 0, none⟩) n n] := HBX.out.kb (kb_drewJ (kb_refl _))
      refine wp_planS (fun u => Box u w4.heap.size [.slice (some ⟨u3.heap.size, 0, none⟩) n n]) (.call [0, 1, 2, 3] 4 (.call [5] 6 (.last []))) (by first | assumption | skip) (by kernel_rfl) (by intro _ _ d _ _ h; cases d <;> exact h) (by kernel_rfl) ?_
      have iS : Nonempty (SW fun u => Box u w4.heap.size [.slice (some ⟨u3.heap.size, 0, none⟩) n n]) := ⟨⟨_, hS⟩⟩
      have q0 := fun (z : SW fun u => Box u w4.heap.size [.slice (some ⟨u3.heap.size, 0, none⟩) n n]) => z.ok.2 0 _ rfl
      have ql := fun (z : SW fun u => Box u w4.heap.size [.slice (some ⟨u3.heap.size, 0, none⟩) n n]) => z.ok.1
      with_reducible refine plan_call ?_
      simp only [pickOps, List.map_cons, List.map_nil, List.getElem?_toArray, List.getElem?_cons_zero, List.getElem?_cons_succ, Option.getD_some]
      repeat go_big_quiet_step (fail)
      refine wpQuiet_nil ?_
      go_wp2_with fail
      refine HRE.out.mono ?_
      rintro _ u6 ⟨x, rfl, hx, hb⟩
      have HB6 := hid (show KB wr.heap.size wr u6 from kb_tr (kb_drewJ (kb_refl wr)) hb)
      have HX6 := hid hx
      have HM6 := hid (HMT.out.kb HB6.out)
      have HBX6 := hid (HBX.out.kb HB6.out)
      clear hx hb
      go_wp2_with fail
      refine plan_onS (HBX6.out) ?_
      have sf : ∀ j, u6.frozen? ⟨u3.heap.size, j, none⟩ = false := HM6.out.row.soft
      have cg := HM6.out.row.cell k HLT.out
      rw [if_neg (Nat.lt_irrefl k)] at cg
      with_reducible refine plan_call ?_
      simp only [pickOps, List.map_cons, List.map_nil, List.getElem?_toArray, List.getElem?_cons_zero, List.getElem?_cons_succ, Option.getD_some]
      repeat go_big_quiet_step (fail)
      refine wpQuiet_nil ?_
      go_wp2_with fail
      refine plan_onS (HBX6.out.putOther (by have := HL4.out; omega) _) ?_
      with_reducible refine plan_last ?_
      simp only [pickOps, List.map_cons, List.map_nil, List.getElem?_toArray, List.getElem?_cons_zero, List.getElem?_cons_succ, Option.getD_some]
      repeat go_big_quiet_step (fail)
      refine wpQuiet_nil ?_
      clear iS q0 ql
      go_wp2_with fail
      refine ⟨⟨k + 1, _, by go_num, by omega, hid ((HM6.out.add HLT.out (f := reachB n G k) (HX6.out.base (by have := HK.out.size; show _ ≤ wr.heap.size; omega)) (by have := HX6.out.low; have := HS.out; have : wr.heap.size ≤ x := HX6.out.low; omega) (fun i hi => by have := (HMT.out.sub i hi).lt; have : wr.heap.size ≤ x := HX6.out.low; omega)).same fun i j hi _ => by
        by_cases e : i = k
        · rw [if_pos e, e, HRR.out]
        · rw [if_neg e]), hid (HBX6.out.putOther (by have := HL4.out; omega) _), hid (kb_putJ (kb_tr HK.out HB6.out) (Nat.le_refl _) _)⟩, ?_⟩
      simp [intOf] <;> omega
    · obtain rfl : n = k := by omega
      have k1 : ¬ (n : Int) < (n : Int) := by omega
      have HLNW := hid (HLN3.out.kb HK.out)
      have HKW := hid (kb_tr HB0.out (kb_tr HK3.out HK.out))
      clear HRR HM0 HK HLN3
      obtain ⟨i2, f1, f2, f3, f4⟩ := bool_info
      have HI2 := hid (And.intro f1 (And.intro f2 (And.intro f3 f4)))
      clear f1 f2 f3 f4
      go_upto_block 2 with (at_make; refine wpList_make_full wr rfl _ _ _ rfl wr.heap.size 4 i2 (.bool false) 1 Tryz.underlying112 HI2.out.1 HI2.out.2.1 HI2.out.2.2.1 .i64 .i64 n n n rfl rfl rfl rfl (by rw [HI2.out.2.2.2]; omega) (by unfold maxLen; omega) (Nat.le_refl _) ?_; intro w8 h1 h2; have HGO := hid (ArrV.of_own h1 (h1.lt _ rfl).2 (h1.lt _ rfl).1); have HB8 := hid (show KB wr.heap.size wr w8 from (Go.RowKit.Below.refl _ _).grown h2 (Nat.le_refl _) (fun k hk => by cases hk)); clear h1 h2)
      have HM8 := hid (HMT.out.kb HB8.out)
      have HX8 := hid (HBX.out.kb HB8.out)
      have HNEX := hid (show w4.heap.size ≠ wr.heap.size ∧ (u3.heap.size ≠ wr.heap.size ∧ ∀ k, k < n → h k ≠ wr.heap.size) from ⟨by have := HBX.out.1; omega, by have := HMT.out.row.lt; omega, fun k hk => by have := (HMT.out.sub k hk).lt; omega⟩)
      have HW8 := hid (show wr.heap.size < w8.heap.size from HGO.out.lt)
      clear HMT HBX
      go_wp2_with fail
      go_loopw [11] (fun ov wx => ∃ (f : Nat) (v : Value) (ps : List GrpP) (o : Nat → Bool), ov = v ∧ Hid (cntF n o < f) ∧ Hid (ps.length + cntF n o ≤ n) ∧ Hid (res = ps.map (·.l) ++ groupsL names n R f o) ∧ Hid (ArrV wr.heap.size wx wr.heap.size n (fun j => .bool (o j))) ∧ Hid (Deep 31 1 gpC GrpSub wx w8.heap.size v ps) ∧ Hid (w8.grownBy wx (some wr.heap.size))) (fun ov _ => n + 1 - lenV ov)
      case atStart => exact ⟨n + 1, _, [], fun _ => false, rfl, hid (by rw [cntF_all]; omega), hid (by rw [cntF_all]; simp), hid HRS.out, HGO, hid Deep.nil, hid (World.grownBy.refl _ _)⟩
      case round =>
        clear HGO HRS
        rename World => wx
        obtain ⟨f, v, ps, o, hv, HCF, HCN, HRES, HA, HD, HG⟩ := hrel
        have hv := hv.symm
        subst hv
        cases f with
        | zero => exact absurd HCF.out (by omega)
        | succ f =>
        obtain ⟨NX, hNX⟩ : ∃ x, nextX names n R o = x := ⟨_, rfl⟩
        have HNX0 := hid (show NX = (List.range' 0 n).foldl (stepX names n R o) none from hNX.symm)
        have HNX9 := hid hNX
        clear hNX
        have HMX := hid (HM8.out.grown HG.out HNEX.out.2.1 HNEX.out.2.2)
        have HXX := hid (box_grown HX8.out HG.out HNEX.out.1)
        have HLX := hid (lies_from HLNW.out HB8.out HG.out (Nat.le_refl _))
        obtain ⟨Ao, co, hvo, hlo, -, -⟩ := OwnL.lies (f := gpC) (n := 1) (fun _ => rfl) HD.out.1
        subst hvo
        have HLO := hid hlo
        clear hlo
        go_upto_block 4 with fail
        go_wp2_with fail
        go_loopw [52, 12] (fun av nv wy => ∃ (a d : Nat) (nx : Option Nat), av = .int .i64 (a : Int) ∧ nv = .int .i64 (nxI nx) ∧ a + d = n ∧ Hid (NX = (List.range' a d).foldl (stepX names n R o) nx) ∧ Hid (∀ k, nx = some k → k < n ∧ o k = false) ∧ wy = wx) (fun av _ _ => n - (intOf av).toNat)
        case atStart => exact ⟨0, n, none, rfl, rfl, Nat.zero_add n, HNX0, hid (fun k h => by cases h), rfl⟩
        case round =>
          clear HNX0
          rename World => wy
          obtain ⟨a, d, nx, rfl, rfl, had, HNX, HNB, hwy⟩ := hrel
          obtain rfl : wx = wy := hwy.symm
          have a0 : (0 : Int) ≤ (a : Int) := by omega
          cases d with
          | zero =>
            obtain rfl : n = a := by omega
            have a1 : ¬ (n : Int) < (n : Int) := by omega
            have HNE := hid (show NX = nx from HNX.out)
            cases nx with
            | none =>
              dsimp only [nxI]
              go_wp2_with fail
              try rw [Exit.noGoto_ret]
              try (first | go_ret | go_ret2)
              exact ⟨Ao, co, ps, rfl, by rw [HRES.out, groupsL_none (HNX9.out.trans HNE.out)]; simp, ⟨HLO.out, fun x hx => GrpSub.mono _ _ x (Mono.of_mask _ _ _) (HD.out.2 x hx), by have := HCN.out; omega⟩, kb_tr HKW.out (HB8.out.grown HG.out HB8.out.size (fun k hk => by injection hk with hk; omega))⟩
            | some k =>
              obtain ⟨hkn, hok⟩ := HNB.out k rfl
              have HKN := hid hkn
              have HOK := hid hok
              have HRS3 := hid (show groupsL names n R (f + 1) o = sortB ((List.range' 0 n).flatMap (nameX names R k)) :: groupsL names n R f (goneX R k n o) from groupsL_some (HNX9.out.trans HNE.out))
              clear hok
              have kk0 : (0 : Int) ≤ (k : Int) := by omega
              have kk1 : ¬ (k : Int) < 0 := by omega
              dsimp only [nxI]
              obtain ⟨GL, hGL⟩ : ∃ l, (List.range' 0 n).flatMap (nameX names R k) = l := ⟨_, rfl⟩
              rw [hGL] at HRS3
              have HGL0 := hid hGL
              clear hGL
              go_upto_block 8 with fail
              go_wp2_with fail
              go_loopw [111, 17] (fun iv gv wy => ∃ (i d : Nat) (v : Value) (gl : List ByteArray), iv = .int .i64 (i : Int) ∧ gv = v ∧ i + d = n ∧ Hid (GL = gl ++ (List.range' i d).flatMap (nameX names R k)) ∧ Hid (gl.length ≤ i) ∧ Hid (ArrV wr.heap.size wy wr.heap.size n (fun j => .bool (goneX R k i o j))) ∧ Hid (OwnL 9 1 cellT wy wx.heap.size v gl) ∧ Hid (wx.grownBy wy (some wr.heap.size))) (fun iv _ _ => n - (intOf iv).toNat)
              case atStart => exact ⟨0, n, _, [], rfl, rfl, Nat.zero_add n, hid HGL0.out.symm, hid (Nat.le_refl _), hid (HA.out.same fun j _ => by unfold goneX; simp), hid OwnL.nil, hid (World.grownBy.refl _ _)⟩
              case round =>
                rename World => wy
                obtain ⟨i, d, v, gl, rfl, hv, hid2, HGL, HGE, HAY, HOY, HGY⟩ := hrel
                have hv := hv.symm
                subst hv
                have i0 : (0 : Int) ≤ (i : Int) := by omega
                have HWX := hid (show wr.heap.size < wx.heap.size from Nat.lt_of_lt_of_le HW8.out HG.out.size)
                cases d with
                | zero =>
                  obtain rfl : n = i := by omega
                  have i1 : ¬ (n : Int) < (n : Int) := by omega
                  have HGX := hid (show GL = gl from by rw [HGL.out]; simp)
                  have HSO := hid (psort_any wx.heap.size v gl wy HOY.out HGY.out.size (by have := HGE.out; omega))
                  go_wp2_with fail
                  refine HSO.out.mono ?_
                  rintro _ wz ⟨rfl, hown, row, hgr, hrow⟩
                  have HGZ := hid (grown_new HGY.out hgr (fun q hq => (World.ownsRow.lt HOY.out _ (hrow q hq)).1))
                  have HDZ := hid (Deep.grown GrpSub.mono HD.out HGZ.out HW8.out)
                  have HAZ := hid (HAY.out.grown hgr (fun e => by have h1 := hrow _ e.symm; have := (World.ownsRow.lt HOY.out _ h1).1; have := HWX.out; omega))
                  obtain ⟨Ag, cg, rfl, hlg, hbg, -⟩ := OwnL.lies (f := cellT) (n := 1) (fun _ => rfl) hown
                  have HSB := hid (show GrpSub (mask wz w8.heap.size (Value.slice Ao ps.length co).ownBlock) ⟨sortB gl, Ag, cg⟩ from lies_mask hlg (fun ad h => ⟨Nat.le_trans HG.out.size (hbg ad h).1, fun e => by have := Deep.lt HD.out _ e; have := (hbg ad h).1; omega⟩))
                  have HGW := hid (grown_tr HG.out HGZ.out)
                  have hsz : w8.heap.size ≤ wz.heap.size := HGW.out.size
                  have hpl : ps.length ≤ 48 := by have := HCN.out; omega
                  have hol : ∀ u ∈ gpC ⟨sortB gl, Ag, cg⟩, u.oneCell' = true := fun u hu => by rcases List.mem_singleton.1 hu with rfl; rfl
                  have HOL := hid hol
                  have HRW := hid (show wz.ownsRow w8.heap.size 31 1 (.slice Ao ps.length co) ps.length (ps.flatMap gpC) from HDZ.out.1)
                  clear hgr hrow hown hlg hbg hol
                  go_wp2_with (at_builtin; refine wpList_app1y EKgrps rfl (.tmp 130) (.tmp 132) rfl (gpC ⟨sortB gl, Ag, cg⟩) HRW.out rfl rfl rfl HOL.out (by unfold maxLen; omega) (by omega) hsz ?_; intro v' w9 h2 h3 h4 h5)
                  have HDN := hid (Deep.snoc GrpSub.mono HDZ.out HSB.out h2 h4 h5)
                  have HGN := hid (grown_new HGW.out h4 (fun q hq => (World.ownsRow.lt HRW.out _ hq).1))
                  have HAN := hid (HAZ.out.grown h4 (fun e => by have := (World.ownsRow.lt HRW.out _ e.symm).1; have := HW8.out; omega))
                  have HGM := hid (goneX_more (R := R) HKN.out HOK.out)
                  obtain ⟨g', cap', rfl⟩ := ownsRow_succ h2
                  refine ⟨⟨f, _, ps ++ [⟨sortB gl, Ag, cg⟩], goneX R k n o, rfl, hid (by have := HGM.out; have := HCF.out; omega), hid (by rw [List.length_append]; have := HGM.out; have := HCN.out; simp; omega), hid (by rw [HRES.out, HRS3.out, HGX.out]; simp), HAN, HDN, HGN⟩, ?_⟩
                  have hpn : ps.length ≤ n := by have := HCN.out; omega
                  show n + 1 - (ps.length + 1) < n + 1 - ps.length
                  omega
                | succ d =>
                  have hin : i < n := by omega
                  have i1 : (i : Int) < (n : Int) := by omega
                  have HIN := hid hin
                  have HLY := hid (lies_from HLNW.out HB8.out (grown_tr HG.out HGY.out) (Nat.le_refl _))
                  obtain ⟨bN, oN, hN, hbN, hcN⟩ := HLY.out.at_ (k := i) (by rw [HNL.out]; exact hin)
                  subst hN
                  have cN := hcN 0 _ rfl
                  rw [Nat.mul_one, Nat.add_zero] at cN
                  have HGA := hid (show nameX names R k i = if oneB R k i then [names[i]'(by rw [HNL.out]; exact hin)] else [] from by unfold nameX; rw [List.getD_eq_getElem?_getD, List.getElem?_eq_getElem (by rw [HNL.out]; exact hin), Option.getD_some])
                  generalize names[i]'(by rw [HNL.out]; exact hin) = sa at *
                  have HXY := hid (box_grown HXX.out HGY.out HNEX.out.1)
                  have HMY := hid (HMX.out.grown HGY.out HNEX.out.2.1 HNEX.out.2.2)
                  have HONE := hid (pone_any u3.heap.size w4.heap.size u3.heap.size n h R k i wy (by omega) HKN.out hin HXY.out HMY.out)
                  have HST := hid (HGL.out.trans (by rw [List.range'_succ, List.flatMap_cons, HGA.out]))
                  have HGS := hid (fun j => goneX_step (k := k) (i := i) (R := R) (o := o) j)
                  clear hcN HGL HMY HXY
                  obtain ⟨r1, hr1⟩ : ∃ r, oneB R k i = r := ⟨_, rfl⟩
                  rw [hr1] at HST HONE HGS
                  clear hr1
                  have HCN1 := hid (And.intro hbN cN)
                  go_wp2_with fail
                  refine HONE.out.mono ?_
                  rintro _ _ ⟨rfl, rfl⟩
                  cases r1 with
                  | false =>
                    have HNG := hid (show GL = gl ++ (List.range' (i + 1) d).flatMap (nameX names R k) from by rw [HST.out]; simp)
                    have HA2 := hid (HAY.out.same (f' := fun j => .bool (goneX R k (i + 1) o j)) fun j _ => by rw [HGS.out j, if_neg (by simp)])
                    go_wp2_with fail
                    refine ⟨⟨i + 1, d, v, gl, by go_num, rfl, by omega, HNG, hid (by have := HGE.out; omega), HA2, HOY, HGY⟩, ?_⟩
                    simp [intOf] <;> omega
                  | true =>
                    have HNG := hid (show GL = (gl ++ [sa]) ++ (List.range' (i + 1) d).flatMap (nameX names R k) from by rw [HST.out]; simp)
                    have sf : ∀ j, wy.frozen? ⟨wr.heap.size, j, none⟩ = false := HAY.out.soft
                    have cg := HAY.out.cell i hin
                    have lg := HAY.out.lt
                    go_upto_region 35 with fail
                    refine wp_name ?_
                    intro wq hwq
                    have HA2 := hid (show ArrV wr.heap.size wq wr.heap.size n (fun j => .bool (goneX R k (i + 1) o j)) from by rw [hwq]; exact (HAY.out.put HIN.out (.bool true)).same fun j _ => by rw [HGS.out j]; by_cases e : j = i <;> simp [e])
                    have HGQ := hid (show wy.grownBy wq (some wr.heap.size) from by rw [hwq]; exact grown_put _ _ _ _)
                    have HOQ := hid (show OwnL 9 1 cellT wq wx.heap.size v gl from own_grown HOY.out HGQ.out (fun e => by have := (World.ownsRow.lt HOY.out _ e).1; have := HWX.out; omega))
                    have HGX := hid (grown_tr HGY.out HGQ.out)
                    clear hwq sf cg lg
                    have hgl : gl.length ≤ 48 := by have := HGE.out; omega
                    have hsz : wx.heap.size ≤ wq.heap.size := HGX.out.size
                    have HRW := hid (show wq.ownsRow wx.heap.size 9 1 v gl.length (gl.flatMap cellT) from HOQ.out)
                    go_wp2_with (at_builtin; refine wpList_app1y EKstrs rfl (.tmp 123) (.tmp 125) rfl (cellT sa) HRW.out rfl rfl rfl (cellT_one1G sa) (by unfold maxLen; omega) (by omega) hsz ?_; intro v' w3 h2 h3 h4 h5; have HO3 := hid (OwnL.snoc h2); have HG3 := hid (grown_new HGX.out h4 (fun q hq => (World.ownsRow.lt HOQ.out _ hq).1)); have HA3 := hid (HA2.out.grown h4 (fun e => by have := (World.ownsRow.lt HOQ.out _ e.symm).1; have := HWX.out; omega)))
                    refine ⟨⟨i + 1, d, _, gl ++ [sa], by go_num, rfl, by omega, HNG, hid (by rw [List.length_append]; have := HGE.out; simp; omega), HA3, HO3, HG3⟩, ?_⟩
                    simp [intOf] <;> omega
          | succ d =>
            have han : a < n := by omega
            have a1 : (a : Int) < (n : Int) := by omega
            have HAN := hid han
            obtain ⟨bN, oN, hN, hbN, hcN⟩ := HLX.out.at_ (k := a) (by rw [HNL.out]; exact han)
            subst hN
            have cN := hcN 0 _ rfl
            rw [Nat.mul_one, Nat.add_zero] at cN
            have HGA := hid (show names.getD a ⟨#[]⟩ = names[a]'(by rw [HNL.out]; exact han) from by rw [List.getD_eq_getElem?_getD, List.getElem?_eq_getElem (by rw [HNL.out]; exact han), Option.getD_some])
            generalize names[a]'(by rw [HNL.out]; exact han) = sa at *
            have HST := hid (HNX.out.trans (by rw [List.range'_succ, List.foldl_cons]))
            obtain ⟨RD, hRD⟩ : ∃ r, readyB n R o a = r := ⟨_, rfl⟩
            have HRD := hid (show RD = (!o a && (List.range' 0 n).all (fun t => o t || (oneB R a t || !R a t))) from hRD.symm)
            have HSX := hid (show stepX names n R o nx a = if RD && canX names sa nx then some a else nx from by unfold stepX; rw [hRD, HGA.out])
            have HOA := hid (show RD = true → o a = false from fun h => by rw [HRD.out] at h; simp at h; exact h.1)
            have ca := HA.out.cell a han
            have la := HA.out.lt
            clear hcN hRD HNX
            go_upto_block 6 with fail
            clear cN ca la
            go_wp2_with fail
            go_loopw [64, 15] (fun tv rv wz => ∃ (t d2 : Nat) (b : Bool), tv = .int .i64 (t : Int) ∧ rv = .bool b ∧ t + d2 = n ∧ Hid (RD = (b && (List.range' t d2).all (fun t => o t || (oneB R a t || !R a t)))) ∧ wz = wx) (fun tv _ _ => n - (intOf tv).toNat)
            case atStart => exact ⟨0, n, _, rfl, rfl, Nat.zero_add n, HRD, rfl⟩
            case round =>
              rename World => wz
              obtain ⟨t, d2, b, rfl, rfl, htd, HRB, hwz⟩ := hrel
              obtain rfl : wx = wz := hwz.symm
              have t0 : (0 : Int) ≤ (t : Int) := by omega
              cases d2 with
              | zero =>
                obtain rfl : n = t := by omega
                have t1 : ¬ (n : Int) < (n : Int) := by omega
                have HRB2 := hid (show RD = b from by rw [HRB.out]; simp)
                cases b with
                | false =>
                  have HNN := hid (show NX = (List.range' (a + 1) d).foldl (stepX names n R o) nx from by rw [HST.out, HSX.out, HRB2.out]; rfl)
                  go_wp2_with fail
                  first
                    | (go_roundw
                       case rel => exact ⟨a + 1, d, nx, by go_num, rfl, by omega, HNN, HNB, by first | trivial | rfl⟩
                       case measure => simp [intOf] <;> omega)
                    | (refine ⟨⟨a + 1, d, nx, by go_num, rfl, by omega, HNN, HNB, by first | trivial | rfl⟩, ?_⟩
                       simp [intOf] <;> omega)
                | true =>
                  have HBA := hid (show ∀ k, some a = some k → k < n ∧ o k = false from fun k hk => by injection hk with hk; subst hk; exact ⟨HAN.out, HOA.out HRB2.out⟩)
                  cases nx with
                  | none =>
                    have HNN := hid (show NX = (List.range' (a + 1) d).foldl (stepX names n R o) (some a) from by rw [HST.out, HSX.out, HRB2.out]; rfl)
                    dsimp only [nxI]
                    go_wp2_with fail
                    first
                      | (go_roundw
                         case rel => exact ⟨a + 1, d, some a, by go_num, rfl, by omega, HNN, HBA, by first | trivial | rfl⟩
                         case measure => simp [intOf] <;> omega)
                      | (refine ⟨⟨a + 1, d, some a, by go_num, rfl, by omega, HNN, HBA, by first | trivial | rfl⟩, ?_⟩
                         simp [intOf] <;> omega)
                  | some k =>
                    have hkn := (HNB.out k rfl).1
                    obtain ⟨bN', oN', hN', hbN', hcN'⟩ := HLX.out.at_ (k := k) (by rw [HNL.out]; exact hkn)
                    have hN' := Option.some.inj hN'
                    injection hN' with e1 e2 e3
                    subst e1
                    subst e2
                    have cK := hcN' 0 _ rfl
                    rw [Nat.mul_one, Nat.add_zero] at cK
                    have HGK := hid (show names.getD k ⟨#[]⟩ = names[k]'(by rw [HNL.out]; exact hkn) from by rw [List.getD_eq_getElem?_getD, List.getElem?_eq_getElem (by rw [HNL.out]; exact hkn), Option.getD_some])
                    generalize names[k]'(by rw [HNL.out]; exact hkn) = sk at *
                    obtain ⟨lb, hlb⟩ : ∃ b, Op.bytesLess (bts sa) (bts sk) = b := ⟨_, rfl⟩
                    have HCX := hid (show canX names sa (some k) = lb from by show lessB sa (names.getD k ⟨#[]⟩) = lb; rw [HGK.out]; exact hlb)
                    have kk0 : (0 : Int) ≤ (k : Int) := by omega
                    have kk1 : (k : Int) < (n : Int) := by omega
                    have kk2 : ¬ (k : Int) < 0 := by omega
                    dsimp only [nxI]
                    clear hcN'
                    cases lb with
                    | false =>
                      have HNN := hid (show NX = (List.range' (a + 1) d).foldl (stepX names n R o) (some k) from by rw [HST.out, HSX.out, HRB2.out, HCX.out]; rfl)
                      go_wp2_with fail
                      first
                        | (go_roundw
                           case rel => exact ⟨a + 1, d, some k, by go_num, rfl, by omega, HNN, HNB, by first | trivial | rfl⟩
                           case measure => simp [intOf] <;> omega)
                        | (refine ⟨⟨a + 1, d, some k, by go_num, rfl, by omega, HNN, HNB, by first | trivial | rfl⟩, ?_⟩
                           simp [intOf] <;> omega)
                    | true =>
                      have HNN := hid (show NX = (List.range' (a + 1) d).foldl (stepX names n R o) (some a) from by rw [HST.out, HSX.out, HRB2.out, HCX.out]; rfl)
                      go_wp2_with fail
                      first
                        | (go_roundw
                           case rel => exact ⟨a + 1, d, some a, by go_num, rfl, by omega, HNN, HBA, by first | trivial | rfl⟩
                           case measure => simp [intOf] <;> omega)
                        | (refine ⟨⟨a + 1, d, some a, by go_num, rfl, by omega, HNN, HBA, by first | trivial | rfl⟩, ?_⟩
                           simp [intOf] <;> omega)
              | succ d2 =>
                have htn : t < n := by omega
                have t1 : (t : Int) < (n : Int) := by omega
                have ct := HA.out.cell t htn
                have lt := HA.out.lt
                have HRB2 := hid (HRB.out.trans (by rw [List.range'_succ, List.all_cons]))
                cases b with
                | false =>
                  have HNR := hid (show RD = (false && (List.range' (t + 1) d2).all (fun t => o t || (oneB R a t || !R a t))) from by rw [HRB2.out]; rfl)
                  go_wp2_with fail
                  first
                    | (go_roundw
                       case rel => exact ⟨t + 1, d2, false, by go_num, rfl, by omega, HNR, by first | trivial | rfl⟩
                       case measure => simp [intOf] <;> omega)
                    | (refine ⟨⟨t + 1, d2, false, by go_num, rfl, by omega, HNR, by first | trivial | rfl⟩, ?_⟩
                       simp [intOf] <;> omega)
                | true =>
                  cases hot : o t with
                  | true =>
                    rw [hot] at ct
                    have HNR := hid (show RD = (true && (List.range' (t + 1) d2).all (fun t => o t || (oneB R a t || !R a t))) from by rw [HRB2.out, hot]; rfl)
                    clear hot
                    go_wp2_with fail
                    first
                        | (go_roundw
                           case rel => exact ⟨t + 1, d2, true, by go_num, rfl, by omega, HNR, by first | trivial | rfl⟩
                           case measure => simp [intOf] <;> omega)
                        | (refine ⟨⟨t + 1, d2, true, by go_num, rfl, by omega, HNR, by first | trivial | rfl⟩, ?_⟩
                           simp [intOf] <;> omega)
                  | false =>
                    rw [hot] at ct
                    have HNR0 := hid (show RD = (true && ((oneB R a t || !R a t) && (List.range' (t + 1) d2).all (fun t => o t || (oneB R a t || !R a t)))) from by rw [HRB2.out, hot]; rfl)
                    clear hot
                    have HONE := hid (pone_any u3.heap.size w4.heap.size u3.heap.size n h R a t wx (by omega) HAN.out htn HXX.out HMX.out)
                    have x0 := HXX.out.2 0 _ rfl
                    have xl := HXX.out.1
                    have ra := HMX.out.head HAN.out
                    have rl := HMX.out.row.lt
                    have rt := (HMX.out.sub a HAN.out).cell t htn
                    have rtl := (HMX.out.sub a HAN.out).lt
                    generalize h a = ha at ra rt rtl
                    obtain ⟨r1, hr1⟩ : ∃ r, oneB R a t = r := ⟨_, rfl⟩
                    obtain ⟨r2, hr2⟩ : ∃ r, R a t = r := ⟨_, rfl⟩
                    rw [hr1] at HNR0 HONE
                    rw [hr2] at HNR0 rt
                    clear hr1 hr2
                    go_wp2_with fail
                    refine HONE.out.mono ?_
                    rintro _ _ ⟨rfl, rfl⟩
                    cases r1 with
                    | true =>
                      have HNR := hid (show RD = (true && (List.range' (t + 1) d2).all (fun t => o t || (oneB R a t || !R a t))) from by rw [HNR0.out]; rfl)
                      go_wp2_with fail
                      first
                        | (go_roundw
                           case rel => exact ⟨t + 1, d2, true, by go_num, rfl, by omega, HNR, by first | trivial | rfl⟩
                           case measure => simp [intOf] <;> omega)
                        | (refine ⟨⟨t + 1, d2, true, by go_num, rfl, by omega, HNR, by first | trivial | rfl⟩, ?_⟩
                           simp [intOf] <;> omega)
                    | false =>
                      have HNR := hid (show RD = (!r2 && (List.range' (t + 1) d2).all (fun t => o t || (oneB R a t || !R a t))) from by rw [HNR0.out]; cases r2 <;> rfl)
                      go_wp2_with fail
                      first
                        | (go_roundw
                           case rel => exact ⟨t + 1, d2, !r2, by go_num, rfl, by omega, HNR, by first | trivial | rfl⟩
                           case measure => simp [intOf] <;> omega)
                        | (refine ⟨⟨t + 1, d2, !r2, by go_num, rfl, by omega, HNR, by first | trivial | rfl⟩, ?_⟩
                           simp [intOf] <;> omega)
end Go.Proofs.YtlmkglgjdmjnkaaGreatDoor
