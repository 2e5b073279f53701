/- Parts 10 of the proofs. -/
import Derived.Test.YtlmkglgjdmjnkaaGreatDoorQ8
import Derived.Test.YtlmkglgjdmjnkaaGreatDoorQ9
import Derived.Test.YtlmkglgjdmjnkaaGreatDoorQ6
namespace Go.Proofs.YtlmkglgjdmjnkaaGreatDoor
open Go.RowKit Go.Lib
set_option linter.unusedVariables false
set_option linter.unusedSimpArgs false
def relV (v : Ver) : Ver := ⟨v.maj, v.min, v.pat, ⟨#[]⟩, ⟨#[]⟩⟩
def leastV (v : Ver) : Bool := v.maj == 0 && v.min == 0 && v.pat == 0
def bumpV (v : Ver) (p : Int) : Ver := if p = 0 then ⟨v.maj + 1, 0, 0, ⟨#[]⟩, ⟨#[]⟩⟩ else if p = 1 then ⟨v.maj, v.min + 1, 0, ⟨#[]⟩, ⟨#[]⟩⟩ else ⟨v.maj, v.min, v.pat + 1, ⟨#[]⟩, ⟨#[]⟩⟩
def bumpL (v : Ver) (p : Int) : Ver × Bool := if mayV v && mayV (bumpV v p) then (bumpV v p, true) else (zeroV, false)
def nextL (v : Ver) : Ver × Bool := if mayV v = false then (zeroV, false) else if bts v.pre ≠ [] then (relV v, true) else
  if (bumpL v 2).2 then bumpL v 2 else if (bumpL v 1).2 then bumpL v 1 else if (bumpL v 0).2 then bumpL v 0 else (zeroV, false)
theorem nums {v : Ver} (h : mayV v = true) : (0 ≤ v.maj ∧ v.maj ≤ 9999) ∧ (0 ≤ v.min ∧ v.min ≤ 9999) ∧ (0 ≤ v.pat ∧ v.pat ≤ 9999) := by
  simp only [mayV, fitsI, Bool.and_eq_true, decide_eq_true_eq] at h
  exact ⟨h.1.1.1.1, h.1.1.1.2, h.1.1.2⟩
theorem relV_pre (v : Ver) : bts (relV v).pre = [] := bts_e
theorem relV_bld (v : Ver) : bts (relV v).bld = [] := bts_e
theorem relV_self {v : Ver} (h1 : bts v.pre = []) (h2 : bts v.bld = []) : relV v = v := ver_ext rfl rfl rfl (by rw [relV_pre, h1]) (by rw [relV_bld, h2])
theorem bumpL_yes {v : Ver} {p : Int} (h : mayV v = true) (k : mayV (bumpV v p) = true) : bumpL v p = (bumpV v p, true) := by rw [bumpL, h, k]; rfl
theorem bumpL_no {v : Ver} {p : Int} (k : mayV (bumpV v p) = false) : bumpL v p = (zeroV, false) := by rw [bumpL, k, Bool.and_false]; rfl
def uptoL (v : Ver) : CutL := if (nextL v).2 then ⟨0, (nextL v).1, false⟩ else lastC
def aheadR (v : Ver) : CutL := if leastV v then firstC else ⟨0, relV v, false⟩
def turnedL (c : CutL) : CutL := if c.en ≠ 0 then c else if c.aft && (bts c.v.pre).isEmpty then uptoL (relV c.v) else aheadR c.v
def rightC (c : CutL) : Bool := decide (c.en ≠ 0) || (!c.aft && (bts c.v.pre).isEmpty && !leastV c.v)
def settledC (c : CutL) : Bool := decide (c.en ≠ 0) || (!c.aft && (bts c.v.pre).isEmpty && !eqVer c.v zeroV)
theorem least_iff {v : Ver} : leastV v = true ↔ v.maj = 0 ∧ v.min = 0 ∧ v.pat = 0 := by simp [leastV, and_assoc]
theorem eqVer_rel {v : Ver} (h1 : bts v.pre = []) (h2 : bts v.bld = []) : eqVer v zeroV = leastV v := by
  rw [Bool.eq_iff_iff, eqVer_iff, least_iff]
  constructor
  · rintro rfl; exact ⟨rfl, rfl, rfl⟩
  · rintro ⟨a, b, c⟩
    rw [← relV_self h1 h2, relV, a, b, c]; rfl
theorem settled_right {c : CutL} (h : mayC c = true) : settledC c = rightC c := by
  by_cases h0 : c.en ≠ 0
  · simp [settledC, rightC, h0]
  · rcases mayC_cases h with ⟨_, _, hb⟩ | ⟨h1, _⟩
    · by_cases hp : bts c.v.pre = []
      · simp only [settledC, rightC, eqVer_rel hp hb]
      · have : (bts c.v.pre).isEmpty = false := by simp [hp]
        simp [settledC, rightC, this]
    · omega
end Go.Proofs.YtlmkglgjdmjnkaaGreatDoor
namespace Go.Proofs.YtlmkglgjdmjnkaaGreatDoor
open Go.RowKit Go.Lib
set_option linter.unusedVariables false
set_option linter.unusedSimpArgs false
theorem soft_2 {w w1 : World} {cs ds : List Value} {t s : TypeId} (hb : Below ((w.alloc (.cells cs.toArray t)).alloc (.cells ds.toArray s)).heap.size ((w.alloc (.cells cs.toArray t)).alloc (.cells ds.toArray s)) w1) : Soft w1 w.heap.size ∧ Soft w1 (w.heap.size + 1) := by
  constructor
  · exact ((Soft.new w cs.toArray t).below (by simp) (below_new _ _)).below (by simp; omega) hb
  · have := (Soft.new (w.alloc (.cells cs.toArray t)) ds.toArray s).below (by simp) hb
    simpa using this
theorem box_3 {w w1 : World} {cs ds es : List Value} {t s u : TypeId} (hb : Below (((w.alloc (.cells cs.toArray t)).alloc (.cells ds.toArray s)).alloc (.cells es.toArray u)).heap.size (((w.alloc (.cells cs.toArray t)).alloc (.cells ds.toArray s)).alloc (.cells es.toArray u)) w1) :
    Box w1 w.heap.size cs ∧ Box w1 (w.heap.size + 1) ds ∧ Box w1 (w.heap.size + 1 + 1) es ∧ Soft w1 (w.heap.size + 1 + 1) ∧ Below w.heap.size w w1 := by
  refine ⟨(((Box.new w cs t).below (below_new _ _)).below (below_new _ _)).below hb, ?_, ?_, ?_, below_tr (below_tr (below_tr (below_new _ _) (below_new _ _)) (below_new _ _)) hb⟩
  · have := ((Box.new (w.alloc (.cells cs.toArray t)) ds s).below (below_new _ _)).below hb
    simpa using this
  · have := (Box.new ((w.alloc (.cells cs.toArray t)).alloc (.cells ds.toArray s)) es u).below hb
    simpa using this
  · have := (Soft.new ((w.alloc (.cells cs.toArray t)).alloc (.cells ds.toArray s)) es.toArray u).below (by simp) hb
    simpa using this
theorem Box.next {w w2 : World} {g : Nat} {cs : List Value} {o : Obj} (h : Box w g cs) (hb : Below (w.alloc o).heap.size (w.alloc o) w2) : Box w2 g cs := (h.below (below_new w o)).below hb
theorem Soft.next {w w2 : World} {g : Nat} {o : Obj} (h : Soft w g) (hg : g < w.heap.size) (hb : Below (w.alloc o).heap.size (w.alloc o) w2) : Soft w2 g := (h.below hg (below_new w o)).below (by simp; omega) hb
def SpanB (w : World) (base : Nat) (A : Option Addr) (l : List SpanL) : Prop := Spans w A l ∧ ∀ ad, A = some ad → base ≤ ad.block
theorem SpanB.below {w w' : World} {base : Nat} {A : Option Addr} {l : List SpanL} (h : SpanB w base A l) (hb : Below w.heap.size w w') : SpanB w' base A l := ⟨h.1.below hb, h.2⟩
theorem SpanB.low {w : World} {base b : Nat} {A : Option Addr} {l : List SpanL} (h : SpanB w base A l) (hb : b ≤ base) : SpanB w b A l := ⟨h.1, fun ad e => Nat.le_trans hb (h.2 ad e)⟩
theorem SpanB.nil (w : World) (base : Nat) : SpanB w base none [] := ⟨.inl rfl, fun _ e => by cases e⟩
theorem SpanB.own {w : World} {base : Nat} {v : Value} {l : List SpanL} (h : OwnS w base v l) : ∃ A c, v = .slice A l.length c ∧ SpanB w base A l := by
  obtain ⟨A, c, e, hs⟩ := h.spans
  refine ⟨A, c, e, hs, fun ad ea => ?_⟩
  rcases h.form with ⟨e2, _⟩ | ⟨g, c2, e2, hg, _⟩
  · rw [e] at e2; injection e2 with e3; rw [e3] at ea; cases ea
  · rw [e] at e2; injection e2 with e3; rw [e3] at ea; injection ea with ea; rw [← ea]; exact hg
theorem SpanB.set {w : World} {base g o : Nat} {vs : List Value} {A : Option Addr} {l : List SpanL} (h : SpanB w base A l) (hg : g < base) : SpanB (w.setCells g o vs) base A l := by
  refine ⟨?_, h.2⟩
  rcases h.1 with h1 | ⟨b, off, rfl, hb, hc⟩
  · exact .inl h1
  · have hne : b ≠ g := by have := h.2 _ rfl; simp only at this; omega
    exact .inr ⟨b, off, rfl, by rw [setCells_size]; exact hb, fun i hi j u hj => (World.cell?_of_block (a := ⟨b, _, none⟩) (setCells_block g b hne vs o w)).trans (hc i hi j u hj)⟩
section
variable {P : Program} {fn : Func} {R : Ending → World → Prop} {a : Act} {w : World} {v : Value} {g : Nat}
theorem ret5 {x0 x1 x2 x3 x4 : Value} {n0 n1 n2 : Int} {n3 n4 : ByteArray} (hx : Box w g [x0, x1, x2, x3, x4]) (hr : ∀ w3, Box w3 g (Ver.cells ⟨n0, n1, n2, n3, n4⟩) → (results fn a.tmps).run P w3 = .ok v w3) (hd : a.defers = [])
    (hR : ∀ w3, Below g w w3 → R (.returned v) w3) : bodyPost P fn R .ret a (((((w.setCell ⟨g, 0, none⟩ (.int .i64 n0)).setCell ⟨g, 1, none⟩ (.int .i64 n1)).setCell ⟨g, 2, none⟩ (.int .i64 n2)).setCell ⟨g, 3, none⟩ (.string n3)).setCell ⟨g, 4, none⟩ (.string n4)) := by
  rw [show (((((w.setCell ⟨g, 0, none⟩ (.int .i64 n0)).setCell ⟨g, 1, none⟩ (.int .i64 n1)).setCell ⟨g, 2, none⟩ (.int .i64 n2)).setCell ⟨g, 3, none⟩ (.string n3)).setCell ⟨g, 4, none⟩ (.string n4)) = w.setCells g 0 (Ver.cells ⟨n0, n1, n2, n3, n4⟩) from rfl]
  have hb : Box (w.setCells g 0 (Ver.cells ⟨n0, n1, n2, n3, n4⟩)) g (Ver.cells ⟨n0, n1, n2, n3, n4⟩) := hx.set (o := 0) (vs := Ver.cells ⟨n0, n1, n2, n3, n4⟩) (by simp)
  exact bodyPost_ret (hr _ hb) hd (hR _ (Below.setCells (Nat.le_refl _) _ _ (Below.refl _ _)))
theorem ret5n {x0 x1 x2 x3 x4 : Value} {n0 n1 n2 : Int} {n3 n4 : ByteArray} {o : Obj} (hx : Box w g [x0, x1, x2, x3, x4]) (hr : ∀ w3, Box w3 g (Ver.cells ⟨n0, n1, n2, n3, n4⟩) → (results fn a.tmps).run P w3 = .ok v w3) (hd : a.defers = [])
    (hR : ∀ w3, Below g w w3 → R (.returned v) w3) : bodyPost P fn R .ret a ((((((w.setCell ⟨g, 0, none⟩ (.int .i64 n0)).setCell ⟨g, 1, none⟩ (.int .i64 n1)).setCell ⟨g, 2, none⟩ (.int .i64 n2)).setCell ⟨g, 3, none⟩ (.string n3)).setCell ⟨g, 4, none⟩ (.string n4)).alloc o) := by
  rw [show (((((w.setCell ⟨g, 0, none⟩ (.int .i64 n0)).setCell ⟨g, 1, none⟩ (.int .i64 n1)).setCell ⟨g, 2, none⟩ (.int .i64 n2)).setCell ⟨g, 3, none⟩ (.string n3)).setCell ⟨g, 4, none⟩ (.string n4)) = w.setCells g 0 (Ver.cells ⟨n0, n1, n2, n3, n4⟩) from rfl]
  have hb : Box (w.setCells g 0 (Ver.cells ⟨n0, n1, n2, n3, n4⟩)) g (Ver.cells ⟨n0, n1, n2, n3, n4⟩) := hx.set (o := 0) (vs := Ver.cells ⟨n0, n1, n2, n3, n4⟩) (by simp)
  exact bodyPost_ret (hr _ (hb.below (below_new _ _))) hd (hR _ ((Below.setCells (Nat.le_refl _) _ _ (Below.refl _ _)).alloc (Nat.le_of_lt hb.1) _))
theorem ret7 {x0 x1 x2 x3 x4 x5 x6 : Value} {k n0 n1 n2 : Int} {n3 n4 : ByteArray} {b : Bool} (hx : Box w g [x0, x1, x2, x3, x4, x5, x6]) (hr : ∀ w3, Box w3 g (CutL.cells ⟨k, ⟨n0, n1, n2, n3, n4⟩, b⟩) → (results fn a.tmps).run P w3 = .ok v w3) (hd : a.defers = [])
    (hR : ∀ w3, Below g w w3 → R (.returned v) w3) : bodyPost P fn R .ret a (((((((w.setCell ⟨g, 0, none⟩ (.int .i64 k)).setCell ⟨g, 1, none⟩ (.int .i64 n0)).setCell ⟨g, 2, none⟩ (.int .i64 n1)).setCell ⟨g, 3, none⟩ (.int .i64 n2)).setCell ⟨g, 4, none⟩ (.string n3)).setCell ⟨g, 5, none⟩ (.string n4)).setCell ⟨g, 6, none⟩ (.bool b)) := by
  rw [show (((((((w.setCell ⟨g, 0, none⟩ (.int .i64 k)).setCell ⟨g, 1, none⟩ (.int .i64 n0)).setCell ⟨g, 2, none⟩ (.int .i64 n1)).setCell ⟨g, 3, none⟩ (.int .i64 n2)).setCell ⟨g, 4, none⟩ (.string n3)).setCell ⟨g, 5, none⟩ (.string n4)).setCell ⟨g, 6, none⟩ (.bool b)) = w.setCells g 0 (CutL.cells ⟨k, ⟨n0, n1, n2, n3, n4⟩, b⟩) from rfl]
  have hb : Box (w.setCells g 0 (CutL.cells ⟨k, ⟨n0, n1, n2, n3, n4⟩, b⟩)) g (CutL.cells ⟨k, ⟨n0, n1, n2, n3, n4⟩, b⟩) := hx.set (o := 0) (vs := (CutL.cells ⟨k, ⟨n0, n1, n2, n3, n4⟩, b⟩)) (by simp)
  exact bodyPost_ret (hr _ hb) hd (hR _ (Below.setCells (Nat.le_refl _) _ _ (Below.refl _ _)))
theorem ret2 {x0 x1 y0 y1 : Value} (hx : Box w g [x0, x1]) (hr : ∀ w3, Box w3 g [y0, y1] → (results fn a.tmps).run P w3 = .ok v w3) (hd : a.defers = [])
    (hR : Below g w (w.setCells g 0 [y0, y1]) → R (.returned v) (w.setCells g 0 [y0, y1])) : bodyPost P fn R .ret a ((w.setCell ⟨g, 0, none⟩ y0).setCell ⟨g, 1, none⟩ y1) := by
  rw [show ((w.setCell ⟨g, 0, none⟩ y0).setCell ⟨g, 1, none⟩ y1) = w.setCells g 0 [y0, y1] from rfl]
  have hb : Box (w.setCells g 0 [y0, y1]) g [y0, y1] := hx.set (o := 0) (vs := [y0, y1]) (by simp)
  exact bodyPost_ret (hr _ hb) hd (hR (Below.setCells (Nat.le_refl _) _ _ (Below.refl _ _)))
end
end Go.Proofs.YtlmkglgjdmjnkaaGreatDoor
namespace Go.Proofs.YtlmkglgjdmjnkaaGreatDoor
open Go.RowKit Go.Lib
set_option linter.unusedVariables false
set_option linter.unusedSimpArgs false
def VerOk (w : World) (r : Ver × Bool) (e : Ending) (w' : World) : Prop := e = .returned (.tuple #[r.1.val, .bool r.2]) ∧ Below w.heap.size w w'
theorem e_fit (a b c : Int) : (⟨a, b, c, ⟨#[]⟩, ⟨#[]⟩⟩ : Ver).fit := by simp only [Ver.fit]; decide
theorem i64_sm {n : Int} (h : 0 ≤ n ∧ n ≤ 9999) : IntKind.i64.wrap (n + 1) = n + 1 := IntWalk.i64_in _ (by omega)
theorem VerOk.of {w : World} {r : Ver × Bool} {e : Ending} {w' : World} {n : Ver} {b : Bool} (hr : r = (n, b)) (he : e = .returned (.tuple #[n.val, .bool b])) (hb : Below w.heap.size w w') : VerOk w r e w' := by subst hr; exact ⟨he, hb⟩
set_option maxRecDepth 100000 in
set_option maxHeartbeats 1000000 in
theorem rbump0_any (v : Ver) (w : World) (hv : v.fit) (hm : mayV v = true) : Calls Tryz.prog 136 #[v.val, .int .i64 0] w (VerOk w (bumpL v 0)) := by
  have hn := nums hm
  have y1 := i64_sm hn.1
  have y2 := i64_sm hn.2.1
  have y3 := i64_sm hn.2.2
  cases hk : mayV (⟨v.maj + 1, 0, 0, ⟨#[]⟩, ⟨#[]⟩⟩ : Ver)
  · have HB := hid (show bumpL v 0 = (zeroV, false) from bumpL_no hk)
    go_enter Tryz.func136, Tryz.ntmps136
    go_wp2_with fail
    refine (rmay_any v _ hv).mono ?_
    rintro _ w1 ⟨rfl, hb1⟩
    rw [hm]
    have hs1 := hid (soft_2 (cs := v.cells) (ds := zeroV.cells) hb1).2
    obtain ⟨hx1, hy1, hbw1⟩ := box_2 (cs := v.cells) (ds := zeroV.cells) hb1
    obtain ⟨t0, t1, t2, t3, t4⟩ := hx1.get5
    have hl1 := hx1.1
    have hl2 := hy1.1
    clear hb1
    go_wp2_with fail
    refine (rmay_any ⟨v.maj + 1, 0, 0, ⟨#[]⟩, ⟨#[]⟩⟩ _ (e_fit _ _ _)).mono ?_
    rintro _ w2 ⟨rfl, hb2⟩
    rw [hk]
    have hy2 := hid (hy1.next hb2)
    have hl3 := hy2.out.1
    have hf2 : ∀ j, w2.frozen? ⟨w.heap.size + 1, j, none⟩ = false := hs1.out.next hl2 hb2
    have hbw2 := hid (below_tr hbw1 (below_tr (below_new _ _) hb2))
    clear hx1 hy1 hb2 t0 t1 t2 t3 t4
    obtain ⟨t0, t1, t2, t3, t4⟩ := hy2.out.get5
    go_wp2_with fail
    refine ret5 hy2.out (v := .tuple #[zeroV.val, .bool false]) (fun w3 h3 => ?_) rfl (fun w3 h3 => VerOk.of HB.out rfl (hbw2.out.trans (h3.mono (by omega))))
    obtain ⟨k0, k1, k2, k3, k4⟩ := h3.get5
    simp [results, Tryz.results136, go_sem, zeroV, k0, k1, k2, k3, k4]
  · have HB := hid (show bumpL v 0 = (⟨v.maj + 1, 0, 0, ⟨#[]⟩, ⟨#[]⟩⟩, true) from bumpL_yes hm hk)
    go_enter Tryz.func136, Tryz.ntmps136
    go_wp2_with fail
    refine (rmay_any v _ hv).mono ?_
    rintro _ w1 ⟨rfl, hb1⟩
    rw [hm]
    have hs1 := hid (soft_2 (cs := v.cells) (ds := zeroV.cells) hb1).2
    obtain ⟨hx1, hy1, hbw1⟩ := box_2 (cs := v.cells) (ds := zeroV.cells) hb1
    obtain ⟨t0, t1, t2, t3, t4⟩ := hx1.get5
    have hl1 := hx1.1
    have hl2 := hy1.1
    clear hb1
    go_wp2_with fail
    refine (rmay_any ⟨v.maj + 1, 0, 0, ⟨#[]⟩, ⟨#[]⟩⟩ _ (e_fit _ _ _)).mono ?_
    rintro _ w2 ⟨rfl, hb2⟩
    rw [hk]
    have hy2 := hid (hy1.next hb2)
    obtain ⟨z0, z1, z2, z3, z4⟩ := ((Box.new w1 (Ver.cells ⟨v.maj + 1, 0, 0, ⟨#[]⟩, ⟨#[]⟩⟩) 29).below hb2).get5
    have hl3 := hy2.out.1
    have hf2 : ∀ j, w2.frozen? ⟨w.heap.size + 1, j, none⟩ = false := hs1.out.next hl2 hb2
    have hbw2 := hid (below_tr hbw1 (below_tr (below_new _ _) hb2))
    clear hx1 hy1 hb2 t0 t1 t2 t3 t4
    obtain ⟨t0, t1, t2, t3, t4⟩ := hy2.out.get5
    go_wp2_with fail
    refine ret5 hy2.out (v := .tuple #[.agg #[.int .i64 (v.maj + 1), .int .i64 0, .int .i64 0, .string ⟨#[]⟩, .string ⟨#[]⟩], .bool true]) (fun w3 h3 => ?_) rfl (fun w3 h3 => VerOk.of HB.out rfl (hbw2.out.trans (h3.mono (by omega))))
    obtain ⟨k0, k1, k2, k3, k4⟩ := h3.get5
    simp [results, Tryz.results136, go_sem, k0, k1, k2, k3, k4]
set_option maxRecDepth 100000 in
set_option maxHeartbeats 1000000 in
theorem rbump1_any (v : Ver) (w : World) (hv : v.fit) (hm : mayV v = true) : Calls Tryz.prog 136 #[v.val, .int .i64 1] w (VerOk w (bumpL v 1)) := by
  have hn := nums hm
  have y1 := i64_sm hn.1
  have y2 := i64_sm hn.2.1
  have y3 := i64_sm hn.2.2
  cases hk : mayV (⟨v.maj, v.min + 1, 0, ⟨#[]⟩, ⟨#[]⟩⟩ : Ver)
  · have HB := hid (show bumpL v 1 = (zeroV, false) from bumpL_no hk)
    go_enter Tryz.func136, Tryz.ntmps136
    go_wp2_with fail
    refine (rmay_any v _ hv).mono ?_
    rintro _ w1 ⟨rfl, hb1⟩
    rw [hm]
    have hs1 := hid (soft_2 (cs := v.cells) (ds := zeroV.cells) hb1).2
    obtain ⟨hx1, hy1, hbw1⟩ := box_2 (cs := v.cells) (ds := zeroV.cells) hb1
    obtain ⟨t0, t1, t2, t3, t4⟩ := hx1.get5
    have hl1 := hx1.1
    have hl2 := hy1.1
    clear hb1
    go_wp2_with fail
    refine (rmay_any ⟨v.maj, v.min + 1, 0, ⟨#[]⟩, ⟨#[]⟩⟩ _ (e_fit _ _ _)).mono ?_
    rintro _ w2 ⟨rfl, hb2⟩
    rw [hk]
    have hy2 := hid (hy1.next hb2)
    have hl3 := hy2.out.1
    have hf2 : ∀ j, w2.frozen? ⟨w.heap.size + 1, j, none⟩ = false := hs1.out.next hl2 hb2
    have hbw2 := hid (below_tr hbw1 (below_tr (below_new _ _) hb2))
    clear hx1 hy1 hb2 t0 t1 t2 t3 t4
    obtain ⟨t0, t1, t2, t3, t4⟩ := hy2.out.get5
    go_wp2_with fail
    refine ret5 hy2.out (v := .tuple #[zeroV.val, .bool false]) (fun w3 h3 => ?_) rfl (fun w3 h3 => VerOk.of HB.out rfl (hbw2.out.trans (h3.mono (by omega))))
    obtain ⟨k0, k1, k2, k3, k4⟩ := h3.get5
    simp [results, Tryz.results136, go_sem, zeroV, k0, k1, k2, k3, k4]
  · have HB := hid (show bumpL v 1 = (⟨v.maj, v.min + 1, 0, ⟨#[]⟩, ⟨#[]⟩⟩, true) from bumpL_yes hm hk)
    go_enter Tryz.func136, Tryz.ntmps136
    go_wp2_with fail
    refine (rmay_any v _ hv).mono ?_
    rintro _ w1 ⟨rfl, hb1⟩
    rw [hm]
    have hs1 := hid (soft_2 (cs := v.cells) (ds := zeroV.cells) hb1).2
    obtain ⟨hx1, hy1, hbw1⟩ := box_2 (cs := v.cells) (ds := zeroV.cells) hb1
    obtain ⟨t0, t1, t2, t3, t4⟩ := hx1.get5
    have hl1 := hx1.1
    have hl2 := hy1.1
    clear hb1
    go_wp2_with fail
    refine (rmay_any ⟨v.maj, v.min + 1, 0, ⟨#[]⟩, ⟨#[]⟩⟩ _ (e_fit _ _ _)).mono ?_
    rintro _ w2 ⟨rfl, hb2⟩
    rw [hk]
    have hy2 := hid (hy1.next hb2)
    obtain ⟨z0, z1, z2, z3, z4⟩ := ((Box.new w1 (Ver.cells ⟨v.maj, v.min + 1, 0, ⟨#[]⟩, ⟨#[]⟩⟩) 29).below hb2).get5
    have hl3 := hy2.out.1
    have hf2 : ∀ j, w2.frozen? ⟨w.heap.size + 1, j, none⟩ = false := hs1.out.next hl2 hb2
    have hbw2 := hid (below_tr hbw1 (below_tr (below_new _ _) hb2))
    clear hx1 hy1 hb2 t0 t1 t2 t3 t4
    obtain ⟨t0, t1, t2, t3, t4⟩ := hy2.out.get5
    go_wp2_with fail
    refine ret5 hy2.out (v := .tuple #[.agg #[.int .i64 v.maj, .int .i64 (v.min + 1), .int .i64 0, .string ⟨#[]⟩, .string ⟨#[]⟩], .bool true]) (fun w3 h3 => ?_) rfl (fun w3 h3 => VerOk.of HB.out rfl (hbw2.out.trans (h3.mono (by omega))))
    obtain ⟨k0, k1, k2, k3, k4⟩ := h3.get5
    simp [results, Tryz.results136, go_sem, k0, k1, k2, k3, k4]
set_option maxRecDepth 100000 in
set_option maxHeartbeats 1000000 in
theorem rbump2_any (v : Ver) (w : World) (hv : v.fit) (hm : mayV v = true) : Calls Tryz.prog 136 #[v.val, .int .i64 2] w (VerOk w (bumpL v 2)) := by
  have hn := nums hm
  have y1 := i64_sm hn.1
  have y2 := i64_sm hn.2.1
  have y3 := i64_sm hn.2.2
  cases hk : mayV (⟨v.maj, v.min, v.pat + 1, ⟨#[]⟩, ⟨#[]⟩⟩ : Ver)
  · have HB := hid (show bumpL v 2 = (zeroV, false) from bumpL_no hk)
    go_enter Tryz.func136, Tryz.ntmps136
    go_wp2_with fail
    refine (rmay_any v _ hv).mono ?_
    rintro _ w1 ⟨rfl, hb1⟩
    rw [hm]
    have hs1 := hid (soft_2 (cs := v.cells) (ds := zeroV.cells) hb1).2
    obtain ⟨hx1, hy1, hbw1⟩ := box_2 (cs := v.cells) (ds := zeroV.cells) hb1
    obtain ⟨t0, t1, t2, t3, t4⟩ := hx1.get5
    have hl1 := hx1.1
    have hl2 := hy1.1
    clear hb1
    go_wp2_with fail
    refine (rmay_any ⟨v.maj, v.min, v.pat + 1, ⟨#[]⟩, ⟨#[]⟩⟩ _ (e_fit _ _ _)).mono ?_
    rintro _ w2 ⟨rfl, hb2⟩
    rw [hk]
    have hy2 := hid (hy1.next hb2)
    have hl3 := hy2.out.1
    have hf2 : ∀ j, w2.frozen? ⟨w.heap.size + 1, j, none⟩ = false := hs1.out.next hl2 hb2
    have hbw2 := hid (below_tr hbw1 (below_tr (below_new _ _) hb2))
    clear hx1 hy1 hb2 t0 t1 t2 t3 t4
    obtain ⟨t0, t1, t2, t3, t4⟩ := hy2.out.get5
    go_wp2_with fail
    refine ret5 hy2.out (v := .tuple #[zeroV.val, .bool false]) (fun w3 h3 => ?_) rfl (fun w3 h3 => VerOk.of HB.out rfl (hbw2.out.trans (h3.mono (by omega))))
    obtain ⟨k0, k1, k2, k3, k4⟩ := h3.get5
    simp [results, Tryz.results136, go_sem, zeroV, k0, k1, k2, k3, k4]
  · have HB := hid (show bumpL v 2 = (⟨v.maj, v.min, v.pat + 1, ⟨#[]⟩, ⟨#[]⟩⟩, true) from bumpL_yes hm hk)
    go_enter Tryz.func136, Tryz.ntmps136
    go_wp2_with fail
    refine (rmay_any v _ hv).mono ?_
    rintro _ w1 ⟨rfl, hb1⟩
    rw [hm]
    have hs1 := hid (soft_2 (cs := v.cells) (ds := zeroV.cells) hb1).2
    obtain ⟨hx1, hy1, hbw1⟩ := box_2 (cs := v.cells) (ds := zeroV.cells) hb1
    obtain ⟨t0, t1, t2, t3, t4⟩ := hx1.get5
    have hl1 := hx1.1
    have hl2 := hy1.1
    clear hb1
    go_wp2_with fail
    refine (rmay_any ⟨v.maj, v.min, v.pat + 1, ⟨#[]⟩, ⟨#[]⟩⟩ _ (e_fit _ _ _)).mono ?_
    rintro _ w2 ⟨rfl, hb2⟩
    rw [hk]
    have hy2 := hid (hy1.next hb2)
    obtain ⟨z0, z1, z2, z3, z4⟩ := ((Box.new w1 (Ver.cells ⟨v.maj, v.min, v.pat + 1, ⟨#[]⟩, ⟨#[]⟩⟩) 29).below hb2).get5
    have hl3 := hy2.out.1
    have hf2 : ∀ j, w2.frozen? ⟨w.heap.size + 1, j, none⟩ = false := hs1.out.next hl2 hb2
    have hbw2 := hid (below_tr hbw1 (below_tr (below_new _ _) hb2))
    clear hx1 hy1 hb2 t0 t1 t2 t3 t4
    obtain ⟨t0, t1, t2, t3, t4⟩ := hy2.out.get5
    go_wp2_with fail
    refine ret5 hy2.out (v := .tuple #[.agg #[.int .i64 v.maj, .int .i64 v.min, .int .i64 (v.pat + 1), .string ⟨#[]⟩, .string ⟨#[]⟩], .bool true]) (fun w3 h3 => ?_) rfl (fun w3 h3 => VerOk.of HB.out rfl (hbw2.out.trans (h3.mono (by omega))))
    obtain ⟨k0, k1, k2, k3, k4⟩ := h3.get5
    simp [results, Tryz.results136, go_sem, k0, k1, k2, k3, k4]
end Go.Proofs.YtlmkglgjdmjnkaaGreatDoor
namespace Go.Proofs.YtlmkglgjdmjnkaaGreatDoor
open Go.RowKit Go.Lib
set_option linter.unusedVariables false
set_option linter.unusedSimpArgs false
structure NextInv (v : Ver) (k : Int) : Prop where
  in_ : k = 2 ∨ k = 1 ∨ k = 0 ∨ k = -1
  n2 : k < 2 → (bumpL v 2).2 = false
  n1 : k < 1 → (bumpL v 1).2 = false
  n0 : k < 0 → (bumpL v 0).2 = false
theorem NextInv.start (v : Ver) : NextInv v 2 := ⟨.inl rfl, by omega, by omega, by omega⟩
theorem NextInv.step {v : Ver} {k : Int} (h : NextInv v k) (hk : 0 ≤ k) (hb : (bumpL v k).2 = false) : NextInv v (k - 1) := by
  rcases h.in_ with rfl | rfl | rfl | rfl
  · exact ⟨by omega, fun _ => hb, by omega, by omega⟩
  · exact ⟨by omega, fun _ => h.n2 (by omega), fun _ => hb, by omega⟩
  · exact ⟨by omega, fun _ => h.n2 (by omega), fun _ => h.n1 (by omega), fun _ => hb⟩
  · omega
theorem NextInv.yes {v n : Ver} {k : Int} (h : NextInv v k) (hk : 0 ≤ k) (hm : mayV v = true) (hp : bts v.pre = []) (hb : bumpL v k = (n, true)) : nextL v = (n, true) := by
  rw [nextL, if_neg (by simp [hm]), if_neg (by simp [hp])]
  rcases h.in_ with rfl | rfl | rfl | rfl
  · rw [hb]; rfl
  · rw [if_neg (by simp [h.n2]), hb]; rfl
  · rw [if_neg (by simp [h.n2]), if_neg (by simp [h.n1]), hb]; rfl
  · omega
theorem NextInv.no {v : Ver} (h : NextInv v (-1)) (hm : mayV v = true) (hp : bts v.pre = []) : nextL v = (zeroV, false) := by
  rw [nextL, if_neg (by simp [hm]), if_neg (by simp [hp]), if_neg (by simp [h.n2]), if_neg (by simp [h.n1]), if_neg (by simp [h.n0])]
theorem next_bad {v : Ver} (hm : mayV v = false) : nextL v = (zeroV, false) := by rw [nextL, if_pos hm]
theorem next_pre {v : Ver} (hm : mayV v = true) (hp : bts v.pre ≠ []) : nextL v = (relV v, true) := by rw [nextL, if_neg (by simp [hm]), if_pos hp]
theorem rbump_any (v : Ver) (p : Int) (w : World) (hv : v.fit) (hm : mayV v = true) (hp : p = 2 ∨ p = 1 ∨ p = 0) : Calls Tryz.prog 136 #[v.val, .int .i64 p] w (VerOk w (bumpL v p)) := by
  rcases hp with rfl | rfl | rfl
  · exact rbump2_any v w hv hm
  · exact rbump1_any v w hv hm
  · exact rbump0_any v w hv hm
set_option maxRecDepth 100000 in
set_option maxHeartbeats 1000000 in
theorem rnext_any (v : Ver) (w : World) (hv : v.fit) : Calls Tryz.prog 94 #[v.val] w (VerOk w (nextL v)) := by
  cases hm : mayV v
  · have HB := hid (next_bad hm)
    go_enter Tryz.func94, Tryz.ntmps94
    go_wp2_with fail
    refine (rmay_any v _ hv).mono ?_
    rintro _ w1 ⟨rfl, hb1⟩
    rw [hm]
    have hs1 := (soft_2 (cs := v.cells) (ds := zeroV.cells) hb1).2
    obtain ⟨hx1, hy1, hbw1⟩ := box_2 (cs := v.cells) (ds := zeroV.cells) hb1
    have HY := hid hy1
    have hf : ∀ j, w1.frozen? ⟨w.heap.size + 1, j, none⟩ = false := hs1
    obtain ⟨t0, t1, t2, t3, t4⟩ := hy1.get5
    have hl1 := hy1.1
    clear hb1 hx1 hy1 hs1
    go_wp2_with fail
    refine ret5 HY.out (v := .tuple #[zeroV.val, .bool false]) (fun w3 h3 => ?_) rfl (fun w3 h3 => VerOk.of HB.out rfl (hbw1.trans (h3.mono (by omega))))
    obtain ⟨k0, k1, k2, k3, k4⟩ := h3.get5
    simp [results, Tryz.results94, go_sem, zeroV, k0, k1, k2, k3, k4]
  · by_cases h4 : 0 < v.pre.size
    · obtain ⟨e4, n4⟩ := ne_of_size h4
      have HB := hid (next_pre hm (by rw [bts]; intro e; rw [e] at e4; simp at e4))
      go_enter Tryz.func94, Tryz.ntmps94
      go_wp2_with fail
      refine (rmay_any v _ hv).mono ?_
      rintro _ w1 ⟨rfl, hb1⟩
      rw [hm]
      have hs1 := (soft_2 (cs := v.cells) (ds := zeroV.cells) hb1).2
      obtain ⟨hx1, hy1, hbw1⟩ := box_2 (cs := v.cells) (ds := zeroV.cells) hb1
      have HY := hid hy1
      have hf : ∀ j, w1.frozen? ⟨w.heap.size + 1, j, none⟩ = false := hs1
      obtain ⟨t0, t1, t2, t3, t4⟩ := hy1.get5
      obtain ⟨z0, z1, z2, z3, z4⟩ := hx1.get5
      have hl1 := hy1.1
      clear hb1 hx1 hy1 hs1
      go_wp2_with fail
      refine ret5 HY.out (v := .tuple #[(Ver.val ⟨v.maj, v.min, v.pat, ⟨#[]⟩, ⟨#[]⟩⟩), .bool true]) (fun w3 h3 => ?_) rfl (fun w3 h3 => VerOk.of HB.out rfl (hbw1.trans (h3.mono (by omega))))
      obtain ⟨k0, k1, k2, k3, k4⟩ := h3.get5
      simp [results, Tryz.results94, go_sem, k0, k1, k2, k3, k4]
    · have e4 := isEmpty_of h4
      have HP : Hid (bts v.pre = []) := hid (by rw [bts]; simpa using e4)
      have HM := hid hm
      go_enter Tryz.func94, Tryz.ntmps94
      go_wp2_with fail
      refine (rmay_any v _ hv).mono ?_
      rintro _ w1 ⟨rfl, hb1⟩
      rw [hm]
      have HS := hid (soft_2 (cs := v.cells) (ds := zeroV.cells) hb1).2
      obtain ⟨hx1, hy1, hbw1⟩ := box_2 (cs := v.cells) (ds := zeroV.cells) hb1
      have HX := hid hx1
      have HY := hid hy1
      have HBW := hid hbw1
      obtain ⟨z0, z1, z2, z3, z4⟩ := hx1.get5
      clear hb1 hx1 hy1 hbw1
      go_wp2_with fail
      clear z0 z1 z2 z3 z4 hm
      go_loopw [5, 6, 4] (fun _ _ i wr => ∃ k : Int, i = .int .i64 k ∧ Hid (NextInv v k) ∧ Hid (Below w1.heap.size w1 wr)) (fun _ _ i _ => (intOf i + 1).toNat)
      case atStart => exact ⟨2, rfl, .start v, Below.refl _ _⟩
      case round =>
        obtain ⟨k, rfl, HI, HR⟩ := hrel
        by_cases hk : 0 ≤ k
        · have HC := hid (fun w' => rbump_any v k w' hv HM.out (by have := HI.out.in_; omega))
          have HST := hid (HI.out.step hk)
          have HYS := hid (fun n => HI.out.yes (n := n) hk HM.out HP.out)
          have hin := HI.out.in_
          have y1 : IntKind.i64.wrap (k - 1) = k - 1 := IntWalk.i64_in _ (by omega)
          have hX := HX.out.below HR.out
          have HYr := hid (HY.out.below HR.out)
          have HSr := hid (HS.out.below HY.out.1 HR.out)
          obtain ⟨z0, z1, z2, z3, z4⟩ := hX.get5
          clear hX hin
          generalize bumpL v k = r at *
          obtain ⟨n, b⟩ := r
          cases b with
          | false =>
            go_wp2_with fail
            refine (HC.out _).mono ?_
            rintro _ w2 ⟨rfl, hb2⟩
            clear z0 z1 z2 z3 z4
            have HB2 := hid (HR.out.trans (hb2.mono HR.out.size))
            clear hb2
            go_wp2_with fail
            go_roundw
            case rel => exact ⟨k - 1, by go_num, HST.out (by trivial), HB2.out.trans ((below_new _ _).mono HB2.out.size)⟩
            case measure => simp [intOf]; omega
          | true =>
            go_wp2_with fail
            refine (HC.out _).mono ?_
            rintro _ w2 ⟨rfl, hb2⟩
            clear z0 z1 z2 z3 z4
            have HB2 := hid (HBW.out.trans ((HR.out.trans (hb2.mono HR.out.size)).mono HBW.out.size))
            have hy2 := HYr.out.below hb2
            have hs2 := HSr.out.below HYr.out.1 hb2
            have hf0 : ∀ j, w2.frozen? ⟨w.heap.size + 1, j, none⟩ = false := hs2
            have HY2 := hid hy2
            have hl2 := hy2.1
            obtain ⟨t0, t1, t2, t3, t4⟩ := hy2.get5
            clear hb2 hy2 hs2
            go_wp2_with fail
            refine ret5n HY2.out (v := .tuple #[n.val, .bool true]) (fun w3 h3 => ?_) rfl (fun w3 h3 => VerOk.of (HYS.out n (by trivial)) rfl (HB2.out.trans (h3.mono (by omega))))
            obtain ⟨k0, k1, k2, k3, k4⟩ := h3.get5
            simp [results, Tryz.results94, go_sem, k0, k1, k2, k3, k4]
        · have hk1 : k = -1 := by have := HI.out.in_; omega
          subst hk1
          have HB := hid (HI.out.no HM.out HP.out)
          have HYr := hid (HY.out.below HR.out)
          have hf : ∀ j, wr.frozen? ⟨w.heap.size + 1, j, none⟩ = false := HS.out.below HY.out.1 HR.out
          have HBR := hid (HBW.out.trans (HR.out.mono HBW.out.size))
          obtain ⟨t0, t1, t2, t3, t4⟩ := HYr.out.get5
          have hl2 := HYr.out.1
          go_wp2_with fail
          refine ret5 HYr.out (v := .tuple #[zeroV.val, .bool false]) (fun w3 h3 => ?_) rfl (fun w3 h3 => VerOk.of HB.out rfl (HBR.out.trans (h3.mono (by omega))))
          obtain ⟨k0, k1, k2, k3, k4⟩ := h3.get5
          simp [results, Tryz.results94, go_sem, zeroV, k0, k1, k2, k3, k4]
end Go.Proofs.YtlmkglgjdmjnkaaGreatDoor
namespace Go.Proofs.YtlmkglgjdmjnkaaGreatDoor
open Go.RowKit Go.Lib
set_option linter.unusedVariables false
set_option linter.unusedSimpArgs false
theorem neqV0 (a : Ver) (w : World) : (binOp .neq 29 a.val (.agg #[.int .i64 0, .int .i64 0, .int .i64 0, .string ⟨#[]⟩, .string ⟨#[]⟩])).run Tryz.prog w = .ok (.bool (!eqVer a zeroV)) w := by
  have h := eqV_in 9994 a zeroV w
  rw [run_neq_struct]
  simp only [show (9994 : Nat) + 6 = 10000 from rfl] at h
  rw [show (Op.equalIn 10000 29 (.agg #[.int .i64 a.maj, .int .i64 a.min, .int .i64 a.pat, .string a.pre, .string a.bld]) (.agg #[.int .i64 0, .int .i64 0, .int .i64 0, .string ⟨#[]⟩, .string ⟨#[]⟩])).run Tryz.prog w = .ok (eqVer a zeroV) w from h]
  rfl
def First (w : World) : Prop := Box w 1 zeroV.cells
theorem First.get {w : World} (h : First w) : w.cell? ⟨1, 0, none⟩ = some (.int .i64 0) ∧ w.cell? ⟨1, 1, none⟩ = some (.int .i64 0) ∧ w.cell? ⟨1, 2, none⟩ = some (.int .i64 0) ∧ w.cell? ⟨1, 3, none⟩ = some (.string ⟨#[]⟩) ∧ w.cell? ⟨1, 4, none⟩ = some (.string ⟨#[]⟩) := Box.get5 h
theorem First.below {w w' : World} (h : First w) (hb : Below w.heap.size w w') : First w' := Box.below h hb
theorem settled_cases (en : Int) (v : Ver) (aft : Bool) : settledC ⟨en, v, aft⟩ = ((en != 0) || (!aft && (bts v.pre).isEmpty && !eqVer v zeroV)) := by
  rw [settledC]
  by_cases h : en = 0 <;> simp [h]
set_option maxHeartbeats 1000000 in
theorem settled_any (c : CutL) (w : World) (hg : First w) : Calls Tryz.prog 177 #[c.val] w (BoolPost w (settledC c)) := by
  generalize hr : settledC c = r
  have HR := hid hr
  clear hr
  have hq := neqV0
  have hqg := eqgV0
  obtain ⟨x0, x1, x2, x3, x4⟩ := First.get hg
  have hl := hg.1
  clear hg
  obtain ⟨en, v, aft⟩ := c
  cases h3 : (en != 0)
  · cases aft
    · by_cases h4 : 0 < v.pre.size
      · obtain ⟨e4, n4⟩ := ne_of_size h4
        go_enter Tryz.func177, Tryz.ntmps177
        go_wp2_with fail
        go_ret
        exact ⟨by rw [← HR.out, settled_cases, h3, bts, e4]; rfl, below_new _ _⟩
      · have e4 := isEmpty_of h4
        cases hv : eqVer v zeroV
        all_goals
          go_enter Tryz.func177, Tryz.ntmps177
          go_wp2_with fail
          go_ret
          exact ⟨by rw [← HR.out, settled_cases, h3, bts, e4, hv]; rfl, below_new _ _⟩
    · go_enter Tryz.func177, Tryz.ntmps177
      go_wp2_with fail
      go_ret
      exact ⟨by rw [← HR.out, settled_cases, h3]; rfl, below_new _ _⟩
  · go_enter Tryz.func177, Tryz.ntmps177
    go_wp2_with fail
    go_ret
    exact ⟨by rw [← HR.out, settled_cases, h3]; rfl, below_new _ _⟩
theorem CutPost.of {w w' : World} {c d : CutL} {e : Ending} (hc : c = d) (he : e = .returned d.val) (hb : Below w.heap.size w w') : CutPost w c e w' := by subst hc; exact ⟨he, hb⟩
theorem rleast_any (v : Ver) (w : World) : Calls Tryz.prog 92 #[v.val] w (BoolPost w (leastV v)) := by
  generalize hr : leastV v = r
  have HR := hid hr
  clear hr
  cases h1 : (v.maj == 0)
  · go_enter Tryz.func92, Tryz.ntmps92
    go_wp2_with fail
    go_ret
    exact ⟨by rw [← HR.out, leastV, h1]; rfl, below_new _ _⟩
  · cases h2 : (v.min == 0)
    · go_enter Tryz.func92, Tryz.ntmps92
      go_wp2_with fail
      go_ret
      exact ⟨by rw [← HR.out, leastV, h1, h2]; rfl, below_new _ _⟩
    · cases h3 : (v.pat == 0)
      all_goals
        go_enter Tryz.func92, Tryz.ntmps92
        go_wp2_with fail
        go_ret
        exact ⟨by rw [← HR.out, leastV, h1, h2, h3]; rfl, below_new _ _⟩
end Go.Proofs.YtlmkglgjdmjnkaaGreatDoor
namespace Go.Proofs.YtlmkglgjdmjnkaaGreatDoor
open Go.RowKit Go.Lib
set_option linter.unusedVariables false
set_option linter.unusedSimpArgs false
theorem rcore_any (v : Ver) (w : World) : Calls Tryz.prog 91 #[v.val] w (VerPost w (bareV v)) := by
  go_enter Tryz.func91, Tryz.ntmps91
  go_wp2
  refine bodyPost_ret (v := .agg #[.int .i64 v.maj, .int .i64 v.min, .int .i64 v.pat, .string v.pre, .string ⟨#[]⟩]) (by simp [results, Tryz.results91, go_sem]) rfl ⟨rfl, ?_⟩
  exact ((below_new _ _).alloc (by simp) _)
theorem next_bare (v : Ver) : bareV (nextL v).1 = (nextL v).1 := by
  have hb : ∀ p, bareV (bumpL v p).1 = (bumpL v p).1 := fun p => by
    unfold bumpL
    split
    · unfold bumpV
      split
      · rfl
      · split <;> rfl
    · rfl
  unfold nextL
  split
  · rfl
  · split
    · rfl
    · split
      · exact hb 2
      · split
        · exact hb 1
        · split
          · exact hb 0
          · rfl
set_option maxHeartbeats 1000000 in
theorem rbefore_any (v : Ver) (w : World) : Calls Tryz.prog 63 #[v.val] w (CutPost w ⟨0, bareV v, false⟩) := by
  go_enter Tryz.func63, Tryz.ntmps63
  go_wp2_with fail
  refine (rcore_any v _).mono ?_
  rintro _ w1 ⟨rfl, hb1⟩
  have hs1 := (soft_2 (cs := v.cells) (ds := zeroC.cells) hb1).2
  obtain ⟨hx1, hy1, hbw1⟩ := box_2 (cs := v.cells) (ds := zeroC.cells) hb1
  have HX := hid hx1
  have HY := hid hy1
  have HS := hid hs1
  have HBW := hid hbw1
  have hl0 := hx1.1
  have hl1 := hy1.1
  clear hb1 hx1 hy1 hbw1 hs1
  generalize bareV v = u at *
  have hf : ∀ j, w1.frozen? ⟨w.heap.size + 1, j, none⟩ = false := HS.out
  obtain ⟨t0, t1, t2, t3, t4, t5, t6⟩ := HY.out.get7
  have hlr := HY.out.1
  go_wp2_with fail
  refine ret7 HY.out (v := (CutL.val ⟨0, u, false⟩)) (fun w3 h3 => ?_) rfl (fun w3 h3 => CutPost.of rfl rfl (HBW.out.trans (h3.mono (by omega))))
  obtain ⟨k0, k1, k2, k3, k4, k5, k6⟩ := h3.get7
  simp [results, Tryz.results63, go_sem, k0, k1, k2, k3, k4, k5, k6]
set_option maxHeartbeats 1000000 in
theorem rsahead_any (v : Ver) (w : World) : Calls Tryz.prog 65 #[v.val] w (CutPost w (aheadR v)) := by
  have hle := rleast_any v
  cases hv : leastV v
  · have HU := hid (show aheadR v = ⟨0, ⟨v.maj, v.min, v.pat, ⟨#[]⟩, ⟨#[]⟩⟩, false⟩ by rw [aheadR, hv]; rfl)
    rw [hv] at hle
    go_enter Tryz.func65, Tryz.ntmps65
    go_wp2_with fail
    refine (hle _).mono ?_
    rintro _ w1 ⟨rfl, hb1⟩
    have hs1 := (soft_2 (cs := v.cells) (ds := zeroC.cells) hb1).2
    obtain ⟨hx1, hy1, hbw1⟩ := box_2 (cs := v.cells) (ds := zeroC.cells) hb1
    have HX := hid hx1
    have HY := hid hy1
    have HS := hid hs1
    have HBW := hid hbw1
    have hl0 := hx1.1
    have hl1 := hy1.1
    clear hb1 hx1 hy1 hbw1 hs1
    obtain ⟨t0, t1, t2, t3, t4⟩ := HX.out.get5
    go_wp2_with fail
    clear t0 t1 t2 t3 t4
    refine (rbefore_any ⟨v.maj, v.min, v.pat, ⟨#[]⟩, ⟨#[]⟩⟩ _).mono ?_
    rintro _ w2 ⟨rfl, hb2⟩
    have HY2 := hid (HY.out.below hb2)
    have HS2 := hid (HS.out.below hl1 hb2)
    have HBW2 := hid (below_tr HBW.out hb2)
    clear hb2 HY HS HBW
    rw [show bareV ⟨v.maj, v.min, v.pat, ⟨#[]⟩, ⟨#[]⟩⟩ = (⟨v.maj, v.min, v.pat, ⟨#[]⟩, ⟨#[]⟩⟩ : Ver) from rfl]
    have hf : ∀ j, w2.frozen? ⟨w.heap.size + 1, j, none⟩ = false := HS2.out
    obtain ⟨t0, t1, t2, t3, t4, t5, t6⟩ := HY2.out.get7
    have hlr := HY2.out.1
    go_wp2_with fail
    refine ret7 HY2.out (v := (CutL.val ⟨0, ⟨v.maj, v.min, v.pat, ⟨#[]⟩, ⟨#[]⟩⟩, false⟩)) (fun w3 h3 => ?_) rfl (fun w3 h3 => CutPost.of HU.out rfl (HBW2.out.trans (h3.mono (by omega))))
    obtain ⟨k0, k1, k2, k3, k4, k5, k6⟩ := h3.get7
    simp [results, Tryz.results65, go_sem, k0, k1, k2, k3, k4, k5, k6]
  · have HU := hid (show aheadR v = firstC by rw [aheadR, hv]; rfl)
    rw [hv] at hle
    go_enter Tryz.func65, Tryz.ntmps65
    go_wp2_with fail
    refine (hle _).mono ?_
    rintro _ w1 ⟨rfl, hb1⟩
    have hs1 := (soft_2 (cs := v.cells) (ds := zeroC.cells) hb1).2
    obtain ⟨hx1, hy1, hbw1⟩ := box_2 (cs := v.cells) (ds := zeroC.cells) hb1
    have HX := hid hx1
    have HY := hid hy1
    have HS := hid hs1
    have HBW := hid hbw1
    have hl0 := hx1.1
    have hl1 := hy1.1
    clear hb1 hx1 hy1 hbw1 hs1
    go_wp2_with fail
    refine (first_any _).mono ?_
    rintro _ w2 ⟨rfl, hb2⟩
    have HY2 := hid (HY.out.below hb2)
    have HS2 := hid (HS.out.below hl1 hb2)
    have HBW2 := hid (below_tr HBW.out hb2)
    clear hb2 HY HS HBW
    have hf : ∀ j, w2.frozen? ⟨w.heap.size + 1, j, none⟩ = false := HS2.out
    obtain ⟨t0, t1, t2, t3, t4, t5, t6⟩ := HY2.out.get7
    have hlr := HY2.out.1
    go_wp2_with fail
    refine ret7 HY2.out (v := firstC.val) (fun w3 h3 => ?_) rfl (fun w3 h3 => CutPost.of HU.out rfl (HBW2.out.trans (h3.mono (by omega))))
    obtain ⟨k0, k1, k2, k3, k4, k5, k6⟩ := h3.get7
    simp [results, Tryz.results65, go_sem, k0, k1, k2, k3, k4, k5, k6]
set_option maxHeartbeats 1000000 in
theorem rbehind_any (v : Ver) (w : World) : Calls Tryz.prog 66 #[v.val] w (CutPost w (uptoL (relV v))) := by
  have hn := rnext_any ⟨v.maj, v.min, v.pat, ⟨#[]⟩, ⟨#[]⟩⟩
  have HU := hid (show uptoL (relV v) = (if (nextL ⟨v.maj, v.min, v.pat, ⟨#[]⟩, ⟨#[]⟩⟩).2 then ⟨0, (nextL ⟨v.maj, v.min, v.pat, ⟨#[]⟩, ⟨#[]⟩⟩).1, false⟩ else lastC : CutL) from rfl)
  have HN := hid (next_bare ⟨v.maj, v.min, v.pat, ⟨#[]⟩, ⟨#[]⟩⟩)
  generalize nextL ⟨v.maj, v.min, v.pat, ⟨#[]⟩, ⟨#[]⟩⟩ = r at *
  obtain ⟨n, b⟩ := r
  cases b
  · skip
    go_enter Tryz.func66, Tryz.ntmps66
    go_wp2_with fail
    refine (hn _ (e_fit _ _ _)).mono ?_
    rintro _ w1 ⟨rfl, hb1⟩
    have hs1 := (soft_2 (cs := v.cells) (ds := zeroC.cells) hb1).2
    obtain ⟨hx1, hy1, hbw1⟩ := box_2 (cs := v.cells) (ds := zeroC.cells) hb1
    have HX := hid hx1
    have HY := hid hy1
    have HS := hid hs1
    have HBW := hid hbw1
    have hl0 := hx1.1
    have hl1 := hy1.1
    clear hb1 hx1 hy1 hbw1 hs1
    clear hn
    go_wp2_with fail
    refine (last_any _).mono ?_
    rintro _ w2 ⟨rfl, hb2⟩
    have HY2 := hid (HY.out.next hb2)
    have HS2 := hid (HS.out.next hl1 hb2)
    have HBW2 := hid (below_tr HBW.out (below_tr (below_new _ _) hb2))
    clear hb2 HY HS HBW
    have hf : ∀ j, w2.frozen? ⟨w.heap.size + 1, j, none⟩ = false := HS2.out
    obtain ⟨t0, t1, t2, t3, t4, t5, t6⟩ := HY2.out.get7
    have hlr := HY2.out.1
    go_wp2_with fail
    refine ret7 HY2.out (v := lastC.val) (fun w3 h3 => ?_) rfl (fun w3 h3 => CutPost.of HU.out rfl (HBW2.out.trans (h3.mono (by omega))))
    obtain ⟨k0, k1, k2, k3, k4, k5, k6⟩ := h3.get7
    simp [results, Tryz.results66, go_sem, k0, k1, k2, k3, k4, k5, k6]
  · skip
    go_enter Tryz.func66, Tryz.ntmps66
    go_wp2_with fail
    refine (hn _ (e_fit _ _ _)).mono ?_
    rintro _ w1 ⟨rfl, hb1⟩
    have hs1 := (soft_2 (cs := v.cells) (ds := zeroC.cells) hb1).2
    obtain ⟨hx1, hy1, hbw1⟩ := box_2 (cs := v.cells) (ds := zeroC.cells) hb1
    have HX := hid hx1
    have HY := hid hy1
    have HS := hid hs1
    have HBW := hid hbw1
    have hl0 := hx1.1
    have hl1 := hy1.1
    clear hb1 hx1 hy1 hbw1 hs1
    clear hn
    go_wp2_with fail
    refine (rbefore_any n _).mono ?_
    rintro _ w2 ⟨rfl, hb2⟩
    have HY2 := hid (HY.out.next hb2)
    have HS2 := hid (HS.out.next hl1 hb2)
    have HBW2 := hid (below_tr HBW.out (below_tr (below_new _ _) hb2))
    clear hb2 HY HS HBW
    rw [HN.out]
    have hf : ∀ j, w2.frozen? ⟨w.heap.size + 1, j, none⟩ = false := HS2.out
    obtain ⟨t0, t1, t2, t3, t4, t5, t6⟩ := HY2.out.get7
    have hlr := HY2.out.1
    go_wp2_with fail
    refine ret7 HY2.out (v := (CutL.val ⟨0, n, false⟩)) (fun w3 h3 => ?_) rfl (fun w3 h3 => CutPost.of HU.out rfl (HBW2.out.trans (h3.mono (by omega))))
    obtain ⟨k0, k1, k2, k3, k4, k5, k6⟩ := h3.get7
    simp [results, Tryz.results66, go_sem, k0, k1, k2, k3, k4, k5, k6]
end Go.Proofs.YtlmkglgjdmjnkaaGreatDoor
