/- Contracts: version.Parse. -/
import Derived.Test.YtjceaniffooohaaGreatDoorTe
import Derived.Handy
namespace Go.Proofs.YtjceaniffooohaaGreatDoor
open Go.RowKit Go.Lib
set_option linter.unusedVariables false
set_option linter.unusedSimpArgs false

theorem bts_extract (s : ByteArray) (a b : Nat) : bts (s.extract a b) = ((bts s).drop a).take (b - a) := by
  rw [Lib.extract_eq, bts_lit, bts, bts_data]
theorem bts_at (s : ByteArray) (k : Nat) (h : k < s.size) : bts s = (bts s).take k ++ s[k] :: (bts s).drop (k + 1) := by
  have e := List.drop_eq_getElem_cons (l := bts s) (i := k) (by rw [bts_len]; exact h)
  rw [bts_get s k h] at e
  rw [← e, List.take_append_drop]
theorem behind_at {s : ByteArray} {k : Nat} {b : UInt8} (h : k < s.size) (hb : s[k] = b) (hn : b ∉ (bts s).take k) : beforeL b (bts s) = bts (s.extract 0 k) ∧ afterL b (bts s) = bts (s.extract (k + 1) s.size) := by
  have e := bts_at s k h
  rw [hb] at e
  have h1 := before_at (r := (bts s).drop (k + 1)) hn
  rw [← e] at h1
  refine ⟨by rw [h1.1, bts_extract]; simp, ?_⟩
  rw [h1.2, bts_extract, List.take_of_length_le]
  rw [List.length_drop, bts_len]; omega
/-- two texts have come back -/
def Str2 (w : World) (l m : List UInt8) (e : Ending) (w' : World) : Prop := ∃ s t : ByteArray, e = .returned (.tuple #[.string s, .string t]) ∧ bts s = l ∧ bts t = m ∧ ∃ n, w' = w.drewN n
set_option maxRecDepth 100000 in
set_option maxHeartbeats 1000000 in
theorem behind_any (s : ByteArray) (b : UInt8) (w : World) (hs : s.size ≤ 9223372036854775806) : Calls Tryz.prog 178 #[.string s, .int .u8 b.toNat] w (Str2 w (afterL b (bts s)) (beforeL b (bts s))) := by
  go_enter Tryz.func178, Tryz.ntmps178
  go_wp2_with fail
  go_loop [6, 9] (fun i k => ∃ n : Nat, n ≤ s.size ∧ k = .int .i64 n ∧ Hid (b ∉ (bts s).take n)) (fun _ k => s.size - (intOf k).toNat)
  case atStart => exact ⟨0, Nat.zero_le _, rfl, hid (by simp)⟩
  case round =>
    obtain ⟨n, hn, rfl, HN⟩ := hrel
    go_wp2_with fail
    · refine wp_plan (.last [0, 1, 2, 3, 4, 5, 6, 7, 8]) (by kernel_rfl) (by intro _ _ d _ _ h; cases d <;> exact h) (by kernel_rfl) ?_
      have hlt : n < s.size := by assumption
      have hc := hid (u8_of_beq (by assumption : ((s[n].toNat : Int) == (b.toNat : Int)) = true))
      have hlt2 : (n : Int) + 1 ≤ (s.size : Int) := by omega
      refine plan_last ?_
      simp only [pickOps, List.map_cons, List.map_nil, List.getElem?_toArray, List.getElem?_cons_zero, List.getElem?_cons_succ, Option.getD_some]
      repeat go_big_quiet_step (fail)
      refine wpQuiet_nil ?_
      go_wp2_with fail
      go_ret2
      obtain ⟨h1, h2⟩ := behind_at hlt hc.out HN.out
      exact ⟨_, _, rfl, h2.symm, h1.symm, 1, rfl⟩
    · go_round
      case rel =>
        have hlt : n < s.size := by assumption
        refine ⟨n + 1, by omega, by go_num, hid ?_⟩
        rw [bts_take s n hlt, List.mem_append, not_or]
        refine ⟨HN.out, ?_⟩
        rw [List.mem_singleton]
        exact fun e => u8_of_bne (by assumption : ((s[n].toNat : Int) == (b.toNat : Int)) = false) e.symm
      case measure => simp [intOf]; omega
    · go_ret2
      obtain rfl : n = s.size := by omega
      have h := HN.out
      rw [bts_take_all] at h
      obtain ⟨h1, h2⟩ := before_none h
      exact ⟨_, _, rfl, by rw [h2]; exact bts_lit [], h1.symm, 0, rfl⟩
/-- a version has come back, or the word that it is none -/
def ParsePost (w : World) (o : Option Ver) (e : Ending) (w' : World) : Prop := e = .returned (.tuple #[(o.getD zeroV).val, .int .i64 (if o.isSome then 0 else 5)]) ∧ Below w.heap.size w w'
theorem Box.put {w : World} {g j : Nat} {cs : List Value} (h : Box w g cs) (hj : j < cs.length) (v : Value) : Box (w.setCell ⟨g, j, none⟩ v) g (cs.take j ++ [v] ++ cs.drop (j + 1)) := h.set (o := j) (vs := [v]) (by simp only [List.length_singleton]; omega)
theorem Box.putOther {w : World} {g k j : Nat} {cs : List Value} (h : Box w g cs) (hk : g ≠ k) (v : Value) : Box (w.setCell ⟨k, j, none⟩ v) g cs := h.setOther (o := j) (vs := [v]) hk
theorem Box.drewN {w : World} {g : Nat} {cs : List Value} (h : Box w g cs) (n : Nat) : Box (w.drewN n) g cs := h
theorem Box.drew {w : World} {g : Nat} {cs : List Value} (h : Box w g cs) : Box w.drew g cs := h
theorem Soft.put {w : World} {g k j : Nat} (h : Soft w g) (v : Value) : Soft (w.setCell ⟨k, j, none⟩ v) g := h.set (o := j) (vs := [v])
theorem Soft.drewN {w : World} {g : Nat} (h : Soft w g) (n : Nat) : Soft (w.drewN n) g := h
theorem below_drewN {w w1 : World} (h : Below w.heap.size w w1) (n : Nat) : Below w.heap.size w (w1.drewN n) := ⟨⟨h.os, h.tape, h.output, h.size, h.block⟩, Nat.le_trans h.drawn (by simp [World.drewN])⟩
theorem below_put {w w1 : World} (h : Below w.heap.size w w1) {k j : Nat} (hk : w.heap.size ≤ k) (v : Value) : Below w.heap.size w (w1.setCell ⟨k, j, none⟩ v) := h.setCell (p := ⟨k, j, none⟩) hk v
/-- a box of the call's own: what it holds, where it lies, nothing of it frozen -/
structure Own (B : Nat) (w : World) (g : Nat) (cs : List Value) : Prop where
  box : Box w g cs
  soft : Soft w g
  low : B ≤ g
theorem Own.below {B : Nat} {w w' : World} {g : Nat} {cs : List Value} (h : Own B w g cs) (hb : Below w.heap.size w w') : Own B w' g cs := ⟨h.box.below hb, h.soft.below h.box.1 hb, h.low⟩
theorem Own.put {B : Nat} {w : World} {g j : Nat} {cs : List Value} (h : Own B w g cs) (hj : j < cs.length) (v : Value) : Own B (w.setCell ⟨g, j, none⟩ v) g (cs.take j ++ [v] ++ cs.drop (j + 1)) := ⟨h.box.put hj v, h.soft.put v, h.low⟩
theorem Own.other {B : Nat} {w : World} {g k j : Nat} {cs : List Value} (h : Own B w g cs) (hk : g ≠ k) (v : Value) : Own B (w.setCell ⟨k, j, none⟩ v) g cs := ⟨h.box.putOther hk v, h.soft.put v, h.low⟩
theorem Own.drewN {B : Nat} {w : World} {g : Nat} {cs : List Value} (h : Own B w g cs) (n : Nat) : Own B (w.drewN n) g cs := ⟨h.box, h.soft, h.low⟩
theorem Own.new (w : World) (cs : List Value) (t : TypeId) {B : Nat} (hB : B ≤ w.heap.size) : Own B (w.alloc (.cells cs.toArray t)) w.heap.size cs := ⟨Box.new w cs t, Soft.new w _ t, hB⟩
theorem Own.alloc {B : Nat} {w : World} {g : Nat} {cs : List Value} (h : Own B w g cs) (o : Obj) : Own B (w.alloc o) g cs := h.below (below_new w o)
theorem Own.new2 (w : World) (o : Obj) (cs : List Value) (t : TypeId) {B : Nat} (hB : B ≤ w.heap.size) : Own B ((w.alloc o).alloc (.cells cs.toArray t)) (w.heap.size + 1) cs := by
  have := Own.new (w.alloc o) cs t (B := B) (by rw [World.size_alloc]; omega)
  rwa [World.size_alloc] at this
theorem Own.set5 {B : Nat} {w : World} {g : Nat} {a0 a1 a2 a3 a4 : Value} (h : Own B w g [a0, a1, a2, a3, a4]) (b0 b1 b2 b3 b4 : Value) :
    Own B (((((w.setCell ⟨g, 0, none⟩ b0).setCell ⟨g, 1, none⟩ b1).setCell ⟨g, 2, none⟩ b2).setCell ⟨g, 3, none⟩ b3).setCell ⟨g, 4, none⟩ b4) g [b0, b1, b2, b3, b4] :=
  ⟨h.box.set (o := 0) (vs := [b0, b1, b2, b3, b4]) (by simp), h.soft.set (o := 0) (vs := [b0, b1, b2, b3, b4]), h.low⟩
theorem below_set5 {w w1 : World} (h : Below w.heap.size w w1) {g : Nat} (hg : w.heap.size ≤ g) (b0 b1 b2 b3 b4 : Value) :
    Below w.heap.size w (((((w1.setCell ⟨g, 0, none⟩ b0).setCell ⟨g, 1, none⟩ b1).setCell ⟨g, 2, none⟩ b2).setCell ⟨g, 3, none⟩ b3).setCell ⟨g, 4, none⟩ b4) :=
  below_put (below_put (below_put (below_put (below_put h hg _) hg _) hg _) hg _) hg _
theorem body_name {P : Program} {f : Func} {R : Ending → World → Prop} {e : Exit} {a : Act} {w : World} (h : ∀ w1, w1 = w → bodyPost P f R e a w1) : bodyPost P f R e a w := h w rfl
theorem put_cell {w : World} {g k j o : Nat} (h : g ≠ k) (v : Value) : (w.setCell ⟨k, j, none⟩ v).cell? ⟨g, o, none⟩ = w.cell? ⟨g, o, none⟩ := World.cell?_setCell_other _ _ _ _ (by simp only [ne_eq, Addr.mk.injEq, not_and]; intro e; exact absurd e.symm h)
theorem round_name {P : Program} {c : Code} {Q : Exit → Act → World → Prop} {n : Nat} {a : Act} {w : World} (h : ∀ w1, w1 = w → Code.rounds P c Q n a w1) : Code.rounds P c Q n a w := h w rfl
theorem calls_name {P : Program} {f : FuncId} {args : Array Value} {w : World} {R : Ending → World → Prop} (h : ∀ w1, w1 = w → Calls P f args w1 R) : Calls P f args w R := h w rfl
theorem before_len (b : UInt8) (l : List UInt8) : (beforeL b l).length ≤ l.length ∧ (afterL b l).length ≤ l.length := by
  rcases before_or b l with ⟨_, h2, h3⟩ | ⟨h1, _⟩
  · rw [h2, h3]; simp
  · have := congrArg List.length h1
    simp only [List.length_append, List.length_cons] at this
    omega
theorem size_of {s t : ByteArray} {b : UInt8} (h : bts s = beforeL b (bts t) ∨ bts s = afterL b (bts t)) : s.size ≤ t.size := by
  rw [← bts_len s, ← bts_len t]
  have := before_len b (bts t)
  rcases h with h | h <;> rw [h] <;> omega
set_option maxRecDepth 100000 in
set_option maxHeartbeats 4000000 in
theorem vparse_any (s : ByteArray) (w : World) (hL : Laid w) (hs : s.size ≤ 4398046511103) : Calls Tryz.prog 126 #[.string s] w (ParsePost w (parseV (bts s))) := by
  have HL := hid hL
  clear hL
  go_enter Tryz.func126, Tryz.ntmps126
  go_wp2_with fail
  refine (behind_any s 43 _ (by omega)).mono ?_
  rintro _ _ ⟨bld, r1, rfl, hb1, hr1, n1, rfl⟩
  have hz1 : r1.size ≤ s.size := size_of (.inl hr1)
  have hz3 : bld.size ≤ s.size := size_of (.inr hb1)
  go_wp2_with fail
  refine (behind_any r1 45 _ (by omega)).mono ?_
  rintro _ _ ⟨pre, r2, rfl, hb2, hr2, n2, rfl⟩
  have hz2 : r2.size ≤ r1.size := size_of (.inl hr2)
  have hz4 : pre.size ≤ r1.size := size_of (.inr hb2)
  go_wp2_with fail
  refine calls_name ?_
  intro w1 hw1
  have O1 : Hid (Own w.heap.size w1 w.heap.size zeroV.cells) := hid (by
    rw [hw1]
    exact (((((Own.new w zeroV.cells 44 (Nat.le_refl _)).alloc _).drewN n1).other (j := 4) (by omega) _).drewN n2).other (j := 3) (by omega) _)
  have O2 : Hid (Own w.heap.size w1 (w.heap.size + 1) [.int .i64 0, .int .i64 0, .int .i64 0, .string pre, .string bld]) := hid (by
    rw [hw1]
    exact ((((Own.new2 w _ zeroV.cells 44 (Nat.le_refl _)).drewN n1).put (j := 4) (by decide) _).drewN n2).put (j := 3) (by simp) _)
  have HB : Hid (Below w.heap.size w w1) := hid (by
    rw [hw1]
    exact below_put (below_drewN (below_put (below_drewN (below_tr (below_new w _) (below_new _ _)) n1) (by omega) _) n2) (by omega) _)
  clear hw1
  have hp := hid (show partsV (bts s) = splitP (bts r2) by rw [partsV, ← hr1, ← hr2])
  refine (split46 r2 w1 (by omega)).mono ?_
  rintro _ w2 ⟨g, cap, rfl, hg, hgl, hcap, hcell, hb⟩
  have HH := hid (show Held w2 g (splitP (bts r2)) from ⟨hgl, hcell⟩)
  have O1 := hid (O1.out.below hb)
  have O2 := hid (O2.out.below hb)
  have HB := hid (below_tr HB.out hb)
  clear hb hcell
  generalize hls : splitP (bts r2) = ls at *
  generalize hn : ls.length = n at *
  have HN := hid hn
  have HLS := hid hls
  clear hls
  by_cases h3 : n = 3
  · subst h3
    obtain ⟨l0, l1, l2, rfl⟩ : ∃ l0 l1 l2, ls = [l0, l1, l2] := by
      match ls, hn with
      | [a, b, c], _ => exact ⟨a, b, c, rfl⟩
    have c0 : w2.cell? ⟨g, 0, none⟩ = some (.string (strB l0)) := HH.out.2 0 (by simp)
    have c1 : w2.cell? ⟨g, 1, none⟩ = some (.string (strB l1)) := HH.out.2 1 (by simp)
    have c2 : w2.cell? ⟨g, 2, none⟩ = some (.string (strB l2)) := HH.out.2 2 (by simp)
    have HC0 := hid (And.intro c0 (And.intro c1 c2))
    have HG0 := hid hgl
    clear c0 c1 c2 hgl hn
    go_wp2_with fail
    refine wp_name ?_
    intro u0 hu
    have hb : Below w2.heap.size w2 u0 := by rw [hu]; exact below_new w2 _
    have N0 : Hid (Own w.heap.size u0 w2.heap.size [.int .i64 0, .int .i64 0, .int .i64 0]) := hid (by rw [hu]; exact Own.new w2 [.int .i64 0, .int .i64 0, .int .i64 0] 159 HB.out.size)
    clear hu
    have hne : g ≠ w2.heap.size := Nat.ne_of_lt HG0.out
    have hne1 := Nat.ne_of_lt O1.out.box.1
    have hne2 := Nat.ne_of_lt O2.out.box.1
    have O1 := hid (O1.out.below hb)
    have O2 := hid (O2.out.below hb)
    have HB := hid (below_tr HB.out hb)
    have HC : Hid (u0.cell? ⟨g, 0, none⟩ = some (.string (strB l0)) ∧ u0.cell? ⟨g, 1, none⟩ = some (.string (strB l1)) ∧ u0.cell? ⟨g, 2, none⟩ = some (.string (strB l2))) := hid ⟨(hb.cell (p := ⟨g, 0, none⟩) HG0.out).trans HC0.out.1, (hb.cell (p := ⟨g, 1, none⟩) HG0.out).trans HC0.out.2.1, (hb.cell (p := ⟨g, 2, none⟩) HG0.out).trans HC0.out.2.2⟩
    have HG : Hid (g < u0.heap.size) := hid (Nat.lt_of_lt_of_le HG0.out hb.size)
    clear hb HC0 HG0
    generalize w2.heap.size = gn at *
    refine wp_loop_rounds 4 ?_
    rw [rounds_succ]
    have cc := HC.out.1
    have hlg := HG.out
    go_wp2_with fail
    refine (number_any (strB l0) u0).mono ?_
    rintro _ v0 ⟨rfl, hb⟩
    rw [bts_strB]
    have O1 := hid (O1.out.below hb)
    have O2 := hid (O2.out.below hb)
    have N0 := hid (N0.out.below hb)
    have HB := hid (below_tr HB.out hb)
    have HC : Hid (v0.cell? ⟨g, 0, none⟩ = some (.string (strB l0)) ∧ v0.cell? ⟨g, 1, none⟩ = some (.string (strB l1)) ∧ v0.cell? ⟨g, 2, none⟩ = some (.string (strB l2))) := hid ⟨(hb.cell (p := ⟨g, 0, none⟩) HG.out).trans HC.out.1, (hb.cell (p := ⟨g, 1, none⟩) HG.out).trans HC.out.2.1, (hb.cell (p := ⟨g, 2, none⟩) HG.out).trans HC.out.2.2⟩
    have HG : Hid (g < v0.heap.size) := hid (Nat.lt_of_lt_of_le HG.out hb.size)
    clear hb cc hlg
    generalize hk0 : numberL l0 = m0 at *
    obtain ⟨i0, b0⟩ := m0
    cases b0
    · have hr := hid (show parseV (bts s) = none by
        unfold parseV
        rw [hp.out]
        simp [threeV, hk0])
      obtain ⟨x0, x1, x2, x3, x4⟩ := O1.out.box.get5
      have sf : ∀ j, v0.frozen? ⟨w.heap.size, j, none⟩ = false := O1.out.soft
      have hlt := O1.out.box.1
      go_wp2_with fail
      refine body_name ?_
      intro w3 hw3
      have O3 : Own w.heap.size w3 w.heap.size zeroV.cells := by rw [hw3]; exact O1.out.set5 _ _ _ _ _
      have B3 : Below w.heap.size w w3 := by rw [hw3]; exact below_set5 HB.out (Nat.le_refl _) _ _ _ _ _
      clear hw3
      obtain ⟨k0, k1, k2, k3, k4⟩ := O3.box.get5
      refine bodyPost_ret (v := .tuple #[zeroV.val, .int .i64 5]) (by simp [results, Tryz.results126, go_sem, k0, k1, k2, k3, k4, zeroV]) rfl ?_
      rw [show parseV (bts s) = none from hr.out]
      exact ⟨rfl, B3⟩
    obtain ⟨y0, y1, y2⟩ := (⟨N0.out.box.2 0 _ rfl, N0.out.box.2 1 _ rfl, N0.out.box.2 2 _ rfl⟩ : v0.cell? ⟨gn, 0, none⟩ = some (.int .i64 0) ∧ v0.cell? ⟨gn, 1, none⟩ = some (.int .i64 0) ∧ v0.cell? ⟨gn, 2, none⟩ = some (.int .i64 0))
    have sf : ∀ j, v0.frozen? ⟨gn, j, none⟩ = false := N0.out.soft
    have hlt := N0.out.box.1
    go_wp2_with fail
    refine round_name ?_
    intro u1 hu
    have N1 : Hid (Own w.heap.size u1 gn [.int .i64 i0, .int .i64 0, .int .i64 0]) := hid (by rw [hu]; exact N0.out.put (j := 0) (by simp) (.int .i64 i0))
    have HB := hid (show Below w.heap.size w u1 by rw [hu]; exact below_put HB.out N0.out.low _)
    have O1 := hid (show Own w.heap.size u1 w.heap.size zeroV.cells by rw [hu]; exact O1.out.other hne1 _)
    have O2 := hid (show Own w.heap.size u1 (w.heap.size + 1) [.int .i64 0, .int .i64 0, .int .i64 0, .string pre, .string bld] by rw [hu]; exact O2.out.other hne2 _)
    have HC : Hid (u1.cell? ⟨g, 0, none⟩ = some (.string (strB l0)) ∧ u1.cell? ⟨g, 1, none⟩ = some (.string (strB l1)) ∧ u1.cell? ⟨g, 2, none⟩ = some (.string (strB l2))) := hid (by rw [hu]; exact ⟨(put_cell hne _).trans HC.out.1, (put_cell hne _).trans HC.out.2.1, (put_cell hne _).trans HC.out.2.2⟩)
    have HG : Hid (g < u1.heap.size) := hid (by rw [hu, World.size_setCell]; exact HG.out)
    clear hu y0 y1 y2 sf hlt
    rw [rounds_succ]
    have cc := HC.out.2.1
    have hlg := HG.out
    go_wp2_with fail
    refine (number_any (strB l1) u1).mono ?_
    rintro _ v1 ⟨rfl, hb⟩
    rw [bts_strB]
    have O1 := hid (O1.out.below hb)
    have O2 := hid (O2.out.below hb)
    have N1 := hid (N1.out.below hb)
    have HB := hid (below_tr HB.out hb)
    have HC : Hid (v1.cell? ⟨g, 0, none⟩ = some (.string (strB l0)) ∧ v1.cell? ⟨g, 1, none⟩ = some (.string (strB l1)) ∧ v1.cell? ⟨g, 2, none⟩ = some (.string (strB l2))) := hid ⟨(hb.cell (p := ⟨g, 0, none⟩) HG.out).trans HC.out.1, (hb.cell (p := ⟨g, 1, none⟩) HG.out).trans HC.out.2.1, (hb.cell (p := ⟨g, 2, none⟩) HG.out).trans HC.out.2.2⟩
    have HG : Hid (g < v1.heap.size) := hid (Nat.lt_of_lt_of_le HG.out hb.size)
    clear hb cc hlg
    generalize hk1 : numberL l1 = m1 at *
    obtain ⟨i1, b1⟩ := m1
    cases b1
    · have hr := hid (show parseV (bts s) = none by
        unfold parseV
        rw [hp.out]
        simp [threeV, hk0, hk1])
      obtain ⟨x0, x1, x2, x3, x4⟩ := O1.out.box.get5
      have sf : ∀ j, v1.frozen? ⟨w.heap.size, j, none⟩ = false := O1.out.soft
      have hlt := O1.out.box.1
      go_wp2_with fail
      refine body_name ?_
      intro w3 hw3
      have O3 : Own w.heap.size w3 w.heap.size zeroV.cells := by rw [hw3]; exact O1.out.set5 _ _ _ _ _
      have B3 : Below w.heap.size w w3 := by rw [hw3]; exact below_set5 HB.out (Nat.le_refl _) _ _ _ _ _
      clear hw3
      obtain ⟨k0, k1, k2, k3, k4⟩ := O3.box.get5
      refine bodyPost_ret (v := .tuple #[zeroV.val, .int .i64 5]) (by simp [results, Tryz.results126, go_sem, k0, k1, k2, k3, k4, zeroV]) rfl ?_
      rw [show parseV (bts s) = none from hr.out]
      exact ⟨rfl, B3⟩
    obtain ⟨y0, y1, y2⟩ := (⟨N1.out.box.2 0 _ rfl, N1.out.box.2 1 _ rfl, N1.out.box.2 2 _ rfl⟩ : v1.cell? ⟨gn, 0, none⟩ = some (.int .i64 i0) ∧ v1.cell? ⟨gn, 1, none⟩ = some (.int .i64 0) ∧ v1.cell? ⟨gn, 2, none⟩ = some (.int .i64 0))
    have sf : ∀ j, v1.frozen? ⟨gn, j, none⟩ = false := N1.out.soft
    have hlt := N1.out.box.1
    go_wp2_with fail
    refine round_name ?_
    intro u2 hu
    have N2 : Hid (Own w.heap.size u2 gn [.int .i64 i0, .int .i64 i1, .int .i64 0]) := hid (by rw [hu]; exact N1.out.put (j := 1) (by simp) (.int .i64 i1))
    have HB := hid (show Below w.heap.size w u2 by rw [hu]; exact below_put HB.out N1.out.low _)
    have O1 := hid (show Own w.heap.size u2 w.heap.size zeroV.cells by rw [hu]; exact O1.out.other hne1 _)
    have O2 := hid (show Own w.heap.size u2 (w.heap.size + 1) [.int .i64 0, .int .i64 0, .int .i64 0, .string pre, .string bld] by rw [hu]; exact O2.out.other hne2 _)
    have HC : Hid (u2.cell? ⟨g, 0, none⟩ = some (.string (strB l0)) ∧ u2.cell? ⟨g, 1, none⟩ = some (.string (strB l1)) ∧ u2.cell? ⟨g, 2, none⟩ = some (.string (strB l2))) := hid (by rw [hu]; exact ⟨(put_cell hne _).trans HC.out.1, (put_cell hne _).trans HC.out.2.1, (put_cell hne _).trans HC.out.2.2⟩)
    have HG : Hid (g < u2.heap.size) := hid (by rw [hu, World.size_setCell]; exact HG.out)
    clear hu y0 y1 y2 sf hlt
    rw [rounds_succ]
    have cc := HC.out.2.2
    have hlg := HG.out
    go_wp2_with fail
    refine (number_any (strB l2) u2).mono ?_
    rintro _ v2 ⟨rfl, hb⟩
    rw [bts_strB]
    have O1 := hid (O1.out.below hb)
    have O2 := hid (O2.out.below hb)
    have N2 := hid (N2.out.below hb)
    have HB := hid (below_tr HB.out hb)
    have HC : Hid (v2.cell? ⟨g, 0, none⟩ = some (.string (strB l0)) ∧ v2.cell? ⟨g, 1, none⟩ = some (.string (strB l1)) ∧ v2.cell? ⟨g, 2, none⟩ = some (.string (strB l2))) := hid ⟨(hb.cell (p := ⟨g, 0, none⟩) HG.out).trans HC.out.1, (hb.cell (p := ⟨g, 1, none⟩) HG.out).trans HC.out.2.1, (hb.cell (p := ⟨g, 2, none⟩) HG.out).trans HC.out.2.2⟩
    have HG : Hid (g < v2.heap.size) := hid (Nat.lt_of_lt_of_le HG.out hb.size)
    clear hb cc hlg
    generalize hk2 : numberL l2 = m2 at *
    obtain ⟨i2, b2⟩ := m2
    cases b2
    · have hr := hid (show parseV (bts s) = none by
        unfold parseV
        rw [hp.out]
        simp [threeV, hk0, hk1, hk2])
      obtain ⟨x0, x1, x2, x3, x4⟩ := O1.out.box.get5
      have sf : ∀ j, v2.frozen? ⟨w.heap.size, j, none⟩ = false := O1.out.soft
      have hlt := O1.out.box.1
      go_wp2_with fail
      refine body_name ?_
      intro w3 hw3
      have O3 : Own w.heap.size w3 w.heap.size zeroV.cells := by rw [hw3]; exact O1.out.set5 _ _ _ _ _
      have B3 : Below w.heap.size w w3 := by rw [hw3]; exact below_set5 HB.out (Nat.le_refl _) _ _ _ _ _
      clear hw3
      obtain ⟨k0, k1, k2, k3, k4⟩ := O3.box.get5
      refine bodyPost_ret (v := .tuple #[zeroV.val, .int .i64 5]) (by simp [results, Tryz.results126, go_sem, k0, k1, k2, k3, k4, zeroV]) rfl ?_
      rw [show parseV (bts s) = none from hr.out]
      exact ⟨rfl, B3⟩
    obtain ⟨y0, y1, y2⟩ := (⟨N2.out.box.2 0 _ rfl, N2.out.box.2 1 _ rfl, N2.out.box.2 2 _ rfl⟩ : v2.cell? ⟨gn, 0, none⟩ = some (.int .i64 i0) ∧ v2.cell? ⟨gn, 1, none⟩ = some (.int .i64 i1) ∧ v2.cell? ⟨gn, 2, none⟩ = some (.int .i64 0))
    have sf : ∀ j, v2.frozen? ⟨gn, j, none⟩ = false := N2.out.soft
    have hlt := N2.out.box.1
    go_wp2_with fail
    refine round_name ?_
    intro u3 hu
    have N3 : Hid (Own w.heap.size u3 gn [.int .i64 i0, .int .i64 i1, .int .i64 i2]) := hid (by rw [hu]; exact N2.out.put (j := 2) (by simp) (.int .i64 i2))
    have HB := hid (show Below w.heap.size w u3 by rw [hu]; exact below_put HB.out N2.out.low _)
    have O1 := hid (show Own w.heap.size u3 w.heap.size zeroV.cells by rw [hu]; exact O1.out.other hne1 _)
    have O2 := hid (show Own w.heap.size u3 (w.heap.size + 1) [.int .i64 0, .int .i64 0, .int .i64 0, .string pre, .string bld] by rw [hu]; exact O2.out.other hne2 _)
    have HC : Hid (u3.cell? ⟨g, 0, none⟩ = some (.string (strB l0)) ∧ u3.cell? ⟨g, 1, none⟩ = some (.string (strB l1)) ∧ u3.cell? ⟨g, 2, none⟩ = some (.string (strB l2))) := hid (by rw [hu]; exact ⟨(put_cell hne _).trans HC.out.1, (put_cell hne _).trans HC.out.2.1, (put_cell hne _).trans HC.out.2.2⟩)
    have HG : Hid (g < u3.heap.size) := hid (by rw [hu, World.size_setCell]; exact HG.out)
    clear hu y0 y1 y2 sf hlt
    rw [rounds_succ]
    go_wp2_with fail
    have hS : u3.drew.cell? ⟨gn, 0, none⟩ = some (.int .i64 i0) ∧ u3.drew.cell? ⟨gn, 1, none⟩ = some (.int .i64 i1) ∧ u3.drew.cell? ⟨gn, 2, none⟩ = some (.int .i64 i2) := ⟨N3.out.box.2 0 _ rfl, N3.out.box.2 1 _ rfl, N3.out.box.2 2 _ rfl⟩
    refine wp_planS (fun u => u.cell? ⟨gn, 0, none⟩ = some (.int .i64 i0) ∧ u.cell? ⟨gn, 1, none⟩ = some (.int .i64 i1) ∧ u.cell? ⟨gn, 2, none⟩ = some (.int .i64 i2)) (.call [0, 1, 2, 3, 4, 5, 6] 7 (.call [8] 9 (.call [10] 11 (.last [])))) (by first | assumption | skip) (by kernel_rfl) (by intro _ _ d _ _ h; cases d <;> exact h) (by kernel_rfl) ?_
    have iS : Nonempty (SW fun u => u.cell? ⟨gn, 0, none⟩ = some (.int .i64 i0) ∧ u.cell? ⟨gn, 1, none⟩ = some (.int .i64 i1) ∧ u.cell? ⟨gn, 2, none⟩ = some (.int .i64 i2)) := ⟨⟨_, hS⟩⟩
    have q0 := fun (z : SW fun u => u.cell? ⟨gn, 0, none⟩ = some (.int .i64 i0) ∧ u.cell? ⟨gn, 1, none⟩ = some (.int .i64 i1) ∧ u.cell? ⟨gn, 2, none⟩ = some (.int .i64 i2)) => z.ok.1
    have q1 := fun (z : SW fun u => u.cell? ⟨gn, 0, none⟩ = some (.int .i64 i0) ∧ u.cell? ⟨gn, 1, none⟩ = some (.int .i64 i1) ∧ u.cell? ⟨gn, 2, none⟩ = some (.int .i64 i2)) => z.ok.2.1
    have q2 := fun (z : SW fun u => u.cell? ⟨gn, 0, none⟩ = some (.int .i64 i0) ∧ u.cell? ⟨gn, 1, none⟩ = some (.int .i64 i1) ∧ u.cell? ⟨gn, 2, none⟩ = some (.int .i64 i2)) => z.ok.2.2
    obtain ⟨x0, x1, x2, x3, x4⟩ := O2.out.box.get5
    have sf : ∀ j, u3.frozen? ⟨w.heap.size + 1, j, none⟩ = false := O2.out.soft
    have hlt := O2.out.box.1
    have hnn : gn ≠ w.heap.size + 1 := fun e => hne2 e.symm
    refine plan_call ?_
    simp only [pickOps, List.map_cons, List.map_nil, List.getElem?_toArray, List.getElem?_cons_zero, List.getElem?_cons_succ, Option.getD_some]
    repeat go_big_quiet_step (fail)
    refine wpQuiet_nil ?_
    go_wp2_with fail
    refine plan_onS ⟨(put_cell hnn _).trans hS.1, (put_cell hnn _).trans hS.2.1, (put_cell hnn _).trans hS.2.2⟩ ?_
    refine plan_call ?_
    simp only [pickOps, List.map_cons, List.map_nil, List.getElem?_toArray, List.getElem?_cons_zero, List.getElem?_cons_succ, Option.getD_some]
    repeat go_big_quiet_step (fail)
    refine wpQuiet_nil ?_
    go_wp2_with fail
    refine plan_onS ⟨(put_cell hnn _).trans ((put_cell hnn _).trans hS.1), (put_cell hnn _).trans ((put_cell hnn _).trans hS.2.1), (put_cell hnn _).trans ((put_cell hnn _).trans hS.2.2)⟩ ?_
    refine plan_call ?_
    simp only [pickOps, List.map_cons, List.map_nil, List.getElem?_toArray, List.getElem?_cons_zero, List.getElem?_cons_succ, Option.getD_some]
    repeat go_big_quiet_step (fail)
    refine wpQuiet_nil ?_
    go_wp2_with fail
    refine plan_onS ⟨(put_cell hnn _).trans ((put_cell hnn _).trans ((put_cell hnn _).trans hS.1)), (put_cell hnn _).trans ((put_cell hnn _).trans ((put_cell hnn _).trans hS.2.1)), (put_cell hnn _).trans ((put_cell hnn _).trans ((put_cell hnn _).trans hS.2.2))⟩ ?_
    refine plan_last ?_
    simp only [pickOps, List.map_cons, List.map_nil, List.getElem?_toArray, List.getElem?_cons_zero, List.getElem?_cons_succ, Option.getD_some]
    repeat go_big_quiet_step (fail)
    refine wpQuiet_nil ?_
    go_wp2_with fail
    refine calls_name ?_
    intro u4 hu
    have HB := hid (show Below w.heap.size w u4 by rw [hu]; exact (below_put (below_put (below_put HB.out (by omega) _) (by omega) _) (by omega) _).drew)
    have O1 := hid (show Own w.heap.size u4 w.heap.size zeroV.cells by rw [hu]; exact ((((O1.out.other (k := w.heap.size + 1) (j := 0) (by omega) _).other (j := 1) (by omega) _).other (j := 2) (by omega) _).drewN 1))
    have O2 := hid (show Own w.heap.size u4 (w.heap.size + 1) [.int .i64 i0, .int .i64 i1, .int .i64 i2, .string pre, .string bld] by rw [hu]; exact ((((O2.out.put (j := 0) (by simp) _).put (j := 1) (by simp) _).put (j := 2) (by simp) _).drewN 1))
    clear hu hS iS q0 q1 q2 x0 x1 x2 x3 x4 sf hlt hnn
    have HT := hid (show threeV [l0, l1, l2] (bts pre) (bts bld) = some ⟨i0, i1, i2, pre, bld⟩ by simp [threeV, hk0, hk1, hk2, strB_bts])
    have HP : Hid (parseV (bts s) = if mayV ⟨i0, i1, i2, pre, bld⟩ && decide (printV ⟨i0, i1, i2, pre, bld⟩ = bts s) then some ⟨i0, i1, i2, pre, bld⟩ else none) := hid (by
      unfold parseV
      rw [hp.out, ← hr1, ← hb2, ← hb1, HT.out])
    have hfit : (⟨i0, i1, i2, pre, bld⟩ : Ver).fit := ⟨by simp only; omega, by simp only; omega⟩
    have HF := hid hfit
    refine (may_any ⟨i0, i1, i2, pre, bld⟩ u4 hfit).mono ?_
    rintro _ u5 ⟨rfl, hb⟩
    have O1 := hid (O1.out.below hb)
    have O2 := hid (O2.out.below hb)
    have HB := hid (below_tr HB.out hb)
    clear hb hfit
    obtain ⟨x0, x1, x2, x3, x4⟩ := O1.out.box.get5
    obtain ⟨y0, y1, y2, y3, y4⟩ := O2.out.box.get5
    have sf : ∀ j, u5.frozen? ⟨w.heap.size, j, none⟩ = false := O1.out.soft
    have hlt := O1.out.box.1
    cases hm : mayV ⟨i0, i1, i2, pre, bld⟩
    · have hr := hid (show parseV (bts s) = none by rw [HP.out, hm]; rfl)
      go_wp2_with fail
      refine body_name ?_
      intro w3 hw3
      have O3 : Own w.heap.size w3 w.heap.size zeroV.cells := by rw [hw3]; exact O1.out.set5 _ _ _ _ _
      have B3 : Below w.heap.size w w3 := by rw [hw3]; exact below_set5 HB.out (Nat.le_refl _) _ _ _ _ _
      clear hw3
      obtain ⟨k0, k1, k2, k3, k4⟩ := O3.box.get5
      refine bodyPost_ret (v := .tuple #[zeroV.val, .int .i64 5]) (by simp [results, Tryz.results126, go_sem, k0, k1, k2, k3, k4, zeroV]) rfl ?_
      rw [show parseV (bts s) = none from hr.out]
      exact ⟨rfl, B3⟩
    go_wp2_with fail
    refine (vprint_any ⟨i0, i1, i2, pre, bld⟩ u5 (HL.out.below HB.out) HF.out).mono ?_
    rintro _ u6 ⟨tx, rfl, htx0, hb⟩
    have htx := hid htx0
    clear htx0
    have O1 := hid (O1.out.below hb)
    have O2 := hid (O2.out.below hb)
    have HB := hid (below_tr HB.out hb)
    clear hb x0 x1 x2 x3 x4 y0 y1 y2 y3 y4 sf hlt
    obtain ⟨x0, x1, x2, x3, x4⟩ := O1.out.box.get5
    obtain ⟨y0, y1, y2, y3, y4⟩ := O2.out.box.get5
    have sf : ∀ j, u6.frozen? ⟨w.heap.size, j, none⟩ = false := O1.out.soft
    have hlt := O1.out.box.1
    by_cases he : tx = s
    · subst he
      have hr := hid (show parseV (bts tx) = some ⟨i0, i1, i2, pre, bld⟩ by rw [HP.out, hm, htx.out]; simp)
      go_wp2_with fail
      refine body_name ?_
      intro w3 hw3
      have O3 : Own w.heap.size w3 w.heap.size [.int .i64 i0, .int .i64 i1, .int .i64 i2, .string pre, .string bld] := by rw [hw3]; exact O1.out.set5 _ _ _ _ _
      have B3 : Below w.heap.size w w3 := by rw [hw3]; exact below_set5 HB.out (Nat.le_refl _) _ _ _ _ _
      clear hw3
      obtain ⟨k0, k1, k2, k3, k4⟩ := O3.box.get5
      refine bodyPost_ret (v := .tuple #[.agg #[.int .i64 i0, .int .i64 i1, .int .i64 i2, .string pre, .string bld], .int .i64 0]) (by simp [results, Tryz.results126, go_sem, k0, k1, k2, k3, k4]) rfl ?_
      rw [hr.out]
      exact ⟨rfl, B3⟩
    · have hr := hid (show parseV (bts s) = none by
        rw [HP.out, hm]
        simp only [Bool.true_and]
        rw [if_neg (by rw [decide_eq_true_eq, ← htx.out]; exact fun e => he (bts_inj e))])
      have hl : ¬ tx.toList = s.toList := fun e => he (bts_inj e)
      have hl2 : (tx.toList == s.toList) = false := by simpa using hl
      go_wp2_with fail
      refine body_name ?_
      intro w3 hw3
      have O3 : Own w.heap.size w3 w.heap.size zeroV.cells := by rw [hw3]; exact O1.out.set5 _ _ _ _ _
      have B3 : Below w.heap.size w w3 := by rw [hw3]; exact below_set5 HB.out (Nat.le_refl _) _ _ _ _ _
      clear hw3
      obtain ⟨k0, k1, k2, k3, k4⟩ := O3.box.get5
      refine bodyPost_ret (v := .tuple #[zeroV.val, .int .i64 5]) (by simp [results, Tryz.results126, go_sem, k0, k1, k2, k3, k4, zeroV]) rfl ?_
      rw [show parseV (bts s) = none from hr.out]
      exact ⟨rfl, B3⟩
  · have h3' : (n : Int) ≠ 3 := by omega
    have hr := hid (show parseV (bts s) = none by
      unfold parseV
      rw [hp.out]
      match ls, hn with
      | [], _ => rfl
      | [_], _ => rfl
      | [_, _], _ => rfl
      | [_, _, _], k => exact absurd k.symm h3
      | _ :: _ :: _ :: _ :: _, _ => rfl)
    obtain ⟨x0, x1, x2, x3, x4⟩ := O1.out.box.get5
    have sf : ∀ j, w2.frozen? ⟨w.heap.size, j, none⟩ = false := O1.out.soft
    have hlt := O1.out.box.1
    go_wp2_with fail
    refine body_name ?_
    intro w3 hw3
    have O3 : Own w.heap.size w3 w.heap.size zeroV.cells := by rw [hw3]; exact O1.out.set5 _ _ _ _ _
    have B3 : Below w.heap.size w w3 := by rw [hw3]; exact below_set5 HB.out (Nat.le_refl _) _ _ _ _ _
    clear hw3
    obtain ⟨k0, k1, k2, k3, k4⟩ := O3.box.get5
    refine bodyPost_ret (v := .tuple #[zeroV.val, .int .i64 5]) (by simp [results, Tryz.results126, go_sem, k0, k1, k2, k3, k4, zeroV]) rfl ?_
    rw [hr.out]
    exact ⟨rfl, B3⟩
end Go.Proofs.YtjceaniffooohaaGreatDoor
