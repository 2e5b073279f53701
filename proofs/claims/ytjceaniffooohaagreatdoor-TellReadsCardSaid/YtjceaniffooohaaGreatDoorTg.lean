/- Contracts: tell's page: spans and rows written. -/
import Derived.Test.YtjceaniffooohaaGreatDoorTf
import Derived.Test.YtjceaniffooohaaGreatDoorTb
import Derived.Test.YtjceaniffooohaaGreatDoorBu
namespace Go.Proofs.YtjceaniffooohaaGreatDoor
open Go.RowKit Go.Lib
open Rw
set_option linter.unusedVariables false
set_option linter.unusedSimpArgs false

/-- a block that holds these cells, of this type -/
def BoxT (w : World) (g : Nat) (cs : List Value) (t : TypeId) : Prop := w.heap[g]? = some (.cells cs.toArray t (0, 0))
theorem BoxT.lt {w : World} {g : Nat} {cs : List Value} {t : TypeId} (h : BoxT w g cs t) : g < w.heap.size := by
  rcases Nat.lt_or_ge g w.heap.size with k | k
  · exact k
  · unfold BoxT at h; rw [Array.getElem?_eq_none k] at h; cases h
theorem BoxT.box {w : World} {g : Nat} {cs : List Value} {t : TypeId} (h : BoxT w g cs t) : Box w g cs := ⟨h.lt, fun j u hj => by
  rw [Lib.cell_of_heap h]; simpa using hj⟩
theorem BoxT.new (w : World) (cs : List Value) (t : TypeId) : BoxT (w.alloc (.cells cs.toArray t)) w.heap.size cs t := heap_alloc_new w _
theorem BoxT.below {w w' : World} {g : Nat} {cs : List Value} {t : TypeId} (h : BoxT w g cs t) (hb : Below w.heap.size w w') : BoxT w' g cs t := by
  unfold BoxT; rw [hb.block g h.lt]; exact h
theorem BoxT.wrote {w w' : World} {g b : Nat} {cs : List Value} {t : TypeId} (h : BoxT w g cs t) (hw : Wrote b w w') (hg : g ≠ b) (ht : t ≠ 5) : BoxT w' g cs t :=
  hw.kept g _ h (by intro e; exact hg (Option.some.inj e)) (fun c fz e => by injection e with _ e _; exact ht e)
theorem rowF_below {w w' : World} {base e size n : Nat} {v : Value} {xs : List Value} (h : w.ownsRowF base e size v n xs) (hb : Below w.heap.size w w') : w'.ownsRowF base e size v n xs := by
  obtain ⟨h1, h2⟩ := h
  refine ⟨h1, ?_⟩
  rcases h2 with h2 | ⟨g, cap, cur, fz, hv, hg, hh, r⟩
  · exact .inl h2
  · have hlt : g < w.heap.size := by
      rcases Nat.lt_or_ge g w.heap.size with k | k
      · exact k
      · rw [Array.getElem?_eq_none k] at hh; cases hh
    exact .inr ⟨g, cap, cur, fz, hv, hg, by rw [hb.block g hlt]; exact hh, r⟩
theorem bat_below {T e : TypeId} {B b : Nat} {p : Value} {bs : List Value} {w w' : World} (h : Lib.BuilderAtF T e B b p bs w) (hb : Below w.heap.size w w') : Lib.BuilderAtF T e B b p bs w' := by
  obtain ⟨h1, v, h2, h3, h4⟩ := h
  have hlt : b < w.heap.size := by
    rcases Nat.lt_or_ge b w.heap.size with k | k
    · exact k
    · rw [Array.getElem?_eq_none k] at h2; cases h2
  exact ⟨h1, v, by rw [hb.block b hlt]; exact h2, rowF_below h3 hb, h4⟩
theorem PageAt.below {b : Nat} {l : List UInt8} {w w' : World} (h : PageAt b l w) (hb : Below w.heap.size w w') : PageAt b l w' := h.imp (fun h => bat_below h hb) (fun h => bat_below h hb)
theorem PageAt.lt {b : Nat} {l : List UInt8} {w : World} (h : PageAt b l w) : b < w.heap.size := h.elim (fun h => h.lt) (fun h => h.lt)
theorem Wrote.of {b : Nat} {w w' : World} (h : Below w.heap.size w w') (hb : b ≤ w.heap.size) : Wrote b w w' := by
  refine ⟨h.mono hb, fun k o hk _ _ => ?_⟩
  have hlt : k < w.heap.size := by
    rcases Nat.lt_or_ge k w.heap.size with k' | k'
    · exact k'
    · rw [Array.getElem?_eq_none k'] at hk; cases hk
  rw [h.block k hlt]; exact hk
/-- the page as it stands in a walk: what it holds, what has been turned since w0 -/
structure Pg (b : Nat) (w0 : World) (l : List UInt8) (w : World) : Prop where
  page : PageAt b l w
  wrote : Wrote b w0 w
theorem Pg.below {b : Nat} {w0 w w' : World} {l : List UInt8} (h : Pg b w0 l w) (hb : Below w.heap.size w w') : Pg b w0 l w' :=
  ⟨h.page.below hb, h.wrote.trans (Wrote.of hb (Nat.le_of_lt h.page.lt))⟩
theorem pg_write {b : Nat} {w0 w : World} {l : List UInt8} (h : Pg b w0 l w) (s : ByteArray) (hlen : l.length + s.size ≤ 140737488355328) :
    Calls Tryz.prog 72 #[.pointer (some ⟨b, 0, none⟩), .string s] w fun e w' => e = .returned (.tuple #[.int .i64 s.size, .nilIface]) ∧ Pg b w0 (l ++ bts s) w' ∧ Wrote b w w' :=
  (pwrite_any b l s w h.page hlen).mono fun _ _ ⟨h1, h2, h3⟩ => ⟨h1, ⟨h2, h.wrote.trans h3⟩, h3⟩
/-- what the span's walk keeps at hand -/
structure SpW (b : Nat) (w0 : World) (g : Nat) (s : SpanL) (l : List UInt8) (w : World) : Prop where
  pg : Pg b w0 l w
  box : BoxT w g s.cells 83
theorem SpW.below {b g : Nat} {w0 w w' : World} {s : SpanL} {l : List UInt8} (h : SpW b w0 g s l w) (hb : Below w.heap.size w w') : SpW b w0 g s l w' := ⟨h.pg.below hb, h.box.below hb⟩
theorem spw_write {b g : Nat} {w0 w : World} {s : SpanL} {l : List UInt8} (hg : g ≠ b) (h : SpW b w0 g s l w) (t : ByteArray) (hlen : l.length + t.size ≤ 140737488355328) :
    Calls Tryz.prog 72 #[.pointer (some ⟨b, 0, none⟩), .string t] w fun e w' => e = .returned (.tuple #[.int .i64 t.size, .nilIface]) ∧ SpW b w0 g s (l ++ bts t) w' :=
  (pg_write h.pg t hlen).mono fun _ _ ⟨h1, h2, h3⟩ => ⟨h1, h2, h.box.wrote h3 hg (by decide)⟩
/-! span -/
theorem b62 : bts (⟨#[62]⟩ : ByteArray) = [62] := bts_lit [62]
theorem z62 : (⟨#[62]⟩ : ByteArray).size = 1 := rfl
theorem b61 : bts (⟨#[61]⟩ : ByteArray) = [61] := bts_lit [61]
theorem z61 : (⟨#[61]⟩ : ByteArray).size = 1 := rfl
theorem b60 : bts (⟨#[60]⟩ : ByteArray) = [60] := bts_lit [60]
theorem z60 : (⟨#[60]⟩ : ByteArray).size = 1 := rfl
theorem b42 : bts (⟨#[42]⟩ : ByteArray) = [42] := bts_lit [42]
theorem z42 : (⟨#[42]⟩ : ByteArray).size = 1 := rfl
theorem b32 : bts (⟨#[32]⟩ : ByteArray) = [32] := bts_lit [32]
theorem z32 : (⟨#[32]⟩ : ByteArray).size = 1 := rfl
theorem spw_laid {b g : Nat} {w0 w : World} {s : SpanL} {l : List UInt8} (hL : Laid w0) (h0 : w0.heap.size ≤ b) (h : SpW b w0 g s l w) : Laid w := hL.below (h.pg.wrote.below.mono h0)
theorem cut_room {l a : List UInt8} {n m : Nat} (h : l.length + a.length ≤ n) (h2 : m ≤ a.length) : l.length + m ≤ n := by omega
set_option maxRecDepth 100000 in
set_option maxHeartbeats 4000000 in
theorem span_ee (b : Nat) (w0 : World) (v1 v2 : Ver) (e1 : Int) (f1 : Bool) (e2 : Int) (f2 : Bool) (l : List UInt8) (w : World) (hL : Laid w0) (h0 : w0.heap.size ≤ b) (hs : SpanL.fit (⟨⟨e1, v1, f1⟩, ⟨e2, v2, f2⟩⟩ : SpanL)) (hp : Pg b w0 l w) (hr : l.length + (spanT (⟨⟨e1, v1, f1⟩, ⟨e2, v2, f2⟩⟩ : SpanL)).length ≤ 140737488355328) (h1 : e1 ≠ 0) (h2 : e2 ≠ 0) :
    Calls Tryz.prog 120 #[.pointer (some ⟨b, 0, none⟩), SpanL.val (⟨⟨e1, v1, f1⟩, ⟨e2, v2, f2⟩⟩ : SpanL)] w fun e w' => e = .returned (.tuple #[]) ∧ Pg b w0 (l ++ spanT (⟨⟨e1, v1, f1⟩, ⟨e2, v2, f2⟩⟩ : SpanL)) w' := by
  have HT := hid (show spanT (⟨⟨e1, v1, f1⟩, ⟨e2, v2, f2⟩⟩ : SpanL) = [42] by simp [spanT, loT, hiT, h1, h2])
  have HS := hid (SpW.mk (hp.below (below_new w (.cells (SpanL.cells (⟨⟨e1, v1, f1⟩, ⟨e2, v2, f2⟩⟩ : SpanL)).toArray 83))) (BoxT.new w (SpanL.cells (⟨⟨e1, v1, f1⟩, ⟨e2, v2, f2⟩⟩ : SpanL)) 83))
  have hbg : w.heap.size ≠ b := Nat.ne_of_gt hp.page.lt
  have HL := hid hL
  have H0 := hid h0
  have HR := hid hr
  have HF := hid hs
  have HHP := hid hp
  clear hp hL hr hs h0
  have k1 : (e1 == 0) = false := by simpa using h1
  have k1' : (e1 != 0) = true := by simp [h1]
  clear h1
  have k2 : (e2 == 0) = false := by simpa using h2
  have k2' : (e2 != 0) = true := by simp [h2]
  clear h2
  go_enter Tryz.func120, Tryz.ntmps120
  go_wp2_with fail
  refine (spw_write hbg HS.out ⟨#[42]⟩ (by
      have hh := HR.out
      rw [HT.out] at hh
      simp only [List.length_append, List.length_cons, List.length_nil, bts_len, z62, z61, z60, z42, z32] at hh ⊢
      omega)).mono ?_
  rintro _ u1 ⟨rfl, hq⟩
  have HS := hid hq
  clear hq
  obtain ⟨⟨c0, -, -, -, -, -, c6⟩, c7, -, -, -, -, -, c13⟩ := HS.out.box.box.get14
  go_wp2_with fail
  first | (go_ret) | go_end0 | go_returns
  refine ⟨rfl, ?_⟩
  have hq := HS.out.pg
  rw [HT.out]
  simp only [b62, b61, b60, b42, b32, List.append_assoc] at hq ⊢
  exact hq
set_option maxRecDepth 100000 in
set_option maxHeartbeats 4000000 in
theorem span_et (b : Nat) (w0 : World) (v1 v2 : Ver) (e1 : Int) (f1 : Bool) (l : List UInt8) (w : World) (hL : Laid w0) (h0 : w0.heap.size ≤ b) (hs : SpanL.fit (⟨⟨e1, v1, f1⟩, ⟨0, v2, true⟩⟩ : SpanL)) (hp : Pg b w0 l w) (hr : l.length + (spanT (⟨⟨e1, v1, f1⟩, ⟨0, v2, true⟩⟩ : SpanL)).length ≤ 140737488355328) (h1 : e1 ≠ 0) :
    Calls Tryz.prog 120 #[.pointer (some ⟨b, 0, none⟩), SpanL.val (⟨⟨e1, v1, f1⟩, ⟨0, v2, true⟩⟩ : SpanL)] w fun e w' => e = .returned (.tuple #[]) ∧ Pg b w0 (l ++ spanT (⟨⟨e1, v1, f1⟩, ⟨0, v2, true⟩⟩ : SpanL)) w' := by
  have HT := hid (show spanT (⟨⟨e1, v1, f1⟩, ⟨0, v2, true⟩⟩ : SpanL) = [60] ++ [61] ++ printV v2 by simp [spanT, loT, hiT, h1])
  have HS := hid (SpW.mk (hp.below (below_new w (.cells (SpanL.cells (⟨⟨e1, v1, f1⟩, ⟨0, v2, true⟩⟩ : SpanL)).toArray 83))) (BoxT.new w (SpanL.cells (⟨⟨e1, v1, f1⟩, ⟨0, v2, true⟩⟩ : SpanL)) 83))
  have hbg : w.heap.size ≠ b := Nat.ne_of_gt hp.page.lt
  have HL := hid hL
  have H0 := hid h0
  have HR := hid hr
  have HF := hid hs
  have HHP := hid hp
  clear hp hL hr hs h0
  have k1 : (e1 == 0) = false := by simpa using h1
  have k1' : (e1 != 0) = true := by simp [h1]
  clear h1
  go_enter Tryz.func120, Tryz.ntmps120
  go_wp2_with fail
  refine (spw_write hbg HS.out ⟨#[60]⟩ (by
      have hh := HR.out
      rw [HT.out] at hh
      simp only [List.length_append, List.length_cons, List.length_nil, bts_len, z62, z61, z60, z42, z32] at hh ⊢
      omega)).mono ?_
  rintro _ u1 ⟨rfl, hq⟩
  have HS := hid hq
  clear hq
  obtain ⟨⟨c0, -, -, -, -, -, c6⟩, c7, -, -, -, -, -, c13⟩ := HS.out.box.box.get14
  go_wp2_with fail
  refine (spw_write hbg HS.out ⟨#[61]⟩ (by
      have hh := HR.out
      rw [HT.out] at hh
      simp only [List.length_append, List.length_cons, List.length_nil, bts_len, z62, z61, z60, z42, z32] at hh ⊢
      omega)).mono ?_
  clear c0 c6 c7 c13
  rintro _ u2 ⟨rfl, hq⟩
  have HS := hid hq
  clear hq
  obtain ⟨⟨c0, -, -, -, -, -, c6⟩, c7, -, -, -, -, -, c13⟩ := HS.out.box.box.get14
  go_wp2_with fail
  have hS : BoxT u2.drew w.heap.size (SpanL.cells (⟨⟨e1, v1, f1⟩, ⟨0, v2, true⟩⟩ : SpanL)) 83 := HS.out.box
  refine wp_planS (fun u => BoxT u w.heap.size (SpanL.cells (⟨⟨e1, v1, f1⟩, ⟨0, v2, true⟩⟩ : SpanL)) 83) (.call [0, 1, 2, 3, 4, 5] 6 (.call [] 7 (.last []))) (by first | assumption | skip) (by kernel_rfl) (by intro _ _ d _ _ h; cases d <;> exact h) (by kernel_rfl) ?_
  have iS : Nonempty (SW fun u => BoxT u w.heap.size (SpanL.cells (⟨⟨e1, v1, f1⟩, ⟨0, v2, true⟩⟩ : SpanL)) 83) := ⟨⟨_, hS⟩⟩
  have q0 := fun (z : SW fun u => BoxT u w.heap.size (SpanL.cells (⟨⟨e1, v1, f1⟩, ⟨0, v2, true⟩⟩ : SpanL)) 83) => z.ok.box.get14.2.2.1
  have q1 := fun (z : SW fun u => BoxT u w.heap.size (SpanL.cells (⟨⟨e1, v1, f1⟩, ⟨0, v2, true⟩⟩ : SpanL)) 83) => z.ok.box.get14.2.2.2.1
  have q2 := fun (z : SW fun u => BoxT u w.heap.size (SpanL.cells (⟨⟨e1, v1, f1⟩, ⟨0, v2, true⟩⟩ : SpanL)) 83) => z.ok.box.get14.2.2.2.2.1
  have q3 := fun (z : SW fun u => BoxT u w.heap.size (SpanL.cells (⟨⟨e1, v1, f1⟩, ⟨0, v2, true⟩⟩ : SpanL)) 83) => z.ok.box.get14.2.2.2.2.2.1
  have q4 := fun (z : SW fun u => BoxT u w.heap.size (SpanL.cells (⟨⟨e1, v1, f1⟩, ⟨0, v2, true⟩⟩ : SpanL)) 83) => z.ok.box.get14.2.2.2.2.2.2.1
  clear c0 c6 c7 c13
  refine plan_call ?_
  simp only [pickOps, List.map_cons, List.map_nil, List.getElem?_toArray, List.getElem?_cons_zero, List.getElem?_cons_succ, Option.getD_some]
  repeat go_big_quiet_step (fail)
  refine wpQuiet_nil ?_
  go_wp2_with fail
  refine (vprint_any v2 u2.drew ((spw_laid HL.out H0.out HS.out).below (Below.refl _ _).drew) HF.out.2).mono ?_
  rintro _ y3 ⟨t1, rfl, hq, hb⟩
  have HQ1 := hid hq
  have HZ1 := hid (show (printV v2).length = t1.size by rw [← hq, bts_len])
  have HS := hid (HS.out.below (below_tr (Below.refl _ _).drew hb))
  clear hq hb
  go_wp2_with fail
  refine plan_onS (HS.out.box) ?_
  refine plan_call ?_
  simp only [pickOps, List.map_cons, List.map_nil, List.getElem?_toArray, List.getElem?_cons_zero, List.getElem?_cons_succ, Option.getD_some]
  repeat go_big_quiet_step (fail)
  refine wpQuiet_nil ?_
  go_wp2_with fail
  refine (spw_write hbg HS.out t1 (by
      have hh := HR.out
      rw [HT.out] at hh
      simp only [List.length_append, List.length_cons, List.length_nil, bts_len, z62, z61, z60, z42, z32, HZ1.out] at hh ⊢
      omega)).mono ?_
  rintro _ u3 ⟨rfl, hq⟩
  have HS := hid hq
  clear hq
  go_wp2_with fail
  refine plan_onS (HS.out.box) ?_
  refine plan_last ?_
  simp only [pickOps, List.map_cons, List.map_nil, List.getElem?_toArray, List.getElem?_cons_zero, List.getElem?_cons_succ, Option.getD_some]
  repeat go_big_quiet_step (fail)
  refine wpQuiet_nil ?_
  clear q0 q1 q2 q3 q4 iS hS
  obtain ⟨⟨c0, -, -, -, -, -, c6⟩, c7, -, -, -, -, -, c13⟩ := HS.out.box.box.get14
  go_wp2_with fail
  first | (go_ret) | go_end0 | go_returns
  refine ⟨rfl, ?_⟩
  have hq := HS.out.pg
  rw [HT.out]
  simp only [b62, b61, b60, b42, b32, HQ1.out, List.append_assoc] at hq ⊢
  exact hq
set_option maxRecDepth 100000 in
set_option maxHeartbeats 4000000 in
theorem span_ef (b : Nat) (w0 : World) (v1 v2 : Ver) (e1 : Int) (f1 : Bool) (l : List UInt8) (w : World) (hL : Laid w0) (h0 : w0.heap.size ≤ b) (hs : SpanL.fit (⟨⟨e1, v1, f1⟩, ⟨0, v2, false⟩⟩ : SpanL)) (hp : Pg b w0 l w) (hr : l.length + (spanT (⟨⟨e1, v1, f1⟩, ⟨0, v2, false⟩⟩ : SpanL)).length ≤ 140737488355328) (h1 : e1 ≠ 0) :
    Calls Tryz.prog 120 #[.pointer (some ⟨b, 0, none⟩), SpanL.val (⟨⟨e1, v1, f1⟩, ⟨0, v2, false⟩⟩ : SpanL)] w fun e w' => e = .returned (.tuple #[]) ∧ Pg b w0 (l ++ spanT (⟨⟨e1, v1, f1⟩, ⟨0, v2, false⟩⟩ : SpanL)) w' := by
  have HT := hid (show spanT (⟨⟨e1, v1, f1⟩, ⟨0, v2, false⟩⟩ : SpanL) = [60] ++ printV v2 by simp [spanT, loT, hiT, h1])
  have HS := hid (SpW.mk (hp.below (below_new w (.cells (SpanL.cells (⟨⟨e1, v1, f1⟩, ⟨0, v2, false⟩⟩ : SpanL)).toArray 83))) (BoxT.new w (SpanL.cells (⟨⟨e1, v1, f1⟩, ⟨0, v2, false⟩⟩ : SpanL)) 83))
  have hbg : w.heap.size ≠ b := Nat.ne_of_gt hp.page.lt
  have HL := hid hL
  have H0 := hid h0
  have HR := hid hr
  have HF := hid hs
  have HHP := hid hp
  clear hp hL hr hs h0
  have k1 : (e1 == 0) = false := by simpa using h1
  have k1' : (e1 != 0) = true := by simp [h1]
  clear h1
  go_enter Tryz.func120, Tryz.ntmps120
  go_wp2_with fail
  refine (spw_write hbg HS.out ⟨#[60]⟩ (by
      have hh := HR.out
      rw [HT.out] at hh
      simp only [List.length_append, List.length_cons, List.length_nil, bts_len, z62, z61, z60, z42, z32] at hh ⊢
      omega)).mono ?_
  rintro _ u1 ⟨rfl, hq⟩
  have HS := hid hq
  clear hq
  obtain ⟨⟨c0, -, -, -, -, -, c6⟩, c7, -, -, -, -, -, c13⟩ := HS.out.box.box.get14
  go_wp2_with fail
  have hS : BoxT u1.drew w.heap.size (SpanL.cells (⟨⟨e1, v1, f1⟩, ⟨0, v2, false⟩⟩ : SpanL)) 83 := HS.out.box
  refine wp_planS (fun u => BoxT u w.heap.size (SpanL.cells (⟨⟨e1, v1, f1⟩, ⟨0, v2, false⟩⟩ : SpanL)) 83) (.call [0, 1, 2, 3, 4, 5] 6 (.call [] 7 (.last []))) (by first | assumption | skip) (by kernel_rfl) (by intro _ _ d _ _ h; cases d <;> exact h) (by kernel_rfl) ?_
  have iS : Nonempty (SW fun u => BoxT u w.heap.size (SpanL.cells (⟨⟨e1, v1, f1⟩, ⟨0, v2, false⟩⟩ : SpanL)) 83) := ⟨⟨_, hS⟩⟩
  have q0 := fun (z : SW fun u => BoxT u w.heap.size (SpanL.cells (⟨⟨e1, v1, f1⟩, ⟨0, v2, false⟩⟩ : SpanL)) 83) => z.ok.box.get14.2.2.1
  have q1 := fun (z : SW fun u => BoxT u w.heap.size (SpanL.cells (⟨⟨e1, v1, f1⟩, ⟨0, v2, false⟩⟩ : SpanL)) 83) => z.ok.box.get14.2.2.2.1
  have q2 := fun (z : SW fun u => BoxT u w.heap.size (SpanL.cells (⟨⟨e1, v1, f1⟩, ⟨0, v2, false⟩⟩ : SpanL)) 83) => z.ok.box.get14.2.2.2.2.1
  have q3 := fun (z : SW fun u => BoxT u w.heap.size (SpanL.cells (⟨⟨e1, v1, f1⟩, ⟨0, v2, false⟩⟩ : SpanL)) 83) => z.ok.box.get14.2.2.2.2.2.1
  have q4 := fun (z : SW fun u => BoxT u w.heap.size (SpanL.cells (⟨⟨e1, v1, f1⟩, ⟨0, v2, false⟩⟩ : SpanL)) 83) => z.ok.box.get14.2.2.2.2.2.2.1
  clear c0 c6 c7 c13
  refine plan_call ?_
  simp only [pickOps, List.map_cons, List.map_nil, List.getElem?_toArray, List.getElem?_cons_zero, List.getElem?_cons_succ, Option.getD_some]
  repeat go_big_quiet_step (fail)
  refine wpQuiet_nil ?_
  go_wp2_with fail
  refine (vprint_any v2 u1.drew ((spw_laid HL.out H0.out HS.out).below (Below.refl _ _).drew) HF.out.2).mono ?_
  rintro _ y2 ⟨t1, rfl, hq, hb⟩
  have HQ1 := hid hq
  have HZ1 := hid (show (printV v2).length = t1.size by rw [← hq, bts_len])
  have HS := hid (HS.out.below (below_tr (Below.refl _ _).drew hb))
  clear hq hb
  go_wp2_with fail
  refine plan_onS (HS.out.box) ?_
  refine plan_call ?_
  simp only [pickOps, List.map_cons, List.map_nil, List.getElem?_toArray, List.getElem?_cons_zero, List.getElem?_cons_succ, Option.getD_some]
  repeat go_big_quiet_step (fail)
  refine wpQuiet_nil ?_
  go_wp2_with fail
  refine (spw_write hbg HS.out t1 (by
      have hh := HR.out
      rw [HT.out] at hh
      simp only [List.length_append, List.length_cons, List.length_nil, bts_len, z62, z61, z60, z42, z32, HZ1.out] at hh ⊢
      omega)).mono ?_
  rintro _ u2 ⟨rfl, hq⟩
  have HS := hid hq
  clear hq
  go_wp2_with fail
  refine plan_onS (HS.out.box) ?_
  refine plan_last ?_
  simp only [pickOps, List.map_cons, List.map_nil, List.getElem?_toArray, List.getElem?_cons_zero, List.getElem?_cons_succ, Option.getD_some]
  repeat go_big_quiet_step (fail)
  refine wpQuiet_nil ?_
  clear q0 q1 q2 q3 q4 iS hS
  obtain ⟨⟨c0, -, -, -, -, -, c6⟩, c7, -, -, -, -, -, c13⟩ := HS.out.box.box.get14
  go_wp2_with fail
  first | (go_ret) | go_end0 | go_returns
  refine ⟨rfl, ?_⟩
  have hq := HS.out.pg
  rw [HT.out]
  simp only [b62, b61, b60, b42, b32, HQ1.out, List.append_assoc] at hq ⊢
  exact hq
set_option maxRecDepth 100000 in
set_option maxHeartbeats 4000000 in
theorem span_te (b : Nat) (w0 : World) (v1 v2 : Ver) (e2 : Int) (f2 : Bool) (l : List UInt8) (w : World) (hL : Laid w0) (h0 : w0.heap.size ≤ b) (hs : SpanL.fit (⟨⟨0, v1, true⟩, ⟨e2, v2, f2⟩⟩ : SpanL)) (hp : Pg b w0 l w) (hr : l.length + (spanT (⟨⟨0, v1, true⟩, ⟨e2, v2, f2⟩⟩ : SpanL)).length ≤ 140737488355328) (h2 : e2 ≠ 0) :
    Calls Tryz.prog 120 #[.pointer (some ⟨b, 0, none⟩), SpanL.val (⟨⟨0, v1, true⟩, ⟨e2, v2, f2⟩⟩ : SpanL)] w fun e w' => e = .returned (.tuple #[]) ∧ Pg b w0 (l ++ spanT (⟨⟨0, v1, true⟩, ⟨e2, v2, f2⟩⟩ : SpanL)) w' := by
  have HT := hid (show spanT (⟨⟨0, v1, true⟩, ⟨e2, v2, f2⟩⟩ : SpanL) = [62] ++ printV v1 by simp [spanT, loT, hiT, h2])
  have HS := hid (SpW.mk (hp.below (below_new w (.cells (SpanL.cells (⟨⟨0, v1, true⟩, ⟨e2, v2, f2⟩⟩ : SpanL)).toArray 83))) (BoxT.new w (SpanL.cells (⟨⟨0, v1, true⟩, ⟨e2, v2, f2⟩⟩ : SpanL)) 83))
  have hbg : w.heap.size ≠ b := Nat.ne_of_gt hp.page.lt
  have HL := hid hL
  have H0 := hid h0
  have HR := hid hr
  have HF := hid hs
  have HHP := hid hp
  clear hp hL hr hs h0
  have k2 : (e2 == 0) = false := by simpa using h2
  have k2' : (e2 != 0) = true := by simp [h2]
  clear h2
  go_enter Tryz.func120, Tryz.ntmps120
  go_wp2_with fail
  refine (spw_write hbg HS.out ⟨#[62]⟩ (by
      have hh := HR.out
      rw [HT.out] at hh
      simp only [List.length_append, List.length_cons, List.length_nil, bts_len, z62, z61, z60, z42, z32] at hh ⊢
      omega)).mono ?_
  rintro _ u1 ⟨rfl, hq⟩
  have HS := hid hq
  clear hq
  obtain ⟨⟨c0, -, -, -, -, -, c6⟩, c7, -, -, -, -, -, c13⟩ := HS.out.box.box.get14
  go_wp2_with fail
  have hS : BoxT u1.drew w.heap.size (SpanL.cells (⟨⟨0, v1, true⟩, ⟨e2, v2, f2⟩⟩ : SpanL)) 83 := HS.out.box
  refine wp_planS (fun u => BoxT u w.heap.size (SpanL.cells (⟨⟨0, v1, true⟩, ⟨e2, v2, f2⟩⟩ : SpanL)) 83) (.call [0, 1, 2, 3, 4, 5] 6 (.call [] 7 (.last []))) (by first | assumption | skip) (by kernel_rfl) (by intro _ _ d _ _ h; cases d <;> exact h) (by kernel_rfl) ?_
  have iS : Nonempty (SW fun u => BoxT u w.heap.size (SpanL.cells (⟨⟨0, v1, true⟩, ⟨e2, v2, f2⟩⟩ : SpanL)) 83) := ⟨⟨_, hS⟩⟩
  have q0 := fun (z : SW fun u => BoxT u w.heap.size (SpanL.cells (⟨⟨0, v1, true⟩, ⟨e2, v2, f2⟩⟩ : SpanL)) 83) => z.ok.box.get14.1.2.1
  have q1 := fun (z : SW fun u => BoxT u w.heap.size (SpanL.cells (⟨⟨0, v1, true⟩, ⟨e2, v2, f2⟩⟩ : SpanL)) 83) => z.ok.box.get14.1.2.2.1
  have q2 := fun (z : SW fun u => BoxT u w.heap.size (SpanL.cells (⟨⟨0, v1, true⟩, ⟨e2, v2, f2⟩⟩ : SpanL)) 83) => z.ok.box.get14.1.2.2.2.1
  have q3 := fun (z : SW fun u => BoxT u w.heap.size (SpanL.cells (⟨⟨0, v1, true⟩, ⟨e2, v2, f2⟩⟩ : SpanL)) 83) => z.ok.box.get14.1.2.2.2.2.1
  have q4 := fun (z : SW fun u => BoxT u w.heap.size (SpanL.cells (⟨⟨0, v1, true⟩, ⟨e2, v2, f2⟩⟩ : SpanL)) 83) => z.ok.box.get14.1.2.2.2.2.2.1
  clear c0 c6 c7 c13
  refine plan_call ?_
  simp only [pickOps, List.map_cons, List.map_nil, List.getElem?_toArray, List.getElem?_cons_zero, List.getElem?_cons_succ, Option.getD_some]
  repeat go_big_quiet_step (fail)
  refine wpQuiet_nil ?_
  go_wp2_with fail
  refine (vprint_any v1 u1.drew ((spw_laid HL.out H0.out HS.out).below (Below.refl _ _).drew) HF.out.1).mono ?_
  rintro _ y2 ⟨t1, rfl, hq, hb⟩
  have HQ1 := hid hq
  have HZ1 := hid (show (printV v1).length = t1.size by rw [← hq, bts_len])
  have HS := hid (HS.out.below (below_tr (Below.refl _ _).drew hb))
  clear hq hb
  go_wp2_with fail
  refine plan_onS (HS.out.box) ?_
  refine plan_call ?_
  simp only [pickOps, List.map_cons, List.map_nil, List.getElem?_toArray, List.getElem?_cons_zero, List.getElem?_cons_succ, Option.getD_some]
  repeat go_big_quiet_step (fail)
  refine wpQuiet_nil ?_
  go_wp2_with fail
  refine (spw_write hbg HS.out t1 (by
      have hh := HR.out
      rw [HT.out] at hh
      simp only [List.length_append, List.length_cons, List.length_nil, bts_len, z62, z61, z60, z42, z32, HZ1.out] at hh ⊢
      omega)).mono ?_
  rintro _ u2 ⟨rfl, hq⟩
  have HS := hid hq
  clear hq
  go_wp2_with fail
  refine plan_onS (HS.out.box) ?_
  refine plan_last ?_
  simp only [pickOps, List.map_cons, List.map_nil, List.getElem?_toArray, List.getElem?_cons_zero, List.getElem?_cons_succ, Option.getD_some]
  repeat go_big_quiet_step (fail)
  refine wpQuiet_nil ?_
  clear q0 q1 q2 q3 q4 iS hS
  obtain ⟨⟨c0, -, -, -, -, -, c6⟩, c7, -, -, -, -, -, c13⟩ := HS.out.box.box.get14
  go_wp2_with fail
  first | (go_ret) | go_end0 | go_returns
  refine ⟨rfl, ?_⟩
  have hq := HS.out.pg
  rw [HT.out]
  simp only [b62, b61, b60, b42, b32, HQ1.out, List.append_assoc] at hq ⊢
  exact hq
set_option maxRecDepth 100000 in
set_option maxHeartbeats 4000000 in
theorem span_fe (b : Nat) (w0 : World) (v1 v2 : Ver) (e2 : Int) (f2 : Bool) (l : List UInt8) (w : World) (hL : Laid w0) (h0 : w0.heap.size ≤ b) (hs : SpanL.fit (⟨⟨0, v1, false⟩, ⟨e2, v2, f2⟩⟩ : SpanL)) (hp : Pg b w0 l w) (hr : l.length + (spanT (⟨⟨0, v1, false⟩, ⟨e2, v2, f2⟩⟩ : SpanL)).length ≤ 140737488355328) (h2 : e2 ≠ 0) :
    Calls Tryz.prog 120 #[.pointer (some ⟨b, 0, none⟩), SpanL.val (⟨⟨0, v1, false⟩, ⟨e2, v2, f2⟩⟩ : SpanL)] w fun e w' => e = .returned (.tuple #[]) ∧ Pg b w0 (l ++ spanT (⟨⟨0, v1, false⟩, ⟨e2, v2, f2⟩⟩ : SpanL)) w' := by
  have HT := hid (show spanT (⟨⟨0, v1, false⟩, ⟨e2, v2, f2⟩⟩ : SpanL) = [62] ++ [61] ++ printV v1 by simp [spanT, loT, hiT, h2])
  have HS := hid (SpW.mk (hp.below (below_new w (.cells (SpanL.cells (⟨⟨0, v1, false⟩, ⟨e2, v2, f2⟩⟩ : SpanL)).toArray 83))) (BoxT.new w (SpanL.cells (⟨⟨0, v1, false⟩, ⟨e2, v2, f2⟩⟩ : SpanL)) 83))
  have hbg : w.heap.size ≠ b := Nat.ne_of_gt hp.page.lt
  have HL := hid hL
  have H0 := hid h0
  have HR := hid hr
  have HF := hid hs
  have HHP := hid hp
  clear hp hL hr hs h0
  have k2 : (e2 == 0) = false := by simpa using h2
  have k2' : (e2 != 0) = true := by simp [h2]
  clear h2
  go_enter Tryz.func120, Tryz.ntmps120
  go_wp2_with fail
  refine (spw_write hbg HS.out ⟨#[62]⟩ (by
      have hh := HR.out
      rw [HT.out] at hh
      simp only [List.length_append, List.length_cons, List.length_nil, bts_len, z62, z61, z60, z42, z32] at hh ⊢
      omega)).mono ?_
  rintro _ u1 ⟨rfl, hq⟩
  have HS := hid hq
  clear hq
  obtain ⟨⟨c0, -, -, -, -, -, c6⟩, c7, -, -, -, -, -, c13⟩ := HS.out.box.box.get14
  go_wp2_with fail
  refine (spw_write hbg HS.out ⟨#[61]⟩ (by
      have hh := HR.out
      rw [HT.out] at hh
      simp only [List.length_append, List.length_cons, List.length_nil, bts_len, z62, z61, z60, z42, z32] at hh ⊢
      omega)).mono ?_
  clear c0 c6 c7 c13
  rintro _ u2 ⟨rfl, hq⟩
  have HS := hid hq
  clear hq
  obtain ⟨⟨c0, -, -, -, -, -, c6⟩, c7, -, -, -, -, -, c13⟩ := HS.out.box.box.get14
  go_wp2_with fail
  have hS : BoxT u2.drew w.heap.size (SpanL.cells (⟨⟨0, v1, false⟩, ⟨e2, v2, f2⟩⟩ : SpanL)) 83 := HS.out.box
  refine wp_planS (fun u => BoxT u w.heap.size (SpanL.cells (⟨⟨0, v1, false⟩, ⟨e2, v2, f2⟩⟩ : SpanL)) 83) (.call [0, 1, 2, 3, 4, 5] 6 (.call [] 7 (.last []))) (by first | assumption | skip) (by kernel_rfl) (by intro _ _ d _ _ h; cases d <;> exact h) (by kernel_rfl) ?_
  have iS : Nonempty (SW fun u => BoxT u w.heap.size (SpanL.cells (⟨⟨0, v1, false⟩, ⟨e2, v2, f2⟩⟩ : SpanL)) 83) := ⟨⟨_, hS⟩⟩
  have q0 := fun (z : SW fun u => BoxT u w.heap.size (SpanL.cells (⟨⟨0, v1, false⟩, ⟨e2, v2, f2⟩⟩ : SpanL)) 83) => z.ok.box.get14.1.2.1
  have q1 := fun (z : SW fun u => BoxT u w.heap.size (SpanL.cells (⟨⟨0, v1, false⟩, ⟨e2, v2, f2⟩⟩ : SpanL)) 83) => z.ok.box.get14.1.2.2.1
  have q2 := fun (z : SW fun u => BoxT u w.heap.size (SpanL.cells (⟨⟨0, v1, false⟩, ⟨e2, v2, f2⟩⟩ : SpanL)) 83) => z.ok.box.get14.1.2.2.2.1
  have q3 := fun (z : SW fun u => BoxT u w.heap.size (SpanL.cells (⟨⟨0, v1, false⟩, ⟨e2, v2, f2⟩⟩ : SpanL)) 83) => z.ok.box.get14.1.2.2.2.2.1
  have q4 := fun (z : SW fun u => BoxT u w.heap.size (SpanL.cells (⟨⟨0, v1, false⟩, ⟨e2, v2, f2⟩⟩ : SpanL)) 83) => z.ok.box.get14.1.2.2.2.2.2.1
  clear c0 c6 c7 c13
  refine plan_call ?_
  simp only [pickOps, List.map_cons, List.map_nil, List.getElem?_toArray, List.getElem?_cons_zero, List.getElem?_cons_succ, Option.getD_some]
  repeat go_big_quiet_step (fail)
  refine wpQuiet_nil ?_
  go_wp2_with fail
  refine (vprint_any v1 u2.drew ((spw_laid HL.out H0.out HS.out).below (Below.refl _ _).drew) HF.out.1).mono ?_
  rintro _ y3 ⟨t1, rfl, hq, hb⟩
  have HQ1 := hid hq
  have HZ1 := hid (show (printV v1).length = t1.size by rw [← hq, bts_len])
  have HS := hid (HS.out.below (below_tr (Below.refl _ _).drew hb))
  clear hq hb
  go_wp2_with fail
  refine plan_onS (HS.out.box) ?_
  refine plan_call ?_
  simp only [pickOps, List.map_cons, List.map_nil, List.getElem?_toArray, List.getElem?_cons_zero, List.getElem?_cons_succ, Option.getD_some]
  repeat go_big_quiet_step (fail)
  refine wpQuiet_nil ?_
  go_wp2_with fail
  refine (spw_write hbg HS.out t1 (by
      have hh := HR.out
      rw [HT.out] at hh
      simp only [List.length_append, List.length_cons, List.length_nil, bts_len, z62, z61, z60, z42, z32, HZ1.out] at hh ⊢
      omega)).mono ?_
  rintro _ u3 ⟨rfl, hq⟩
  have HS := hid hq
  clear hq
  go_wp2_with fail
  refine plan_onS (HS.out.box) ?_
  refine plan_last ?_
  simp only [pickOps, List.map_cons, List.map_nil, List.getElem?_toArray, List.getElem?_cons_zero, List.getElem?_cons_succ, Option.getD_some]
  repeat go_big_quiet_step (fail)
  refine wpQuiet_nil ?_
  clear q0 q1 q2 q3 q4 iS hS
  obtain ⟨⟨c0, -, -, -, -, -, c6⟩, c7, -, -, -, -, -, c13⟩ := HS.out.box.box.get14
  go_wp2_with fail
  first | (go_ret) | go_end0 | go_returns
  refine ⟨rfl, ?_⟩
  have hq := HS.out.pg
  rw [HT.out]
  simp only [b62, b61, b60, b42, b32, HQ1.out, List.append_assoc] at hq ⊢
  exact hq
set_option maxRecDepth 100000 in
set_option maxHeartbeats 4000000 in
theorem span_tt (b : Nat) (w0 : World) (v1 v2 : Ver) (l : List UInt8) (w : World) (hL : Laid w0) (h0 : w0.heap.size ≤ b) (hs : SpanL.fit (⟨⟨0, v1, true⟩, ⟨0, v2, true⟩⟩ : SpanL)) (hp : Pg b w0 l w) (hr : l.length + (spanT (⟨⟨0, v1, true⟩, ⟨0, v2, true⟩⟩ : SpanL)).length ≤ 140737488355328) :
    Calls Tryz.prog 120 #[.pointer (some ⟨b, 0, none⟩), SpanL.val (⟨⟨0, v1, true⟩, ⟨0, v2, true⟩⟩ : SpanL)] w fun e w' => e = .returned (.tuple #[]) ∧ Pg b w0 (l ++ spanT (⟨⟨0, v1, true⟩, ⟨0, v2, true⟩⟩ : SpanL)) w' := by
  have HT := hid (show spanT (⟨⟨0, v1, true⟩, ⟨0, v2, true⟩⟩ : SpanL) = [62] ++ printV v1 ++ [32] ++ [60] ++ [61] ++ printV v2 by simp [spanT, loT, hiT])
  have HS := hid (SpW.mk (hp.below (below_new w (.cells (SpanL.cells (⟨⟨0, v1, true⟩, ⟨0, v2, true⟩⟩ : SpanL)).toArray 83))) (BoxT.new w (SpanL.cells (⟨⟨0, v1, true⟩, ⟨0, v2, true⟩⟩ : SpanL)) 83))
  have hbg : w.heap.size ≠ b := Nat.ne_of_gt hp.page.lt
  have HL := hid hL
  have H0 := hid h0
  have HR := hid hr
  have HF := hid hs
  have HHP := hid hp
  clear hp hL hr hs h0
  go_enter Tryz.func120, Tryz.ntmps120
  go_wp2_with fail
  refine (spw_write hbg HS.out ⟨#[62]⟩ (by
      have hh := HR.out
      rw [HT.out] at hh
      simp only [List.length_append, List.length_cons, List.length_nil, bts_len, z62, z61, z60, z42, z32] at hh ⊢
      omega)).mono ?_
  rintro _ u1 ⟨rfl, hq⟩
  have HS := hid hq
  clear hq
  obtain ⟨⟨c0, -, -, -, -, -, c6⟩, c7, -, -, -, -, -, c13⟩ := HS.out.box.box.get14
  go_wp2_with fail
  have hS : BoxT u1.drew w.heap.size (SpanL.cells (⟨⟨0, v1, true⟩, ⟨0, v2, true⟩⟩ : SpanL)) 83 := HS.out.box
  refine wp_planS (fun u => BoxT u w.heap.size (SpanL.cells (⟨⟨0, v1, true⟩, ⟨0, v2, true⟩⟩ : SpanL)) 83) (.call [0, 1, 2, 3, 4, 5] 6 (.call [] 7 (.last []))) (by first | assumption | skip) (by kernel_rfl) (by intro _ _ d _ _ h; cases d <;> exact h) (by kernel_rfl) ?_
  have iS : Nonempty (SW fun u => BoxT u w.heap.size (SpanL.cells (⟨⟨0, v1, true⟩, ⟨0, v2, true⟩⟩ : SpanL)) 83) := ⟨⟨_, hS⟩⟩
  have q0 := fun (z : SW fun u => BoxT u w.heap.size (SpanL.cells (⟨⟨0, v1, true⟩, ⟨0, v2, true⟩⟩ : SpanL)) 83) => z.ok.box.get14.1.2.1
  have q1 := fun (z : SW fun u => BoxT u w.heap.size (SpanL.cells (⟨⟨0, v1, true⟩, ⟨0, v2, true⟩⟩ : SpanL)) 83) => z.ok.box.get14.1.2.2.1
  have q2 := fun (z : SW fun u => BoxT u w.heap.size (SpanL.cells (⟨⟨0, v1, true⟩, ⟨0, v2, true⟩⟩ : SpanL)) 83) => z.ok.box.get14.1.2.2.2.1
  have q3 := fun (z : SW fun u => BoxT u w.heap.size (SpanL.cells (⟨⟨0, v1, true⟩, ⟨0, v2, true⟩⟩ : SpanL)) 83) => z.ok.box.get14.1.2.2.2.2.1
  have q4 := fun (z : SW fun u => BoxT u w.heap.size (SpanL.cells (⟨⟨0, v1, true⟩, ⟨0, v2, true⟩⟩ : SpanL)) 83) => z.ok.box.get14.1.2.2.2.2.2.1
  clear c0 c6 c7 c13
  refine plan_call ?_
  simp only [pickOps, List.map_cons, List.map_nil, List.getElem?_toArray, List.getElem?_cons_zero, List.getElem?_cons_succ, Option.getD_some]
  repeat go_big_quiet_step (fail)
  refine wpQuiet_nil ?_
  go_wp2_with fail
  refine (vprint_any v1 u1.drew ((spw_laid HL.out H0.out HS.out).below (Below.refl _ _).drew) HF.out.1).mono ?_
  rintro _ y2 ⟨t1, rfl, hq, hb⟩
  have HQ1 := hid hq
  have HZ1 := hid (show (printV v1).length = t1.size by rw [← hq, bts_len])
  have HS := hid (HS.out.below (below_tr (Below.refl _ _).drew hb))
  clear hq hb
  go_wp2_with fail
  refine plan_onS (HS.out.box) ?_
  refine plan_call ?_
  simp only [pickOps, List.map_cons, List.map_nil, List.getElem?_toArray, List.getElem?_cons_zero, List.getElem?_cons_succ, Option.getD_some]
  repeat go_big_quiet_step (fail)
  refine wpQuiet_nil ?_
  go_wp2_with fail
  refine (spw_write hbg HS.out t1 (by
      have hh := HR.out
      rw [HT.out] at hh
      simp only [List.length_append, List.length_cons, List.length_nil, bts_len, z62, z61, z60, z42, z32, HZ1.out] at hh ⊢
      omega)).mono ?_
  rintro _ u2 ⟨rfl, hq⟩
  have HS := hid hq
  clear hq
  go_wp2_with fail
  refine plan_onS (HS.out.box) ?_
  refine plan_last ?_
  simp only [pickOps, List.map_cons, List.map_nil, List.getElem?_toArray, List.getElem?_cons_zero, List.getElem?_cons_succ, Option.getD_some]
  repeat go_big_quiet_step (fail)
  refine wpQuiet_nil ?_
  clear q0 q1 q2 q3 q4 iS hS
  obtain ⟨⟨c0, -, -, -, -, -, c6⟩, c7, -, -, -, -, -, c13⟩ := HS.out.box.box.get14
  go_wp2_with fail
  refine (spw_write hbg HS.out ⟨#[32]⟩ (by
      have hh := HR.out
      rw [HT.out] at hh
      simp only [List.length_append, List.length_cons, List.length_nil, bts_len, z62, z61, z60, z42, z32, HZ1.out] at hh ⊢
      omega)).mono ?_
  clear c0 c6 c7 c13
  rintro _ u3 ⟨rfl, hq⟩
  have HS := hid hq
  clear hq
  obtain ⟨⟨c0, -, -, -, -, -, c6⟩, c7, -, -, -, -, -, c13⟩ := HS.out.box.box.get14
  go_wp2_with fail
  refine (spw_write hbg HS.out ⟨#[60]⟩ (by
      have hh := HR.out
      rw [HT.out] at hh
      simp only [List.length_append, List.length_cons, List.length_nil, bts_len, z62, z61, z60, z42, z32, HZ1.out] at hh ⊢
      omega)).mono ?_
  clear c0 c6 c7 c13
  rintro _ u4 ⟨rfl, hq⟩
  have HS := hid hq
  clear hq
  obtain ⟨⟨c0, -, -, -, -, -, c6⟩, c7, -, -, -, -, -, c13⟩ := HS.out.box.box.get14
  go_wp2_with fail
  refine (spw_write hbg HS.out ⟨#[61]⟩ (by
      have hh := HR.out
      rw [HT.out] at hh
      simp only [List.length_append, List.length_cons, List.length_nil, bts_len, z62, z61, z60, z42, z32, HZ1.out] at hh ⊢
      omega)).mono ?_
  clear c0 c6 c7 c13
  rintro _ u5 ⟨rfl, hq⟩
  have HS := hid hq
  clear hq
  obtain ⟨⟨c0, -, -, -, -, -, c6⟩, c7, -, -, -, -, -, c13⟩ := HS.out.box.box.get14
  go_wp2_with fail
  have hS : BoxT u5.drew w.heap.size (SpanL.cells (⟨⟨0, v1, true⟩, ⟨0, v2, true⟩⟩ : SpanL)) 83 := HS.out.box
  refine wp_planS (fun u => BoxT u w.heap.size (SpanL.cells (⟨⟨0, v1, true⟩, ⟨0, v2, true⟩⟩ : SpanL)) 83) (.call [0, 1, 2, 3, 4, 5] 6 (.call [] 7 (.last []))) (by first | assumption | skip) (by kernel_rfl) (by intro _ _ d _ _ h; cases d <;> exact h) (by kernel_rfl) ?_
  have iS : Nonempty (SW fun u => BoxT u w.heap.size (SpanL.cells (⟨⟨0, v1, true⟩, ⟨0, v2, true⟩⟩ : SpanL)) 83) := ⟨⟨_, hS⟩⟩
  have q0 := fun (z : SW fun u => BoxT u w.heap.size (SpanL.cells (⟨⟨0, v1, true⟩, ⟨0, v2, true⟩⟩ : SpanL)) 83) => z.ok.box.get14.2.2.1
  have q1 := fun (z : SW fun u => BoxT u w.heap.size (SpanL.cells (⟨⟨0, v1, true⟩, ⟨0, v2, true⟩⟩ : SpanL)) 83) => z.ok.box.get14.2.2.2.1
  have q2 := fun (z : SW fun u => BoxT u w.heap.size (SpanL.cells (⟨⟨0, v1, true⟩, ⟨0, v2, true⟩⟩ : SpanL)) 83) => z.ok.box.get14.2.2.2.2.1
  have q3 := fun (z : SW fun u => BoxT u w.heap.size (SpanL.cells (⟨⟨0, v1, true⟩, ⟨0, v2, true⟩⟩ : SpanL)) 83) => z.ok.box.get14.2.2.2.2.2.1
  have q4 := fun (z : SW fun u => BoxT u w.heap.size (SpanL.cells (⟨⟨0, v1, true⟩, ⟨0, v2, true⟩⟩ : SpanL)) 83) => z.ok.box.get14.2.2.2.2.2.2.1
  clear c0 c6 c7 c13
  refine plan_call ?_
  simp only [pickOps, List.map_cons, List.map_nil, List.getElem?_toArray, List.getElem?_cons_zero, List.getElem?_cons_succ, Option.getD_some]
  repeat go_big_quiet_step (fail)
  refine wpQuiet_nil ?_
  go_wp2_with fail
  refine (vprint_any v2 u5.drew ((spw_laid HL.out H0.out HS.out).below (Below.refl _ _).drew) HF.out.2).mono ?_
  rintro _ y6 ⟨t2, rfl, hq, hb⟩
  have HQ2 := hid hq
  have HZ2 := hid (show (printV v2).length = t2.size by rw [← hq, bts_len])
  have HS := hid (HS.out.below (below_tr (Below.refl _ _).drew hb))
  clear hq hb
  go_wp2_with fail
  refine plan_onS (HS.out.box) ?_
  refine plan_call ?_
  simp only [pickOps, List.map_cons, List.map_nil, List.getElem?_toArray, List.getElem?_cons_zero, List.getElem?_cons_succ, Option.getD_some]
  repeat go_big_quiet_step (fail)
  refine wpQuiet_nil ?_
  go_wp2_with fail
  refine (spw_write hbg HS.out t2 (by
      have hh := HR.out
      rw [HT.out] at hh
      simp only [List.length_append, List.length_cons, List.length_nil, bts_len, z62, z61, z60, z42, z32, HZ1.out, HZ2.out] at hh ⊢
      omega)).mono ?_
  rintro _ u6 ⟨rfl, hq⟩
  have HS := hid hq
  clear hq
  go_wp2_with fail
  refine plan_onS (HS.out.box) ?_
  refine plan_last ?_
  simp only [pickOps, List.map_cons, List.map_nil, List.getElem?_toArray, List.getElem?_cons_zero, List.getElem?_cons_succ, Option.getD_some]
  repeat go_big_quiet_step (fail)
  refine wpQuiet_nil ?_
  clear q0 q1 q2 q3 q4 iS hS
  obtain ⟨⟨c0, -, -, -, -, -, c6⟩, c7, -, -, -, -, -, c13⟩ := HS.out.box.box.get14
  go_wp2_with fail
  first | (go_ret) | go_end0 | go_returns
  refine ⟨rfl, ?_⟩
  have hq := HS.out.pg
  rw [HT.out]
  simp only [b62, b61, b60, b42, b32, HQ1.out, HQ2.out, List.append_assoc] at hq ⊢
  exact hq
set_option maxRecDepth 100000 in
set_option maxHeartbeats 4000000 in
theorem span_tf (b : Nat) (w0 : World) (v1 v2 : Ver) (l : List UInt8) (w : World) (hL : Laid w0) (h0 : w0.heap.size ≤ b) (hs : SpanL.fit (⟨⟨0, v1, true⟩, ⟨0, v2, false⟩⟩ : SpanL)) (hp : Pg b w0 l w) (hr : l.length + (spanT (⟨⟨0, v1, true⟩, ⟨0, v2, false⟩⟩ : SpanL)).length ≤ 140737488355328) :
    Calls Tryz.prog 120 #[.pointer (some ⟨b, 0, none⟩), SpanL.val (⟨⟨0, v1, true⟩, ⟨0, v2, false⟩⟩ : SpanL)] w fun e w' => e = .returned (.tuple #[]) ∧ Pg b w0 (l ++ spanT (⟨⟨0, v1, true⟩, ⟨0, v2, false⟩⟩ : SpanL)) w' := by
  have HT := hid (show spanT (⟨⟨0, v1, true⟩, ⟨0, v2, false⟩⟩ : SpanL) = [62] ++ printV v1 ++ [32] ++ [60] ++ printV v2 by simp [spanT, loT, hiT])
  have HS := hid (SpW.mk (hp.below (below_new w (.cells (SpanL.cells (⟨⟨0, v1, true⟩, ⟨0, v2, false⟩⟩ : SpanL)).toArray 83))) (BoxT.new w (SpanL.cells (⟨⟨0, v1, true⟩, ⟨0, v2, false⟩⟩ : SpanL)) 83))
  have hbg : w.heap.size ≠ b := Nat.ne_of_gt hp.page.lt
  have HL := hid hL
  have H0 := hid h0
  have HR := hid hr
  have HF := hid hs
  have HHP := hid hp
  clear hp hL hr hs h0
  go_enter Tryz.func120, Tryz.ntmps120
  go_wp2_with fail
  refine (spw_write hbg HS.out ⟨#[62]⟩ (by
      have hh := HR.out
      rw [HT.out] at hh
      simp only [List.length_append, List.length_cons, List.length_nil, bts_len, z62, z61, z60, z42, z32] at hh ⊢
      omega)).mono ?_
  rintro _ u1 ⟨rfl, hq⟩
  have HS := hid hq
  clear hq
  obtain ⟨⟨c0, -, -, -, -, -, c6⟩, c7, -, -, -, -, -, c13⟩ := HS.out.box.box.get14
  go_wp2_with fail
  have hS : BoxT u1.drew w.heap.size (SpanL.cells (⟨⟨0, v1, true⟩, ⟨0, v2, false⟩⟩ : SpanL)) 83 := HS.out.box
  refine wp_planS (fun u => BoxT u w.heap.size (SpanL.cells (⟨⟨0, v1, true⟩, ⟨0, v2, false⟩⟩ : SpanL)) 83) (.call [0, 1, 2, 3, 4, 5] 6 (.call [] 7 (.last []))) (by first | assumption | skip) (by kernel_rfl) (by intro _ _ d _ _ h; cases d <;> exact h) (by kernel_rfl) ?_
  have iS : Nonempty (SW fun u => BoxT u w.heap.size (SpanL.cells (⟨⟨0, v1, true⟩, ⟨0, v2, false⟩⟩ : SpanL)) 83) := ⟨⟨_, hS⟩⟩
  have q0 := fun (z : SW fun u => BoxT u w.heap.size (SpanL.cells (⟨⟨0, v1, true⟩, ⟨0, v2, false⟩⟩ : SpanL)) 83) => z.ok.box.get14.1.2.1
  have q1 := fun (z : SW fun u => BoxT u w.heap.size (SpanL.cells (⟨⟨0, v1, true⟩, ⟨0, v2, false⟩⟩ : SpanL)) 83) => z.ok.box.get14.1.2.2.1
  have q2 := fun (z : SW fun u => BoxT u w.heap.size (SpanL.cells (⟨⟨0, v1, true⟩, ⟨0, v2, false⟩⟩ : SpanL)) 83) => z.ok.box.get14.1.2.2.2.1
  have q3 := fun (z : SW fun u => BoxT u w.heap.size (SpanL.cells (⟨⟨0, v1, true⟩, ⟨0, v2, false⟩⟩ : SpanL)) 83) => z.ok.box.get14.1.2.2.2.2.1
  have q4 := fun (z : SW fun u => BoxT u w.heap.size (SpanL.cells (⟨⟨0, v1, true⟩, ⟨0, v2, false⟩⟩ : SpanL)) 83) => z.ok.box.get14.1.2.2.2.2.2.1
  clear c0 c6 c7 c13
  refine plan_call ?_
  simp only [pickOps, List.map_cons, List.map_nil, List.getElem?_toArray, List.getElem?_cons_zero, List.getElem?_cons_succ, Option.getD_some]
  repeat go_big_quiet_step (fail)
  refine wpQuiet_nil ?_
  go_wp2_with fail
  refine (vprint_any v1 u1.drew ((spw_laid HL.out H0.out HS.out).below (Below.refl _ _).drew) HF.out.1).mono ?_
  rintro _ y2 ⟨t1, rfl, hq, hb⟩
  have HQ1 := hid hq
  have HZ1 := hid (show (printV v1).length = t1.size by rw [← hq, bts_len])
  have HS := hid (HS.out.below (below_tr (Below.refl _ _).drew hb))
  clear hq hb
  go_wp2_with fail
  refine plan_onS (HS.out.box) ?_
  refine plan_call ?_
  simp only [pickOps, List.map_cons, List.map_nil, List.getElem?_toArray, List.getElem?_cons_zero, List.getElem?_cons_succ, Option.getD_some]
  repeat go_big_quiet_step (fail)
  refine wpQuiet_nil ?_
  go_wp2_with fail
  refine (spw_write hbg HS.out t1 (by
      have hh := HR.out
      rw [HT.out] at hh
      simp only [List.length_append, List.length_cons, List.length_nil, bts_len, z62, z61, z60, z42, z32, HZ1.out] at hh ⊢
      omega)).mono ?_
  rintro _ u2 ⟨rfl, hq⟩
  have HS := hid hq
  clear hq
  go_wp2_with fail
  refine plan_onS (HS.out.box) ?_
  refine plan_last ?_
  simp only [pickOps, List.map_cons, List.map_nil, List.getElem?_toArray, List.getElem?_cons_zero, List.getElem?_cons_succ, Option.getD_some]
  repeat go_big_quiet_step (fail)
  refine wpQuiet_nil ?_
  clear q0 q1 q2 q3 q4 iS hS
  obtain ⟨⟨c0, -, -, -, -, -, c6⟩, c7, -, -, -, -, -, c13⟩ := HS.out.box.box.get14
  go_wp2_with fail
  refine (spw_write hbg HS.out ⟨#[32]⟩ (by
      have hh := HR.out
      rw [HT.out] at hh
      simp only [List.length_append, List.length_cons, List.length_nil, bts_len, z62, z61, z60, z42, z32, HZ1.out] at hh ⊢
      omega)).mono ?_
  clear c0 c6 c7 c13
  rintro _ u3 ⟨rfl, hq⟩
  have HS := hid hq
  clear hq
  obtain ⟨⟨c0, -, -, -, -, -, c6⟩, c7, -, -, -, -, -, c13⟩ := HS.out.box.box.get14
  go_wp2_with fail
  refine (spw_write hbg HS.out ⟨#[60]⟩ (by
      have hh := HR.out
      rw [HT.out] at hh
      simp only [List.length_append, List.length_cons, List.length_nil, bts_len, z62, z61, z60, z42, z32, HZ1.out] at hh ⊢
      omega)).mono ?_
  clear c0 c6 c7 c13
  rintro _ u4 ⟨rfl, hq⟩
  have HS := hid hq
  clear hq
  obtain ⟨⟨c0, -, -, -, -, -, c6⟩, c7, -, -, -, -, -, c13⟩ := HS.out.box.box.get14
  go_wp2_with fail
  have hS : BoxT u4.drew w.heap.size (SpanL.cells (⟨⟨0, v1, true⟩, ⟨0, v2, false⟩⟩ : SpanL)) 83 := HS.out.box
  refine wp_planS (fun u => BoxT u w.heap.size (SpanL.cells (⟨⟨0, v1, true⟩, ⟨0, v2, false⟩⟩ : SpanL)) 83) (.call [0, 1, 2, 3, 4, 5] 6 (.call [] 7 (.last []))) (by first | assumption | skip) (by kernel_rfl) (by intro _ _ d _ _ h; cases d <;> exact h) (by kernel_rfl) ?_
  have iS : Nonempty (SW fun u => BoxT u w.heap.size (SpanL.cells (⟨⟨0, v1, true⟩, ⟨0, v2, false⟩⟩ : SpanL)) 83) := ⟨⟨_, hS⟩⟩
  have q0 := fun (z : SW fun u => BoxT u w.heap.size (SpanL.cells (⟨⟨0, v1, true⟩, ⟨0, v2, false⟩⟩ : SpanL)) 83) => z.ok.box.get14.2.2.1
  have q1 := fun (z : SW fun u => BoxT u w.heap.size (SpanL.cells (⟨⟨0, v1, true⟩, ⟨0, v2, false⟩⟩ : SpanL)) 83) => z.ok.box.get14.2.2.2.1
  have q2 := fun (z : SW fun u => BoxT u w.heap.size (SpanL.cells (⟨⟨0, v1, true⟩, ⟨0, v2, false⟩⟩ : SpanL)) 83) => z.ok.box.get14.2.2.2.2.1
  have q3 := fun (z : SW fun u => BoxT u w.heap.size (SpanL.cells (⟨⟨0, v1, true⟩, ⟨0, v2, false⟩⟩ : SpanL)) 83) => z.ok.box.get14.2.2.2.2.2.1
  have q4 := fun (z : SW fun u => BoxT u w.heap.size (SpanL.cells (⟨⟨0, v1, true⟩, ⟨0, v2, false⟩⟩ : SpanL)) 83) => z.ok.box.get14.2.2.2.2.2.2.1
  clear c0 c6 c7 c13
  refine plan_call ?_
  simp only [pickOps, List.map_cons, List.map_nil, List.getElem?_toArray, List.getElem?_cons_zero, List.getElem?_cons_succ, Option.getD_some]
  repeat go_big_quiet_step (fail)
  refine wpQuiet_nil ?_
  go_wp2_with fail
  refine (vprint_any v2 u4.drew ((spw_laid HL.out H0.out HS.out).below (Below.refl _ _).drew) HF.out.2).mono ?_
  rintro _ y5 ⟨t2, rfl, hq, hb⟩
  have HQ2 := hid hq
  have HZ2 := hid (show (printV v2).length = t2.size by rw [← hq, bts_len])
  have HS := hid (HS.out.below (below_tr (Below.refl _ _).drew hb))
  clear hq hb
  go_wp2_with fail
  refine plan_onS (HS.out.box) ?_
  refine plan_call ?_
  simp only [pickOps, List.map_cons, List.map_nil, List.getElem?_toArray, List.getElem?_cons_zero, List.getElem?_cons_succ, Option.getD_some]
  repeat go_big_quiet_step (fail)
  refine wpQuiet_nil ?_
  go_wp2_with fail
  refine (spw_write hbg HS.out t2 (by
      have hh := HR.out
      rw [HT.out] at hh
      simp only [List.length_append, List.length_cons, List.length_nil, bts_len, z62, z61, z60, z42, z32, HZ1.out, HZ2.out] at hh ⊢
      omega)).mono ?_
  rintro _ u5 ⟨rfl, hq⟩
  have HS := hid hq
  clear hq
  go_wp2_with fail
  refine plan_onS (HS.out.box) ?_
  refine plan_last ?_
  simp only [pickOps, List.map_cons, List.map_nil, List.getElem?_toArray, List.getElem?_cons_zero, List.getElem?_cons_succ, Option.getD_some]
  repeat go_big_quiet_step (fail)
  refine wpQuiet_nil ?_
  clear q0 q1 q2 q3 q4 iS hS
  obtain ⟨⟨c0, -, -, -, -, -, c6⟩, c7, -, -, -, -, -, c13⟩ := HS.out.box.box.get14
  go_wp2_with fail
  first | (go_ret) | go_end0 | go_returns
  refine ⟨rfl, ?_⟩
  have hq := HS.out.pg
  rw [HT.out]
  simp only [b62, b61, b60, b42, b32, HQ1.out, HQ2.out, List.append_assoc] at hq ⊢
  exact hq
set_option maxRecDepth 100000 in
set_option maxHeartbeats 4000000 in
theorem span_ft (b : Nat) (w0 : World) (v1 v2 : Ver) (l : List UInt8) (w : World) (hL : Laid w0) (h0 : w0.heap.size ≤ b) (hs : SpanL.fit (⟨⟨0, v1, false⟩, ⟨0, v2, true⟩⟩ : SpanL)) (hp : Pg b w0 l w) (hr : l.length + (spanT (⟨⟨0, v1, false⟩, ⟨0, v2, true⟩⟩ : SpanL)).length ≤ 140737488355328) :
    Calls Tryz.prog 120 #[.pointer (some ⟨b, 0, none⟩), SpanL.val (⟨⟨0, v1, false⟩, ⟨0, v2, true⟩⟩ : SpanL)] w fun e w' => e = .returned (.tuple #[]) ∧ Pg b w0 (l ++ spanT (⟨⟨0, v1, false⟩, ⟨0, v2, true⟩⟩ : SpanL)) w' := by
  have HT := hid (show spanT (⟨⟨0, v1, false⟩, ⟨0, v2, true⟩⟩ : SpanL) = [62] ++ [61] ++ printV v1 ++ [32] ++ [60] ++ [61] ++ printV v2 by simp [spanT, loT, hiT])
  have HS := hid (SpW.mk (hp.below (below_new w (.cells (SpanL.cells (⟨⟨0, v1, false⟩, ⟨0, v2, true⟩⟩ : SpanL)).toArray 83))) (BoxT.new w (SpanL.cells (⟨⟨0, v1, false⟩, ⟨0, v2, true⟩⟩ : SpanL)) 83))
  have hbg : w.heap.size ≠ b := Nat.ne_of_gt hp.page.lt
  have HL := hid hL
  have H0 := hid h0
  have HR := hid hr
  have HF := hid hs
  have HHP := hid hp
  clear hp hL hr hs h0
  go_enter Tryz.func120, Tryz.ntmps120
  go_wp2_with fail
  refine (spw_write hbg HS.out ⟨#[62]⟩ (by
      have hh := HR.out
      rw [HT.out] at hh
      simp only [List.length_append, List.length_cons, List.length_nil, bts_len, z62, z61, z60, z42, z32] at hh ⊢
      omega)).mono ?_
  rintro _ u1 ⟨rfl, hq⟩
  have HS := hid hq
  clear hq
  obtain ⟨⟨c0, -, -, -, -, -, c6⟩, c7, -, -, -, -, -, c13⟩ := HS.out.box.box.get14
  go_wp2_with fail
  refine (spw_write hbg HS.out ⟨#[61]⟩ (by
      have hh := HR.out
      rw [HT.out] at hh
      simp only [List.length_append, List.length_cons, List.length_nil, bts_len, z62, z61, z60, z42, z32] at hh ⊢
      omega)).mono ?_
  clear c0 c6 c7 c13
  rintro _ u2 ⟨rfl, hq⟩
  have HS := hid hq
  clear hq
  obtain ⟨⟨c0, -, -, -, -, -, c6⟩, c7, -, -, -, -, -, c13⟩ := HS.out.box.box.get14
  go_wp2_with fail
  have hS : BoxT u2.drew w.heap.size (SpanL.cells (⟨⟨0, v1, false⟩, ⟨0, v2, true⟩⟩ : SpanL)) 83 := HS.out.box
  refine wp_planS (fun u => BoxT u w.heap.size (SpanL.cells (⟨⟨0, v1, false⟩, ⟨0, v2, true⟩⟩ : SpanL)) 83) (.call [0, 1, 2, 3, 4, 5] 6 (.call [] 7 (.last []))) (by first | assumption | skip) (by kernel_rfl) (by intro _ _ d _ _ h; cases d <;> exact h) (by kernel_rfl) ?_
  have iS : Nonempty (SW fun u => BoxT u w.heap.size (SpanL.cells (⟨⟨0, v1, false⟩, ⟨0, v2, true⟩⟩ : SpanL)) 83) := ⟨⟨_, hS⟩⟩
  have q0 := fun (z : SW fun u => BoxT u w.heap.size (SpanL.cells (⟨⟨0, v1, false⟩, ⟨0, v2, true⟩⟩ : SpanL)) 83) => z.ok.box.get14.1.2.1
  have q1 := fun (z : SW fun u => BoxT u w.heap.size (SpanL.cells (⟨⟨0, v1, false⟩, ⟨0, v2, true⟩⟩ : SpanL)) 83) => z.ok.box.get14.1.2.2.1
  have q2 := fun (z : SW fun u => BoxT u w.heap.size (SpanL.cells (⟨⟨0, v1, false⟩, ⟨0, v2, true⟩⟩ : SpanL)) 83) => z.ok.box.get14.1.2.2.2.1
  have q3 := fun (z : SW fun u => BoxT u w.heap.size (SpanL.cells (⟨⟨0, v1, false⟩, ⟨0, v2, true⟩⟩ : SpanL)) 83) => z.ok.box.get14.1.2.2.2.2.1
  have q4 := fun (z : SW fun u => BoxT u w.heap.size (SpanL.cells (⟨⟨0, v1, false⟩, ⟨0, v2, true⟩⟩ : SpanL)) 83) => z.ok.box.get14.1.2.2.2.2.2.1
  clear c0 c6 c7 c13
  refine plan_call ?_
  simp only [pickOps, List.map_cons, List.map_nil, List.getElem?_toArray, List.getElem?_cons_zero, List.getElem?_cons_succ, Option.getD_some]
  repeat go_big_quiet_step (fail)
  refine wpQuiet_nil ?_
  go_wp2_with fail
  refine (vprint_any v1 u2.drew ((spw_laid HL.out H0.out HS.out).below (Below.refl _ _).drew) HF.out.1).mono ?_
  rintro _ y3 ⟨t1, rfl, hq, hb⟩
  have HQ1 := hid hq
  have HZ1 := hid (show (printV v1).length = t1.size by rw [← hq, bts_len])
  have HS := hid (HS.out.below (below_tr (Below.refl _ _).drew hb))
  clear hq hb
  go_wp2_with fail
  refine plan_onS (HS.out.box) ?_
  refine plan_call ?_
  simp only [pickOps, List.map_cons, List.map_nil, List.getElem?_toArray, List.getElem?_cons_zero, List.getElem?_cons_succ, Option.getD_some]
  repeat go_big_quiet_step (fail)
  refine wpQuiet_nil ?_
  go_wp2_with fail
  refine (spw_write hbg HS.out t1 (by
      have hh := HR.out
      rw [HT.out] at hh
      simp only [List.length_append, List.length_cons, List.length_nil, bts_len, z62, z61, z60, z42, z32, HZ1.out] at hh ⊢
      omega)).mono ?_
  rintro _ u3 ⟨rfl, hq⟩
  have HS := hid hq
  clear hq
  go_wp2_with fail
  refine plan_onS (HS.out.box) ?_
  refine plan_last ?_
  simp only [pickOps, List.map_cons, List.map_nil, List.getElem?_toArray, List.getElem?_cons_zero, List.getElem?_cons_succ, Option.getD_some]
  repeat go_big_quiet_step (fail)
  refine wpQuiet_nil ?_
  clear q0 q1 q2 q3 q4 iS hS
  obtain ⟨⟨c0, -, -, -, -, -, c6⟩, c7, -, -, -, -, -, c13⟩ := HS.out.box.box.get14
  go_wp2_with fail
  refine (spw_write hbg HS.out ⟨#[32]⟩ (by
      have hh := HR.out
      rw [HT.out] at hh
      simp only [List.length_append, List.length_cons, List.length_nil, bts_len, z62, z61, z60, z42, z32, HZ1.out] at hh ⊢
      omega)).mono ?_
  clear c0 c6 c7 c13
  rintro _ u4 ⟨rfl, hq⟩
  have HS := hid hq
  clear hq
  obtain ⟨⟨c0, -, -, -, -, -, c6⟩, c7, -, -, -, -, -, c13⟩ := HS.out.box.box.get14
  go_wp2_with fail
  refine (spw_write hbg HS.out ⟨#[60]⟩ (by
      have hh := HR.out
      rw [HT.out] at hh
      simp only [List.length_append, List.length_cons, List.length_nil, bts_len, z62, z61, z60, z42, z32, HZ1.out] at hh ⊢
      omega)).mono ?_
  clear c0 c6 c7 c13
  rintro _ u5 ⟨rfl, hq⟩
  have HS := hid hq
  clear hq
  obtain ⟨⟨c0, -, -, -, -, -, c6⟩, c7, -, -, -, -, -, c13⟩ := HS.out.box.box.get14
  go_wp2_with fail
  refine (spw_write hbg HS.out ⟨#[61]⟩ (by
      have hh := HR.out
      rw [HT.out] at hh
      simp only [List.length_append, List.length_cons, List.length_nil, bts_len, z62, z61, z60, z42, z32, HZ1.out] at hh ⊢
      omega)).mono ?_
  clear c0 c6 c7 c13
  rintro _ u6 ⟨rfl, hq⟩
  have HS := hid hq
  clear hq
  obtain ⟨⟨c0, -, -, -, -, -, c6⟩, c7, -, -, -, -, -, c13⟩ := HS.out.box.box.get14
  go_wp2_with fail
  have hS : BoxT u6.drew w.heap.size (SpanL.cells (⟨⟨0, v1, false⟩, ⟨0, v2, true⟩⟩ : SpanL)) 83 := HS.out.box
  refine wp_planS (fun u => BoxT u w.heap.size (SpanL.cells (⟨⟨0, v1, false⟩, ⟨0, v2, true⟩⟩ : SpanL)) 83) (.call [0, 1, 2, 3, 4, 5] 6 (.call [] 7 (.last []))) (by first | assumption | skip) (by kernel_rfl) (by intro _ _ d _ _ h; cases d <;> exact h) (by kernel_rfl) ?_
  have iS : Nonempty (SW fun u => BoxT u w.heap.size (SpanL.cells (⟨⟨0, v1, false⟩, ⟨0, v2, true⟩⟩ : SpanL)) 83) := ⟨⟨_, hS⟩⟩
  have q0 := fun (z : SW fun u => BoxT u w.heap.size (SpanL.cells (⟨⟨0, v1, false⟩, ⟨0, v2, true⟩⟩ : SpanL)) 83) => z.ok.box.get14.2.2.1
  have q1 := fun (z : SW fun u => BoxT u w.heap.size (SpanL.cells (⟨⟨0, v1, false⟩, ⟨0, v2, true⟩⟩ : SpanL)) 83) => z.ok.box.get14.2.2.2.1
  have q2 := fun (z : SW fun u => BoxT u w.heap.size (SpanL.cells (⟨⟨0, v1, false⟩, ⟨0, v2, true⟩⟩ : SpanL)) 83) => z.ok.box.get14.2.2.2.2.1
  have q3 := fun (z : SW fun u => BoxT u w.heap.size (SpanL.cells (⟨⟨0, v1, false⟩, ⟨0, v2, true⟩⟩ : SpanL)) 83) => z.ok.box.get14.2.2.2.2.2.1
  have q4 := fun (z : SW fun u => BoxT u w.heap.size (SpanL.cells (⟨⟨0, v1, false⟩, ⟨0, v2, true⟩⟩ : SpanL)) 83) => z.ok.box.get14.2.2.2.2.2.2.1
  clear c0 c6 c7 c13
  refine plan_call ?_
  simp only [pickOps, List.map_cons, List.map_nil, List.getElem?_toArray, List.getElem?_cons_zero, List.getElem?_cons_succ, Option.getD_some]
  repeat go_big_quiet_step (fail)
  refine wpQuiet_nil ?_
  go_wp2_with fail
  refine (vprint_any v2 u6.drew ((spw_laid HL.out H0.out HS.out).below (Below.refl _ _).drew) HF.out.2).mono ?_
  rintro _ y7 ⟨t2, rfl, hq, hb⟩
  have HQ2 := hid hq
  have HZ2 := hid (show (printV v2).length = t2.size by rw [← hq, bts_len])
  have HS := hid (HS.out.below (below_tr (Below.refl _ _).drew hb))
  clear hq hb
  go_wp2_with fail
  refine plan_onS (HS.out.box) ?_
  refine plan_call ?_
  simp only [pickOps, List.map_cons, List.map_nil, List.getElem?_toArray, List.getElem?_cons_zero, List.getElem?_cons_succ, Option.getD_some]
  repeat go_big_quiet_step (fail)
  refine wpQuiet_nil ?_
  go_wp2_with fail
  refine (spw_write hbg HS.out t2 (by
      have hh := HR.out
      rw [HT.out] at hh
      simp only [List.length_append, List.length_cons, List.length_nil, bts_len, z62, z61, z60, z42, z32, HZ1.out, HZ2.out] at hh ⊢
      omega)).mono ?_
  rintro _ u7 ⟨rfl, hq⟩
  have HS := hid hq
  clear hq
  go_wp2_with fail
  refine plan_onS (HS.out.box) ?_
  refine plan_last ?_
  simp only [pickOps, List.map_cons, List.map_nil, List.getElem?_toArray, List.getElem?_cons_zero, List.getElem?_cons_succ, Option.getD_some]
  repeat go_big_quiet_step (fail)
  refine wpQuiet_nil ?_
  clear q0 q1 q2 q3 q4 iS hS
  obtain ⟨⟨c0, -, -, -, -, -, c6⟩, c7, -, -, -, -, -, c13⟩ := HS.out.box.box.get14
  go_wp2_with fail
  first | (go_ret) | go_end0 | go_returns
  refine ⟨rfl, ?_⟩
  have hq := HS.out.pg
  rw [HT.out]
  simp only [b62, b61, b60, b42, b32, HQ1.out, HQ2.out, List.append_assoc] at hq ⊢
  exact hq
set_option maxRecDepth 100000 in
set_option maxHeartbeats 4000000 in
theorem span_ff (b : Nat) (w0 : World) (v1 v2 : Ver) (l : List UInt8) (w : World) (hL : Laid w0) (h0 : w0.heap.size ≤ b) (hs : SpanL.fit (⟨⟨0, v1, false⟩, ⟨0, v2, false⟩⟩ : SpanL)) (hp : Pg b w0 l w) (hr : l.length + (spanT (⟨⟨0, v1, false⟩, ⟨0, v2, false⟩⟩ : SpanL)).length ≤ 140737488355328) :
    Calls Tryz.prog 120 #[.pointer (some ⟨b, 0, none⟩), SpanL.val (⟨⟨0, v1, false⟩, ⟨0, v2, false⟩⟩ : SpanL)] w fun e w' => e = .returned (.tuple #[]) ∧ Pg b w0 (l ++ spanT (⟨⟨0, v1, false⟩, ⟨0, v2, false⟩⟩ : SpanL)) w' := by
  have HT := hid (show spanT (⟨⟨0, v1, false⟩, ⟨0, v2, false⟩⟩ : SpanL) = [62] ++ [61] ++ printV v1 ++ [32] ++ [60] ++ printV v2 by simp [spanT, loT, hiT])
  have HS := hid (SpW.mk (hp.below (below_new w (.cells (SpanL.cells (⟨⟨0, v1, false⟩, ⟨0, v2, false⟩⟩ : SpanL)).toArray 83))) (BoxT.new w (SpanL.cells (⟨⟨0, v1, false⟩, ⟨0, v2, false⟩⟩ : SpanL)) 83))
  have hbg : w.heap.size ≠ b := Nat.ne_of_gt hp.page.lt
  have HL := hid hL
  have H0 := hid h0
  have HR := hid hr
  have HF := hid hs
  have HHP := hid hp
  clear hp hL hr hs h0
  go_enter Tryz.func120, Tryz.ntmps120
  go_wp2_with fail
  refine (spw_write hbg HS.out ⟨#[62]⟩ (by
      have hh := HR.out
      rw [HT.out] at hh
      simp only [List.length_append, List.length_cons, List.length_nil, bts_len, z62, z61, z60, z42, z32] at hh ⊢
      omega)).mono ?_
  rintro _ u1 ⟨rfl, hq⟩
  have HS := hid hq
  clear hq
  obtain ⟨⟨c0, -, -, -, -, -, c6⟩, c7, -, -, -, -, -, c13⟩ := HS.out.box.box.get14
  go_wp2_with fail
  refine (spw_write hbg HS.out ⟨#[61]⟩ (by
      have hh := HR.out
      rw [HT.out] at hh
      simp only [List.length_append, List.length_cons, List.length_nil, bts_len, z62, z61, z60, z42, z32] at hh ⊢
      omega)).mono ?_
  clear c0 c6 c7 c13
  rintro _ u2 ⟨rfl, hq⟩
  have HS := hid hq
  clear hq
  obtain ⟨⟨c0, -, -, -, -, -, c6⟩, c7, -, -, -, -, -, c13⟩ := HS.out.box.box.get14
  go_wp2_with fail
  have hS : BoxT u2.drew w.heap.size (SpanL.cells (⟨⟨0, v1, false⟩, ⟨0, v2, false⟩⟩ : SpanL)) 83 := HS.out.box
  refine wp_planS (fun u => BoxT u w.heap.size (SpanL.cells (⟨⟨0, v1, false⟩, ⟨0, v2, false⟩⟩ : SpanL)) 83) (.call [0, 1, 2, 3, 4, 5] 6 (.call [] 7 (.last []))) (by first | assumption | skip) (by kernel_rfl) (by intro _ _ d _ _ h; cases d <;> exact h) (by kernel_rfl) ?_
  have iS : Nonempty (SW fun u => BoxT u w.heap.size (SpanL.cells (⟨⟨0, v1, false⟩, ⟨0, v2, false⟩⟩ : SpanL)) 83) := ⟨⟨_, hS⟩⟩
  have q0 := fun (z : SW fun u => BoxT u w.heap.size (SpanL.cells (⟨⟨0, v1, false⟩, ⟨0, v2, false⟩⟩ : SpanL)) 83) => z.ok.box.get14.1.2.1
  have q1 := fun (z : SW fun u => BoxT u w.heap.size (SpanL.cells (⟨⟨0, v1, false⟩, ⟨0, v2, false⟩⟩ : SpanL)) 83) => z.ok.box.get14.1.2.2.1
  have q2 := fun (z : SW fun u => BoxT u w.heap.size (SpanL.cells (⟨⟨0, v1, false⟩, ⟨0, v2, false⟩⟩ : SpanL)) 83) => z.ok.box.get14.1.2.2.2.1
  have q3 := fun (z : SW fun u => BoxT u w.heap.size (SpanL.cells (⟨⟨0, v1, false⟩, ⟨0, v2, false⟩⟩ : SpanL)) 83) => z.ok.box.get14.1.2.2.2.2.1
  have q4 := fun (z : SW fun u => BoxT u w.heap.size (SpanL.cells (⟨⟨0, v1, false⟩, ⟨0, v2, false⟩⟩ : SpanL)) 83) => z.ok.box.get14.1.2.2.2.2.2.1
  clear c0 c6 c7 c13
  refine plan_call ?_
  simp only [pickOps, List.map_cons, List.map_nil, List.getElem?_toArray, List.getElem?_cons_zero, List.getElem?_cons_succ, Option.getD_some]
  repeat go_big_quiet_step (fail)
  refine wpQuiet_nil ?_
  go_wp2_with fail
  refine (vprint_any v1 u2.drew ((spw_laid HL.out H0.out HS.out).below (Below.refl _ _).drew) HF.out.1).mono ?_
  rintro _ y3 ⟨t1, rfl, hq, hb⟩
  have HQ1 := hid hq
  have HZ1 := hid (show (printV v1).length = t1.size by rw [← hq, bts_len])
  have HS := hid (HS.out.below (below_tr (Below.refl _ _).drew hb))
  clear hq hb
  go_wp2_with fail
  refine plan_onS (HS.out.box) ?_
  refine plan_call ?_
  simp only [pickOps, List.map_cons, List.map_nil, List.getElem?_toArray, List.getElem?_cons_zero, List.getElem?_cons_succ, Option.getD_some]
  repeat go_big_quiet_step (fail)
  refine wpQuiet_nil ?_
  go_wp2_with fail
  refine (spw_write hbg HS.out t1 (by
      have hh := HR.out
      rw [HT.out] at hh
      simp only [List.length_append, List.length_cons, List.length_nil, bts_len, z62, z61, z60, z42, z32, HZ1.out] at hh ⊢
      omega)).mono ?_
  rintro _ u3 ⟨rfl, hq⟩
  have HS := hid hq
  clear hq
  go_wp2_with fail
  refine plan_onS (HS.out.box) ?_
  refine plan_last ?_
  simp only [pickOps, List.map_cons, List.map_nil, List.getElem?_toArray, List.getElem?_cons_zero, List.getElem?_cons_succ, Option.getD_some]
  repeat go_big_quiet_step (fail)
  refine wpQuiet_nil ?_
  clear q0 q1 q2 q3 q4 iS hS
  obtain ⟨⟨c0, -, -, -, -, -, c6⟩, c7, -, -, -, -, -, c13⟩ := HS.out.box.box.get14
  go_wp2_with fail
  refine (spw_write hbg HS.out ⟨#[32]⟩ (by
      have hh := HR.out
      rw [HT.out] at hh
      simp only [List.length_append, List.length_cons, List.length_nil, bts_len, z62, z61, z60, z42, z32, HZ1.out] at hh ⊢
      omega)).mono ?_
  clear c0 c6 c7 c13
  rintro _ u4 ⟨rfl, hq⟩
  have HS := hid hq
  clear hq
  obtain ⟨⟨c0, -, -, -, -, -, c6⟩, c7, -, -, -, -, -, c13⟩ := HS.out.box.box.get14
  go_wp2_with fail
  refine (spw_write hbg HS.out ⟨#[60]⟩ (by
      have hh := HR.out
      rw [HT.out] at hh
      simp only [List.length_append, List.length_cons, List.length_nil, bts_len, z62, z61, z60, z42, z32, HZ1.out] at hh ⊢
      omega)).mono ?_
  clear c0 c6 c7 c13
  rintro _ u5 ⟨rfl, hq⟩
  have HS := hid hq
  clear hq
  obtain ⟨⟨c0, -, -, -, -, -, c6⟩, c7, -, -, -, -, -, c13⟩ := HS.out.box.box.get14
  go_wp2_with fail
  have hS : BoxT u5.drew w.heap.size (SpanL.cells (⟨⟨0, v1, false⟩, ⟨0, v2, false⟩⟩ : SpanL)) 83 := HS.out.box
  refine wp_planS (fun u => BoxT u w.heap.size (SpanL.cells (⟨⟨0, v1, false⟩, ⟨0, v2, false⟩⟩ : SpanL)) 83) (.call [0, 1, 2, 3, 4, 5] 6 (.call [] 7 (.last []))) (by first | assumption | skip) (by kernel_rfl) (by intro _ _ d _ _ h; cases d <;> exact h) (by kernel_rfl) ?_
  have iS : Nonempty (SW fun u => BoxT u w.heap.size (SpanL.cells (⟨⟨0, v1, false⟩, ⟨0, v2, false⟩⟩ : SpanL)) 83) := ⟨⟨_, hS⟩⟩
  have q0 := fun (z : SW fun u => BoxT u w.heap.size (SpanL.cells (⟨⟨0, v1, false⟩, ⟨0, v2, false⟩⟩ : SpanL)) 83) => z.ok.box.get14.2.2.1
  have q1 := fun (z : SW fun u => BoxT u w.heap.size (SpanL.cells (⟨⟨0, v1, false⟩, ⟨0, v2, false⟩⟩ : SpanL)) 83) => z.ok.box.get14.2.2.2.1
  have q2 := fun (z : SW fun u => BoxT u w.heap.size (SpanL.cells (⟨⟨0, v1, false⟩, ⟨0, v2, false⟩⟩ : SpanL)) 83) => z.ok.box.get14.2.2.2.2.1
  have q3 := fun (z : SW fun u => BoxT u w.heap.size (SpanL.cells (⟨⟨0, v1, false⟩, ⟨0, v2, false⟩⟩ : SpanL)) 83) => z.ok.box.get14.2.2.2.2.2.1
  have q4 := fun (z : SW fun u => BoxT u w.heap.size (SpanL.cells (⟨⟨0, v1, false⟩, ⟨0, v2, false⟩⟩ : SpanL)) 83) => z.ok.box.get14.2.2.2.2.2.2.1
  clear c0 c6 c7 c13
  refine plan_call ?_
  simp only [pickOps, List.map_cons, List.map_nil, List.getElem?_toArray, List.getElem?_cons_zero, List.getElem?_cons_succ, Option.getD_some]
  repeat go_big_quiet_step (fail)
  refine wpQuiet_nil ?_
  go_wp2_with fail
  refine (vprint_any v2 u5.drew ((spw_laid HL.out H0.out HS.out).below (Below.refl _ _).drew) HF.out.2).mono ?_
  rintro _ y6 ⟨t2, rfl, hq, hb⟩
  have HQ2 := hid hq
  have HZ2 := hid (show (printV v2).length = t2.size by rw [← hq, bts_len])
  have HS := hid (HS.out.below (below_tr (Below.refl _ _).drew hb))
  clear hq hb
  go_wp2_with fail
  refine plan_onS (HS.out.box) ?_
  refine plan_call ?_
  simp only [pickOps, List.map_cons, List.map_nil, List.getElem?_toArray, List.getElem?_cons_zero, List.getElem?_cons_succ, Option.getD_some]
  repeat go_big_quiet_step (fail)
  refine wpQuiet_nil ?_
  go_wp2_with fail
  refine (spw_write hbg HS.out t2 (by
      have hh := HR.out
      rw [HT.out] at hh
      simp only [List.length_append, List.length_cons, List.length_nil, bts_len, z62, z61, z60, z42, z32, HZ1.out, HZ2.out] at hh ⊢
      omega)).mono ?_
  rintro _ u6 ⟨rfl, hq⟩
  have HS := hid hq
  clear hq
  go_wp2_with fail
  refine plan_onS (HS.out.box) ?_
  refine plan_last ?_
  simp only [pickOps, List.map_cons, List.map_nil, List.getElem?_toArray, List.getElem?_cons_zero, List.getElem?_cons_succ, Option.getD_some]
  repeat go_big_quiet_step (fail)
  refine wpQuiet_nil ?_
  clear q0 q1 q2 q3 q4 iS hS
  obtain ⟨⟨c0, -, -, -, -, -, c6⟩, c7, -, -, -, -, -, c13⟩ := HS.out.box.box.get14
  go_wp2_with fail
  first | (go_ret) | go_end0 | go_returns
  refine ⟨rfl, ?_⟩
  have hq := HS.out.pg
  rw [HT.out]
  simp only [b62, b61, b60, b42, b32, HQ1.out, HQ2.out, List.append_assoc] at hq ⊢
  exact hq
theorem span_any (b : Nat) (w0 : World) (s : SpanL) (l : List UInt8) (w : World) (hL : Laid w0) (h0 : w0.heap.size ≤ b) (hs : s.fit) (hp : Pg b w0 l w) (hr : l.length + (spanT s).length ≤ 140737488355328) :
    Calls Tryz.prog 120 #[.pointer (some ⟨b, 0, none⟩), s.val] w fun e w' => e = .returned (.tuple #[]) ∧ Pg b w0 (l ++ spanT s) w' := by
  obtain ⟨⟨e1, v1, f1⟩, ⟨e2, v2, f2⟩⟩ := s
  by_cases h1 : e1 = 0 <;> by_cases h2 : e2 = 0
  · subst h1 h2
    cases f1 <;> cases f2
    · exact span_ff b w0 v1 v2 l w hL h0 hs hp hr
    · exact span_ft b w0 v1 v2 l w hL h0 hs hp hr
    · exact span_tf b w0 v1 v2 l w hL h0 hs hp hr
    · exact span_tt b w0 v1 v2 l w hL h0 hs hp hr
  · subst h1
    cases f1
    · exact span_fe b w0 v1 v2 e2 f2 l w hL h0 hs hp hr h2
    · exact span_te b w0 v1 v2 e2 f2 l w hL h0 hs hp hr h2
  · subst h2
    cases f2
    · exact span_ef b w0 v1 v2 e1 f1 l w hL h0 hs hp hr h1
    · exact span_et b w0 v1 v2 e1 f1 l w hL h0 hs hp hr h1
  · exact span_ee b w0 v1 v2 e1 f1 e2 f2 l w hL h0 hs hp hr h1 h2
end Go.Proofs.YtjceaniffooohaaGreatDoor
