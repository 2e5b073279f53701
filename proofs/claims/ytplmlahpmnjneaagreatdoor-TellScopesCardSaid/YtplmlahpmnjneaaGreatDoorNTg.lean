import Derived.Test.YtplmlahpmnjneaaGreatDoorNTa
namespace Go.Proofs.YtplmlahpmnjneaaGreatDoor
open Go.RowKit Go.Lib
open Rw
set_option linter.unusedVariables false
set_option linter.unusedSimpArgs false
def BoxT (w : World) (g : Nat) (cs : List Value) (t : TypeId) : Prop := w.heap[g]? = some (.cells cs.toArray t (0, 0))
theorem BoxT.lt {w : World} {g : Nat} {cs : List Value} {t : TypeId} (h : BoxT w g cs t) : g < w.heap.size := by
  rcases Nat.lt_or_ge g w.heap.size with k | k
  · exact k
  · unfold BoxT at h; rw [Array.getElem?_eq_none k] at h; cases h
theorem BoxT.box {w : World} {g : Nat} {cs : List Value} {t : TypeId} (h : BoxT w g cs t) : Box w g cs := ⟨h.lt, fun j u hj => by
  rw [Lib.cell_of_heap h]; simpa using hj⟩
theorem BoxT.new (w : World) (cs : List Value) (t : TypeId) : BoxT (w.alloc (.cells cs.toArray t)) w.heap.size cs t := heap_alloc_new w _
theorem BoxT.below {w w' : World} {g : Nat} {cs : List Value} {t : TypeId} (h : BoxT w g cs t) (hb : Below w.heap.size w w') : BoxT w' g cs t := by
  unfold BoxT; rw [hb.block g h.lt]; exact h
theorem BoxT.wrote {w w' : World} {g b : Nat} {cs : List Value} {t : TypeId} (h : BoxT w g cs t) (hw : Wrote b w w') (hg : g ≠ b) (ht : t ≠ 5) : BoxT w' g cs t :=
  hw.kept g _ h (by intro e; exact hg (Option.some.inj e)) (fun c fz e => by injection e with _ e _; exact ht e)
theorem rowF_below {w w' : World} {base e size n : Nat} {v : Value} {xs : List Value} (h : w.ownsRowF base e size v n xs) (hb : Below w.heap.size w w') : w'.ownsRowF base e size v n xs := by
  obtain ⟨h1, h2⟩ := h
  refine ⟨h1, ?_⟩
  rcases h2 with h2 | ⟨g, cap, cur, fz, hv, hg, hh, r⟩
  · exact .inl h2
  · have hlt : g < w.heap.size := by
      rcases Nat.lt_or_ge g w.heap.size with k | k
      · exact k
      · rw [Array.getElem?_eq_none k] at hh; cases hh
    exact .inr ⟨g, cap, cur, fz, hv, hg, by rw [hb.block g hlt]; exact hh, r⟩
theorem bat_below {T e : TypeId} {B b : Nat} {p : Value} {bs : List Value} {w w' : World} (h : Lib.BuilderAtF T e B b p bs w) (hb : Below w.heap.size w w') : Lib.BuilderAtF T e B b p bs w' := by
  obtain ⟨h1, v, h2, h3, h4⟩ := h
  have hlt : b < w.heap.size := by
    rcases Nat.lt_or_ge b w.heap.size with k | k
    · exact k
    · rw [Array.getElem?_eq_none k] at h2; cases h2
  exact ⟨h1, v, by rw [hb.block b hlt]; exact h2, rowF_below h3 hb, h4⟩
theorem PageAt.below {b : Nat} {l : List UInt8} {w w' : World} (h : PageAt b l w) (hb : Below w.heap.size w w') : PageAt b l w' := h.imp (fun h => bat_below h hb) (fun h => bat_below h hb)
theorem PageAt.lt {b : Nat} {l : List UInt8} {w : World} (h : PageAt b l w) : b < w.heap.size := h.elim (fun h => h.lt) (fun h => h.lt)
theorem Wrote.of {b : Nat} {w w' : World} (h : Below w.heap.size w w') (hb : b ≤ w.heap.size) : Wrote b w w' := by
  refine ⟨h.mono hb, fun k o hk _ _ => ?_⟩
  have hlt : k < w.heap.size := by
    rcases Nat.lt_or_ge k w.heap.size with k' | k'
    · exact k'
    · rw [Array.getElem?_eq_none k'] at hk; cases hk
  rw [h.block k hlt]; exact hk
structure Pg (b : Nat) (w0 : World) (l : List UInt8) (w : World) : Prop where
  page : PageAt b l w
  wrote : Wrote b w0 w
theorem Pg.below {b : Nat} {w0 w w' : World} {l : List UInt8} (h : Pg b w0 l w) (hb : Below w.heap.size w w') : Pg b w0 l w' :=
  ⟨h.page.below hb, h.wrote.trans (Wrote.of hb (Nat.le_of_lt h.page.lt))⟩
theorem pg_write {b : Nat} {w0 w : World} {l : List UInt8} (h : Pg b w0 l w) (s : ByteArray) (hlen : l.length + s.size ≤ 140737488355328) :
    Calls Tryz.prog 49 #[.pointer (some ⟨b, 0, none⟩), .string s] w fun e w' => e = .returned (.tuple #[.int .i64 s.size, .nilIface]) ∧ Pg b w0 (l ++ bts s) w' ∧ Wrote b w w' :=
  (pwrite_any b l s w h.page hlen).mono fun _ _ ⟨h1, h2, h3⟩ => ⟨h1, ⟨h2, h.wrote.trans h3⟩, h3⟩
structure SpW (b : Nat) (w0 : World) (g : Nat) (s : SpanL) (l : List UInt8) (w : World) : Prop where
  pg : Pg b w0 l w
  box : BoxT w g s.cells 100
theorem SpW.below {b g : Nat} {w0 w w' : World} {s : SpanL} {l : List UInt8} (h : SpW b w0 g s l w) (hb : Below w.heap.size w w') : SpW b w0 g s l w' := ⟨h.pg.below hb, h.box.below hb⟩
theorem spw_write {b g : Nat} {w0 w : World} {s : SpanL} {l : List UInt8} (hg : g ≠ b) (h : SpW b w0 g s l w) (t : ByteArray) (hlen : l.length + t.size ≤ 140737488355328) :
    Calls Tryz.prog 49 #[.pointer (some ⟨b, 0, none⟩), .string t] w fun e w' => e = .returned (.tuple #[.int .i64 t.size, .nilIface]) ∧ SpW b w0 g s (l ++ bts t) w' :=
  (pg_write h.pg t hlen).mono fun _ _ ⟨h1, h2, h3⟩ => ⟨h1, h2, h.box.wrote h3 hg (by decide)⟩
theorem b62 : bts (⟨#[62]⟩ : ByteArray) = [62] := bts_lit [62]
theorem z62 : (⟨#[62]⟩ : ByteArray).size = 1 := rfl
theorem b61 : bts (⟨#[61]⟩ : ByteArray) = [61] := bts_lit [61]
theorem z61 : (⟨#[61]⟩ : ByteArray).size = 1 := rfl
theorem b60 : bts (⟨#[60]⟩ : ByteArray) = [60] := bts_lit [60]
theorem z60 : (⟨#[60]⟩ : ByteArray).size = 1 := rfl
theorem b42 : bts (⟨#[42]⟩ : ByteArray) = [42] := bts_lit [42]
theorem z42 : (⟨#[42]⟩ : ByteArray).size = 1 := rfl
theorem b32 : bts (⟨#[32]⟩ : ByteArray) = [32] := bts_lit [32]
theorem z32 : (⟨#[32]⟩ : ByteArray).size = 1 := rfl
theorem spw_laid {b g : Nat} {w0 w : World} {s : SpanL} {l : List UInt8} (hL : Laid w0) (h0 : w0.heap.size ≤ b) (h : SpW b w0 g s l w) : Laid w := hL.below (h.pg.wrote.below.mono h0)
set_option maxRecDepth 100000 in
set_option maxHeartbeats 4000000 in
theorem span_ee (b : Nat) (w0 : World) (v1 v2 : Ver) (e1 : Int) (f1 : Bool) (e2 : Int) (f2 : Bool) (l : List UInt8) (w : World) (hL : Laid w0) (h0 : w0.heap.size ≤ b) (hs : SpanL.fit (⟨⟨e1, v1, f1⟩, ⟨e2, v2, f2⟩⟩ : SpanL)) (hp : Pg b w0 l w) (hr : l.length + (spanT (⟨⟨e1, v1, f1⟩, ⟨e2, v2, f2⟩⟩ : SpanL)).length ≤ 140737488355328) (h1 : e1 ≠ 0) (h2 : e2 ≠ 0) :
    Calls Tryz.prog 81 #[.pointer (some ⟨b, 0, none⟩), SpanL.val (⟨⟨e1, v1, f1⟩, ⟨e2, v2, f2⟩⟩ : SpanL)] w fun e w' => e = .returned (.tuple #[]) ∧ Pg b w0 (l ++ spanT (⟨⟨e1, v1, f1⟩, ⟨e2, v2, f2⟩⟩ : SpanL)) w' := by
  have HT := hid (show spanT (⟨⟨e1, v1, f1⟩, ⟨e2, v2, f2⟩⟩ : SpanL) = [42] by simp [spanT, loT, hiT, h1, h2])
  have HS := hid (SpW.mk (hp.below (below_new w (.cells (SpanL.cells (⟨⟨e1, v1, f1⟩, ⟨e2, v2, f2⟩⟩ : SpanL)).toArray 100))) (BoxT.new w (SpanL.cells (⟨⟨e1, v1, f1⟩, ⟨e2, v2, f2⟩⟩ : SpanL)) 100))
  have hbg : w.heap.size ≠ b := Nat.ne_of_gt hp.page.lt
  have HL := hid hL
  have H0 := hid h0
  have HR := hid hr
  have HF := hid hs
  have HHP := hid hp
  clear hp hL hr hs h0
  have k1 : (e1 == 0) = false := by simpa using h1
  have k1' : (e1 != 0) = true := by simp [h1]
  clear h1
  have k2 : (e2 == 0) = false := by simpa using h2
  have k2' : (e2 != 0) = true := by simp [h2]
  clear h2
  go_enter Tryz.func81, Tryz.ntmps81
  go_wp2_with fail
  refine (spw_write hbg HS.out ⟨#[42]⟩ (by
      have hh := HR.out
      rw [HT.out] at hh
      simp only [List.length_append, List.length_cons, List.length_nil, bts_len, z62, z61, z60, z42, z32] at hh ⊢
      omega)).mono ?_
  rintro _ u1 ⟨rfl, hq⟩
  have HS := hid hq
  clear hq
  obtain ⟨⟨c0, -, -, -, -, -, c6⟩, c7, -, -, -, -, -, c13⟩ := HS.out.box.box.get14
  go_wp2_with fail
  first | (go_ret) | go_end0 | go_returns
  refine ⟨rfl, ?_⟩
  have hq := HS.out.pg
  rw [HT.out]
  simp only [b62, b61, b60, b42, b32, List.append_assoc] at hq ⊢
  exact hq
set_option maxRecDepth 100000 in
set_option maxHeartbeats 4000000 in
theorem span_et (b : Nat) (w0 : World) (v1 v2 : Ver) (e1 : Int) (f1 : Bool) (l : List UInt8) (w : World) (hL : Laid w0) (h0 : w0.heap.size ≤ b) (hs : SpanL.fit (⟨⟨e1, v1, f1⟩, ⟨0, v2, true⟩⟩ : SpanL)) (hp : Pg b w0 l w) (hr : l.length + (spanT (⟨⟨e1, v1, f1⟩, ⟨0, v2, true⟩⟩ : SpanL)).length ≤ 140737488355328) (h1 : e1 ≠ 0) :
    Calls Tryz.prog 81 #[.pointer (some ⟨b, 0, none⟩), SpanL.val (⟨⟨e1, v1, f1⟩, ⟨0, v2, true⟩⟩ : SpanL)] w fun e w' => e = .returned (.tuple #[]) ∧ Pg b w0 (l ++ spanT (⟨⟨e1, v1, f1⟩, ⟨0, v2, true⟩⟩ : SpanL)) w' := by
  have HT := hid (show spanT (⟨⟨e1, v1, f1⟩, ⟨0, v2, true⟩⟩ : SpanL) = [60] ++ [61] ++ printV v2 by simp [spanT, loT, hiT, h1])
  have HS := hid (SpW.mk (hp.below (below_new w (.cells (SpanL.cells (⟨⟨e1, v1, f1⟩, ⟨0, v2, true⟩⟩ : SpanL)).toArray 100))) (BoxT.new w (SpanL.cells (⟨⟨e1, v1, f1⟩, ⟨0, v2, true⟩⟩ : SpanL)) 100))
  have hbg : w.heap.size ≠ b := Nat.ne_of_gt hp.page.lt
  have HL := hid hL
  have H0 := hid h0
  have HR := hid hr
  have HF := hid hs
  have HHP := hid hp
  clear hp hL hr hs h0
  have k1 : (e1 == 0) = false := by simpa using h1
  have k1' : (e1 != 0) = true := by simp [h1]
  clear h1
  go_enter Tryz.func81, Tryz.ntmps81
  go_wp2_with fail
  refine (spw_write hbg HS.out ⟨#[60]⟩ (by
      have hh := HR.out
      rw [HT.out] at hh
      simp only [List.length_append, List.length_cons, List.length_nil, bts_len, z62, z61, z60, z42, z32] at hh ⊢
      omega)).mono ?_
  rintro _ u1 ⟨rfl, hq⟩
  have HS := hid hq
  clear hq
  obtain ⟨⟨c0, -, -, -, -, -, c6⟩, c7, -, -, -, -, -, c13⟩ := HS.out.box.box.get14
  go_wp2_with fail
  refine (spw_write hbg HS.out ⟨#[61]⟩ (by
      have hh := HR.out
      rw [HT.out] at hh
      simp only [List.length_append, List.length_cons, List.length_nil, bts_len, z62, z61, z60, z42, z32] at hh ⊢
      omega)).mono ?_
  clear c0 c6 c7 c13
  rintro _ u2 ⟨rfl, hq⟩
  have HS := hid hq
  clear hq
  obtain ⟨⟨c0, -, -, -, -, -, c6⟩, c7, -, -, -, -, -, c13⟩ := HS.out.box.box.get14
  go_wp2_with fail
  have hS : BoxT u2.drew w.heap.size (SpanL.cells (⟨⟨e1, v1, f1⟩, ⟨0, v2, true⟩⟩ : SpanL)) 100 := HS.out.box
  refine wp_planS (fun u => BoxT u w.heap.size (SpanL.cells (⟨⟨e1, v1, f1⟩, ⟨0, v2, true⟩⟩ : SpanL)) 100) (.call [0, 1, 2, 3, 4, 5] 6 (.call [] 7 (.last []))) (by first | assumption | skip) (by kernel_rfl) (by intro _ _ d _ _ h; cases d <;> exact h) (by kernel_rfl) ?_
  have iS : Nonempty (SW fun u => BoxT u w.heap.size (SpanL.cells (⟨⟨e1, v1, f1⟩, ⟨0, v2, true⟩⟩ : SpanL)) 100) := ⟨⟨_, hS⟩⟩
  have q0 := fun (z : SW fun u => BoxT u w.heap.size (SpanL.cells (⟨⟨e1, v1, f1⟩, ⟨0, v2, true⟩⟩ : SpanL)) 100) => z.ok.box.get14.2.2.1
  have q1 := fun (z : SW fun u => BoxT u w.heap.size (SpanL.cells (⟨⟨e1, v1, f1⟩, ⟨0, v2, true⟩⟩ : SpanL)) 100) => z.ok.box.get14.2.2.2.1
  have q2 := fun (z : SW fun u => BoxT u w.heap.size (SpanL.cells (⟨⟨e1, v1, f1⟩, ⟨0, v2, true⟩⟩ : SpanL)) 100) => z.ok.box.get14.2.2.2.2.1
  have q3 := fun (z : SW fun u => BoxT u w.heap.size (SpanL.cells (⟨⟨e1, v1, f1⟩, ⟨0, v2, true⟩⟩ : SpanL)) 100) => z.ok.box.get14.2.2.2.2.2.1
  have q4 := fun (z : SW fun u => BoxT u w.heap.size (SpanL.cells (⟨⟨e1, v1, f1⟩, ⟨0, v2, true⟩⟩ : SpanL)) 100) => z.ok.box.get14.2.2.2.2.2.2.1
  clear c0 c6 c7 c13
  refine plan_call ?_
  simp only [pickOps, List.map_cons, List.map_nil, List.getElem?_toArray, List.getElem?_cons_zero, List.getElem?_cons_succ, Option.getD_some]
  repeat go_big_quiet_step (fail)
  refine wpQuiet_nil ?_
  go_wp2_with fail
  refine (vprint_any v2 u2.drew ((spw_laid HL.out H0.out HS.out).below (Below.refl _ _).drew) HF.out.2).mono ?_
  rintro _ y3 ⟨t1, rfl, hq, hb⟩
  have HQ1 := hid hq
  have HZ1 := hid (show (printV v2).length = t1.size by rw [← hq, bts_len])
  have HS := hid (HS.out.below (below_tr (Below.refl _ _).drew hb))
  clear hq hb
  go_wp2_with fail
  refine plan_onS (HS.out.box) ?_
  refine plan_call ?_
  simp only [pickOps, List.map_cons, List.map_nil, List.getElem?_toArray, List.getElem?_cons_zero, List.getElem?_cons_succ, Option.getD_some]
  repeat go_big_quiet_step (fail)
  refine wpQuiet_nil ?_
  go_wp2_with fail
  refine (spw_write hbg HS.out t1 (by
      have hh := HR.out
      rw [HT.out] at hh
      simp only [List.length_append, List.length_cons, List.length_nil, bts_len, z62, z61, z60, z42, z32, HZ1.out] at hh ⊢
      omega)).mono ?_
  rintro _ u3 ⟨rfl, hq⟩
  have HS := hid hq
  clear hq
  go_wp2_with fail
  refine plan_onS (HS.out.box) ?_
  refine plan_last ?_
  simp only [pickOps, List.map_cons, List.map_nil, List.getElem?_toArray, List.getElem?_cons_zero, List.getElem?_cons_succ, Option.getD_some]
  repeat go_big_quiet_step (fail)
  refine wpQuiet_nil ?_
  clear q0 q1 q2 q3 q4 iS hS
  obtain ⟨⟨c0, -, -, -, -, -, c6⟩, c7, -, -, -, -, -, c13⟩ := HS.out.box.box.get14
  go_wp2_with fail
  first | (go_ret) | go_end0 | go_returns
  refine ⟨rfl, ?_⟩
  have hq := HS.out.pg
  rw [HT.out]
  simp only [b62, b61, b60, b42, b32, HQ1.out, List.append_assoc] at hq ⊢
  exact hq
set_option maxRecDepth 100000 in
set_option maxHeartbeats 4000000 in
theorem span_ef (b : Nat) (w0 : World) (v1 v2 : Ver) (e1 : Int) (f1 : Bool) (l : List UInt8) (w : World) (hL : Laid w0) (h0 : w0.heap.size ≤ b) (hs : SpanL.fit (⟨⟨e1, v1, f1⟩, ⟨0, v2, false⟩⟩ : SpanL)) (hp : Pg b w0 l w) (hr : l.length + (spanT (⟨⟨e1, v1, f1⟩, ⟨0, v2, false⟩⟩ : SpanL)).length ≤ 140737488355328) (h1 : e1 ≠ 0) :
    Calls Tryz.prog 81 #[.pointer (some ⟨b, 0, none⟩), SpanL.val (⟨⟨e1, v1, f1⟩, ⟨0, v2, false⟩⟩ : SpanL)] w fun e w' => e = .returned (.tuple #[]) ∧ Pg b w0 (l ++ spanT (⟨⟨e1, v1, f1⟩, ⟨0, v2, false⟩⟩ : SpanL)) w' := by
  have HT := hid (show spanT (⟨⟨e1, v1, f1⟩, ⟨0, v2, false⟩⟩ : SpanL) = [60] ++ printV v2 by simp [spanT, loT, hiT, h1])
  have HS := hid (SpW.mk (hp.below (below_new w (.cells (SpanL.cells (⟨⟨e1, v1, f1⟩, ⟨0, v2, false⟩⟩ : SpanL)).toArray 100))) (BoxT.new w (SpanL.cells (⟨⟨e1, v1, f1⟩, ⟨0, v2, false⟩⟩ : SpanL)) 100))
  have hbg : w.heap.size ≠ b := Nat.ne_of_gt hp.page.lt
  have HL := hid hL
  have H0 := hid h0
  have HR := hid hr
  have HF := hid hs
  have HHP := hid hp
  clear hp hL hr hs h0
  have k1 : (e1 == 0) = false := by simpa using h1
  have k1' : (e1 != 0) = true := by simp [h1]
  clear h1
  go_enter Tryz.func81, Tryz.ntmps81
  go_wp2_with fail
  refine (spw_write hbg HS.out ⟨#[60]⟩ (by
      have hh := HR.out
      rw [HT.out] at hh
      simp only [List.length_append, List.length_cons, List.length_nil, bts_len, z62, z61, z60, z42, z32] at hh ⊢
      omega)).mono ?_
  rintro _ u1 ⟨rfl, hq⟩
  have HS := hid hq
  clear hq
  obtain ⟨⟨c0, -, -, -, -, -, c6⟩, c7, -, -, -, -, -, c13⟩ := HS.out.box.box.get14
  go_wp2_with fail
  have hS : BoxT u1.drew w.heap.size (SpanL.cells (⟨⟨e1, v1, f1⟩, ⟨0, v2, false⟩⟩ : SpanL)) 100 := HS.out.box
  refine wp_planS (fun u => BoxT u w.heap.size (SpanL.cells (⟨⟨e1, v1, f1⟩, ⟨0, v2, false⟩⟩ : SpanL)) 100) (.call [0, 1, 2, 3, 4, 5] 6 (.call [] 7 (.last []))) (by first | assumption | skip) (by kernel_rfl) (by intro _ _ d _ _ h; cases d <;> exact h) (by kernel_rfl) ?_
  have iS : Nonempty (SW fun u => BoxT u w.heap.size (SpanL.cells (⟨⟨e1, v1, f1⟩, ⟨0, v2, false⟩⟩ : SpanL)) 100) := ⟨⟨_, hS⟩⟩
  have q0 := fun (z : SW fun u => BoxT u w.heap.size (SpanL.cells (⟨⟨e1, v1, f1⟩, ⟨0, v2, false⟩⟩ : SpanL)) 100) => z.ok.box.get14.2.2.1
  have q1 := fun (z : SW fun u => BoxT u w.heap.size (SpanL.cells (⟨⟨e1, v1, f1⟩, ⟨0, v2, false⟩⟩ : SpanL)) 100) => z.ok.box.get14.2.2.2.1
  have q2 := fun (z : SW fun u => BoxT u w.heap.size (SpanL.cells (⟨⟨e1, v1, f1⟩, ⟨0, v2, false⟩⟩ : SpanL)) 100) => z.ok.box.get14.2.2.2.2.1
  have q3 := fun (z : SW fun u => BoxT u w.heap.size (SpanL.cells (⟨⟨e1, v1, f1⟩, ⟨0, v2, false⟩⟩ : SpanL)) 100) => z.ok.box.get14.2.2.2.2.2.1
  have q4 := fun (z : SW fun u => BoxT u w.heap.size (SpanL.cells (⟨⟨e1, v1, f1⟩, ⟨0, v2, false⟩⟩ : SpanL)) 100) => z.ok.box.get14.2.2.2.2.2.2.1
  clear c0 c6 c7 c13
  refine plan_call ?_
  simp only [pickOps, List.map_cons, List.map_nil, List.getElem?_toArray, List.getElem?_cons_zero, List.getElem?_cons_succ, Option.getD_some]
  repeat go_big_quiet_step (fail)
  refine wpQuiet_nil ?_
  go_wp2_with fail
  refine (vprint_any v2 u1.drew ((spw_laid HL.out H0.out HS.out).below (Below.refl _ _).drew) HF.out.2).mono ?_
  rintro _ y2 ⟨t1, rfl, hq, hb⟩
  have HQ1 := hid hq
  have HZ1 := hid (show (printV v2).length = t1.size by rw [← hq, bts_len])
  have HS := hid (HS.out.below (below_tr (Below.refl _ _).drew hb))
  clear hq hb
  go_wp2_with fail
  refine plan_onS (HS.out.box) ?_
  refine plan_call ?_
  simp only [pickOps, List.map_cons, List.map_nil, List.getElem?_toArray, List.getElem?_cons_zero, List.getElem?_cons_succ, Option.getD_some]
  repeat go_big_quiet_step (fail)
  refine wpQuiet_nil ?_
  go_wp2_with fail
  refine (spw_write hbg HS.out t1 (by
      have hh := HR.out
      rw [HT.out] at hh
      simp only [List.length_append, List.length_cons, List.length_nil, bts_len, z62, z61, z60, z42, z32, HZ1.out] at hh ⊢
      omega)).mono ?_
  rintro _ u2 ⟨rfl, hq⟩
  have HS := hid hq
  clear hq
  go_wp2_with fail
  refine plan_onS (HS.out.box) ?_
  refine plan_last ?_
  simp only [pickOps, List.map_cons, List.map_nil, List.getElem?_toArray, List.getElem?_cons_zero, List.getElem?_cons_succ, Option.getD_some]
  repeat go_big_quiet_step (fail)
  refine wpQuiet_nil ?_
  clear q0 q1 q2 q3 q4 iS hS
  obtain ⟨⟨c0, -, -, -, -, -, c6⟩, c7, -, -, -, -, -, c13⟩ := HS.out.box.box.get14
  go_wp2_with fail
  first | (go_ret) | go_end0 | go_returns
  refine ⟨rfl, ?_⟩
  have hq := HS.out.pg
  rw [HT.out]
  simp only [b62, b61, b60, b42, b32, HQ1.out, List.append_assoc] at hq ⊢
  exact hq
set_option maxRecDepth 100000 in
set_option maxHeartbeats 4000000 in
theorem span_te (b : Nat) (w0 : World) (v1 v2 : Ver) (e2 : Int) (f2 : Bool) (l : List UInt8) (w : World) (hL : Laid w0) (h0 : w0.heap.size ≤ b) (hs : SpanL.fit (⟨⟨0, v1, true⟩, ⟨e2, v2, f2⟩⟩ : SpanL)) (hp : Pg b w0 l w) (hr : l.length + (spanT (⟨⟨0, v1, true⟩, ⟨e2, v2, f2⟩⟩ : SpanL)).length ≤ 140737488355328) (h2 : e2 ≠ 0) :
    Calls Tryz.prog 81 #[.pointer (some ⟨b, 0, none⟩), SpanL.val (⟨⟨0, v1, true⟩, ⟨e2, v2, f2⟩⟩ : SpanL)] w fun e w' => e = .returned (.tuple #[]) ∧ Pg b w0 (l ++ spanT (⟨⟨0, v1, true⟩, ⟨e2, v2, f2⟩⟩ : SpanL)) w' := by
  have HT := hid (show spanT (⟨⟨0, v1, true⟩, ⟨e2, v2, f2⟩⟩ : SpanL) = [62] ++ printV v1 by simp [spanT, loT, hiT, h2])
  have HS := hid (SpW.mk (hp.below (below_new w (.cells (SpanL.cells (⟨⟨0, v1, true⟩, ⟨e2, v2, f2⟩⟩ : SpanL)).toArray 100))) (BoxT.new w (SpanL.cells (⟨⟨0, v1, true⟩, ⟨e2, v2, f2⟩⟩ : SpanL)) 100))
  have hbg : w.heap.size ≠ b := Nat.ne_of_gt hp.page.lt
  have HL := hid hL
  have H0 := hid h0
  have HR := hid hr
  have HF := hid hs
  have HHP := hid hp
  clear hp hL hr hs h0
  have k2 : (e2 == 0) = false := by simpa using h2
  have k2' : (e2 != 0) = true := by simp [h2]
  clear h2
  go_enter Tryz.func81, Tryz.ntmps81
  go_wp2_with fail
  refine (spw_write hbg HS.out ⟨#[62]⟩ (by
      have hh := HR.out
      rw [HT.out] at hh
      simp only [List.length_append, List.length_cons, List.length_nil, bts_len, z62, z61, z60, z42, z32] at hh ⊢
      omega)).mono ?_
  rintro _ u1 ⟨rfl, hq⟩
  have HS := hid hq
  clear hq
  obtain ⟨⟨c0, -, -, -, -, -, c6⟩, c7, -, -, -, -, -, c13⟩ := HS.out.box.box.get14
  go_wp2_with fail
  have hS : BoxT u1.drew w.heap.size (SpanL.cells (⟨⟨0, v1, true⟩, ⟨e2, v2, f2⟩⟩ : SpanL)) 100 := HS.out.box
  refine wp_planS (fun u => BoxT u w.heap.size (SpanL.cells (⟨⟨0, v1, true⟩, ⟨e2, v2, f2⟩⟩ : SpanL)) 100) (.call [0, 1, 2, 3, 4, 5] 6 (.call [] 7 (.last []))) (by first | assumption | skip) (by kernel_rfl) (by intro _ _ d _ _ h; cases d <;> exact h) (by kernel_rfl) ?_
  have iS : Nonempty (SW fun u => BoxT u w.heap.size (SpanL.cells (⟨⟨0, v1, true⟩, ⟨e2, v2, f2⟩⟩ : SpanL)) 100) := ⟨⟨_, hS⟩⟩
  have q0 := fun (z : SW fun u => BoxT u w.heap.size (SpanL.cells (⟨⟨0, v1, true⟩, ⟨e2, v2, f2⟩⟩ : SpanL)) 100) => z.ok.box.get14.1.2.1
  have q1 := fun (z : SW fun u => BoxT u w.heap.size (SpanL.cells (⟨⟨0, v1, true⟩, ⟨e2, v2, f2⟩⟩ : SpanL)) 100) => z.ok.box.get14.1.2.2.1
  have q2 := fun (z : SW fun u => BoxT u w.heap.size (SpanL.cells (⟨⟨0, v1, true⟩, ⟨e2, v2, f2⟩⟩ : SpanL)) 100) => z.ok.box.get14.1.2.2.2.1
  have q3 := fun (z : SW fun u => BoxT u w.heap.size (SpanL.cells (⟨⟨0, v1, true⟩, ⟨e2, v2, f2⟩⟩ : SpanL)) 100) => z.ok.box.get14.1.2.2.2.2.1
  have q4 := fun (z : SW fun u => BoxT u w.heap.size (SpanL.cells (⟨⟨0, v1, true⟩, ⟨e2, v2, f2⟩⟩ : SpanL)) 100) => z.ok.box.get14.1.2.2.2.2.2.1
  clear c0 c6 c7 c13
  refine plan_call ?_
  simp only [pickOps, List.map_cons, List.map_nil, List.getElem?_toArray, List.getElem?_cons_zero, List.getElem?_cons_succ, Option.getD_some]
  repeat go_big_quiet_step (fail)
  refine wpQuiet_nil ?_
  go_wp2_with fail
  refine (vprint_any v1 u1.drew ((spw_laid HL.out H0.out HS.out).below (Below.refl _ _).drew) HF.out.1).mono ?_
  rintro _ y2 ⟨t1, rfl, hq, hb⟩
  have HQ1 := hid hq
  have HZ1 := hid (show (printV v1).length = t1.size by rw [← hq, bts_len])
  have HS := hid (HS.out.below (below_tr (Below.refl _ _).drew hb))
  clear hq hb
  go_wp2_with fail
  refine plan_onS (HS.out.box) ?_
  refine plan_call ?_
  simp only [pickOps, List.map_cons, List.map_nil, List.getElem?_toArray, List.getElem?_cons_zero, List.getElem?_cons_succ, Option.getD_some]
  repeat go_big_quiet_step (fail)
  refine wpQuiet_nil ?_
  go_wp2_with fail
  refine (spw_write hbg HS.out t1 (by
      have hh := HR.out
      rw [HT.out] at hh
      simp only [List.length_append, List.length_cons, List.length_nil, bts_len, z62, z61, z60, z42, z32, HZ1.out] at hh ⊢
      omega)).mono ?_
  rintro _ u2 ⟨rfl, hq⟩
  have HS := hid hq
  clear hq
  go_wp2_with fail
  refine plan_onS (HS.out.box) ?_
  refine plan_last ?_
  simp only [pickOps, List.map_cons, List.map_nil, List.getElem?_toArray, List.getElem?_cons_zero, List.getElem?_cons_succ, Option.getD_some]
  repeat go_big_quiet_step (fail)
  refine wpQuiet_nil ?_
  clear q0 q1 q2 q3 q4 iS hS
  obtain ⟨⟨c0, -, -, -, -, -, c6⟩, c7, -, -, -, -, -, c13⟩ := HS.out.box.box.get14
  go_wp2_with fail
  first | (go_ret) | go_end0 | go_returns
  refine ⟨rfl, ?_⟩
  have hq := HS.out.pg
  rw [HT.out]
  simp only [b62, b61, b60, b42, b32, HQ1.out, List.append_assoc] at hq ⊢
  exact hq
set_option maxRecDepth 100000 in
set_option maxHeartbeats 4000000 in
theorem span_fe (b : Nat) (w0 : World) (v1 v2 : Ver) (e2 : Int) (f2 : Bool) (l : List UInt8) (w : World) (hL : Laid w0) (h0 : w0.heap.size ≤ b) (hs : SpanL.fit (⟨⟨0, v1, false⟩, ⟨e2, v2, f2⟩⟩ : SpanL)) (hp : Pg b w0 l w) (hr : l.length + (spanT (⟨⟨0, v1, false⟩, ⟨e2, v2, f2⟩⟩ : SpanL)).length ≤ 140737488355328) (h2 : e2 ≠ 0) :
    Calls Tryz.prog 81 #[.pointer (some ⟨b, 0, none⟩), SpanL.val (⟨⟨0, v1, false⟩, ⟨e2, v2, f2⟩⟩ : SpanL)] w fun e w' => e = .returned (.tuple #[]) ∧ Pg b w0 (l ++ spanT (⟨⟨0, v1, false⟩, ⟨e2, v2, f2⟩⟩ : SpanL)) w' := by
  have HT := hid (show spanT (⟨⟨0, v1, false⟩, ⟨e2, v2, f2⟩⟩ : SpanL) = [62] ++ [61] ++ printV v1 by simp [spanT, loT, hiT, h2])
  have HS := hid (SpW.mk (hp.below (below_new w (.cells (SpanL.cells (⟨⟨0, v1, false⟩, ⟨e2, v2, f2⟩⟩ : SpanL)).toArray 100))) (BoxT.new w (SpanL.cells (⟨⟨0, v1, false⟩, ⟨e2, v2, f2⟩⟩ : SpanL)) 100))
  have hbg : w.heap.size ≠ b := Nat.ne_of_gt hp.page.lt
  have HL := hid hL
  have H0 := hid h0
  have HR := hid hr
  have HF := hid hs
  have HHP := hid hp
  clear hp hL hr hs h0
  have k2 : (e2 == 0) = false := by simpa using h2
  have k2' : (e2 != 0) = true := by simp [h2]
  clear h2
  go_enter Tryz.func81, Tryz.ntmps81
  go_wp2_with fail
  refine (spw_write hbg HS.out ⟨#[62]⟩ (by
      have hh := HR.out
      rw [HT.out] at hh
      simp only [List.length_append, List.length_cons, List.length_nil, bts_len, z62, z61, z60, z42, z32] at hh ⊢
      omega)).mono ?_
  rintro _ u1 ⟨rfl, hq⟩
  have HS := hid hq
  clear hq
  obtain ⟨⟨c0, -, -, -, -, -, c6⟩, c7, -, -, -, -, -, c13⟩ := HS.out.box.box.get14
  go_wp2_with fail
  refine (spw_write hbg HS.out ⟨#[61]⟩ (by
      have hh := HR.out
      rw [HT.out] at hh
      simp only [List.length_append, List.length_cons, List.length_nil, bts_len, z62, z61, z60, z42, z32] at hh ⊢
      omega)).mono ?_
  clear c0 c6 c7 c13
  rintro _ u2 ⟨rfl, hq⟩
  have HS := hid hq
  clear hq
  obtain ⟨⟨c0, -, -, -, -, -, c6⟩, c7, -, -, -, -, -, c13⟩ := HS.out.box.box.get14
  go_wp2_with fail
  have hS : BoxT u2.drew w.heap.size (SpanL.cells (⟨⟨0, v1, false⟩, ⟨e2, v2, f2⟩⟩ : SpanL)) 100 := HS.out.box
  refine wp_planS (fun u => BoxT u w.heap.size (SpanL.cells (⟨⟨0, v1, false⟩, ⟨e2, v2, f2⟩⟩ : SpanL)) 100) (.call [0, 1, 2, 3, 4, 5] 6 (.call [] 7 (.last []))) (by first | assumption | skip) (by kernel_rfl) (by intro _ _ d _ _ h; cases d <;> exact h) (by kernel_rfl) ?_
  have iS : Nonempty (SW fun u => BoxT u w.heap.size (SpanL.cells (⟨⟨0, v1, false⟩, ⟨e2, v2, f2⟩⟩ : SpanL)) 100) := ⟨⟨_, hS⟩⟩
  have q0 := fun (z : SW fun u => BoxT u w.heap.size (SpanL.cells (⟨⟨0, v1, false⟩, ⟨e2, v2, f2⟩⟩ : SpanL)) 100) => z.ok.box.get14.1.2.1
  have q1 := fun (z : SW fun u => BoxT u w.heap.size (SpanL.cells (⟨⟨0, v1, false⟩, ⟨e2, v2, f2⟩⟩ : SpanL)) 100) => z.ok.box.get14.1.2.2.1
  have q2 := fun (z : SW fun u => BoxT u w.heap.size (SpanL.cells (⟨⟨0, v1, false⟩, ⟨e2, v2, f2⟩⟩ : SpanL)) 100) => z.ok.box.get14.1.2.2.2.1
  have q3 := fun (z : SW fun u => BoxT u w.heap.size (SpanL.cells (⟨⟨0, v1, false⟩, ⟨e2, v2, f2⟩⟩ : SpanL)) 100) => z.ok.box.get14.1.2.2.2.2.1
  have q4 := fun (z : SW fun u => BoxT u w.heap.size (SpanL.cells (⟨⟨0, v1, false⟩, ⟨e2, v2, f2⟩⟩ : SpanL)) 100) => z.ok.box.get14.1.2.2.2.2.2.1
  clear c0 c6 c7 c13
  refine plan_call ?_
  simp only [pickOps, List.map_cons, List.map_nil, List.getElem?_toArray, List.getElem?_cons_zero, List.getElem?_cons_succ, Option.getD_some]
  repeat go_big_quiet_step (fail)
  refine wpQuiet_nil ?_
  go_wp2_with fail
  refine (vprint_any v1 u2.drew ((spw_laid HL.out H0.out HS.out).below (Below.refl _ _).drew) HF.out.1).mono ?_
  rintro _ y3 ⟨t1, rfl, hq, hb⟩
  have HQ1 := hid hq
  have HZ1 := hid (show (printV v1).length = t1.size by rw [← hq, bts_len])
  have HS := hid (HS.out.below (below_tr (Below.refl _ _).drew hb))
  clear hq hb
  go_wp2_with fail
  refine plan_onS (HS.out.box) ?_
  refine plan_call ?_
  simp only [pickOps, List.map_cons, List.map_nil, List.getElem?_toArray, List.getElem?_cons_zero, List.getElem?_cons_succ, Option.getD_some]
  repeat go_big_quiet_step (fail)
  refine wpQuiet_nil ?_
  go_wp2_with fail
  refine (spw_write hbg HS.out t1 (by
      have hh := HR.out
      rw [HT.out] at hh
      simp only [List.length_append, List.length_cons, List.length_nil, bts_len, z62, z61, z60, z42, z32, HZ1.out] at hh ⊢
      omega)).mono ?_
  rintro _ u3 ⟨rfl, hq⟩
  have HS := hid hq
  clear hq
  go_wp2_with fail
  refine plan_onS (HS.out.box) ?_
  refine plan_last ?_
  simp only [pickOps, List.map_cons, List.map_nil, List.getElem?_toArray, List.getElem?_cons_zero, List.getElem?_cons_succ, Option.getD_some]
  repeat go_big_quiet_step (fail)
  refine wpQuiet_nil ?_
  clear q0 q1 q2 q3 q4 iS hS
  obtain ⟨⟨c0, -, -, -, -, -, c6⟩, c7, -, -, -, -, -, c13⟩ := HS.out.box.box.get14
  go_wp2_with fail
  first | (go_ret) | go_end0 | go_returns
  refine ⟨rfl, ?_⟩
  have hq := HS.out.pg
  rw [HT.out]
  simp only [b62, b61, b60, b42, b32, HQ1.out, List.append_assoc] at hq ⊢
  exact hq
set_option maxRecDepth 100000 in
set_option maxHeartbeats 4000000 in
theorem span_tt (b : Nat) (w0 : World) (v1 v2 : Ver) (l : List UInt8) (w : World) (hL : Laid w0) (h0 : w0.heap.size ≤ b) (hs : SpanL.fit (⟨⟨0, v1, true⟩, ⟨0, v2, true⟩⟩ : SpanL)) (hp : Pg b w0 l w) (hr : l.length + (spanT (⟨⟨0, v1, true⟩, ⟨0, v2, true⟩⟩ : SpanL)).length ≤ 140737488355328) :
    Calls Tryz.prog 81 #[.pointer (some ⟨b, 0, none⟩), SpanL.val (⟨⟨0, v1, true⟩, ⟨0, v2, true⟩⟩ : SpanL)] w fun e w' => e = .returned (.tuple #[]) ∧ Pg b w0 (l ++ spanT (⟨⟨0, v1, true⟩, ⟨0, v2, true⟩⟩ : SpanL)) w' := by
  have HT := hid (show spanT (⟨⟨0, v1, true⟩, ⟨0, v2, true⟩⟩ : SpanL) = [62] ++ printV v1 ++ [32] ++ [60] ++ [61] ++ printV v2 by simp [spanT, loT, hiT])
  have HS := hid (SpW.mk (hp.below (below_new w (.cells (SpanL.cells (⟨⟨0, v1, true⟩, ⟨0, v2, true⟩⟩ : SpanL)).toArray 100))) (BoxT.new w (SpanL.cells (⟨⟨0, v1, true⟩, ⟨0, v2, true⟩⟩ : SpanL)) 100))
  have hbg : w.heap.size ≠ b := Nat.ne_of_gt hp.page.lt
  have HL := hid hL
  have H0 := hid h0
  have HR := hid hr
  have HF := hid hs
  have HHP := hid hp
  clear hp hL hr hs h0
  go_enter Tryz.func81, Tryz.ntmps81
  go_wp2_with fail
  refine (spw_write hbg HS.out ⟨#[62]⟩ (by
      have hh := HR.out
      rw [HT.out] at hh
      simp only [List.length_append, List.length_cons, List.length_nil, bts_len, z62, z61, z60, z42, z32] at hh ⊢
      omega)).mono ?_
  rintro _ u1 ⟨rfl, hq⟩
  have HS := hid hq
  clear hq
  obtain ⟨⟨c0, -, -, -, -, -, c6⟩, c7, -, -, -, -, -, c13⟩ := HS.out.box.box.get14
  go_wp2_with fail
  have hS : BoxT u1.drew w.heap.size (SpanL.cells (⟨⟨0, v1, true⟩, ⟨0, v2, true⟩⟩ : SpanL)) 100 := HS.out.box
  refine wp_planS (fun u => BoxT u w.heap.size (SpanL.cells (⟨⟨0, v1, true⟩, ⟨0, v2, true⟩⟩ : SpanL)) 100) (.call [0, 1, 2, 3, 4, 5] 6 (.call [] 7 (.last []))) (by first | assumption | skip) (by kernel_rfl) (by intro _ _ d _ _ h; cases d <;> exact h) (by kernel_rfl) ?_
  have iS : Nonempty (SW fun u => BoxT u w.heap.size (SpanL.cells (⟨⟨0, v1, true⟩, ⟨0, v2, true⟩⟩ : SpanL)) 100) := ⟨⟨_, hS⟩⟩
  have q0 := fun (z : SW fun u => BoxT u w.heap.size (SpanL.cells (⟨⟨0, v1, true⟩, ⟨0, v2, true⟩⟩ : SpanL)) 100) => z.ok.box.get14.1.2.1
  have q1 := fun (z : SW fun u => BoxT u w.heap.size (SpanL.cells (⟨⟨0, v1, true⟩, ⟨0, v2, true⟩⟩ : SpanL)) 100) => z.ok.box.get14.1.2.2.1
  have q2 := fun (z : SW fun u => BoxT u w.heap.size (SpanL.cells (⟨⟨0, v1, true⟩, ⟨0, v2, true⟩⟩ : SpanL)) 100) => z.ok.box.get14.1.2.2.2.1
  have q3 := fun (z : SW fun u => BoxT u w.heap.size (SpanL.cells (⟨⟨0, v1, true⟩, ⟨0, v2, true⟩⟩ : SpanL)) 100) => z.ok.box.get14.1.2.2.2.2.1
  have q4 := fun (z : SW fun u => BoxT u w.heap.size (SpanL.cells (⟨⟨0, v1, true⟩, ⟨0, v2, true⟩⟩ : SpanL)) 100) => z.ok.box.get14.1.2.2.2.2.2.1
  clear c0 c6 c7 c13
  refine plan_call ?_
  simp only [pickOps, List.map_cons, List.map_nil, List.getElem?_toArray, List.getElem?_cons_zero, List.getElem?_cons_succ, Option.getD_some]
  repeat go_big_quiet_step (fail)
  refine wpQuiet_nil ?_
  go_wp2_with fail
  refine (vprint_any v1 u1.drew ((spw_laid HL.out H0.out HS.out).below (Below.refl _ _).drew) HF.out.1).mono ?_
  rintro _ y2 ⟨t1, rfl, hq, hb⟩
  have HQ1 := hid hq
  have HZ1 := hid (show (printV v1).length = t1.size by rw [← hq, bts_len])
  have HS := hid (HS.out.below (below_tr (Below.refl _ _).drew hb))
  clear hq hb
  go_wp2_with fail
  refine plan_onS (HS.out.box) ?_
  refine plan_call ?_
  simp only [pickOps, List.map_cons, List.map_nil, List.getElem?_toArray, List.getElem?_cons_zero, List.getElem?_cons_succ, Option.getD_some]
  repeat go_big_quiet_step (fail)
  refine wpQuiet_nil ?_
  go_wp2_with fail
  refine (spw_write hbg HS.out t1 (by
      have hh := HR.out
      rw [HT.out] at hh
      simp only [List.length_append, List.length_cons, List.length_nil, bts_len, z62, z61, z60, z42, z32, HZ1.out] at hh ⊢
      omega)).mono ?_
  rintro _ u2 ⟨rfl, hq⟩
  have HS := hid hq
  clear hq
  go_wp2_with fail
  refine plan_onS (HS.out.box) ?_
  refine plan_last ?_
  simp only [pickOps, List.map_cons, List.map_nil, List.getElem?_toArray, List.getElem?_cons_zero, List.getElem?_cons_succ, Option.getD_some]
  repeat go_big_quiet_step (fail)
  refine wpQuiet_nil ?_
  clear q0 q1 q2 q3 q4 iS hS
  obtain ⟨⟨c0, -, -, -, -, -, c6⟩, c7, -, -, -, -, -, c13⟩ := HS.out.box.box.get14
  go_wp2_with fail
  refine (spw_write hbg HS.out ⟨#[32]⟩ (by
      have hh := HR.out
      rw [HT.out] at hh
      simp only [List.length_append, List.length_cons, List.length_nil, bts_len, z62, z61, z60, z42, z32, HZ1.out] at hh ⊢
      omega)).mono ?_
  clear c0 c6 c7 c13
  rintro _ u3 ⟨rfl, hq⟩
  have HS := hid hq
  clear hq
  obtain ⟨⟨c0, -, -, -, -, -, c6⟩, c7, -, -, -, -, -, c13⟩ := HS.out.box.box.get14
  go_wp2_with fail
  refine (spw_write hbg HS.out ⟨#[60]⟩ (by
      have hh := HR.out
      rw [HT.out] at hh
      simp only [List.length_append, List.length_cons, List.length_nil, bts_len, z62, z61, z60, z42, z32, HZ1.out] at hh ⊢
      omega)).mono ?_
  clear c0 c6 c7 c13
  rintro _ u4 ⟨rfl, hq⟩
  have HS := hid hq
  clear hq
  obtain ⟨⟨c0, -, -, -, -, -, c6⟩, c7, -, -, -, -, -, c13⟩ := HS.out.box.box.get14
  go_wp2_with fail
  refine (spw_write hbg HS.out ⟨#[61]⟩ (by
      have hh := HR.out
      rw [HT.out] at hh
      simp only [List.length_append, List.length_cons, List.length_nil, bts_len, z62, z61, z60, z42, z32, HZ1.out] at hh ⊢
      omega)).mono ?_
  clear c0 c6 c7 c13
  rintro _ u5 ⟨rfl, hq⟩
  have HS := hid hq
  clear hq
  obtain ⟨⟨c0, -, -, -, -, -, c6⟩, c7, -, -, -, -, -, c13⟩ := HS.out.box.box.get14
  go_wp2_with fail
  have hS : BoxT u5.drew w.heap.size (SpanL.cells (⟨⟨0, v1, true⟩, ⟨0, v2, true⟩⟩ : SpanL)) 100 := HS.out.box
  refine wp_planS (fun u => BoxT u w.heap.size (SpanL.cells (⟨⟨0, v1, true⟩, ⟨0, v2, true⟩⟩ : SpanL)) 100) (.call [0, 1, 2, 3, 4, 5] 6 (.call [] 7 (.last []))) (by first | assumption | skip) (by kernel_rfl) (by intro _ _ d _ _ h; cases d <;> exact h) (by kernel_rfl) ?_
  have iS : Nonempty (SW fun u => BoxT u w.heap.size (SpanL.cells (⟨⟨0, v1, true⟩, ⟨0, v2, true⟩⟩ : SpanL)) 100) := ⟨⟨_, hS⟩⟩
  have q0 := fun (z : SW fun u => BoxT u w.heap.size (SpanL.cells (⟨⟨0, v1, true⟩, ⟨0, v2, true⟩⟩ : SpanL)) 100) => z.ok.box.get14.2.2.1
  have q1 := fun (z : SW fun u => BoxT u w.heap.size (SpanL.cells (⟨⟨0, v1, true⟩, ⟨0, v2, true⟩⟩ : SpanL)) 100) => z.ok.box.get14.2.2.2.1
  have q2 := fun (z : SW fun u => BoxT u w.heap.size (SpanL.cells (⟨⟨0, v1, true⟩, ⟨0, v2, true⟩⟩ : SpanL)) 100) => z.ok.box.get14.2.2.2.2.1
  have q3 := fun (z : SW fun u => BoxT u w.heap.size (SpanL.cells (⟨⟨0, v1, true⟩, ⟨0, v2, true⟩⟩ : SpanL)) 100) => z.ok.box.get14.2.2.2.2.2.1
  have q4 := fun (z : SW fun u => BoxT u w.heap.size (SpanL.cells (⟨⟨0, v1, true⟩, ⟨0, v2, true⟩⟩ : SpanL)) 100) => z.ok.box.get14.2.2.2.2.2.2.1
  clear c0 c6 c7 c13
  refine plan_call ?_
  simp only [pickOps, List.map_cons, List.map_nil, List.getElem?_toArray, List.getElem?_cons_zero, List.getElem?_cons_succ, Option.getD_some]
  repeat go_big_quiet_step (fail)
  refine wpQuiet_nil ?_
  go_wp2_with fail
  refine (vprint_any v2 u5.drew ((spw_laid HL.out H0.out HS.out).below (Below.refl _ _).drew) HF.out.2).mono ?_
  rintro _ y6 ⟨t2, rfl, hq, hb⟩
  have HQ2 := hid hq
  have HZ2 := hid (show (printV v2).length = t2.size by rw [← hq, bts_len])
  have HS := hid (HS.out.below (below_tr (Below.refl _ _).drew hb))
  clear hq hb
  go_wp2_with fail
  refine plan_onS (HS.out.box) ?_
  refine plan_call ?_
  simp only [pickOps, List.map_cons, List.map_nil, List.getElem?_toArray, List.getElem?_cons_zero, List.getElem?_cons_succ, Option.getD_some]
  repeat go_big_quiet_step (fail)
  refine wpQuiet_nil ?_
  go_wp2_with fail
  refine (spw_write hbg HS.out t2 (by
      have hh := HR.out
      rw [HT.out] at hh
      simp only [List.length_append, List.length_cons, List.length_nil, bts_len, z62, z61, z60, z42, z32, HZ1.out, HZ2.out] at hh ⊢
      omega)).mono ?_
  rintro _ u6 ⟨rfl, hq⟩
  have HS := hid hq
  clear hq
  go_wp2_with fail
  refine plan_onS (HS.out.box) ?_
  refine plan_last ?_
  simp only [pickOps, List.map_cons, List.map_nil, List.getElem?_toArray, List.getElem?_cons_zero, List.getElem?_cons_succ, Option.getD_some]
  repeat go_big_quiet_step (fail)
  refine wpQuiet_nil ?_
  clear q0 q1 q2 q3 q4 iS hS
  obtain ⟨⟨c0, -, -, -, -, -, c6⟩, c7, -, -, -, -, -, c13⟩ := HS.out.box.box.get14
  go_wp2_with fail
  first | (go_ret) | go_end0 | go_returns
  refine ⟨rfl, ?_⟩
  have hq := HS.out.pg
  rw [HT.out]
  simp only [b62, b61, b60, b42, b32, HQ1.out, HQ2.out, List.append_assoc] at hq ⊢
  exact hq
set_option maxRecDepth 100000 in
set_option maxHeartbeats 4000000 in
theorem span_tf (b : Nat) (w0 : World) (v1 v2 : Ver) (l : List UInt8) (w : World) (hL : Laid w0) (h0 : w0.heap.size ≤ b) (hs : SpanL.fit (⟨⟨0, v1, true⟩, ⟨0, v2, false⟩⟩ : SpanL)) (hp : Pg b w0 l w) (hr : l.length + (spanT (⟨⟨0, v1, true⟩, ⟨0, v2, false⟩⟩ : SpanL)).length ≤ 140737488355328) :
    Calls Tryz.prog 81 #[.pointer (some ⟨b, 0, none⟩), SpanL.val (⟨⟨0, v1, true⟩, ⟨0, v2, false⟩⟩ : SpanL)] w fun e w' => e = .returned (.tuple #[]) ∧ Pg b w0 (l ++ spanT (⟨⟨0, v1, true⟩, ⟨0, v2, false⟩⟩ : SpanL)) w' := by
  have HT := hid (show spanT (⟨⟨0, v1, true⟩, ⟨0, v2, false⟩⟩ : SpanL) = [62] ++ printV v1 ++ [32] ++ [60] ++ printV v2 by simp [spanT, loT, hiT])
  have HS := hid (SpW.mk (hp.below (below_new w (.cells (SpanL.cells (⟨⟨0, v1, true⟩, ⟨0, v2, false⟩⟩ : SpanL)).toArray 100))) (BoxT.new w (SpanL.cells (⟨⟨0, v1, true⟩, ⟨0, v2, false⟩⟩ : SpanL)) 100))
  have hbg : w.heap.size ≠ b := Nat.ne_of_gt hp.page.lt
  have HL := hid hL
  have H0 := hid h0
  have HR := hid hr
  have HF := hid hs
  have HHP := hid hp
  clear hp hL hr hs h0
  go_enter Tryz.func81, Tryz.ntmps81
  go_wp2_with fail
  refine (spw_write hbg HS.out ⟨#[62]⟩ (by
      have hh := HR.out
      rw [HT.out] at hh
      simp only [List.length_append, List.length_cons, List.length_nil, bts_len, z62, z61, z60, z42, z32] at hh ⊢
      omega)).mono ?_
  rintro _ u1 ⟨rfl, hq⟩
  have HS := hid hq
  clear hq
  obtain ⟨⟨c0, -, -, -, -, -, c6⟩, c7, -, -, -, -, -, c13⟩ := HS.out.box.box.get14
  go_wp2_with fail
  have hS : BoxT u1.drew w.heap.size (SpanL.cells (⟨⟨0, v1, true⟩, ⟨0, v2, false⟩⟩ : SpanL)) 100 := HS.out.box
  refine wp_planS (fun u => BoxT u w.heap.size (SpanL.cells (⟨⟨0, v1, true⟩, ⟨0, v2, false⟩⟩ : SpanL)) 100) (.call [0, 1, 2, 3, 4, 5] 6 (.call [] 7 (.last []))) (by first | assumption | skip) (by kernel_rfl) (by intro _ _ d _ _ h; cases d <;> exact h) (by kernel_rfl) ?_
  have iS : Nonempty (SW fun u => BoxT u w.heap.size (SpanL.cells (⟨⟨0, v1, true⟩, ⟨0, v2, false⟩⟩ : SpanL)) 100) := ⟨⟨_, hS⟩⟩
  have q0 := fun (z : SW fun u => BoxT u w.heap.size (SpanL.cells (⟨⟨0, v1, true⟩, ⟨0, v2, false⟩⟩ : SpanL)) 100) => z.ok.box.get14.1.2.1
  have q1 := fun (z : SW fun u => BoxT u w.heap.size (SpanL.cells (⟨⟨0, v1, true⟩, ⟨0, v2, false⟩⟩ : SpanL)) 100) => z.ok.box.get14.1.2.2.1
  have q2 := fun (z : SW fun u => BoxT u w.heap.size (SpanL.cells (⟨⟨0, v1, true⟩, ⟨0, v2, false⟩⟩ : SpanL)) 100) => z.ok.box.get14.1.2.2.2.1
  have q3 := fun (z : SW fun u => BoxT u w.heap.size (SpanL.cells (⟨⟨0, v1, true⟩, ⟨0, v2, false⟩⟩ : SpanL)) 100) => z.ok.box.get14.1.2.2.2.2.1
  have q4 := fun (z : SW fun u => BoxT u w.heap.size (SpanL.cells (⟨⟨0, v1, true⟩, ⟨0, v2, false⟩⟩ : SpanL)) 100) => z.ok.box.get14.1.2.2.2.2.2.1
  clear c0 c6 c7 c13
  refine plan_call ?_
  simp only [pickOps, List.map_cons, List.map_nil, List.getElem?_toArray, List.getElem?_cons_zero, List.getElem?_cons_succ, Option.getD_some]
  repeat go_big_quiet_step (fail)
  refine wpQuiet_nil ?_
  go_wp2_with fail
  refine (vprint_any v1 u1.drew ((spw_laid HL.out H0.out HS.out).below (Below.refl _ _).drew) HF.out.1).mono ?_
  rintro _ y2 ⟨t1, rfl, hq, hb⟩
  have HQ1 := hid hq
  have HZ1 := hid (show (printV v1).length = t1.size by rw [← hq, bts_len])
  have HS := hid (HS.out.below (below_tr (Below.refl _ _).drew hb))
  clear hq hb
  go_wp2_with fail
  refine plan_onS (HS.out.box) ?_
  refine plan_call ?_
  simp only [pickOps, List.map_cons, List.map_nil, List.getElem?_toArray, List.getElem?_cons_zero, List.getElem?_cons_succ, Option.getD_some]
  repeat go_big_quiet_step (fail)
  refine wpQuiet_nil ?_
  go_wp2_with fail
  refine (spw_write hbg HS.out t1 (by
      have hh := HR.out
      rw [HT.out] at hh
      simp only [List.length_append, List.length_cons, List.length_nil, bts_len, z62, z61, z60, z42, z32, HZ1.out] at hh ⊢
      omega)).mono ?_
  rintro _ u2 ⟨rfl, hq⟩
  have HS := hid hq
  clear hq
  go_wp2_with fail
  refine plan_onS (HS.out.box) ?_
  refine plan_last ?_
  simp only [pickOps, List.map_cons, List.map_nil, List.getElem?_toArray, List.getElem?_cons_zero, List.getElem?_cons_succ, Option.getD_some]
  repeat go_big_quiet_step (fail)
  refine wpQuiet_nil ?_
  clear q0 q1 q2 q3 q4 iS hS
  obtain ⟨⟨c0, -, -, -, -, -, c6⟩, c7, -, -, -, -, -, c13⟩ := HS.out.box.box.get14
  go_wp2_with fail
  refine (spw_write hbg HS.out ⟨#[32]⟩ (by
      have hh := HR.out
      rw [HT.out] at hh
      simp only [List.length_append, List.length_cons, List.length_nil, bts_len, z62, z61, z60, z42, z32, HZ1.out] at hh ⊢
      omega)).mono ?_
  clear c0 c6 c7 c13
  rintro _ u3 ⟨rfl, hq⟩
  have HS := hid hq
  clear hq
  obtain ⟨⟨c0, -, -, -, -, -, c6⟩, c7, -, -, -, -, -, c13⟩ := HS.out.box.box.get14
  go_wp2_with fail
  refine (spw_write hbg HS.out ⟨#[60]⟩ (by
      have hh := HR.out
      rw [HT.out] at hh
      simp only [List.length_append, List.length_cons, List.length_nil, bts_len, z62, z61, z60, z42, z32, HZ1.out] at hh ⊢
      omega)).mono ?_
  clear c0 c6 c7 c13
  rintro _ u4 ⟨rfl, hq⟩
  have HS := hid hq
  clear hq
  obtain ⟨⟨c0, -, -, -, -, -, c6⟩, c7, -, -, -, -, -, c13⟩ := HS.out.box.box.get14
  go_wp2_with fail
  have hS : BoxT u4.drew w.heap.size (SpanL.cells (⟨⟨0, v1, true⟩, ⟨0, v2, false⟩⟩ : SpanL)) 100 := HS.out.box
  refine wp_planS (fun u => BoxT u w.heap.size (SpanL.cells (⟨⟨0, v1, true⟩, ⟨0, v2, false⟩⟩ : SpanL)) 100) (.call [0, 1, 2, 3, 4, 5] 6 (.call [] 7 (.last []))) (by first | assumption | skip) (by kernel_rfl) (by intro _ _ d _ _ h; cases d <;> exact h) (by kernel_rfl) ?_
  have iS : Nonempty (SW fun u => BoxT u w.heap.size (SpanL.cells (⟨⟨0, v1, true⟩, ⟨0, v2, false⟩⟩ : SpanL)) 100) := ⟨⟨_, hS⟩⟩
  have q0 := fun (z : SW fun u => BoxT u w.heap.size (SpanL.cells (⟨⟨0, v1, true⟩, ⟨0, v2, false⟩⟩ : SpanL)) 100) => z.ok.box.get14.2.2.1
  have q1 := fun (z : SW fun u => BoxT u w.heap.size (SpanL.cells (⟨⟨0, v1, true⟩, ⟨0, v2, false⟩⟩ : SpanL)) 100) => z.ok.box.get14.2.2.2.1
  have q2 := fun (z : SW fun u => BoxT u w.heap.size (SpanL.cells (⟨⟨0, v1, true⟩, ⟨0, v2, false⟩⟩ : SpanL)) 100) => z.ok.box.get14.2.2.2.2.1
  have q3 := fun (z : SW fun u => BoxT u w.heap.size (SpanL.cells (⟨⟨0, v1, true⟩, ⟨0, v2, false⟩⟩ : SpanL)) 100) => z.ok.box.get14.2.2.2.2.2.1
  have q4 := fun (z : SW fun u => BoxT u w.heap.size (SpanL.cells (⟨⟨0, v1, true⟩, ⟨0, v2, false⟩⟩ : SpanL)) 100) => z.ok.box.get14.2.2.2.2.2.2.1
  clear c0 c6 c7 c13
  refine plan_call ?_
  simp only [pickOps, List.map_cons, List.map_nil, List.getElem?_toArray, List.getElem?_cons_zero, List.getElem?_cons_succ, Option.getD_some]
  repeat go_big_quiet_step (fail)
  refine wpQuiet_nil ?_
  go_wp2_with fail
  refine (vprint_any v2 u4.drew ((spw_laid HL.out H0.out HS.out).below (Below.refl _ _).drew) HF.out.2).mono ?_
  rintro _ y5 ⟨t2, rfl, hq, hb⟩
  have HQ2 := hid hq
  have HZ2 := hid (show (printV v2).length = t2.size by rw [← hq, bts_len])
  have HS := hid (HS.out.below (below_tr (Below.refl _ _).drew hb))
  clear hq hb
  go_wp2_with fail
  refine plan_onS (HS.out.box) ?_
  refine plan_call ?_
  simp only [pickOps, List.map_cons, List.map_nil, List.getElem?_toArray, List.getElem?_cons_zero, List.getElem?_cons_succ, Option.getD_some]
  repeat go_big_quiet_step (fail)
  refine wpQuiet_nil ?_
  go_wp2_with fail
  refine (spw_write hbg HS.out t2 (by
      have hh := HR.out
      rw [HT.out] at hh
      simp only [List.length_append, List.length_cons, List.length_nil, bts_len, z62, z61, z60, z42, z32, HZ1.out, HZ2.out] at hh ⊢
      omega)).mono ?_
  rintro _ u5 ⟨rfl, hq⟩
  have HS := hid hq
  clear hq
  go_wp2_with fail
  refine plan_onS (HS.out.box) ?_
  refine plan_last ?_
  simp only [pickOps, List.map_cons, List.map_nil, List.getElem?_toArray, List.getElem?_cons_zero, List.getElem?_cons_succ, Option.getD_some]
  repeat go_big_quiet_step (fail)
  refine wpQuiet_nil ?_
  clear q0 q1 q2 q3 q4 iS hS
  obtain ⟨⟨c0, -, -, -, -, -, c6⟩, c7, -, -, -, -, -, c13⟩ := HS.out.box.box.get14
  go_wp2_with fail
  first | (go_ret) | go_end0 | go_returns
  refine ⟨rfl, ?_⟩
  have hq := HS.out.pg
  rw [HT.out]
  simp only [b62, b61, b60, b42, b32, HQ1.out, HQ2.out, List.append_assoc] at hq ⊢
  exact hq
set_option maxRecDepth 100000 in
set_option maxHeartbeats 4000000 in
theorem span_ft (b : Nat) (w0 : World) (v1 v2 : Ver) (l : List UInt8) (w : World) (hL : Laid w0) (h0 : w0.heap.size ≤ b) (hs : SpanL.fit (⟨⟨0, v1, false⟩, ⟨0, v2, true⟩⟩ : SpanL)) (hp : Pg b w0 l w) (hr : l.length + (spanT (⟨⟨0, v1, false⟩, ⟨0, v2, true⟩⟩ : SpanL)).length ≤ 140737488355328) :
    Calls Tryz.prog 81 #[.pointer (some ⟨b, 0, none⟩), SpanL.val (⟨⟨0, v1, false⟩, ⟨0, v2, true⟩⟩ : SpanL)] w fun e w' => e = .returned (.tuple #[]) ∧ Pg b w0 (l ++ spanT (⟨⟨0, v1, false⟩, ⟨0, v2, true⟩⟩ : SpanL)) w' := by
  have HT := hid (show spanT (⟨⟨0, v1, false⟩, ⟨0, v2, true⟩⟩ : SpanL) = [62] ++ [61] ++ printV v1 ++ [32] ++ [60] ++ [61] ++ printV v2 by simp [spanT, loT, hiT])
  have HS := hid (SpW.mk (hp.below (below_new w (.cells (SpanL.cells (⟨⟨0, v1, false⟩, ⟨0, v2, true⟩⟩ : SpanL)).toArray 100))) (BoxT.new w (SpanL.cells (⟨⟨0, v1, false⟩, ⟨0, v2, true⟩⟩ : SpanL)) 100))
  have hbg : w.heap.size ≠ b := Nat.ne_of_gt hp.page.lt
  have HL := hid hL
  have H0 := hid h0
  have HR := hid hr
  have HF := hid hs
  have HHP := hid hp
  clear hp hL hr hs h0
  go_enter Tryz.func81, Tryz.ntmps81
  go_wp2_with fail
  refine (spw_write hbg HS.out ⟨#[62]⟩ (by
      have hh := HR.out
      rw [HT.out] at hh
      simp only [List.length_append, List.length_cons, List.length_nil, bts_len, z62, z61, z60, z42, z32] at hh ⊢
      omega)).mono ?_
  rintro _ u1 ⟨rfl, hq⟩
  have HS := hid hq
  clear hq
  obtain ⟨⟨c0, -, -, -, -, -, c6⟩, c7, -, -, -, -, -, c13⟩ := HS.out.box.box.get14
  go_wp2_with fail
  refine (spw_write hbg HS.out ⟨#[61]⟩ (by
      have hh := HR.out
      rw [HT.out] at hh
      simp only [List.length_append, List.length_cons, List.length_nil, bts_len, z62, z61, z60, z42, z32] at hh ⊢
      omega)).mono ?_
  clear c0 c6 c7 c13
  rintro _ u2 ⟨rfl, hq⟩
  have HS := hid hq
  clear hq
  obtain ⟨⟨c0, -, -, -, -, -, c6⟩, c7, -, -, -, -, -, c13⟩ := HS.out.box.box.get14
  go_wp2_with fail
  have hS : BoxT u2.drew w.heap.size (SpanL.cells (⟨⟨0, v1, false⟩, ⟨0, v2, true⟩⟩ : SpanL)) 100 := HS.out.box
  refine wp_planS (fun u => BoxT u w.heap.size (SpanL.cells (⟨⟨0, v1, false⟩, ⟨0, v2, true⟩⟩ : SpanL)) 100) (.call [0, 1, 2, 3, 4, 5] 6 (.call [] 7 (.last []))) (by first | assumption | skip) (by kernel_rfl) (by intro _ _ d _ _ h; cases d <;> exact h) (by kernel_rfl) ?_
  have iS : Nonempty (SW fun u => BoxT u w.heap.size (SpanL.cells (⟨⟨0, v1, false⟩, ⟨0, v2, true⟩⟩ : SpanL)) 100) := ⟨⟨_, hS⟩⟩
  have q0 := fun (z : SW fun u => BoxT u w.heap.size (SpanL.cells (⟨⟨0, v1, false⟩, ⟨0, v2, true⟩⟩ : SpanL)) 100) => z.ok.box.get14.1.2.1
  have q1 := fun (z : SW fun u => BoxT u w.heap.size (SpanL.cells (⟨⟨0, v1, false⟩, ⟨0, v2, true⟩⟩ : SpanL)) 100) => z.ok.box.get14.1.2.2.1
  have q2 := fun (z : SW fun u => BoxT u w.heap.size (SpanL.cells (⟨⟨0, v1, false⟩, ⟨0, v2, true⟩⟩ : SpanL)) 100) => z.ok.box.get14.1.2.2.2.1
  have q3 := fun (z : SW fun u => BoxT u w.heap.size (SpanL.cells (⟨⟨0, v1, false⟩, ⟨0, v2, true⟩⟩ : SpanL)) 100) => z.ok.box.get14.1.2.2.2.2.1
  have q4 := fun (z : SW fun u => BoxT u w.heap.size (SpanL.cells (⟨⟨0, v1, false⟩, ⟨0, v2, true⟩⟩ : SpanL)) 100) => z.ok.box.get14.1.2.2.2.2.2.1
  clear c0 c6 c7 c13
  refine plan_call ?_
  simp only [pickOps, List.map_cons, List.map_nil, List.getElem?_toArray, List.getElem?_cons_zero, List.getElem?_cons_succ, Option.getD_some]
  repeat go_big_quiet_step (fail)
  refine wpQuiet_nil ?_
  go_wp2_with fail
  refine (vprint_any v1 u2.drew ((spw_laid HL.out H0.out HS.out).below (Below.refl _ _).drew) HF.out.1).mono ?_
  rintro _ y3 ⟨t1, rfl, hq, hb⟩
  have HQ1 := hid hq
  have HZ1 := hid (show (printV v1).length = t1.size by rw [← hq, bts_len])
  have HS := hid (HS.out.below (below_tr (Below.refl _ _).drew hb))
  clear hq hb
  go_wp2_with fail
  refine plan_onS (HS.out.box) ?_
  refine plan_call ?_
  simp only [pickOps, List.map_cons, List.map_nil, List.getElem?_toArray, List.getElem?_cons_zero, List.getElem?_cons_succ, Option.getD_some]
  repeat go_big_quiet_step (fail)
  refine wpQuiet_nil ?_
  go_wp2_with fail
  refine (spw_write hbg HS.out t1 (by
      have hh := HR.out
      rw [HT.out] at hh
      simp only [List.length_append, List.length_cons, List.length_nil, bts_len, z62, z61, z60, z42, z32, HZ1.out] at hh ⊢
      omega)).mono ?_
  rintro _ u3 ⟨rfl, hq⟩
  have HS := hid hq
  clear hq
  go_wp2_with fail
  refine plan_onS (HS.out.box) ?_
  refine plan_last ?_
  simp only [pickOps, List.map_cons, List.map_nil, List.getElem?_toArray, List.getElem?_cons_zero, List.getElem?_cons_succ, Option.getD_some]
  repeat go_big_quiet_step (fail)
  refine wpQuiet_nil ?_
  clear q0 q1 q2 q3 q4 iS hS
  obtain ⟨⟨c0, -, -, -, -, -, c6⟩, c7, -, -, -, -, -, c13⟩ := HS.out.box.box.get14
  go_wp2_with fail
  refine (spw_write hbg HS.out ⟨#[32]⟩ (by
      have hh := HR.out
      rw [HT.out] at hh
      simp only [List.length_append, List.length_cons, List.length_nil, bts_len, z62, z61, z60, z42, z32, HZ1.out] at hh ⊢
      omega)).mono ?_
  clear c0 c6 c7 c13
  rintro _ u4 ⟨rfl, hq⟩
  have HS := hid hq
  clear hq
  obtain ⟨⟨c0, -, -, -, -, -, c6⟩, c7, -, -, -, -, -, c13⟩ := HS.out.box.box.get14
  go_wp2_with fail
  refine (spw_write hbg HS.out ⟨#[60]⟩ (by
      have hh := HR.out
      rw [HT.out] at hh
      simp only [List.length_append, List.length_cons, List.length_nil, bts_len, z62, z61, z60, z42, z32, HZ1.out] at hh ⊢
      omega)).mono ?_
  clear c0 c6 c7 c13
  rintro _ u5 ⟨rfl, hq⟩
  have HS := hid hq
  clear hq
  obtain ⟨⟨c0, -, -, -, -, -, c6⟩, c7, -, -, -, -, -, c13⟩ := HS.out.box.box.get14
  go_wp2_with fail
  refine (spw_write hbg HS.out ⟨#[61]⟩ (by
      have hh := HR.out
      rw [HT.out] at hh
      simp only [List.length_append, List.length_cons, List.length_nil, bts_len, z62, z61, z60, z42, z32, HZ1.out] at hh ⊢
      omega)).mono ?_
  clear c0 c6 c7 c13
  rintro _ u6 ⟨rfl, hq⟩
  have HS := hid hq
  clear hq
  obtain ⟨⟨c0, -, -, -, -, -, c6⟩, c7, -, -, -, -, -, c13⟩ := HS.out.box.box.get14
  go_wp2_with fail
  have hS : BoxT u6.drew w.heap.size (SpanL.cells (⟨⟨0, v1, false⟩, ⟨0, v2, true⟩⟩ : SpanL)) 100 := HS.out.box
  refine wp_planS (fun u => BoxT u w.heap.size (SpanL.cells (⟨⟨0, v1, false⟩, ⟨0, v2, true⟩⟩ : SpanL)) 100) (.call [0, 1, 2, 3, 4, 5] 6 (.call [] 7 (.last []))) (by first | assumption | skip) (by kernel_rfl) (by intro _ _ d _ _ h; cases d <;> exact h) (by kernel_rfl) ?_
  have iS : Nonempty (SW fun u => BoxT u w.heap.size (SpanL.cells (⟨⟨0, v1, false⟩, ⟨0, v2, true⟩⟩ : SpanL)) 100) := ⟨⟨_, hS⟩⟩
  have q0 := fun (z : SW fun u => BoxT u w.heap.size (SpanL.cells (⟨⟨0, v1, false⟩, ⟨0, v2, true⟩⟩ : SpanL)) 100) => z.ok.box.get14.2.2.1
  have q1 := fun (z : SW fun u => BoxT u w.heap.size (SpanL.cells (⟨⟨0, v1, false⟩, ⟨0, v2, true⟩⟩ : SpanL)) 100) => z.ok.box.get14.2.2.2.1
  have q2 := fun (z : SW fun u => BoxT u w.heap.size (SpanL.cells (⟨⟨0, v1, false⟩, ⟨0, v2, true⟩⟩ : SpanL)) 100) => z.ok.box.get14.2.2.2.2.1
  have q3 := fun (z : SW fun u => BoxT u w.heap.size (SpanL.cells (⟨⟨0, v1, false⟩, ⟨0, v2, true⟩⟩ : SpanL)) 100) => z.ok.box.get14.2.2.2.2.2.1
  have q4 := fun (z : SW fun u => BoxT u w.heap.size (SpanL.cells (⟨⟨0, v1, false⟩, ⟨0, v2, true⟩⟩ : SpanL)) 100) => z.ok.box.get14.2.2.2.2.2.2.1
  clear c0 c6 c7 c13
  refine plan_call ?_
  simp only [pickOps, List.map_cons, List.map_nil, List.getElem?_toArray, List.getElem?_cons_zero, List.getElem?_cons_succ, Option.getD_some]
  repeat go_big_quiet_step (fail)
  refine wpQuiet_nil ?_
  go_wp2_with fail
  refine (vprint_any v2 u6.drew ((spw_laid HL.out H0.out HS.out).below (Below.refl _ _).drew) HF.out.2).mono ?_
  rintro _ y7 ⟨t2, rfl, hq, hb⟩
  have HQ2 := hid hq
  have HZ2 := hid (show (printV v2).length = t2.size by rw [← hq, bts_len])
  have HS := hid (HS.out.below (below_tr (Below.refl _ _).drew hb))
  clear hq hb
  go_wp2_with fail
  refine plan_onS (HS.out.box) ?_
  refine plan_call ?_
  simp only [pickOps, List.map_cons, List.map_nil, List.getElem?_toArray, List.getElem?_cons_zero, List.getElem?_cons_succ, Option.getD_some]
  repeat go_big_quiet_step (fail)
  refine wpQuiet_nil ?_
  go_wp2_with fail
  refine (spw_write hbg HS.out t2 (by
      have hh := HR.out
      rw [HT.out] at hh
      simp only [List.length_append, List.length_cons, List.length_nil, bts_len, z62, z61, z60, z42, z32, HZ1.out, HZ2.out] at hh ⊢
      omega)).mono ?_
  rintro _ u7 ⟨rfl, hq⟩
  have HS := hid hq
  clear hq
  go_wp2_with fail
  refine plan_onS (HS.out.box) ?_
  refine plan_last ?_
  simp only [pickOps, List.map_cons, List.map_nil, List.getElem?_toArray, List.getElem?_cons_zero, List.getElem?_cons_succ, Option.getD_some]
  repeat go_big_quiet_step (fail)
  refine wpQuiet_nil ?_
  clear q0 q1 q2 q3 q4 iS hS
  obtain ⟨⟨c0, -, -, -, -, -, c6⟩, c7, -, -, -, -, -, c13⟩ := HS.out.box.box.get14
  go_wp2_with fail
  first | (go_ret) | go_end0 | go_returns
  refine ⟨rfl, ?_⟩
  have hq := HS.out.pg
  rw [HT.out]
  simp only [b62, b61, b60, b42, b32, HQ1.out, HQ2.out, List.append_assoc] at hq ⊢
  exact hq
set_option maxRecDepth 100000 in
set_option maxHeartbeats 4000000 in
theorem span_ff (b : Nat) (w0 : World) (v1 v2 : Ver) (l : List UInt8) (w : World) (hL : Laid w0) (h0 : w0.heap.size ≤ b) (hs : SpanL.fit (⟨⟨0, v1, false⟩, ⟨0, v2, false⟩⟩ : SpanL)) (hp : Pg b w0 l w) (hr : l.length + (spanT (⟨⟨0, v1, false⟩, ⟨0, v2, false⟩⟩ : SpanL)).length ≤ 140737488355328) :
    Calls Tryz.prog 81 #[.pointer (some ⟨b, 0, none⟩), SpanL.val (⟨⟨0, v1, false⟩, ⟨0, v2, false⟩⟩ : SpanL)] w fun e w' => e = .returned (.tuple #[]) ∧ Pg b w0 (l ++ spanT (⟨⟨0, v1, false⟩, ⟨0, v2, false⟩⟩ : SpanL)) w' := by
  have HT := hid (show spanT (⟨⟨0, v1, false⟩, ⟨0, v2, false⟩⟩ : SpanL) = [62] ++ [61] ++ printV v1 ++ [32] ++ [60] ++ printV v2 by simp [spanT, loT, hiT])
  have HS := hid (SpW.mk (hp.below (below_new w (.cells (SpanL.cells (⟨⟨0, v1, false⟩, ⟨0, v2, false⟩⟩ : SpanL)).toArray 100))) (BoxT.new w (SpanL.cells (⟨⟨0, v1, false⟩, ⟨0, v2, false⟩⟩ : SpanL)) 100))
  have hbg : w.heap.size ≠ b := Nat.ne_of_gt hp.page.lt
  have HL := hid hL
  have H0 := hid h0
  have HR := hid hr
  have HF := hid hs
  have HHP := hid hp
  clear hp hL hr hs h0
  go_enter Tryz.func81, Tryz.ntmps81
  go_wp2_with fail
  refine (spw_write hbg HS.out ⟨#[62]⟩ (by
      have hh := HR.out
      rw [HT.out] at hh
      simp only [List.length_append, List.length_cons, List.length_nil, bts_len, z62, z61, z60, z42, z32] at hh ⊢
      omega)).mono ?_
  rintro _ u1 ⟨rfl, hq⟩
  have HS := hid hq
  clear hq
  obtain ⟨⟨c0, -, -, -, -, -, c6⟩, c7, -, -, -, -, -, c13⟩ := HS.out.box.box.get14
  go_wp2_with fail
  refine (spw_write hbg HS.out ⟨#[61]⟩ (by
      have hh := HR.out
      rw [HT.out] at hh
      simp only [List.length_append, List.length_cons, List.length_nil, bts_len, z62, z61, z60, z42, z32] at hh ⊢
      omega)).mono ?_
  clear c0 c6 c7 c13
  rintro _ u2 ⟨rfl, hq⟩
  have HS := hid hq
  clear hq
  obtain ⟨⟨c0, -, -, -, -, -, c6⟩, c7, -, -, -, -, -, c13⟩ := HS.out.box.box.get14
  go_wp2_with fail
  have hS : BoxT u2.drew w.heap.size (SpanL.cells (⟨⟨0, v1, false⟩, ⟨0, v2, false⟩⟩ : SpanL)) 100 := HS.out.box
  refine wp_planS (fun u => BoxT u w.heap.size (SpanL.cells (⟨⟨0, v1, false⟩, ⟨0, v2, false⟩⟩ : SpanL)) 100) (.call [0, 1, 2, 3, 4, 5] 6 (.call [] 7 (.last []))) (by first | assumption | skip) (by kernel_rfl) (by intro _ _ d _ _ h; cases d <;> exact h) (by kernel_rfl) ?_
  have iS : Nonempty (SW fun u => BoxT u w.heap.size (SpanL.cells (⟨⟨0, v1, false⟩, ⟨0, v2, false⟩⟩ : SpanL)) 100) := ⟨⟨_, hS⟩⟩
  have q0 := fun (z : SW fun u => BoxT u w.heap.size (SpanL.cells (⟨⟨0, v1, false⟩, ⟨0, v2, false⟩⟩ : SpanL)) 100) => z.ok.box.get14.1.2.1
  have q1 := fun (z : SW fun u => BoxT u w.heap.size (SpanL.cells (⟨⟨0, v1, false⟩, ⟨0, v2, false⟩⟩ : SpanL)) 100) => z.ok.box.get14.1.2.2.1
  have q2 := fun (z : SW fun u => BoxT u w.heap.size (SpanL.cells (⟨⟨0, v1, false⟩, ⟨0, v2, false⟩⟩ : SpanL)) 100) => z.ok.box.get14.1.2.2.2.1
  have q3 := fun (z : SW fun u => BoxT u w.heap.size (SpanL.cells (⟨⟨0, v1, false⟩, ⟨0, v2, false⟩⟩ : SpanL)) 100) => z.ok.box.get14.1.2.2.2.2.1
  have q4 := fun (z : SW fun u => BoxT u w.heap.size (SpanL.cells (⟨⟨0, v1, false⟩, ⟨0, v2, false⟩⟩ : SpanL)) 100) => z.ok.box.get14.1.2.2.2.2.2.1
  clear c0 c6 c7 c13
  refine plan_call ?_
  simp only [pickOps, List.map_cons, List.map_nil, List.getElem?_toArray, List.getElem?_cons_zero, List.getElem?_cons_succ, Option.getD_some]
  repeat go_big_quiet_step (fail)
  refine wpQuiet_nil ?_
  go_wp2_with fail
  refine (vprint_any v1 u2.drew ((spw_laid HL.out H0.out HS.out).below (Below.refl _ _).drew) HF.out.1).mono ?_
  rintro _ y3 ⟨t1, rfl, hq, hb⟩
  have HQ1 := hid hq
  have HZ1 := hid (show (printV v1).length = t1.size by rw [← hq, bts_len])
  have HS := hid (HS.out.below (below_tr (Below.refl _ _).drew hb))
  clear hq hb
  go_wp2_with fail
  refine plan_onS (HS.out.box) ?_
  refine plan_call ?_
  simp only [pickOps, List.map_cons, List.map_nil, List.getElem?_toArray, List.getElem?_cons_zero, List.getElem?_cons_succ, Option.getD_some]
  repeat go_big_quiet_step (fail)
  refine wpQuiet_nil ?_
  go_wp2_with fail
  refine (spw_write hbg HS.out t1 (by
      have hh := HR.out
      rw [HT.out] at hh
      simp only [List.length_append, List.length_cons, List.length_nil, bts_len, z62, z61, z60, z42, z32, HZ1.out] at hh ⊢
      omega)).mono ?_
  rintro _ u3 ⟨rfl, hq⟩
  have HS := hid hq
  clear hq
  go_wp2_with fail
  refine plan_onS (HS.out.box) ?_
  refine plan_last ?_
  simp only [pickOps, List.map_cons, List.map_nil, List.getElem?_toArray, List.getElem?_cons_zero, List.getElem?_cons_succ, Option.getD_some]
  repeat go_big_quiet_step (fail)
  refine wpQuiet_nil ?_
  clear q0 q1 q2 q3 q4 iS hS
  obtain ⟨⟨c0, -, -, -, -, -, c6⟩, c7, -, -, -, -, -, c13⟩ := HS.out.box.box.get14
  go_wp2_with fail
  refine (spw_write hbg HS.out ⟨#[32]⟩ (by
      have hh := HR.out
      rw [HT.out] at hh
      simp only [List.length_append, List.length_cons, List.length_nil, bts_len, z62, z61, z60, z42, z32, HZ1.out] at hh ⊢
      omega)).mono ?_
  clear c0 c6 c7 c13
  rintro _ u4 ⟨rfl, hq⟩
  have HS := hid hq
  clear hq
  obtain ⟨⟨c0, -, -, -, -, -, c6⟩, c7, -, -, -, -, -, c13⟩ := HS.out.box.box.get14
  go_wp2_with fail
  refine (spw_write hbg HS.out ⟨#[60]⟩ (by
      have hh := HR.out
      rw [HT.out] at hh
      simp only [List.length_append, List.length_cons, List.length_nil, bts_len, z62, z61, z60, z42, z32, HZ1.out] at hh ⊢
      omega)).mono ?_
  clear c0 c6 c7 c13
  rintro _ u5 ⟨rfl, hq⟩
  have HS := hid hq
  clear hq
  obtain ⟨⟨c0, -, -, -, -, -, c6⟩, c7, -, -, -, -, -, c13⟩ := HS.out.box.box.get14
  go_wp2_with fail
  have hS : BoxT u5.drew w.heap.size (SpanL.cells (⟨⟨0, v1, false⟩, ⟨0, v2, false⟩⟩ : SpanL)) 100 := HS.out.box
  refine wp_planS (fun u => BoxT u w.heap.size (SpanL.cells (⟨⟨0, v1, false⟩, ⟨0, v2, false⟩⟩ : SpanL)) 100) (.call [0, 1, 2, 3, 4, 5] 6 (.call [] 7 (.last []))) (by first | assumption | skip) (by kernel_rfl) (by intro _ _ d _ _ h; cases d <;> exact h) (by kernel_rfl) ?_
  have iS : Nonempty (SW fun u => BoxT u w.heap.size (SpanL.cells (⟨⟨0, v1, false⟩, ⟨0, v2, false⟩⟩ : SpanL)) 100) := ⟨⟨_, hS⟩⟩
  have q0 := fun (z : SW fun u => BoxT u w.heap.size (SpanL.cells (⟨⟨0, v1, false⟩, ⟨0, v2, false⟩⟩ : SpanL)) 100) => z.ok.box.get14.2.2.1
  have q1 := fun (z : SW fun u => BoxT u w.heap.size (SpanL.cells (⟨⟨0, v1, false⟩, ⟨0, v2, false⟩⟩ : SpanL)) 100) => z.ok.box.get14.2.2.2.1
  have q2 := fun (z : SW fun u => BoxT u w.heap.size (SpanL.cells (⟨⟨0, v1, false⟩, ⟨0, v2, false⟩⟩ : SpanL)) 100) => z.ok.box.get14.2.2.2.2.1
  have q3 := fun (z : SW fun u => BoxT u w.heap.size (SpanL.cells (⟨⟨0, v1, false⟩, ⟨0, v2, false⟩⟩ : SpanL)) 100) => z.ok.box.get14.2.2.2.2.2.1
  have q4 := fun (z : SW fun u => BoxT u w.heap.size (SpanL.cells (⟨⟨0, v1, false⟩, ⟨0, v2, false⟩⟩ : SpanL)) 100) => z.ok.box.get14.2.2.2.2.2.2.1
  clear c0 c6 c7 c13
  refine plan_call ?_
  simp only [pickOps, List.map_cons, List.map_nil, List.getElem?_toArray, List.getElem?_cons_zero, List.getElem?_cons_succ, Option.getD_some]
  repeat go_big_quiet_step (fail)
  refine wpQuiet_nil ?_
  go_wp2_with fail
  refine (vprint_any v2 u5.drew ((spw_laid HL.out H0.out HS.out).below (Below.refl _ _).drew) HF.out.2).mono ?_
  rintro _ y6 ⟨t2, rfl, hq, hb⟩
  have HQ2 := hid hq
  have HZ2 := hid (show (printV v2).length = t2.size by rw [← hq, bts_len])
  have HS := hid (HS.out.below (below_tr (Below.refl _ _).drew hb))
  clear hq hb
  go_wp2_with fail
  refine plan_onS (HS.out.box) ?_
  refine plan_call ?_
  simp only [pickOps, List.map_cons, List.map_nil, List.getElem?_toArray, List.getElem?_cons_zero, List.getElem?_cons_succ, Option.getD_some]
  repeat go_big_quiet_step (fail)
  refine wpQuiet_nil ?_
  go_wp2_with fail
  refine (spw_write hbg HS.out t2 (by
      have hh := HR.out
      rw [HT.out] at hh
      simp only [List.length_append, List.length_cons, List.length_nil, bts_len, z62, z61, z60, z42, z32, HZ1.out, HZ2.out] at hh ⊢
      omega)).mono ?_
  rintro _ u6 ⟨rfl, hq⟩
  have HS := hid hq
  clear hq
  go_wp2_with fail
  refine plan_onS (HS.out.box) ?_
  refine plan_last ?_
  simp only [pickOps, List.map_cons, List.map_nil, List.getElem?_toArray, List.getElem?_cons_zero, List.getElem?_cons_succ, Option.getD_some]
  repeat go_big_quiet_step (fail)
  refine wpQuiet_nil ?_
  clear q0 q1 q2 q3 q4 iS hS
  obtain ⟨⟨c0, -, -, -, -, -, c6⟩, c7, -, -, -, -, -, c13⟩ := HS.out.box.box.get14
  go_wp2_with fail
  first | (go_ret) | go_end0 | go_returns
  refine ⟨rfl, ?_⟩
  have hq := HS.out.pg
  rw [HT.out]
  simp only [b62, b61, b60, b42, b32, HQ1.out, HQ2.out, List.append_assoc] at hq ⊢
  exact hq
theorem span_any (b : Nat) (w0 : World) (s : SpanL) (l : List UInt8) (w : World) (hL : Laid w0) (h0 : w0.heap.size ≤ b) (hs : s.fit) (hp : Pg b w0 l w) (hr : l.length + (spanT s).length ≤ 140737488355328) :
    Calls Tryz.prog 81 #[.pointer (some ⟨b, 0, none⟩), s.val] w fun e w' => e = .returned (.tuple #[]) ∧ Pg b w0 (l ++ spanT s) w' := by
  obtain ⟨⟨e1, v1, f1⟩, ⟨e2, v2, f2⟩⟩ := s
  by_cases h1 : e1 = 0 <;> by_cases h2 : e2 = 0
  · subst h1 h2
    cases f1 <;> cases f2
    · exact span_ff b w0 v1 v2 l w hL h0 hs hp hr
    · exact span_ft b w0 v1 v2 l w hL h0 hs hp hr
    · exact span_tf b w0 v1 v2 l w hL h0 hs hp hr
    · exact span_tt b w0 v1 v2 l w hL h0 hs hp hr
  · subst h1
    cases f1
    · exact span_fe b w0 v1 v2 e2 f2 l w hL h0 hs hp hr h2
    · exact span_te b w0 v1 v2 e2 f2 l w hL h0 hs hp hr h2
  · subst h2
    cases f2
    · exact span_ef b w0 v1 v2 e1 f1 l w hL h0 hs hp hr h1
    · exact span_et b w0 v1 v2 e1 f1 l w hL h0 hs hp hr h1
  · exact span_ee b w0 v1 v2 e1 f1 e2 f2 l w hL h0 hs hp hr h1 h2
end Go.Proofs.YtplmlahpmnjneaaGreatDoor
namespace Go.Proofs.YtplmlahpmnjneaaGreatDoor
open Go.RowKit Go.Lib
open Rw
set_option linter.unusedVariables false
set_option linter.unusedSimpArgs false
theorem joinS_cons {sep p : List UInt8} {r : List (List UInt8)} (h : r ≠ []) : joinS sep (p :: r) = p ++ sep ++ joinS sep r := by
  cases r with
  | nil => exact absurd rfl h
  | cons q r => rfl
theorem joinS_take (sep : List UInt8) : ∀ (ls : List (List UInt8)) (k : Nat), (joinS sep (ls.take k)).length ≤ (joinS sep ls).length
  | [], k => by simp
  | p :: r, 0 => by simp [joinS]
  | [p], k + 1 => by simp
  | p :: q :: r, 1 => by
    rw [joinS_cons (r := q :: r) (by simp)]
    simp only [List.take_succ_cons, List.take_zero, joinS, List.length_append]; omega
  | p :: q :: r, k + 2 => by
    have := joinS_take sep (q :: r) (k + 1)
    rw [joinS_cons (r := q :: r) (by simp), List.take_succ_cons, joinS_cons (by simp)]
    simp only [List.length_append]; omega
theorem joinS_snoc {sep q : List UInt8} : ∀ {ls : List (List UInt8)}, ls ≠ [] → joinS sep (ls ++ [q]) = joinS sep ls ++ (sep ++ q)
  | [], h => absurd rfl h
  | [p], _ => by simp [joinS]
  | p :: r :: s, _ => by
    have := joinS_snoc (sep := sep) (q := q) (ls := r :: s) (by simp)
    have e1 : joinS sep (p :: r :: s) = p ++ sep ++ joinS sep (r :: s) := rfl
    have e2 : joinS sep ((p :: r :: s) ++ [q]) = p ++ sep ++ joinS sep (r :: s ++ [q]) := rfl
    rw [e2, this, e1]; simp
def rowTo (l : List SpanL) (k : Nat) : List UInt8 := joinS orB ((l.map spanT).take k)
theorem rowTo_zero (l : List SpanL) : rowTo l 0 = [] := by simp [rowTo, joinS]
theorem rowTo_all {l : List SpanL} (h : l ≠ []) : rowTo l l.length = rowT l := by
  rw [rowTo, rowT, if_neg (by simpa using h), List.take_of_length_le (by simp)]
theorem rowTo_first {l : List SpanL} (h : 0 < l.length) : rowTo l 1 = spanT (nth l 0) := by
  cases l with
  | nil => simp at h
  | cons s r => simp [rowTo, joinS, nth]
theorem rowTo_next {l : List SpanL} {k : Nat} (h0 : 0 < k) (h : k < l.length) : rowTo l (k + 1) = rowTo l k ++ (orB ++ spanT (nth l k)) := by
  rw [rowTo, rowTo, List.take_succ_eq_append_getElem (by simpa using h), joinS_snoc]
  · rw [List.getElem_map, nth_lt h]
  · intro e
    have := congrArg List.length e
    simp only [List.length_take, List.length_map, List.length_nil] at this
    omega
theorem rowTo_len {l : List SpanL} (h : l ≠ []) (k : Nat) : (rowTo l k).length ≤ (rowT l).length := by
  rw [rowT, if_neg (by simpa using h), rowTo]
  exact joinS_take _ _ _
theorem bor : bts (⟨#[32, 111, 114, 32]⟩ : ByteArray) = orB := bts_lit _
theorem bsl : bts (⟨#[32, 47, 32]⟩ : ByteArray) = slB := bts_lit _
theorem b45x : bts (⟨#[45]⟩ : ByteArray) = [45] := bts_lit [45]
set_option maxRecDepth 100000 in
set_option maxHeartbeats 4000000 in
theorem prow_nil (b : Nat) (w0 : World) (A : Option Addr) (c : Nat) (l : List UInt8) (w : World) (hp : Pg b w0 l w) (hr : l.length + 1 ≤ 140737488355328) :
    Calls Tryz.prog 48 #[.pointer (some ⟨b, 0, none⟩), .slice A 0 c] w fun e w' => e = .returned (.tuple #[]) ∧ Pg b w0 (l ++ [45]) w' := by
  have HP := hid hp
  clear hp
  go_enter Tryz.func48, Tryz.ntmps48
  go_wp2_with fail
  refine (pg_write HP.out ⟨#[45]⟩ hr).mono ?_
  rintro _ u1 ⟨rfl, hq, -⟩
  rw [b45x] at hq
  have HQ := hid hq
  clear hq
  go_wp2_with fail
  refine wp_loop_rounds 1 ?_
  rw [rounds_succ]
  go_wp2_with fail
  first | go_ret | go_end0 | go_returns
  exact ⟨rfl, HQ.out⟩
set_option maxRecDepth 100000 in
set_option maxHeartbeats 4000000 in
theorem prow_full (b : Nat) (w0 : World) (A : Option Addr) (c : Nat) (sp : List SpanL) (l : List UInt8) (w : World) (hL : Laid w0) (h0 : w0.heap.size ≤ b) (hsp : Spans w0 A sp) (hf : fitL sp) (hne : sp ≠ []) (hln : sp.length ≤ 4398046511104)
    (hp : Pg b w0 l w) (hr : l.length + (rowT sp).length ≤ 140737488355328) :
    Calls Tryz.prog 48 #[.pointer (some ⟨b, 0, none⟩), .slice A sp.length c] w fun e w' => e = .returned (.tuple #[]) ∧ Pg b w0 (l ++ rowT sp) w' := by
  have hpos : 0 < sp.length := List.length_pos_iff.2 hne
  have HPOS := hid hpos
  have HE := hid hne
  have HP := hid hp
  have HLA := hid hL
  have H0 := hid h0
  have HSP := hid hsp
  have HF := hid hf
  have HR := hid hr
  clear hp hL h0 hsp hf hr hne
  generalize hn : sp.length = n at *
  have HN := hid hn
  clear hn
  have hn0 : ((n : Int) == 0) = false := by simp; omega
  go_enter Tryz.func48, Tryz.ntmps48
  go_wp2_with fail
  go_loopw [4, 5, 15] (fun i bx t wr => ∃ k : Nat, t = .int .i64 k ∧ k ≤ n ∧ Hid (Pg b w0 (l ++ rowTo sp k) wr)) (fun _ _ t _ => n - (intOf t).toNat)
  case atStart => exact ⟨0, rfl, Nat.zero_le _, hid (by rw [rowTo_zero, List.append_nil]; exact HP.out)⟩
  case round =>
    obtain ⟨k, rfl, hk, HQ⟩ := hrel
    have HLB := hid (HQ.out.wrote.below.mono H0.out)
    by_cases hlt : k < n
    · have hlt' : k < sp.length := by rw [HN.out]; exact hlt
      obtain ⟨g, off, rfl, hgl, ⟨x0, x1, x2, x3, x4, x5, x6⟩, z0, z1, z2, z3, z4, z5, z6⟩ := (HSP.out.below HLB.out).at_ (k := k) hlt'
      have i0 : (0 : Int) ≤ (k : Int) := by omega
      have i1 : (k : Int) < (n : Int) := by omega
      have HFK := hid (HF.out k hlt')
      have HRK := hid (rowTo_len HE.out (k + 1))
      have HX : Hid (rowTo sp (k + 1) = rowTo sp k ++ ((if k = 0 then [] else orB) ++ spanT (nth sp k))) := hid (by
        by_cases hk0 : k = 0
        · subst hk0; rw [rowTo_first hlt', rowTo_zero]; simp
        · rw [rowTo_next (by omega) hlt', if_neg hk0])
      generalize hsk : nth sp k = s at *
      clear hsk
      have hbg : wr.heap.size ≠ b := Nat.ne_of_gt HQ.out.page.lt
      have HS := hid (SpW.mk (HQ.out.below (below_new wr (.cells s.cells.toArray 100))) (BoxT.new wr s.cells 100))
      by_cases hk0 : k = 0
      · subst hk0
        simp only [Nat.zero_mul, Nat.add_zero] at x0 x1 x2 x3 x4 x5 x6 z0 z1 z2 z3 z4 z5 z6
        go_wp2_with fail
        refine (span_any b w0 s _ _ HLA.out H0.out HFK.out HS.out.pg (by
          have h1 := HRK.out
          have h2 := HR.out
          rw [HX.out] at h1
          simp only [List.length_append, if_true, List.length_nil] at h1 ⊢
          omega)).mono ?_
        rintro _ u1 ⟨rfl, hq⟩
        have HQ2 := hid hq
        clear hq x0 x1 x2 x3 x4 x5 x6 z0 z1 z2 z3 z4 z5 z6
        go_wp2_with fail
        go_roundw
        case rel => exact ⟨0 + 1, by go_num, by omega, hid (by rw [HX.out, ← List.append_assoc]; simpa using HQ2.out)⟩
        case measure => simp [intOf]; omega
      · have hkp : (0 : Int) < (k : Int) := by omega
        go_wp2_with fail
        refine (spw_write hbg HS.out ⟨#[32, 111, 114, 32]⟩ (by
          have h1 := HRK.out
          have h2 := HR.out
          rw [HX.out, if_neg hk0] at h1
          simp only [List.length_append, orB, List.length_cons, List.length_nil] at h1 ⊢
          show _ + 4 ≤ _
          omega)).mono ?_
        rintro _ u0 ⟨rfl, hq⟩
        rw [bor] at hq
        have HS := hid hq
        clear hq x0 x1 x2 x3 x4 x5 x6 z0 z1 z2 z3 z4 z5 z6
        obtain ⟨⟨c0, c1, c2, c3, c4, c5, c6⟩, c7, c8, c9, c10, c11, c12, c13⟩ := HS.out.box.box.get14
        go_wp2_with fail
        refine (span_any b w0 s _ _ HLA.out H0.out HFK.out HS.out.pg (by
          have h1 := HRK.out
          have h2 := HR.out
          rw [HX.out, if_neg hk0] at h1
          simp only [List.length_append] at h1 ⊢
          omega)).mono ?_
        rintro _ u1 ⟨rfl, hq⟩
        have HQ2 := hid hq
        clear hq c0 c1 c2 c3 c4 c5 c6 c7 c8 c9 c10 c11 c12 c13
        go_wp2_with fail
        go_roundw
        case rel => exact ⟨k + 1, by go_num, by omega, hid (by rw [HX.out, if_neg hk0, ← List.append_assoc, ← List.append_assoc]; exact HQ2.out)⟩
        case measure => simp [intOf]; omega
    · obtain rfl : k = n := by omega
      go_wp2_with fail
      first | go_ret | go_end0 | go_returns
      refine ⟨rfl, ?_⟩
      have h1 := HQ.out
      rw [← HN.out, rowTo_all HE.out] at h1
      exact h1
theorem prow_any (b : Nat) (w0 : World) (A : Option Addr) (c : Nat) (sp : List SpanL) (l : List UInt8) (w : World) (hL : Laid w0) (h0 : w0.heap.size ≤ b) (hsp : Spans w0 A sp) (hf : fitL sp) (hln : sp.length ≤ 4398046511104)
    (hp : Pg b w0 l w) (hr : l.length + (rowT sp).length ≤ 140737488355328) :
    Calls Tryz.prog 48 #[.pointer (some ⟨b, 0, none⟩), .slice A sp.length c] w fun e w' => e = .returned (.tuple #[]) ∧ Pg b w0 (l ++ rowT sp) w' := by
  by_cases hne : sp = []
  · subst hne
    exact prow_nil b w0 A c l w hp hr
  · exact prow_full b w0 A c sp l w hL h0 hsp hf hne hln hp hr
theorem page_new (w : World) : PageAt w.heap.size [] (w.alloc (.cells #[.pointer none, .slice none 0 0] 65)) :=
  .inl ⟨Nat.le_refl _, .slice none 0 0, heap_alloc_new w _, ⟨rfl, .inl ⟨rfl, rfl⟩⟩, by simp [Value.ownBlock]⟩
theorem pg_new (w : World) : Pg w.heap.size w [] (w.alloc (.cells #[.pointer none, .slice none 0 0] 65)) := ⟨page_new w, Wrote.of (below_new w _) (Nat.le_refl _)⟩
theorem setT_yes {l m : List SpanL} (h : mayS l m = true) : setT l m = rowT l ++ (if m.isEmpty then [] else slB ++ rowT m) := by rw [setT, if_pos h]
theorem setT_no {l m : List SpanL} (h : mayS l m = false) : setT l m = [] := by rw [setT, if_neg (by rw [h]; simp)]
set_option maxRecDepth 100000 in
set_option maxHeartbeats 4000000 in
theorem tprint_any (A B : Option Addr) (c d : Nat) (l m : List SpanL) (w : World) (hL : Laid w) (hl : Spans w A l) (hm : Spans w B m) (hfl : fitL l) (hfm : fitL m) (hln : l.length ≤ 4398046511104) (hmn : m.length ≤ 4398046511104)
    (hr : (setT l m).length ≤ 140737488355328) : Calls Tryz.prog 16 #[setV A l.length c B m.length d] w (StrPost w (setT l m)) := by
  have HM := hid (fun w1 (h : Below w.heap.size w w1) => smay_any A B c d l m w1 (hL.first.below h) (hl.below h) (hm.below h) hfl hfm hln hmn)
  have HR1 := hid (fun (b : Nat) (w0 : World) (h : Below w.heap.size w w0) (h0 : w0.heap.size ≤ b) (x : List UInt8) (u : World) (hp : Pg b w0 x u) (hr : x.length + (rowT l).length ≤ 140737488355328) => prow_any b w0 A c l x u (hL.below h) h0 (hl.below h) hfl hln hp hr)
  have HR2 := hid (fun (b : Nat) (w0 : World) (h : Below w.heap.size w w0) (h0 : w0.heap.size ≤ b) (x : List UInt8) (u : World) (hp : Pg b w0 x u) (hr : x.length + (rowT m).length ≤ 140737488355328) => prow_any b w0 B d m x u (hL.below h) h0 (hm.below h) hfm hmn hp hr)
  have HLEN := hid hr
  have HEM : Hid (m.isEmpty = decide (m.length = 0)) := hid (by cases m <;> simp)
  have HNE := hid (fun (h : mayS l m = true) => setT_ne (mayS_val.1 h))
  clear hL hl hm hfl hfm hr
  generalize hn : l.length = n at *
  generalize hk : m.length = k at *
  clear hn hk
  cases hmay : mayS l m
  · rw [hmay] at HM
    have HT := hid (setT_no hmay)
    go_enter Tryz.func16, Tryz.ntmps16
    go_wp2_with fail
    refine (HM.out _ (below_new _ _)).mono ?_
    rintro _ w1 ⟨rfl, hb⟩
    go_wp2_with fail
    go_ret
    exact ⟨_, rfl, by rw [HT.out]; exact bts_lit [], below_box hb⟩
  · rw [hmay] at HM
    have HT := hid (setT_yes hmay)
    have HN := hid (HNE.out hmay)
    clear hmay
    go_enter Tryz.func16, Tryz.ntmps16
    go_wp2_with fail
    refine (HM.out _ (below_new _ _)).mono ?_
    rintro _ w1 ⟨rfl, hb⟩
    have HX := hid ((Box.new w [Value.slice A n c, .slice B k d] 24).below hb)
    have HB := hid (below_box hb)
    clear hb
    obtain ⟨x0, x1⟩ := HX.out.get2
    have hlt : w.heap.size < w1.heap.size := HX.out.1
    go_wp2_with fail
    refine (HR1.out w1.heap.size w1 HB.out (Nat.le_refl _) [] _ (pg_new w1) (by
      have h1 := HLEN.out
      rw [HT.out] at h1
      simp only [List.length_append, List.length_nil] at h1 ⊢
      omega)).mono ?_
    rintro _ u1 ⟨rfl, hq⟩
    have HQ := hid hq
    rw [List.nil_append] at HQ
    clear hq x0 x1
    have HX1 := hid (HX.out.below HQ.out.wrote.below)
    obtain ⟨x0, x1⟩ := HX1.out.get2
    by_cases hk0 : k = 0
    · subst hk0
      have HTN := hid (show setT l m = rowT l by rw [HT.out, HEM.out]; simp)
      go_wp2_with fail
      refine (pstring_full w1.heap.size (rowT l) u1 HQ.out.page (by rw [← HTN.out]; exact HN.out)).mono ?_
      rintro _ u2 ⟨rfl, hb⟩
      go_wp2_with fail
      go_ret
      exact ⟨_, rfl, by rw [HTN.out]; exact bts_lit _, below_tr HB.out (HQ.out.wrote.below.trans hb)⟩
    · have HTN := hid (show setT l m = rowT l ++ (slB ++ rowT m) by rw [HT.out, HEM.out]; simp [hk0])
      have hkp : (0 : Int) < (k : Int) := by omega
      go_wp2_with fail
      refine (pg_write HQ.out ⟨#[32, 47, 32]⟩ (by
        have h1 := HLEN.out
        rw [HTN.out] at h1
        simp only [List.length_append, slB, List.length_cons, List.length_nil] at h1 ⊢
        show _ + 3 ≤ _
        omega)).mono ?_
      rintro _ u2 ⟨rfl, hq, -⟩
      rw [bsl] at hq
      have HQ2 := hid hq
      clear hq x0 x1
      have HX2 := hid (HX.out.below HQ2.out.wrote.below)
      obtain ⟨x0, x1⟩ := HX2.out.get2
      go_wp2_with fail
      refine (HR2.out w1.heap.size w1 HB.out (Nat.le_refl _) _ _ HQ2.out (by
        have h1 := HLEN.out
        rw [HTN.out] at h1
        simp only [List.length_append] at h1 ⊢
        omega)).mono ?_
      rintro _ u3 ⟨rfl, hq⟩
      rw [List.append_assoc, ← HTN.out] at hq
      have HQ3 := hid hq
      clear hq x0 x1
      go_wp2_with fail
      refine (pstring_full w1.heap.size (setT l m) u3 HQ3.out.page HN.out).mono ?_
      rintro _ u4 ⟨rfl, hb⟩
      go_wp2_with fail
      go_ret
      exact ⟨_, rfl, bts_lit _, below_tr HB.out (HQ3.out.wrote.below.trans hb)⟩
end Go.Proofs.YtplmlahpmnjneaaGreatDoor
namespace Go.Proofs.YtplmlahpmnjneaaGreatDoor
open Go.RowKit Go.Lib
open Rw
set_option linter.unusedVariables false
set_option linter.unusedSimpArgs false
theorem splitK_len (sep : List UInt8) : ∀ (k : Nat) (s : List UInt8), ∀ p ∈ Lib.splitK sep 0 k s, p.length ≤ s.length
  | 0, s, p, hp => by simp [Lib.splitK] at hp; subst hp; omega
  | k + 1, s, p, hp => by
    unfold Lib.splitK at hp
    split at hp
    · simp at hp; subst hp; omega
    · rcases List.mem_cons.1 hp with h | h
      · subst h; simp only [List.length_take]; omega
      · have := splitK_len sep k _ p h
        simp only [List.length_drop] at this
        omega
theorem split_at (s sep : ByteArray) (w : World) (hL : Laid w) (hs : s.size < 4294967281) (h1 : 1 ≤ sep.size) :
    Calls Tryz.prog 56 #[.string s, .string sep] w fun e w' => ∃ ps : List ByteArray, ps.map bts = Lib.split (bts s) (bts sep) ∧ (∀ p ∈ ps, p.size ≤ s.size) ∧ 0 < ps.length ∧ ps.length ≤ s.size + 1 ∧
      e = .returned (.slice (some ⟨w.heap.size, 0, none⟩) ps.length ps.length) ∧ w' = w.alloc (.cells (ps.map Value.string).toArray 9) := by
  obtain ⟨m, hm⟩ := hL.maxl
  refine (Any.strings_Split Tryz.lays146 (by kernel_rfl) s sep m w hs hm h1).mono ?_
  rintro e w' ⟨rfl, rfl⟩
  have hlen := Lib.splitB_all sep h1 0 _ s rfl
  have hd := Lib.splitB_data sep 0 (Lib.countB s sep) s
  have he : (Lib.splitB sep 0 (Lib.countB s sep) s).map bts = Lib.split (bts s) (bts sep) := by
    have e1 : ∀ x : ByteArray, bts x = x.data.toList := fun x => by rw [bts, bts_data]
    have e2 : (bts : ByteArray → List UInt8) = fun x => x.data.toList := funext e1
    rw [e2, hd]; rfl
  refine ⟨_, he, fun p hp => ?_, by rw [hlen]; omega, ?_, by rw [hlen], rfl⟩
  · have hp2 : bts p ∈ Lib.split (bts s) (bts sep) := by rw [← he]; exact List.mem_map_of_mem hp
    have := splitK_len _ _ _ _ hp2
    rwa [bts_len, bts_len] at this
  · rw [hlen]
    have := Lib.countB_le sep h1 s.size s (Nat.le_refl _)
    omega
theorem has_any (s p : ByteArray) (w : World) : Calls Tryz.prog 85 #[.string s, .string p] w fun e w' => e = .returned (.bool (Lib.hasPrefix (bts s) (bts p))) ∧ w = w' := by
  refine (Any.strings_HasPrefix Tryz.lays99 s p w).mono ?_
  rintro e w' ⟨rfl, rfl⟩
  exact ⟨by rw [bts, bts, bts_data, bts_data], rfl⟩
theorem cutp_any (s p : ByteArray) (w : World) : Calls Tryz.prog 86 #[.string s, .string p] w fun e w' => e = .returned (.tuple #[.string (strB (Lib.trimPrefix (bts s) (bts p))), .bool (Lib.hasPrefix (bts s) (bts p))]) ∧ w = w' := by
  refine (Any.strings_CutPrefix Tryz.lays103 s p w).mono ?_
  rintro e w' ⟨rfl, rfl⟩
  exact ⟨by rw [bts, bts, bts_data, bts_data]; rfl, rfl⟩
theorem own_other {w : World} {base size n g o : Nat} {e : TypeId} {v : Value} {xs vs : List Value} (h : w.ownsRow base e size v n xs) (hg : v.ownBlock ≠ some g) : (w.setCells g o vs).ownsRow base e size v n xs := by
  obtain ⟨h1, h2⟩ := h
  refine ⟨h1, ?_⟩
  rcases h2 with h2 | ⟨k, cap, cur, hv, hk, hh, r⟩
  · exact .inl h2
  · refine .inr ⟨k, cap, cur, hv, hk, ?_, r⟩
    have hne : k ≠ g := fun e => hg (by rw [hv, ← e]; rfl)
    rw [setCells_block g k hne]; exact hh
def RowsPost (w : World) (o : Option (List SpanL)) (e : Ending) (w' : World) : Prop :=
  ∃ A c, e = .returned (.tuple #[.slice A (o.getD []).length c, .bool o.isSome]) ∧ SpanB w' w.heap.size A (o.getD []) ∧ fitL (o.getD []) ∧ (o.getD []).length ≤ 4294967281 ∧ Below w.heap.size w w'
theorem rows_none {w w' : World} (h : Below w.heap.size w w') : RowsPost w none (.returned (.tuple #[.slice none 0 0, .bool false])) w' := ⟨none, 0, rfl, ⟨Spans.nil, fun ad h => by cases h⟩, fun i hi => by simp at hi, by simp, h⟩
def spansFrom (l : List SpanL) (r : List (List UInt8)) : Option (List SpanL) := (spansP r).map (l ++ ·)
theorem spansFrom_start (r : List (List UInt8)) : spansFrom [] r = spansP r := by rw [spansFrom]; cases spansP r <;> simp
theorem spansFrom_cons (l : List SpanL) (x : List UInt8) (r : List (List UInt8)) : spansFrom l (x :: r) = match spanP x with | none => none | some s => spansFrom (l ++ [s]) r := by
  rw [spansFrom, spansP]
  cases spanP x with
  | none => rfl
  | some s =>
    simp only [spansFrom]
    cases spansP r <;> simp
theorem fit_full : fullS.fit := ⟨firstC_fit, ⟨by simp [zeroV, fullS, lastC]; decide, by simp [zeroV, fullS, lastC]; decide⟩⟩
theorem parse_fit {s : List UInt8} {v : Ver} (h : parseV s = some v) (hs : s.length ≤ 4398046511104) : v.fit := parseV_fit h hs
theorem trim_len (l p : List UInt8) : (Lib.trimPrefix l p).length ≤ l.length := by
  unfold Lib.trimPrefix
  split
  · rw [List.length_drop]; omega
  · exact Nat.le_refl _
theorem fitL_snoc {l : List SpanL} {a : SpanL} (h : fitL l) (ha : a.fit) : fitL (l ++ [a]) := fun i hi => by
  rcases Nat.lt_or_ge i l.length with k | k
  · have := h i k
    rw [nth_lt k] at this
    rw [nth_lt hi, List.getElem_append_left k]; exact this
  · have e : i = l.length := by simp at hi; omega
    subst e
    rw [nth_lt hi]; simpa using ha
theorem own_spanB {w : World} {base : Nat} {v : Value} {l : List SpanL} (h : OwnS w base v l) : ∃ A cap, v = .slice A l.length cap ∧ SpanB w base A l := by
  obtain ⟨A, cap, hv, hs⟩ := h.spans
  refine ⟨A, cap, hv, hs, fun ad had => ?_⟩
  have hb : v.ownBlock = some ad.block ∨ v = .slice none 0 0 := by
    rcases h.form with ⟨h1, h2⟩ | ⟨g, c, h1, -⟩
    · exact .inr h1
    · left
      rw [hv] at h1
      injection h1 with h1
      rw [had] at h1
      injection h1 with h1
      rw [hv, had, h1]; rfl
  rcases hb with hb | hb
  · exact (own_bound h _ hb).1
  · rw [hv] at hb
    injection hb with hb
    rw [hb] at had; cases had
theorem spanB_below {w w' : World} {base : Nat} {A : Option Addr} {l : List SpanL} (h : SpanB w base A l) (hb : Below w.heap.size w w') : SpanB w' base A l := ⟨h.1.below hb, h.2⟩
theorem spanB_put {w : World} {base k j : Nat} {A : Option Addr} {l : List SpanL} (h : SpanB w base A l) (hk : k < base) (v : Value) : SpanB (w.setCell ⟨k, j, none⟩ v) base A l := by
  refine ⟨?_, h.2⟩
  rcases h.1 with h1 | ⟨b, off, rfl, hlt, hc⟩
  · exact .inl h1
  · have hb := h.2 _ rfl
    simp only at hb
    refine .inr ⟨b, off, rfl, by rw [World.size_setCell]; exact hlt, fun i hi q u hq => ?_⟩
    exact (put_cell (by omega) v).trans (hc i hi q u hq)
theorem bts_tail (s : ByteArray) : bts (s.extract 1 s.size) = (bts s).drop 1 := by
  rw [bts_extract, List.take_of_length_le]
  rw [List.length_drop, bts_len]; omega
theorem strB_size (l : List UInt8) : (strB l).size = l.length := by rw [← bts_len, bts_strB]
theorem wordsP_cons {a : SpanL} {w : List UInt8} {r : List (List UInt8)} : wordsP a (w :: r) = match wordP a w with | none => none | some b => wordsP b r := rfl
theorem wordP_star {a : SpanL} {w : List UInt8} (h : w = [42]) : wordP a w = some a := by rw [wordP, if_pos h]
theorem wordP_bad {a : SpanL} {w : List UInt8} (h : w ≠ [42]) (h1 : Lib.hasPrefix w [62] = false) (h2 : Lib.hasPrefix w [60] = false) : wordP a w = none := by rw [wordP, if_neg h, h1, h2]; rfl
theorem wordP_none {a : SpanL} {w : List UInt8} (h : w ≠ [42]) (h1 : (Lib.hasPrefix w [62] || Lib.hasPrefix w [60]) = true) (h2 : parseV (Lib.trimPrefix (w.drop 1) [61]) = none) : wordP a w = none := by
  rw [wordP, if_neg h, if_neg (by revert h1; cases Lib.hasPrefix w [62] <;> cases Lib.hasPrefix w [60] <;> simp), h2]
theorem wordP_fr {a : SpanL} {w : List UInt8} {v : Ver} (h : w ≠ [42]) (h1 : Lib.hasPrefix w [62] = true) (h2 : parseV (Lib.trimPrefix (w.drop 1) [61]) = some v) : wordP a w = some ⟨⟨0, v, !Lib.hasPrefix (w.drop 1) [61]⟩, a.til⟩ := by
  rw [wordP, if_neg h, h1, if_neg (by simp), h2]; rfl
theorem wordP_til {a : SpanL} {w : List UInt8} {v : Ver} (h : w ≠ [42]) (h1 : Lib.hasPrefix w [62] = false) (h3 : Lib.hasPrefix w [60] = true) (h2 : parseV (Lib.trimPrefix (w.drop 1) [61]) = some v) : wordP a w = some ⟨a.fr, ⟨0, v, Lib.hasPrefix (w.drop 1) [61]⟩⟩ := by
  rw [wordP, if_neg h, h1, h3, if_neg (by simp), h2]; rfl
theorem pre_pos {s : ByteArray} {b : UInt8} (h : Lib.hasPrefix (bts s) [b] = true) : 0 < s.size := by
  rw [← bts_len]
  cases hb : bts s with
  | nil => rw [hb] at h; cases h
  | cons c r => simp
structure WdW (base : Nat) (gw : Nat) (ws : List ByteArray) (gy : Nat) (gp : Nat) (ps : List ByteArray) (v : Value) (l : List SpanL) (a : SpanL) (wr : World) : Prop where
  words : Box wr gw (ws.map Value.string)
  parts : Box wr gp (ps.map Value.string)
  box : Own base wr gy a.cells
  out : OwnS wr base v l
  ne1 : gw ≠ gy
  ne2 : gp ≠ gy
  ne3 : v.ownBlock ≠ some gy
theorem WdW.below {base gw gy gp : Nat} {ws ps : List ByteArray} {v : Value} {l : List SpanL} {a : SpanL} {wr w' : World} (h : WdW base gw ws gy gp ps v l a wr) (hb : Below wr.heap.size wr w') : WdW base gw ws gy gp ps v l a w' :=
  ⟨h.words.below hb, h.parts.below hb, h.box.below hb, h.out.below hb, h.ne1, h.ne2, h.ne3⟩
theorem WdW.fr {base gw gy gp : Nat} {ws ps : List ByteArray} {v : Value} {l : List SpanL} {a : SpanL} {wr : World} (c : CutL) (h : WdW base gw ws gy gp ps v l a wr) : WdW base gw ws gy gp ps v l ⟨c, a.til⟩ (wr.setCells gy 0 c.cells) :=
  ⟨h.words.setOther h.ne1, h.parts.setOther h.ne2, ⟨h.box.box.setFr c, h.box.soft.set, h.box.low⟩, own_other h.out h.ne3, h.ne1, h.ne2, h.ne3⟩
theorem WdW.til {base gw gy gp : Nat} {ws ps : List ByteArray} {v : Value} {l : List SpanL} {a : SpanL} {wr : World} (c : CutL) (h : WdW base gw ws gy gp ps v l a wr) : WdW base gw ws gy gp ps v l ⟨a.fr, c⟩ (wr.setCells gy 7 c.cells) :=
  ⟨h.words.setOther h.ne1, h.parts.setOther h.ne2, ⟨h.box.box.setTil c, h.box.soft.set, h.box.low⟩, own_other h.out h.ne3, h.ne1, h.ne2, h.ne3⟩
theorem box_str {w : World} {g k : Nat} {ps : List ByteArray} (h : Box w g (ps.map Value.string)) (hk : k < ps.length) : w.cell? ⟨g, k, none⟩ = some (.string ps[k]) := h.2 k _ (by simp [hk])
set_option maxRecDepth 100000 in
set_option maxHeartbeats 4000000 in
theorem tspans_any (s : ByteArray) (w : World) (hL : Laid w) (hs : s.size ≤ 4294967280) : Calls Tryz.prog 53 #[.string s] w (RowsPost w (rowP (bts s))) := by
  by_cases h45 : bts s = [45]
  · obtain rfl : s = ⟨#[45]⟩ := bts_inj (h45.trans b45x.symm)
    have HR := hid (show rowP (bts ⟨#[45]⟩) = some [] by rw [b45x]; rfl)
    clear hL
    go_enter Tryz.func53, Tryz.ntmps53
    go_wp2_with fail
    go_ret2
    rw [HR.out]
    exact ⟨none, 0, rfl, ⟨Spans.nil, fun ad h => by cases h⟩, fun i hi => by simp at hi, by simp, Below.refl _ _⟩
  · have HL := hid hL
    clear hL
    have HR := hid (show rowP (bts s) = spansP (Lib.split (bts s) orB) by rw [rowP, if_neg h45])
    have h45b : (s.toList == [45]) = false := by simpa using h45
    clear h45
    go_enter Tryz.func53, Tryz.ntmps53
    go_wp2_with fail
    refine (split_at s ⟨#[32, 111, 114, 32]⟩ w HL.out (by omega) (by decide)).mono ?_
    rintro _ w1 ⟨ps, hps, hsz, hpos, hplen, rfl, hw1⟩
    rw [bor] at hps
    have HXS := hid hps
    have HSZ := hid hsz
    have HPB := hid (show Box w1 w.heap.size (ps.map Value.string) by rw [hw1]; exact Box.new w _ _)
    have HB := hid (show Below w.heap.size w w1 by rw [hw1]; exact below_new _ _)
    have HLL := hid (HL.out.below HB.out)
    clear hps hsz hw1 h45b
    generalize hxs : Lib.split (bts s) orB = xs at *
    clear hxs
    generalize hn : ps.length = n at *
    have HN := hid hn
    have HXN := hid (show xs.length = n by rw [← HXS.out, List.length_map, hn])
    clear hn
    generalize hgp : w.heap.size = gp at *
    go_wp2_with fail
    go_loopw [4, 20] (fun o t wr => ∃ (k : Nat) (v : Value) (l : List SpanL), t = .int .i64 k ∧ v = o ∧ k ≤ n ∧ l.length ≤ k ∧ Hid (spansFrom l (xs.drop k) = spansP xs) ∧ Hid (fitL l) ∧ Hid (OwnS wr w1.heap.size v l) ∧ Hid (Box wr gp (ps.map Value.string)) ∧ Below w1.heap.size w1 wr) (fun _ t _ => n - (intOf t).toNat)
    case atStart => exact ⟨0, _, [], rfl, rfl, Nat.zero_le _, Nat.le_refl _, hid (by rw [List.drop_zero]; exact spansFrom_start xs), hid (fun i hi => by simp at hi), hid (OwnS.nil _ _), HPB, Below.refl _ _⟩
    case round =>
      obtain ⟨k, v, l, rfl, rfl, hk, hlk, HS, HF, HO, HP, hbr⟩ := hrel
      by_cases hlt : k < n
      · have hlt' : k < ps.length := by rw [HN.out]; exact hlt
        have cx := box_str HP.out hlt'
        have HPK := hid (HSZ.out _ (List.getElem_mem hlt'))
        have HXK : Hid (xs.drop k = bts ps[k] :: xs.drop (k + 1)) := hid (by
          have hx : k < xs.length := by rw [HXN.out]; exact hlt
          rw [List.drop_eq_getElem_cons hx]
          congr 1
          have := HXS.out
          subst this
          rw [List.getElem_map])
        generalize ps[k] = x at *
        have HNONE : Hid (spanP (bts x) = none → rowP (bts s) = none) := hid (fun e => by rw [HR.out, ← HS.out, HXK.out, spansFrom_cons, e])
        have i0 : (0 : Int) ≤ (k : Int) := by omega
        have i1 : (k : Int) < (n : Int) := by omega
        have hgr : gp < wr.heap.size := HP.out.1
        go_wp2_with fail
        have hpk := HPK.out
        refine (split_at x ⟨#[32]⟩ _ (HLL.out.below (below_tr hbr (below_new _ _))) (by omega) (by decide)).mono ?_
        rintro _ w2 ⟨ws, hws, hwz, hwpos, hwlen, rfl, hw2⟩
        rw [World.size_alloc]
        rw [b32] at hws
        have HYS := hid hws
        have HWZ := hid hwz
        have hbb : Below wr.heap.size wr w2 := by rw [hw2]; exact below_tr (below_new _ _) (below_new _ _)
        have hgyr : w1.heap.size ≤ wr.heap.size := hbr.size
        have HW : Hid (WdW w1.heap.size (wr.heap.size + 1) ws wr.heap.size gp ps v l fullS w2) := hid (by
          refine ⟨?_, HP.out.below hbb, ?_, HO.out.below hbb, by omega, by omega, fun e => absurd ((HO.out.lt _ e).2) (Nat.lt_irrefl _)⟩
          · have := Box.new (wr.alloc (.cells fullS.cells.toArray 100)) (ws.map Value.string) 9
            rw [World.size_alloc] at this
            rw [hw2]; exact this
          · rw [hw2]
            exact (Own.new wr fullS.cells 100 hgyr).alloc _)
        have HB2 := hid (below_tr hbr hbb)
        clear hws hwz hw2 hbb cx
        generalize hm : ws.length = m at *
        have HM := hid hm
        clear hm
        generalize hzs : Lib.split (bts x) [32] = zs at *
        have HZS := hid (show spanP (bts x) = wordsP fullS zs by rw [← hzs]; rfl)
        clear hzs
        have HZN := hid (show zs.length = m by rw [← HYS.out, List.length_map, HM.out])
        generalize hgy : wr.heap.size = gy at *
        go_wp2_with fail
        go_loopw [30] (fun t ur => ∃ (j : Nat) (a : SpanL), t = .int .i64 j ∧ j ≤ m ∧ Hid (wordsP a (zs.drop j) = spanP (bts x)) ∧ Hid a.fit ∧ Hid (WdW w1.heap.size (gy + 1) ws gy gp ps v l a ur) ∧ Below w1.heap.size w1 ur) (fun t _ => m - (intOf t).toNat)
        case atStart => exact ⟨0, fullS, rfl, Nat.zero_le _, hid (by rw [List.drop_zero]; exact HZS.out.symm), hid fit_full, HW, HB2.out⟩
        case round =>
          obtain ⟨j, a, rfl, hj, HWS, HAF, HWD, hbu⟩ := hrel
          by_cases hlj : j < m
          · have hlj' : j < ws.length := by rw [HM.out]; exact hlj
            have cw := box_str HWD.out.words hlj'
            have HWK := hid (HWZ.out _ (List.getElem_mem hlj'))
            have HZJ : Hid (zs.drop j = bts ws[j] :: zs.drop (j + 1)) := hid (by
              have hx : j < zs.length := by rw [HZN.out]; exact hlj
              rw [List.drop_eq_getElem_cons hx]
              congr 1
              have := HYS.out
              subst this
              rw [List.getElem_map])
            generalize ws[j] = wd at *
            have j0 : (0 : Int) ≤ (j : Int) := by omega
            have j1 : (j : Int) < (m : Int) := by omega
            by_cases h42 : bts wd = [42]
            · have H42 := hid h42
              have h42b : (wd.toList == [42]) = true := by simpa using h42
              clear h42
              go_wp2_with fail
              go_roundw
              case rel => exact ⟨j + 1, a, by go_num, by omega, hid (by rw [← HWS.out, HZJ.out, wordsP_cons, wordP_star H42.out]), HAF, HWD, hbu⟩
              case measure => simp [intOf]; omega
            · have H42 := hid h42
              have h42b : (wd.toList == [42]) = false := by simpa using h42
              clear h42
              have HLO := hid (has_any wd ⟨#[62]⟩)
              have HHI := hid (has_any wd ⟨#[60]⟩)
              rw [b62] at HLO
              rw [b60] at HHI
              have HCP := hid (cutp_any (wd.extract 1 wd.size) ⟨#[61]⟩)
              rw [b61, bts_tail] at HCP
              have hwk := HWK.out
              have HRL := hid (trim_len ((bts wd).drop 1) [61])
              cases hlo : Lib.hasPrefix (bts wd) [62]
              · rw [hlo] at HLO
                cases hhi : Lib.hasPrefix (bts wd) [60]
                · rw [hhi] at HHI
                  have HW0 := hid (wordP_bad (a := a) H42.out hlo hhi)
                  clear hlo hhi
                  go_wp2_with fail
                  refine (HLO.out _).mono ?_
                  rintro _ _ ⟨rfl, rfl⟩
                  go_wp2_with fail
                  refine (HHI.out _).mono ?_
                  rintro _ _ ⟨rfl, rfl⟩
                  have HNO := hid (HNONE.out (by rw [← HWS.out, HZJ.out, wordsP_cons, HW0.out]))
                  go_wp2_with fail
                  go_ret2
                  rw [show rowP (bts s) = none from HNO.out]
                  exact rows_none (below_tr (by rw [hgp]; exact HB.out) hbu)
                · rw [hhi] at HHI
                  have hpz := pre_pos hhi
                  have HPOS := hid hpz
                  have HWN := hid (fun h => wordP_none (a := a) H42.out (by rw [hlo, hhi]; rfl) h)
                  have HWY := hid (fun v h => wordP_til (a := a) (v := v) H42.out hlo hhi h)
                  clear hlo hhi
                  generalize hr : Lib.trimPrefix ((bts wd).drop 1) [61] = r at *
                  generalize hi : Lib.hasPrefix ((bts wd).drop 1) [61] = is at *
                  clear hr hi
                  go_wp2_with fail
                  refine (HLO.out _).mono ?_
                  rintro _ _ ⟨rfl, rfl⟩
                  go_wp2_with fail
                  refine (HHI.out _).mono ?_
                  rintro _ _ ⟨rfl, rfl⟩
                  go_wp2_with fail
                  refine (HCP.out _).mono ?_
                  rintro _ _ ⟨rfl, rfl⟩
                  go_wp2_with fail
                  have hrl : r.length ≤ wd.size := by
                    have h1 := HRL.out
                    rw [List.length_drop, bts_len] at h1
                    omega
                  have HPV := hid (vparse_any (strB r) wr (HLL.out.below hbu) (by rw [strB_size]; omega))
                  rw [bts_strB] at HPV
                  cases hpv : parseV r with
                  | none =>
                    rw [hpv] at HPV
                    have HNO := hid (HNONE.out (by rw [← HWS.out, HZJ.out, wordsP_cons, HWN.out hpv]))
                    clear hpv cw
                    refine HPV.out.mono ?_
                    rintro _ u ⟨rfl, hb⟩
                    dsimp only [Option.getD_none, Option.isSome_none]
                    go_wp2_with fail
                    go_ret2
                    rw [show rowP (bts s) = none from HNO.out]
                    exact rows_none (below_tr (by rw [hgp]; exact HB.out) (below_tr hbu (below_tr hb (below_new _ _))))
                  | some pv =>
                    rw [hpv] at HPV
                    have HWY2 := hid (HWY.out pv hpv)
                    have HPF := hid (parse_fit hpv (by omega))
                    clear hpv cw
                    refine HPV.out.mono ?_
                    rintro _ u ⟨rfl, hb⟩
                    dsimp only [Option.getD_some, Option.isSome_some]
                    have HBU := hid (below_tr hbu hb)
                    have HW2 := hid (HWD.out.below hb)
                    clear hb
                    obtain ⟨-, ⟨y0, y1, y2, y3, y4, y5, y6⟩⟩ := HW2.out.box.box.get14
                    have sf : ∀ j, u.frozen? ⟨gy, j, none⟩ = false := HW2.out.box.soft
                    have hgu : gy < u.heap.size := HW2.out.box.box.1
                    have hgl := HW2.out.box.low
                    go_wp2_with fail
                    go_roundw
                    case rel => exact ⟨j + 1, ⟨a.fr, ⟨0, pv, is⟩⟩, by go_num, by omega, hid (by rw [← HWS.out, HZJ.out, wordsP_cons, HWY2.out]), hid ⟨HAF.out.1, HPF.out⟩, hid ((HW2.out.til ⟨0, pv, is⟩).below (below_new _ (.cells pv.cells.toArray 46))), below_tr (Below.setCells hgl (CutL.cells ⟨0, pv, is⟩) 7 HBU.out) (below_new _ (.cells pv.cells.toArray 46))⟩
                    case measure => simp [intOf]; omega
              · rw [hlo] at HLO
                have hpz := pre_pos hlo
                have HPOS := hid hpz
                have HWN := hid (fun h => wordP_none (a := a) H42.out (by rw [hlo]; rfl) h)
                have HWY := hid (fun v h => wordP_fr (a := a) (v := v) H42.out hlo h)
                clear hlo
                generalize hr : Lib.trimPrefix ((bts wd).drop 1) [61] = r at *
                generalize hi : Lib.hasPrefix ((bts wd).drop 1) [61] = is at *
                clear hr hi
                go_wp2_with fail
                refine (HLO.out _).mono ?_
                rintro _ _ ⟨rfl, rfl⟩
                go_wp2_with fail
                refine (HCP.out _).mono ?_
                rintro _ _ ⟨rfl, rfl⟩
                go_wp2_with fail
                have hrl : r.length ≤ wd.size := by
                  have h1 := HRL.out
                  rw [List.length_drop, bts_len] at h1
                  omega
                have HPV := hid (vparse_any (strB r) wr (HLL.out.below hbu) (by rw [strB_size]; omega))
                rw [bts_strB] at HPV
                cases hpv : parseV r with
                | none =>
                  rw [hpv] at HPV
                  have HNO := hid (HNONE.out (by rw [← HWS.out, HZJ.out, wordsP_cons, HWN.out hpv]))
                  clear hpv cw
                  refine HPV.out.mono ?_
                  rintro _ u ⟨rfl, hb⟩
                  dsimp only [Option.getD_none, Option.isSome_none]
                  go_wp2_with fail
                  go_ret2
                  rw [show rowP (bts s) = none from HNO.out]
                  exact rows_none (below_tr (by rw [hgp]; exact HB.out) (below_tr hbu (below_tr hb (below_new _ _))))
                | some pv =>
                  rw [hpv] at HPV
                  have HWY2 := hid (HWY.out pv hpv)
                  have HPF := hid (parse_fit hpv (by omega))
                  clear hpv cw
                  refine HPV.out.mono ?_
                  rintro _ u ⟨rfl, hb⟩
                  dsimp only [Option.getD_some, Option.isSome_some]
                  have HBU := hid (below_tr hbu hb)
                  have HW2 := hid (HWD.out.below hb)
                  clear hb
                  obtain ⟨⟨y0, y1, y2, y3, y4, y5, y6⟩, -⟩ := HW2.out.box.box.get14
                  have sf : ∀ j, u.frozen? ⟨gy, j, none⟩ = false := HW2.out.box.soft
                  have hgu : gy < u.heap.size := HW2.out.box.box.1
                  have hgl := HW2.out.box.low
                  go_wp2_with fail
                  go_roundw
                  case rel => exact ⟨j + 1, ⟨⟨0, pv, !is⟩, a.til⟩, by go_num, by omega, hid (by rw [← HWS.out, HZJ.out, wordsP_cons, HWY2.out]), hid ⟨HPF.out, HAF.out.2⟩, hid ((HW2.out.fr ⟨0, pv, !is⟩).below (below_new _ (.cells pv.cells.toArray 46))), below_tr (Below.setCells hgl (CutL.cells ⟨0, pv, !is⟩) 0 HBU.out) (below_new _ (.cells pv.cells.toArray 46))⟩
                  case measure => simp [intOf]; omega
          · obtain rfl : j = m := by omega
            have HSP : Hid (spanP (bts x) = some a) := hid (by
              have := HWS.out
              rw [List.drop_eq_nil_of_le (by rw [HZN.out]; exact Nat.le_refl _)] at this
              rw [← this]; rfl)
            obtain ⟨⟨y0, y1, y2, y3, y4, y5, y6⟩, ⟨y7, y8, y9, y10, y11, y12, y13⟩⟩ := HWD.out.box.box.get14
            have HO2 := hid HWD.out.out
            have hsz := hid hbu.size
            have hln : l.length ≤ 4294967281 := by omega
            go_wp2_with (first | (at_builtin; refine wpList_app1g EKspans rfl (.tmp 69) (.tmp 71) rfl (SpanL.cells a) HO2.out rfl rfl rfl (oneS1 _) (by unfold maxLen; omega) (by omega) hsz.out ?_; intro v' w' h2 h3 h4))
            go_roundw
            case rel =>
              refine ⟨k + 1, v', l ++ [a], by go_num, rfl, by omega, by simp; omega, hid ?_, hid (fitL_snoc HF.out HAF.out), hid (OwnS.app h2), hid (HWD.out.parts.grown h4 ?_), hbu.trans h3⟩
              · rw [← HS.out, HXK.out, spansFrom_cons, HSP.out]
              · intro e
                have h5 := (own_bound HO2.out _ e.symm).1
                have h6 := HPB.out.1
                omega
            case measure => simp [intOf]; omega
      · obtain rfl : k = n := by omega
        have HE := hid (show spansP xs = some l by
          have := HS.out
          rw [List.drop_eq_nil_of_le (by rw [HXN.out]; exact Nat.le_refl _), spansFrom] at this
          rw [← this]; simp [spansP])
        obtain ⟨A, cap, hv, hspn⟩ := own_spanB HO.out
        subst hv
        have HSPN := hid hspn
        clear hspn
        go_wp2_with fail
        go_ret2
        rw [HR.out, HE.out]
        exact ⟨A, cap, rfl, ⟨HSPN.out.1, fun ad h => by have := HSPN.out.2 ad h; have h2 := HB.out.size; omega⟩, HF.out, by simp only [Option.getD_some]; omega, below_tr (by rw [hgp]; exact HB.out) hbr⟩
end Go.Proofs.YtplmlahpmnjneaaGreatDoor
namespace Go.Proofs.YtplmlahpmnjneaaGreatDoor
open Go.RowKit Go.Lib
open Rw
set_option linter.unusedVariables false
set_option linter.unusedSimpArgs false
theorem joinP_len : ∀ (ps : List (List UInt8)), (∀ p ∈ ps, p.length ≤ 8) → (joinP ps).length ≤ 9 * ps.length
  | [], _ => by simp [joinP]
  | [p], h => by have := h p (by simp); simp only [joinP, List.length_cons, List.length_nil]; omega
  | p :: q :: r, h => by
    have h1 := h p (by simp)
    have h2 := joinP_len (q :: r) (fun x hx => h x (List.mem_cons_of_mem _ hx))
    simp only [joinP, List.length_append, List.length_cons] at h2 ⊢
    omega
theorem tags_len {l : List UInt8} (h : tagsL l = true) : l.length ≤ 36 := by
  rw [tagsL, Bool.and_eq_true, decide_eq_true_eq] at h
  have e : joinP (splitP l) = l := by have := join_split l []; simpa [splitP] using this
  have := joinP_len (splitP l) (fun p hp => by
    have := List.all_eq_true.1 h.2 p hp
    rw [tagOk, Bool.and_eq_true, Bool.and_eq_true, decide_eq_true_eq] at this
    exact this.1.2)
  rw [e] at this
  omega
theorem printV_88 (v : Ver) : (printV v).length ≤ 88 := by
  rw [printV]
  split
  · rename_i hm
    obtain ⟨-, -, -, hp, hb⟩ := mayV_parts hm
    have h1 := nums_len hm
    have h2 : (preT v).length ≤ 37 := by
      unfold preT
      split
      · simp
      · rw [preOk, Bool.or_eq_true] at hp
        rcases hp with hp | hp
        · exact absurd hp (by assumption)
        · rw [preL, Bool.and_eq_true] at hp
          have := tags_len hp.1
          simp only [List.length_cons]; omega
    have h3 : (bldT v).length ≤ 37 := by
      unfold bldT
      split
      · simp
      · rw [bldOk, Bool.or_eq_true] at hb
        rcases hb with hb | hb
        · exact absurd hb (by assumption)
        · have := tags_len hb
          simp only [List.length_cons]; omega
    simp only [List.length_append]; omega
  · simp
theorem spanT_181 (s : SpanL) : (spanT s).length ≤ 181 := by
  have h1 := printV_88 s.fr.v
  have h2 := printV_88 s.til.v
  have h3 : (loT s.fr).length ≤ 90 := by
    unfold loT
    split
    · cases s.fr.aft <;> simp <;> omega
    · simp
  have h4 : (hiT s.til).length ≤ 90 := by
    unfold hiT
    split
    · cases s.til.aft <;> simp <;> omega
    · simp
  unfold spanT
  split
  · simp
  · simp only [List.length_append]
    have : (if s.fr.en = 0 ∧ s.til.en = 0 then [32] else ([] : List UInt8)).length ≤ 1 := by split <;> simp
    omega
theorem joinOr_len : ∀ (l : List SpanL), (joinS orB (l.map spanT)).length ≤ 185 * l.length
  | [] => by simp [joinS]
  | [s] => by have := spanT_181 s; simp only [List.map_cons, List.map_nil, joinS, List.length_cons, List.length_nil]; omega
  | s :: t :: r => by
    have h1 := spanT_181 s
    have h2 := joinOr_len (t :: r)
    have e : joinS orB ((s :: t :: r).map spanT) = spanT s ++ orB ++ joinS orB ((t :: r).map spanT) := rfl
    rw [e]
    simp only [List.length_append, List.length_cons, orB, List.length_nil] at h2 ⊢
    omega
theorem rowT_len (l : List SpanL) : (rowT l).length ≤ 185 * l.length + 1 := by
  unfold rowT
  split
  · simp
  · have := joinOr_len l; omega
theorem setT_len (l m : List SpanL) : (setT l m).length ≤ 185 * (l.length + m.length) + 5 := by
  have h1 := rowT_len l
  have h2 := rowT_len m
  unfold setT
  split
  · simp only [List.length_append]
    split
    · simp; omega
    · simp only [List.length_append, slB, List.length_cons, List.length_nil]; omega
  · simp
theorem tprint_set (A B : Option Addr) (c d : Nat) (l m : List SpanL) (w : World) (hL : Laid w) (hl : Spans w A l) (hm : Spans w B m) (hfl : fitL l) (hfm : fitL m) (hln : l.length ≤ 5000000000) (hmn : m.length ≤ 5000000000) :
    Calls Tryz.prog 16 #[setV A l.length c B m.length d] w (StrPost w (setT l m)) :=
  tprint_any A B c d l m w hL hl hm hfl hfm (by omega) (by omega) (by have := setT_len l m; omega)
theorem scut_any (s : ByteArray) (w : World) (hL : Laid w) (hs : s.size < 4294967281) : Calls Tryz.prog 52 #[.string s, .string ⟨#[32, 47, 32]⟩] w fun e w' =>
    e = .returned (.tuple #[.string (strB (Lib.cut (bts s) slB).1), .string (strB (Lib.cut (bts s) slB).2.1), .bool (Lib.cut (bts s) slB).2.2]) ∧ ∃ n, w' = w.drewN n := by
  obtain ⟨m, hm⟩ := hL.maxl
  refine (Any.strings_Cut Tryz.lays145 s ⟨#[32, 47, 32]⟩ m w hs hm).mono ?_
  rintro e w' ⟨rfl, n, rfl⟩
  refine ⟨?_, n, rfl⟩
  have e1 : bts s = s.data.toList := by rw [bts, bts_data]
  rw [e1]; rfl
theorem cut_len2 (s sep : List UInt8) : (Lib.cut s sep).1.length ≤ s.length ∧ (Lib.cut s sep).2.1.length ≤ s.length := by
  unfold Lib.cut
  split
  · simp only [List.length_take, List.length_drop]; omega
  · simp
def TellPost (w : World) (o : Option (List SpanL × List SpanL)) (e : Ending) (w' : World) : Prop :=
  ∃ A c B d, e = .returned (.tuple #[setV A (o.getD ([], [])).1.length c B (o.getD ([], [])).2.length d, .int .i64 (if o.isSome then 0 else 2)]) ∧ SpanB w' w.heap.size A (o.getD ([], [])).1 ∧ SpanB w' w.heap.size B (o.getD ([], [])).2 ∧
    fitL (o.getD ([], [])).1 ∧ fitL (o.getD ([], [])).2 ∧ (o.getD ([], [])).1.length ≤ 4294967281 ∧ (o.getD ([], [])).2.length ≤ 4294967281 ∧ Below w.heap.size w w'
theorem Own.set2 {B : Nat} {w : World} {g : Nat} {a0 a1 : Value} (h : Own B w g [a0, a1]) (b0 b1 : Value) : Own B ((w.setCell ⟨g, 0, none⟩ b0).setCell ⟨g, 1, none⟩ b1) g [b0, b1] :=
  ⟨h.box.set (o := 0) (vs := [b0, b1]) (by simp), h.soft.set (o := 0) (vs := [b0, b1]), h.low⟩
theorem spanB_none (w : World) (b : Nat) : SpanB w b none [] := ⟨.nil, fun ad h => by cases h⟩
theorem tell_none {w w' : World} (h : Below w.heap.size w w') : TellPost w none (.returned (.tuple #[setV none 0 0 none 0 0, .int .i64 2])) w' :=
  ⟨none, 0, none, 0, rfl, spanB_none _ _, spanB_none _ _, fit_nil, fit_nil, by simp, by simp, h⟩
theorem Own.newN (w : World) (o : Obj) (cs : List Value) (t : TypeId) (n : Nat) : Own w.heap.size (((w.alloc o).drewN n).alloc (.cells cs.toArray t)) (w.heap.size + 1) cs := by
  have e : ((w.alloc o).drewN n).heap.size = w.heap.size + 1 := World.size_alloc w o
  have := Own.new ((w.alloc o).drewN n) cs t (B := w.heap.size) (by rw [e]; omega)
  rwa [e] at this
set_option maxRecDepth 100000 in
set_option maxHeartbeats 8000000 in
theorem tparse_any (s : ByteArray) (w : World) (hL : Laid w) (hs : s.size ≤ 4294967280) : Calls Tryz.prog 18 #[.string s] w (TellPost w (setP (bts s))) := by
  have HL := hid hL
  clear hL
  have HCUT := hid (fun w1 (h : Below w.heap.size w w1) => scut_any s w1 (HL.out.below h) (by omega))
  have hcl := cut_len2 (bts s) slB
  rw [bts_len] at hcl
  have HCL := hid hcl
  have HSP : Hid (rawP (bts s) = match rowP (Lib.cut (bts s) slB).1 with | none => none | some l => if (Lib.cut (bts s) slB).2.2 then (match rowP (Lib.cut (bts s) slB).2.1 with | none => none | some m => some (l, m)) else some (l, [])) := hid rfl
  have HST : Hid (setP (bts s) = match rawP (bts s) with | none => none | some x => if mayS x.1 x.2 && decide (setT x.1 x.2 = bts s) then some x else none) := hid rfl
  clear hcl
  generalize (Lib.cut (bts s) slB).1 = x at *
  generalize (Lib.cut (bts s) slB).2.1 = y at *
  generalize (Lib.cut (bts s) slB).2.2 = both at *
  go_enter Tryz.func18, Tryz.ntmps18
  go_wp2_with fail
  refine (HCUT.out _ (below_new _ _)).mono ?_
  rintro _ _ ⟨rfl, n1, rfl⟩
  go_wp2_with fail
  refine calls_name ?_
  intro w1 hw1
  have O1 := hid (show Own w.heap.size w1 w.heap.size [.slice none 0 0, .slice none 0 0] by rw [hw1]; exact ((Own.new w [.slice none 0 0, .slice none 0 0] 24 (Nat.le_refl _)).drewN n1).alloc _)
  have O2 := hid (show Own w.heap.size w1 (w.heap.size + 1) [.slice none 0 0, .slice none 0 0] by
    rw [hw1]
    exact Own.newN w _ [.slice none 0 0, .slice none 0 0] 24 n1)
  have HB := hid (show Below w.heap.size w w1 by rw [hw1]; exact below_tr (below_drewN (below_new w _) n1) (below_new _ _))
  have HV1 : w.heap.size + 1 < w1.heap.size := O2.out.box.1
  clear hw1
  have HSX := hid (tspans_any (strB x) w1 (HL.out.below HB.out) (by rw [strB_size]; have := HCL.out; omega))
  have HSY := hid (fun u (h : Below w.heap.size w u) => tspans_any (strB y) u (HL.out.below h) (by rw [strB_size]; have := HCL.out; omega))
  simp only [bts_strB] at HSX HSY
  generalize rowP x = o1 at *
  generalize rowP y = o2 at *
  refine HSX.out.mono ?_
  rintro _ w2 ⟨A, c, rfl, hsa, hfa, hla, hb⟩
  have HSA := hid hsa
  have HFA := hid hfa
  have O1 := hid (O1.out.below hb)
  have O2 := hid (O2.out.below hb)
  have HB := hid (below_tr HB.out hb)
  have HW2 := hb.size
  clear hsa hfa hb HSX
  cases both
  ·
    cases o1 with
    | none =>
      dsimp only [Option.getD_none, Option.isSome_none, List.length_nil] at *
      obtain ⟨y0, y1⟩ := O2.out.box.get2
      have HNO := hid (show setP (bts s) = none by rw [HST.out, HSP.out])
      obtain ⟨x0, x1⟩ := O1.out.box.get2
      have sf1 : ∀ j, w2.frozen? ⟨w.heap.size, j, none⟩ = false := O1.out.soft
      have hlt1 := O1.out.box.1
      have sf : ∀ j, w2.frozen? ⟨w.heap.size + 1, j, none⟩ = false := O2.out.soft
      have hlt := O2.out.box.1
      go_wp2_with fail
      refine body_name ?_
      intro w9 hw9
      have O9 : Own w.heap.size w9 w.heap.size [.slice none 0 0, .slice none 0 0] := by rw [hw9]; exact (O1.out.other (by omega) _).set2 _ _
      have B9 : Below w.heap.size w w9 := by rw [hw9]; exact below_put (below_put (below_put HB.out (by omega) _) (Nat.le_refl _) _) (Nat.le_refl _) _
      clear hw9
      obtain ⟨k0, k1⟩ := O9.box.get2
      refine bodyPost_ret (v := .tuple #[setV none 0 0 none 0 0, .int .i64 2]) (by simp [results, Tryz.results18, go_sem, k0, k1, setV]) rfl ?_
      rw [show setP (bts s) = none from HNO.out]
      exact tell_none B9
    | some l =>
      dsimp only [Option.getD_some, Option.isSome_some] at *
      obtain ⟨y0, y1⟩ := O2.out.box.get2
      have sf : ∀ j, w2.frozen? ⟨w.heap.size + 1, j, none⟩ = false := O2.out.soft
      have hlt := O2.out.box.1
      go_wp2_with fail
      refine calls_name ?_
      intro w3 hv
      have O2 := hid (show Own w.heap.size w3 (w.heap.size + 1) [.slice A l.length c, .slice none 0 0] by rw [hv]; exact O2.out.put (j := 0) (by simp) _)
      have O1 := hid (show Own w.heap.size w3 w.heap.size [.slice none 0 0, .slice none 0 0] by rw [hv]; exact O1.out.other (by omega) _)
      have HB := hid (show Below w.heap.size w w3 by rw [hv]; exact below_put HB.out (by omega) _)
      have HSA := hid (show SpanB w3 w1.heap.size A l by rw [hv]; exact spanB_put HSA.out HV1 _)
      clear hv y0 y1 sf hlt
      have HRAW := hid (show rawP (bts s) = some (l, []) by rw [HSP.out]; rfl)
      have HMAY := hid (fun v (h : Below w3.heap.size w3 v) => smay_any A none c 0 l [] v ((HL.out.below HB.out).below h).first (HSA.out.1.below h) .nil HFA.out fit_nil (by omega) (by simp))
      have HPR := hid (fun v (h : Below w3.heap.size w3 v) => tprint_set A none c 0 l [] v ((HL.out.below HB.out).below h) (HSA.out.1.below h) .nil HFA.out fit_nil (by omega) (by simp))
      simp only [List.length_nil] at HMAY HPR
      generalize hln : l.length = nl at *
      have HLN := hid hln
      clear hln
      refine (HMAY.out _ (Below.refl _ _)).mono ?_
      rintro _ z1 ⟨rfl, hb⟩
      have O1 := hid (O1.out.below hb)
      have O2 := hid (O2.out.below hb)
      have HB1 := hid (below_tr HB.out hb)
      have HBZ := hid hb
      clear hb
      cases hm : mayS l []
      · have HB := HB1
        obtain ⟨y0, y1⟩ := O2.out.box.get2
        have HNO := hid (show setP (bts s) = none by rw [HST.out, HRAW.out]; simp [hm])
        obtain ⟨x0, x1⟩ := O1.out.box.get2
        have sf1 : ∀ j, z1.frozen? ⟨w.heap.size, j, none⟩ = false := O1.out.soft
        have hlt1 := O1.out.box.1
        go_wp2_with fail
        refine body_name ?_
        intro w9 hw9
        have O9 : Own w.heap.size w9 w.heap.size [.slice none 0 0, .slice none 0 0] := by rw [hw9]; exact O1.out.set2 _ _
        have B9 : Below w.heap.size w w9 := by rw [hw9]; exact below_put (below_put HB.out (Nat.le_refl _) _) (Nat.le_refl _) _
        clear hw9
        obtain ⟨k0, k1⟩ := O9.box.get2
        refine bodyPost_ret (v := .tuple #[setV none 0 0 none 0 0, .int .i64 2]) (by simp [results, Tryz.results18, go_sem, k0, k1, setV]) rfl ?_
        rw [show setP (bts s) = none from HNO.out]
        exact tell_none B9
      · obtain ⟨y0, y1⟩ := O2.out.box.get2
        go_wp2_with fail
        refine (HPR.out _ HBZ.out).mono ?_
        rintro _ z2 ⟨tx, rfl, htx, hb⟩
        have HTX := hid htx
        have O1 := hid (O1.out.below hb)
        have O2 := hid (O2.out.below hb)
        have HBZ2 := hid (below_tr HBZ.out hb)
        have HB := hid (below_tr HB1.out hb)
        clear hb y0 y1 htx HB1 HBZ
        obtain ⟨y0, y1⟩ := O2.out.box.get2
        by_cases he : tx = s
        · subst he
          have HOK := hid (show setP (bts tx) = some (l, []) by rw [HST.out, HRAW.out]; simp [hm, HTX.out])
          obtain ⟨x0, x1⟩ := O1.out.box.get2
          have sf1 : ∀ j, z2.frozen? ⟨w.heap.size, j, none⟩ = false := O1.out.soft
          have hlt1 := O1.out.box.1
          go_wp2_with fail
          refine body_name ?_
          intro w9 hw9
          have O9 : Own w.heap.size w9 w.heap.size [.slice A nl c, .slice none 0 0] := by rw [hw9]; exact O1.out.set2 _ _
          have B9 : Below w.heap.size w w9 := by rw [hw9]; exact below_put (below_put HB.out (Nat.le_refl _) _) (Nat.le_refl _) _
          have S9 : SpanB w9 w1.heap.size A l := by rw [hw9]; exact spanB_put (spanB_put (spanB_below HSA.out HBZ2.out) (by omega) _) (by omega) _
          clear hw9
          obtain ⟨k0, k1⟩ := O9.box.get2
          refine bodyPost_ret (v := .tuple #[setV A nl c none 0 0, .int .i64 0]) (by simp [results, Tryz.results18, go_sem, k0, k1, setV]) rfl ?_
          rw [show setP (bts tx) = some (l, []) from HOK.out]
          refine ⟨A, c, none, 0, ?_, ⟨S9.1, fun ad h => by have := S9.2 ad h; omega⟩, spanB_none _ _, HFA.out, fit_nil, ?_, ?_, B9⟩
          · simp only [Option.getD_some, HLN.out, List.length_nil]; rfl
          · simp only [Option.getD_some, HLN.out]; omega
          · simp only [Option.getD_some]; simp
        · have hl : ¬ tx.toList = s.toList := fun e => he (bts_inj e)
          have hl2 : (tx.toList == s.toList) = false := by simpa using hl
          have HNE := hid (show ¬ setT l [] = bts s by rw [← HTX.out]; exact fun e => he (bts_inj e))
          have HNO := hid (show setP (bts s) = none by rw [HST.out, HRAW.out]; simp [hm, HNE.out])
          obtain ⟨x0, x1⟩ := O1.out.box.get2
          have sf1 : ∀ j, z2.frozen? ⟨w.heap.size, j, none⟩ = false := O1.out.soft
          have hlt1 := O1.out.box.1
          go_wp2_with fail
          refine body_name ?_
          intro w9 hw9
          have O9 : Own w.heap.size w9 w.heap.size [.slice none 0 0, .slice none 0 0] := by rw [hw9]; exact O1.out.set2 _ _
          have B9 : Below w.heap.size w w9 := by rw [hw9]; exact below_put (below_put HB.out (Nat.le_refl _) _) (Nat.le_refl _) _
          clear hw9
          obtain ⟨k0, k1⟩ := O9.box.get2
          refine bodyPost_ret (v := .tuple #[setV none 0 0 none 0 0, .int .i64 2]) (by simp [results, Tryz.results18, go_sem, k0, k1, setV]) rfl ?_
          rw [show setP (bts s) = none from HNO.out]
          exact tell_none B9
  ·
    obtain ⟨y0, y1⟩ := O2.out.box.get2
    have sf : ∀ j, w2.frozen? ⟨w.heap.size + 1, j, none⟩ = false := O2.out.soft
    have hlt := O2.out.box.1
    go_wp2_with fail
    refine calls_name ?_
    intro w3 hv
    have O2 := hid (show Own w.heap.size w3 (w.heap.size + 1) [.slice A (o1.getD []).length c, .slice none 0 0] by rw [hv]; exact O2.out.put (j := 0) (by simp) _)
    have O1 := hid (show Own w.heap.size w3 w.heap.size [.slice none 0 0, .slice none 0 0] by rw [hv]; exact O1.out.other (by omega) _)
    have HB := hid (show Below w.heap.size w w3 by rw [hv]; exact below_put HB.out (by omega) _)
    have HSA := hid (show SpanB w3 w1.heap.size A (o1.getD []) by rw [hv]; exact spanB_put HSA.out HV1 _)
    have hw31 : w1.heap.size ≤ w3.heap.size := by rw [hv, World.size_setCell]; exact HW2
    clear hv y0 y1 sf hlt
    refine (HSY.out _ HB.out).mono ?_
    rintro _ w4 ⟨B, d, rfl, hsb, hfb, hlb, hb⟩
    have HSB := hid (show SpanB w4 w1.heap.size B (o2.getD []) from ⟨hsb.1, fun ad h => by have := hsb.2 ad h; omega⟩)
    have HFB := hid hfb
    have O1 := hid (O1.out.below hb)
    have O2 := hid (O2.out.below hb)
    have HSA := hid (spanB_below HSA.out hb)
    have HB := hid (below_tr HB.out hb)
    clear hsb hfb hb
    cases o1 with
    | none =>
      dsimp only [Option.getD_none, Option.isSome_none, List.length_nil] at *
      obtain ⟨y0, y1⟩ := O2.out.box.get2
      have HNO := hid (show setP (bts s) = none by rw [HST.out, HSP.out])
      obtain ⟨x0, x1⟩ := O1.out.box.get2
      have sf1 : ∀ j, w4.frozen? ⟨w.heap.size, j, none⟩ = false := O1.out.soft
      have hlt1 := O1.out.box.1
      have sf : ∀ j, w4.frozen? ⟨w.heap.size + 1, j, none⟩ = false := O2.out.soft
      have hlt := O2.out.box.1
      go_wp2_with fail
      refine body_name ?_
      intro w9 hw9
      have O9 : Own w.heap.size w9 w.heap.size [.slice none 0 0, .slice none 0 0] := by rw [hw9]; exact (O1.out.other (by omega) _).set2 _ _
      have B9 : Below w.heap.size w w9 := by rw [hw9]; exact below_put (below_put (below_put HB.out (by omega) _) (Nat.le_refl _) _) (Nat.le_refl _) _
      clear hw9
      obtain ⟨k0, k1⟩ := O9.box.get2
      refine bodyPost_ret (v := .tuple #[setV none 0 0 none 0 0, .int .i64 2]) (by simp [results, Tryz.results18, go_sem, k0, k1, setV]) rfl ?_
      rw [show setP (bts s) = none from HNO.out]
      exact tell_none B9
    | some l =>
      cases o2 with
      | none =>
        dsimp only [Option.getD_none, Option.isSome_none, List.length_nil, Option.getD_some, Option.isSome_some] at *
        obtain ⟨y0, y1⟩ := O2.out.box.get2
        have HNO := hid (show setP (bts s) = none by rw [HST.out, HSP.out]; rfl)
        obtain ⟨x0, x1⟩ := O1.out.box.get2
        have sf1 : ∀ j, w4.frozen? ⟨w.heap.size, j, none⟩ = false := O1.out.soft
        have hlt1 := O1.out.box.1
        have sf : ∀ j, w4.frozen? ⟨w.heap.size + 1, j, none⟩ = false := O2.out.soft
        have hlt := O2.out.box.1
        go_wp2_with fail
        refine body_name ?_
        intro w9 hw9
        have O9 : Own w.heap.size w9 w.heap.size [.slice none 0 0, .slice none 0 0] := by rw [hw9]; exact (O1.out.other (by omega) _).set2 _ _
        have B9 : Below w.heap.size w w9 := by rw [hw9]; exact below_put (below_put (below_put HB.out (by omega) _) (Nat.le_refl _) _) (Nat.le_refl _) _
        clear hw9
        obtain ⟨k0, k1⟩ := O9.box.get2
        refine bodyPost_ret (v := .tuple #[setV none 0 0 none 0 0, .int .i64 2]) (by simp [results, Tryz.results18, go_sem, k0, k1, setV]) rfl ?_
        rw [show setP (bts s) = none from HNO.out]
        exact tell_none B9
      | some m =>
        dsimp only [Option.getD_some, Option.isSome_some] at *
        obtain ⟨y0, y1⟩ := O2.out.box.get2
        have sf : ∀ j, w4.frozen? ⟨w.heap.size + 1, j, none⟩ = false := O2.out.soft
        have hlt := O2.out.box.1
        go_wp2_with fail
        refine calls_name ?_
        intro w5 hv
        have O2 := hid (show Own w.heap.size w5 (w.heap.size + 1) [.slice A l.length c, .slice B m.length d] by rw [hv]; exact O2.out.put (j := 1) (by simp) _)
        have O1 := hid (show Own w.heap.size w5 w.heap.size [.slice none 0 0, .slice none 0 0] by rw [hv]; exact O1.out.other (by omega) _)
        have HB := hid (show Below w.heap.size w w5 by rw [hv]; exact below_put HB.out (by omega) _)
        have HSA := hid (show SpanB w5 w1.heap.size A l by rw [hv]; exact spanB_put HSA.out HV1 _)
        have HSB := hid (show SpanB w5 w1.heap.size B m by rw [hv]; exact spanB_put HSB.out HV1 _)
        clear hv y0 y1 sf hlt
        have HRAW := hid (show rawP (bts s) = some (l, m) by rw [HSP.out]; rfl)
        have HMAY := hid (fun v (h : Below w5.heap.size w5 v) => smay_any A B c d l m v ((HL.out.below HB.out).below h).first (HSA.out.1.below h) (HSB.out.1.below h) HFA.out HFB.out (by omega) (by omega))
        have HPR := hid (fun v (h : Below w5.heap.size w5 v) => tprint_set A B c d l m v ((HL.out.below HB.out).below h) (HSA.out.1.below h) (HSB.out.1.below h) HFA.out HFB.out (by omega) (by omega))
        generalize hln : l.length = nl at *
        have HLN := hid hln
        clear hln
        generalize hlm : m.length = nm at *
        have HLM := hid hlm
        clear hlm
        refine (HMAY.out _ (Below.refl _ _)).mono ?_
        rintro _ z1 ⟨rfl, hb⟩
        have O1 := hid (O1.out.below hb)
        have O2 := hid (O2.out.below hb)
        have HB1 := hid (below_tr HB.out hb)
        have HBZ := hid hb
        clear hb
        cases hm : mayS l m
        · have HB := HB1
          obtain ⟨y0, y1⟩ := O2.out.box.get2
          have HNO := hid (show setP (bts s) = none by rw [HST.out, HRAW.out]; simp [hm])
          obtain ⟨x0, x1⟩ := O1.out.box.get2
          have sf1 : ∀ j, z1.frozen? ⟨w.heap.size, j, none⟩ = false := O1.out.soft
          have hlt1 := O1.out.box.1
          go_wp2_with fail
          refine body_name ?_
          intro w9 hw9
          have O9 : Own w.heap.size w9 w.heap.size [.slice none 0 0, .slice none 0 0] := by rw [hw9]; exact O1.out.set2 _ _
          have B9 : Below w.heap.size w w9 := by rw [hw9]; exact below_put (below_put HB.out (Nat.le_refl _) _) (Nat.le_refl _) _
          clear hw9
          obtain ⟨k0, k1⟩ := O9.box.get2
          refine bodyPost_ret (v := .tuple #[setV none 0 0 none 0 0, .int .i64 2]) (by simp [results, Tryz.results18, go_sem, k0, k1, setV]) rfl ?_
          rw [show setP (bts s) = none from HNO.out]
          exact tell_none B9
        · obtain ⟨y0, y1⟩ := O2.out.box.get2
          go_wp2_with fail
          refine (HPR.out _ HBZ.out).mono ?_
          rintro _ z2 ⟨tx, rfl, htx, hb⟩
          have HTX := hid htx
          have O1 := hid (O1.out.below hb)
          have O2 := hid (O2.out.below hb)
          have HBZ2 := hid (below_tr HBZ.out hb)
          have HB := hid (below_tr HB1.out hb)
          clear hb y0 y1 htx HB1 HBZ
          obtain ⟨y0, y1⟩ := O2.out.box.get2
          by_cases he : tx = s
          · subst he
            have HOK := hid (show setP (bts tx) = some (l, m) by rw [HST.out, HRAW.out]; simp [hm, HTX.out])
            obtain ⟨x0, x1⟩ := O1.out.box.get2
            have sf1 : ∀ j, z2.frozen? ⟨w.heap.size, j, none⟩ = false := O1.out.soft
            have hlt1 := O1.out.box.1
            go_wp2_with fail
            refine body_name ?_
            intro w9 hw9
            have O9 : Own w.heap.size w9 w.heap.size [.slice A nl c, .slice B nm d] := by rw [hw9]; exact O1.out.set2 _ _
            have B9 : Below w.heap.size w w9 := by rw [hw9]; exact below_put (below_put HB.out (Nat.le_refl _) _) (Nat.le_refl _) _
            have S9 : SpanB w9 w1.heap.size A l := by rw [hw9]; exact spanB_put (spanB_put (spanB_below HSA.out HBZ2.out) (by omega) _) (by omega) _
            have T9 : SpanB w9 w1.heap.size B m := by rw [hw9]; exact spanB_put (spanB_put (spanB_below HSB.out HBZ2.out) (by omega) _) (by omega) _
            clear hw9
            obtain ⟨k0, k1⟩ := O9.box.get2
            refine bodyPost_ret (v := .tuple #[setV A nl c B nm d, .int .i64 0]) (by simp [results, Tryz.results18, go_sem, k0, k1, setV]) rfl ?_
            rw [show setP (bts tx) = some (l, m) from HOK.out]
            refine ⟨A, c, B, d, ?_, ⟨S9.1, fun ad h => by have := S9.2 ad h; omega⟩, ⟨T9.1, fun ad h => by have := T9.2 ad h; omega⟩, HFA.out, HFB.out, ?_, ?_, B9⟩
            · simp only [Option.getD_some, HLN.out, HLM.out]; rfl
            · simp only [Option.getD_some, HLN.out]; omega
            · simp only [Option.getD_some, HLM.out]; omega
          · have hl : ¬ tx.toList = s.toList := fun e => he (bts_inj e)
            have hl2 : (tx.toList == s.toList) = false := by simpa using hl
            have HNE := hid (show ¬ setT l m = bts s by rw [← HTX.out]; exact fun e => he (bts_inj e))
            have HNO := hid (show setP (bts s) = none by rw [HST.out, HRAW.out]; simp [hm, HNE.out])
            obtain ⟨x0, x1⟩ := O1.out.box.get2
            have sf1 : ∀ j, z2.frozen? ⟨w.heap.size, j, none⟩ = false := O1.out.soft
            have hlt1 := O1.out.box.1
            go_wp2_with fail
            refine body_name ?_
            intro w9 hw9
            have O9 : Own w.heap.size w9 w.heap.size [.slice none 0 0, .slice none 0 0] := by rw [hw9]; exact O1.out.set2 _ _
            have B9 : Below w.heap.size w w9 := by rw [hw9]; exact below_put (below_put HB.out (Nat.le_refl _) _) (Nat.le_refl _) _
            clear hw9
            obtain ⟨k0, k1⟩ := O9.box.get2
            refine bodyPost_ret (v := .tuple #[setV none 0 0 none 0 0, .int .i64 2]) (by simp [results, Tryz.results18, go_sem, k0, k1, setV]) rfl ?_
            rw [show setP (bts s) = none from HNO.out]
            exact tell_none B9
end Go.Proofs.YtplmlahpmnjneaaGreatDoor
namespace Go.Proofs.YtplmlahpmnjneaaGreatDoor
open Go.RowKit Go.Lib
open Rw
set_option linter.unusedVariables false
set_option linter.unusedSimpArgs false
def tGood : List UInt8 := [62, 61, 49, 46, 50, 46, 48, 32, 60, 50, 46, 48, 46, 48, 32, 111, 114, 32, 62, 61, 51, 46, 48, 46, 48]
def tBad : List UInt8 := [62, 61, 49, 46, 50, 46, 48, 32, 60, 49, 46, 50, 46, 48]
def tV (a b : Int) : Ver := ⟨a, b, 0, ⟨#[]⟩, ⟨#[]⟩⟩
def t8L : List SpanL := [⟨⟨0, tV 1 2, false⟩, ⟨0, tV 2 0, false⟩⟩, ⟨⟨0, tV 3 0, false⟩, lastC⟩]
theorem tgood_may : mayS t8L [] = true := by decide +kernel
theorem tgood_txt : setT t8L [] = tGood := by decide +kernel
theorem tgood_p : setP tGood = some (t8L, []) := by rw [← tgood_txt]; exact setP_back (mayS_val.1 tgood_may)
theorem tbad_p : (setP tBad).isSome = false := by decide +kernel
theorem twhole_txt : setT wholeL wholeL = [42, 32, 47, 32, 42] := by decide +kernel
theorem tnone_txt : setT [] [] = [45] := by decide +kernel
theorem rwhole_any (w : World) : Calls Tryz.prog 78 #[] w (WholePost w) := by
  go_enter Tryz.func78, Tryz.ntmps78
  go_wp2_with (first | (go_at_call 129; refine (first_any _).mono ?_; rintro _ w1 ⟨rfl, hb1⟩) | (go_at_call 130; refine (last_any _).mono ?_; rintro _ w2 ⟨rfl, hb2⟩))
  have hb := below_tr hb1 hb2
  go_ret
  exact ⟨_, _, rfl, ⟨Spans.one (Box.new w2 (SpanL.cells ⟨firstC, lastC⟩) 100), fun ad e => by injection e with e; rw [← e]; exact hb.size⟩, below_tr hb (below_new _ _)⟩
def AllPost (w : World) (e : Ending) (w' : World) : Prop := ∃ A c B d, e = .returned (setV A 1 c B 1 d) ∧ SpanB w' w.heap.size A wholeL ∧ SpanB w' w.heap.size B wholeL ∧ Below w.heap.size w w'
set_option maxHeartbeats 1000000 in
theorem rsall_any (w : World) : Calls Tryz.prog 46 #[] w (AllPost w) := by
  have HB0 := hid (below_new w (.cells [Value.slice none 0 0, .slice none 0 0].toArray 24))
  have HX := hid (Box.new w [Value.slice none 0 0, .slice none 0 0] 24)
  have HS := hid (Soft.new w [Value.slice none 0 0, .slice none 0 0].toArray 24)
  go_enter Tryz.func46, Tryz.ntmps46
  go_wp2_with fail
  refine (rwhole_any _).mono ?_
  rintro _ w1 ⟨A, c, rfl, h1, hb1⟩
  have HX1 := hid (HX.out.below hb1)
  have HS1 := hid (HS.out.below HX.out.1 hb1)
  have HB1 := hid (below_tr HB0.out hb1)
  have H1 := hid h1
  clear h1 hb1
  go_wp2_with fail
  refine (rwhole_any _).mono ?_
  rintro _ w2 ⟨B, d, rfl, h2, hb2⟩
  have HX2 := hid (HX1.out.below hb2)
  have hf : ∀ j, w2.frozen? ⟨w.heap.size, j, none⟩ = false := HS1.out.below HX1.out.1 hb2
  have HB2 := hid (below_tr HB1.out hb2)
  have HA := hid (H1.out.below hb2)
  have HBB := hid h2
  obtain ⟨y0, y1⟩ := HX2.out.get2
  have hlt := HX2.out.1
  clear h2 hb2
  have hg1 := HB0.out.size
  have hg2 := HX.out.1
  have hg3 := HX1.out.1
  go_wp2_with fail
  refine ret2 HX2.out (v := setV A 1 c B 1 d) (fun w3 h3 => ?_) rfl (fun h3 => ⟨A, c, B, d, rfl, (HA.out.set (by omega)).low (by omega), (HBB.out.set (by omega)).low (by omega), HB2.out.trans h3⟩)
  obtain ⟨k0, k1⟩ := h3.get2
  simp [results, Tryz.results46, go_sem, k0, k1]
def GoodPost (w : World) (e : Ending) (w' : World) : Prop := ∃ A c B d, e = .returned (.tuple #[setV A 2 c B 0 d, .int .i64 0]) ∧ SpanB w' w.heap.size A t8L ∧ SpanB w' w.heap.size B [] ∧ fitL t8L ∧ Below w.heap.size w w'
def BadPost (w : World) (e : Ending) (w' : World) : Prop := ∃ A c B d, e = .returned (.tuple #[setV A 0 c B 0 d, .int .i64 2]) ∧ Below w.heap.size w w'
theorem tgood_any (w : World) (hL : Laid w) : Calls Tryz.prog 18 #[.string ⟨#[62, 61, 49, 46, 50, 46, 48, 32, 60, 50, 46, 48, 46, 48, 32, 111, 114, 32, 62, 61, 51, 46, 48, 46, 48]⟩] w (GoodPost w) := by
  have h := tparse_any (strB tGood) w hL (by rw [strB_size]; decide)
  rw [bts_strB, tgood_p] at h
  refine Calls.mono h ?_
  rintro e w' ⟨A, c, B, d, he, h1, h2, h3, -, -, -, hb⟩
  exact ⟨A, c, B, d, he, h1, h2, h3, hb⟩
theorem tbad_any (w : World) (hL : Laid w) : Calls Tryz.prog 18 #[.string ⟨#[62, 61, 49, 46, 50, 46, 48, 32, 60, 49, 46, 50, 46, 48]⟩] w (BadPost w) := by
  have h := tparse_any (strB tBad) w hL (by rw [strB_size]; decide)
  rw [bts_strB, show setP tBad = none by have := tbad_p; cases e : setP tBad with | none => rfl | some x => rw [e] at this; simp at this] at h
  refine Calls.mono h ?_
  rintro e w' ⟨A, c, B, d, he, -, -, -, -, -, -, hb⟩
  exact ⟨A, c, B, d, he, hb⟩
set_option maxRecDepth 100000 in
set_option maxHeartbeats 4000000 in
theorem tawake_any (w : World) (hL : Laid w) : Calls Tryz.prog 15 #[] w (BoolPost w true) := by
  have HL := hid hL
  have HP := hid (tgood_any w hL)
  have HQ := hid (fun u (h : Below w.heap.size w u) => tbad_any u (HL.out.below h))
  have HA := hid (fun u (h : Below w.heap.size w u) => rsall_any u)
  clear hL
  go_enter Tryz.func15, Tryz.ntmps15
  go_wp2_with fail
  refine HP.out.mono ?_
  rintro _ w1 ⟨A, c, B, d, rfl, hs, ht, hft, hb⟩
  have HB := hid hb
  have HS := hid hs
  have HT := hid ht
  have HF := hid hft
  clear hb hs ht hft HP
  go_wp2_with fail
  refine calls_name ?_
  intro w2 hw2
  have hb2 : Below w1.heap.size w1 w2 := by rw [hw2]; exact below_new _ _
  have HX : Hid (Box w2 w1.heap.size [.slice A 2 c, .slice B 0 d]) := hid (by rw [hw2]; exact Box.new w1 [.slice A 2 c, .slice B 0 d] _)
  clear hw2
  have HB := hid (below_tr HB.out hb2)
  have HS := hid (spanB_below HS.out hb2)
  have HT := hid (spanB_below HT.out hb2)
  clear hb2
  refine (HQ.out _ HB.out).mono ?_
  rintro _ w3 ⟨A2, c2, B2, d2, rfl, hb3⟩
  have HX := hid (HX.out.below hb3)
  have HB := hid (below_tr HB.out hb3)
  have HS := hid (spanB_below HS.out hb3)
  have HT := hid (spanB_below HT.out hb3)
  clear hb3
  obtain ⟨y0, y1⟩ := HX.out.get2
  have hlt := HX.out.1
  have HPR := hid (fun v (h : Below w.heap.size w v) (hs : Spans v A t8L) (ht : Spans v B []) => tprint_set A B c d t8L [] v (HL.out.below h) hs ht HF.out fit_nil (by decide) (by decide))
  have HB := hid (below_tr HB.out (below_new w3 (.cells #[Value.slice A2 0 c2, Value.slice B2 0 d2] 24)))
  have HS := hid (spanB_below HS.out (below_new w3 (.cells #[Value.slice A2 0 c2, Value.slice B2 0 d2] 24)))
  have HT := hid (spanB_below HT.out (below_new w3 (.cells #[Value.slice A2 0 c2, Value.slice B2 0 d2] 24)))
  go_wp2_with fail
  refine (HPR.out _ HB.out HS.out.1 HT.out.1).mono ?_
  rintro _ w5 ⟨tx, rfl, htx, hb5⟩
  have h1 : (tx.toList == [62, 61, 49, 46, 50, 46, 48, 32, 60, 50, 46, 48, 46, 48, 32, 111, 114, 32, 62, 61, 51, 46, 48, 46, 48]) = true := by rw [show tx.toList = tGood from htx.trans tgood_txt]; rfl
  have HB := hid (below_tr HB.out hb5)
  have HP0 := hid (tprint_set none none 0 0 [] [] w5 (HL.out.below HB.out) .nil .nil fit_nil fit_nil (by decide) (by decide))
  clear htx hb5 HX HS HT y0 y1 hlt HPR
  go_wp2_with fail
  refine HP0.out.mono ?_
  rintro _ w6 ⟨ty, rfl, hty, hb6⟩
  have h2 : (ty.toList == [45]) = true := by rw [show ty.toList = [45] from hty.trans tnone_txt]; rfl
  have HB := hid (below_tr HB.out hb6)
  clear hty hb6 HP0
  go_wp2_with fail
  refine (rsall_any _).mono ?_
  rintro _ w7 ⟨A3, c3, B3, d3, rfl, hs3, ht3, hb7⟩
  have HB := hid (below_tr HB.out hb7)
  have HP3 := hid (tprint_set A3 B3 c3 d3 wholeL wholeL w7 (HL.out.below HB.out) hs3.1 ht3.1 whole_fit whole_fit (by decide) (by decide))
  clear hs3 ht3 hb7
  go_wp2_with fail
  refine HP3.out.mono ?_
  rintro _ w8 ⟨tz, rfl, htz, hb8⟩
  have h3 : (tz.toList == [42, 32, 47, 32, 42]) = true := by rw [show tz.toList = [42, 32, 47, 32, 42] from htz.trans twhole_txt]; rfl
  have HB := hid (below_tr HB.out hb8)
  clear htz hb8 HP3
  go_wp2_with fail
  go_ret
  exact ⟨rfl, HB.out⟩
end Go.Proofs.YtplmlahpmnjneaaGreatDoor
