import Derived.Test.YtplmlahpmnjneaaGreatDoorPDj
namespace Go.Proofs.YtplmlahpmnjneaaGreatDoor
open Go.RowKit Go.Lib
open Rw
set_option linter.unusedVariables false
set_option linter.unusedSimpArgs false
def CompPost (w : World) (e : Ending) (w' : World) : Prop := ∃ c : CompL, e = .returned c.val ∧ MayX c ∧ c.fit ∧ Below w.heap.size w w'
theorem fits0 : fitsI 0 = true := by decide
theorem cleared_may {v : Ver} (h : mayV v = true) (mn pt : Bool) (mj : Bool) : mayV ⟨if mj then v.maj else 0, if mn then v.min else 0, if pt then v.pat else 0, ⟨#[]⟩, ⟨#[]⟩⟩ = true := by
  obtain ⟨f1, f2, f3, -, -⟩ := mayV_parts h
  have e0 : bts (⟨#[]⟩ : ByteArray) = [] := bts_e
  simp only [mayV, e0, preOk, bldOk]
  cases mn <;> cases pt <;> cases mj <;> simp [f1, f2, f3, fits0]
theorem nobld_may {v : Ver} (h : mayV v = true) : mayV ⟨v.maj, v.min, v.pat, v.pre, ⟨#[]⟩⟩ = true := by
  obtain ⟨f1, f2, f3, hp, -⟩ := mayV_parts h
  have e0 : bts (⟨#[]⟩ : ByteArray) = [] := bts_e
  simp only [mayV, e0, bldOk, f1, f2, f3, hp]
  rfl
theorem comp_may {op : Int} {n : Nat} {v : Ver} (h : mayV v = true) (h1 : 1 ≤ op) (h9 : op ≤ 9) (hn : (op = 9 ∧ n ≤ 2) ∨ (op ≠ 9 ∧ 1 ≤ n ∧ n ≤ 2)) : MayX ⟨op, (n : Int), ⟨if decide (0 < n) then v.maj else 0, if decide (1 < n) then v.min else 0, if decide (2 < n) then v.pat else 0, ⟨#[]⟩, ⟨#[]⟩⟩⟩ := by
  refine mayX_iff.1 ?_
  have e0 : bts (⟨#[]⟩ : ByteArray) = [] := bts_e
  simp only [mayX, cleared_may h, e0]
  rcases hn with ⟨rfl, hn⟩ | ⟨h9', hn1, hn2⟩
  · have : n = 0 ∨ n = 1 ∨ n = 2 := by omega
    rcases this with rfl | rfl | rfl <;> simp [manyX, zeroV]
  · have : n = 1 ∨ n = 2 := by omega
    rcases this with rfl | rfl <;> simp [manyX, h9', h1, h9]
theorem comp_full {op : Int} {v : Ver} (h : mayV v = true) (h1 : 1 ≤ op) (h9 : op ≤ 9) (hn : op ≠ 9) : MayX ⟨op, 3, ⟨v.maj, v.min, v.pat, v.pre, ⟨#[]⟩⟩⟩ := by
  refine mayX_iff.1 ?_
  have e0 : bts (⟨#[]⟩ : ByteArray) = [] := bts_e
  simp only [mayX, nobld_may h, e0]
  simp [manyX, hn, h1, h9]
theorem fit_e (a b c : Int) : (⟨a, b, c, ⟨#[]⟩, ⟨#[]⟩⟩ : Ver).fit := ⟨by show (⟨#[]⟩ : ByteArray).size ≤ _; exact Nat.zero_le _, by show (⟨#[]⟩ : ByteArray).size ≤ _; exact Nat.zero_le _⟩
theorem fit_nobld {v : Ver} (h : v.fit) : (⟨v.maj, v.min, v.pat, v.pre, ⟨#[]⟩⟩ : Ver).fit := ⟨h.1, by show (⟨#[]⟩ : ByteArray).size ≤ _; exact Nat.zero_le _⟩
set_option maxRecDepth 100000 in
set_option maxHeartbeats 4000000 in
theorem lawcomp_any (A : Option Addr) (cap : Nat) (zs : List Int) (i : Int) (w : World) (h : IntsAt w A zs) (hi : 0 ≤ i) (hi2 : i ≤ 10000000) (hln : zs.length ≤ 9223372036854775807) : Calls Tryz.prog 40 #[.slice A zs.length cap, .int .i64 i] w (CompPost w) := by
  have hf : ∀ (j n : Int) (w' : World), Below w.heap.size w w' → 0 ≤ j → j ≤ 1000000000 → 0 < n → n ≤ 1000000 → Calls Tryz.prog 70 #[.slice A zs.length cap, .int .i64 j, .int .i64 n] w' fun e w'' => e = .returned (.int .i64 (fromL zs j n)) ∧ w' = w'' := fun j n w' hb h1 h2 h3 h4 => from_any A cap zs j n w' (h.below hb) h1 h2 hln h3 h4
  have C1 := hid (fun w' hb => hf (i + 5) 9 w' hb (by omega) (by omega) (by omega) (by omega))
  have C2 := hid (fun w' hb => hf (i + 6) 3 w' hb (by omega) (by omega) (by omega) (by omega))
  have CV := hid (fun w' (hb : Below w.heap.size w w') => version_any A cap zs i w' (h.below hb) hi (by omega) hln)
  have b1 := fromL_bd zs (i + 5) 9 (by omega)
  have b2 := fromL_bd zs (i + 6) 3 (by omega)
  have HV := hid (versionL_ok zs i)
  clear h hf
  generalize fromL zs (i + 5) 9 = k at *
  generalize fromL zs (i + 6) 3 = q at *
  generalize versionL zs i = v at *
  generalize zs.length = n at *
  obtain ⟨b1, d1⟩ := b1
  obtain ⟨b2, d2⟩ := b2
  go_enter Tryz.func40, Tryz.ntmps40
  go_upto_region 1 with fail
  refine wp_name ?_
  intro w1 hw1
  have O2 := hid (show Own w.heap.size w1 w.heap.size zero7 by rw [hw1]; exact Own.new w zero7 52 (Nat.le_refl _))
  have HB := hid (show Below w.heap.size w w1 by rw [hw1]; exact below_new _ _)
  clear hw1
  have C1 := hid (C1.out _ HB.out)
  have C2 := hid (C2.out _ HB.out)
  go_wp2_with fail
  refine C1.out.mono ?_
  rintro _ _ ⟨rfl, rfl⟩
  go_wp2_with fail
  refine C2.out.mono ?_
  rintro _ _ ⟨rfl, rfl⟩
  go_wp2_with fail
  refine (CV.out _ HB.out).mono ?_
  rintro _ w2 ⟨rfl, hb⟩
  have O2 := hid (O2.out.below hb)
  have HB := hid (below_tr HB.out hb)
  clear hb C1 C2 CV
  go_upto_region 2 with fail
  have hq : q = 0 ∨ q = 1 ∨ q = 2 := by omega
  by_cases h9 : k = 8
  · subst h9
    rcases hq with rfl | rfl | rfl
    · have HM := hid (comp_may (op := 9) (n := 0) HV.out.1 (by omega) (by omega) (.inl ⟨rfl, by omega⟩))
      go_upto_region 12 with fail
      refine wp_name ?_
      intro w3 hw3
      have HX := hid (show Box w3 w2.heap.size (CompL.cells ⟨9, 0, ⟨0, 0, 0, ⟨#[]⟩, ⟨#[]⟩⟩⟩) by rw [hw3]; exact Box.new w2 (CompL.cells ⟨9, 0, ⟨0, 0, 0, ⟨#[]⟩, ⟨#[]⟩⟩⟩) 52)
      have O2 := hid (show Own w.heap.size w3 w.heap.size zero7 by rw [hw3]; exact O2.out.alloc _)
      have HB := hid (show Below w.heap.size w w3 by rw [hw3]; exact below_tr HB.out (below_new _ _))
      clear hw3
      obtain ⟨x0, x1, x2, x3, x4, x5, x6⟩ := HX.out.get7
      obtain ⟨y0, y1, y2, y3, y4, y5, y6⟩ := O2.out.box.get7
      have sf : ∀ j, w3.frozen? ⟨w.heap.size, j, none⟩ = false := O2.out.soft
      have yl := O2.out.box.1
      have xl := HX.out.1
      go_wp2_with fail
      refine body_name ?_
      intro w9 hw9
      have O9 : Own w.heap.size w9 w.heap.size (CompL.cells ⟨9, 0, ⟨0, 0, 0, ⟨#[]⟩, ⟨#[]⟩⟩⟩) := by rw [hw9]; exact O2.out.set7 _ _ _ _ _ _ _
      have B9 : Below w.heap.size w w9 := by rw [hw9]; exact below_set7 HB.out (Nat.le_refl _) _ _ _ _ _ _ _
      clear hw9
      obtain ⟨k0, k1, k2, k3, k4, k5, k6⟩ := O9.box.get7
      refine bodyPost_ret (v := CompL.val ⟨9, 0, ⟨0, 0, 0, ⟨#[]⟩, ⟨#[]⟩⟩⟩) (by simp [results, Tryz.results40, go_sem, k0, k1, k2, k3, k4, k5, k6]) rfl ?_
      exact ⟨⟨9, 0, ⟨0, 0, 0, ⟨#[]⟩, ⟨#[]⟩⟩⟩, rfl, (by simpa using HM.out), (fit_e _ _ _), B9⟩
    · have HM := hid (comp_may (op := 9) (n := 1) HV.out.1 (by omega) (by omega) (.inl ⟨rfl, by omega⟩))
      go_upto_region 12 with fail
      refine wp_name ?_
      intro w3 hw3
      have HX := hid (show Box w3 w2.heap.size (CompL.cells ⟨9, 1, ⟨v.maj, 0, 0, ⟨#[]⟩, ⟨#[]⟩⟩⟩) by rw [hw3]; exact Box.new w2 (CompL.cells ⟨9, 1, ⟨v.maj, 0, 0, ⟨#[]⟩, ⟨#[]⟩⟩⟩) 52)
      have O2 := hid (show Own w.heap.size w3 w.heap.size zero7 by rw [hw3]; exact O2.out.alloc _)
      have HB := hid (show Below w.heap.size w w3 by rw [hw3]; exact below_tr HB.out (below_new _ _))
      clear hw3
      obtain ⟨x0, x1, x2, x3, x4, x5, x6⟩ := HX.out.get7
      obtain ⟨y0, y1, y2, y3, y4, y5, y6⟩ := O2.out.box.get7
      have sf : ∀ j, w3.frozen? ⟨w.heap.size, j, none⟩ = false := O2.out.soft
      have yl := O2.out.box.1
      have xl := HX.out.1
      go_wp2_with fail
      refine body_name ?_
      intro w9 hw9
      have O9 : Own w.heap.size w9 w.heap.size (CompL.cells ⟨9, 1, ⟨v.maj, 0, 0, ⟨#[]⟩, ⟨#[]⟩⟩⟩) := by rw [hw9]; exact O2.out.set7 _ _ _ _ _ _ _
      have B9 : Below w.heap.size w w9 := by rw [hw9]; exact below_set7 HB.out (Nat.le_refl _) _ _ _ _ _ _ _
      clear hw9
      obtain ⟨k0, k1, k2, k3, k4, k5, k6⟩ := O9.box.get7
      refine bodyPost_ret (v := CompL.val ⟨9, 1, ⟨v.maj, 0, 0, ⟨#[]⟩, ⟨#[]⟩⟩⟩) (by simp [results, Tryz.results40, go_sem, k0, k1, k2, k3, k4, k5, k6]) rfl ?_
      exact ⟨⟨9, 1, ⟨v.maj, 0, 0, ⟨#[]⟩, ⟨#[]⟩⟩⟩, rfl, (by simpa using HM.out), (fit_e _ _ _), B9⟩
    · have HM := hid (comp_may (op := 9) (n := 2) HV.out.1 (by omega) (by omega) (.inl ⟨rfl, by omega⟩))
      go_upto_region 12 with fail
      refine wp_name ?_
      intro w3 hw3
      have HX := hid (show Box w3 w2.heap.size (CompL.cells ⟨9, 2, ⟨v.maj, v.min, 0, ⟨#[]⟩, ⟨#[]⟩⟩⟩) by rw [hw3]; exact Box.new w2 (CompL.cells ⟨9, 2, ⟨v.maj, v.min, 0, ⟨#[]⟩, ⟨#[]⟩⟩⟩) 52)
      have O2 := hid (show Own w.heap.size w3 w.heap.size zero7 by rw [hw3]; exact O2.out.alloc _)
      have HB := hid (show Below w.heap.size w w3 by rw [hw3]; exact below_tr HB.out (below_new _ _))
      clear hw3
      obtain ⟨x0, x1, x2, x3, x4, x5, x6⟩ := HX.out.get7
      obtain ⟨y0, y1, y2, y3, y4, y5, y6⟩ := O2.out.box.get7
      have sf : ∀ j, w3.frozen? ⟨w.heap.size, j, none⟩ = false := O2.out.soft
      have yl := O2.out.box.1
      have xl := HX.out.1
      go_wp2_with fail
      refine body_name ?_
      intro w9 hw9
      have O9 : Own w.heap.size w9 w.heap.size (CompL.cells ⟨9, 2, ⟨v.maj, v.min, 0, ⟨#[]⟩, ⟨#[]⟩⟩⟩) := by rw [hw9]; exact O2.out.set7 _ _ _ _ _ _ _
      have B9 : Below w.heap.size w w9 := by rw [hw9]; exact below_set7 HB.out (Nat.le_refl _) _ _ _ _ _ _ _
      clear hw9
      obtain ⟨k0, k1, k2, k3, k4, k5, k6⟩ := O9.box.get7
      refine bodyPost_ret (v := CompL.val ⟨9, 2, ⟨v.maj, v.min, 0, ⟨#[]⟩, ⟨#[]⟩⟩⟩) (by simp [results, Tryz.results40, go_sem, k0, k1, k2, k3, k4, k5, k6]) rfl ?_
      exact ⟨⟨9, 2, ⟨v.maj, v.min, 0, ⟨#[]⟩, ⟨#[]⟩⟩⟩, rfl, (by simpa using HM.out), (fit_e _ _ _), B9⟩
  · have e9 : (1 + k == 9) = false := by rw [beq_eq_false_iff_ne]; omega
    have HK9 := hid (show 1 + k ≠ 9 by omega)
    have o1 : 1 ≤ 1 + k := by omega
    have o9 : 1 + k ≤ 9 := by omega
    clear h9
    rcases hq with rfl | rfl | rfl
    · have HM := hid (comp_may (op := 1 + k) (n := 1) HV.out.1 o1 o9 (.inr ⟨HK9.out, by omega, by omega⟩))
      go_upto_region 12 with fail
      refine wp_name ?_
      intro w3 hw3
      have HX := hid (show Box w3 w2.heap.size (CompL.cells ⟨1 + k, 1, ⟨v.maj, 0, 0, ⟨#[]⟩, ⟨#[]⟩⟩⟩) by rw [hw3]; exact Box.new w2 (CompL.cells ⟨1 + k, 1, ⟨v.maj, 0, 0, ⟨#[]⟩, ⟨#[]⟩⟩⟩) 52)
      have O2 := hid (show Own w.heap.size w3 w.heap.size zero7 by rw [hw3]; exact O2.out.alloc _)
      have HB := hid (show Below w.heap.size w w3 by rw [hw3]; exact below_tr HB.out (below_new _ _))
      clear hw3
      obtain ⟨x0, x1, x2, x3, x4, x5, x6⟩ := HX.out.get7
      obtain ⟨y0, y1, y2, y3, y4, y5, y6⟩ := O2.out.box.get7
      have sf : ∀ j, w3.frozen? ⟨w.heap.size, j, none⟩ = false := O2.out.soft
      have yl := O2.out.box.1
      have xl := HX.out.1
      go_wp2_with fail
      refine body_name ?_
      intro w9 hw9
      have O9 : Own w.heap.size w9 w.heap.size (CompL.cells ⟨1 + k, 1, ⟨v.maj, 0, 0, ⟨#[]⟩, ⟨#[]⟩⟩⟩) := by rw [hw9]; exact O2.out.set7 _ _ _ _ _ _ _
      have B9 : Below w.heap.size w w9 := by rw [hw9]; exact below_set7 HB.out (Nat.le_refl _) _ _ _ _ _ _ _
      clear hw9
      obtain ⟨k0, k1, k2, k3, k4, k5, k6⟩ := O9.box.get7
      refine bodyPost_ret (v := CompL.val ⟨1 + k, 1, ⟨v.maj, 0, 0, ⟨#[]⟩, ⟨#[]⟩⟩⟩) (by simp [results, Tryz.results40, go_sem, k0, k1, k2, k3, k4, k5, k6]) rfl ?_
      exact ⟨⟨1 + k, 1, ⟨v.maj, 0, 0, ⟨#[]⟩, ⟨#[]⟩⟩⟩, rfl, (by simpa using HM.out), (fit_e _ _ _), B9⟩
    · have HM := hid (comp_may (op := 1 + k) (n := 2) HV.out.1 o1 o9 (.inr ⟨HK9.out, by omega, by omega⟩))
      go_upto_region 12 with fail
      refine wp_name ?_
      intro w3 hw3
      have HX := hid (show Box w3 w2.heap.size (CompL.cells ⟨1 + k, 2, ⟨v.maj, v.min, 0, ⟨#[]⟩, ⟨#[]⟩⟩⟩) by rw [hw3]; exact Box.new w2 (CompL.cells ⟨1 + k, 2, ⟨v.maj, v.min, 0, ⟨#[]⟩, ⟨#[]⟩⟩⟩) 52)
      have O2 := hid (show Own w.heap.size w3 w.heap.size zero7 by rw [hw3]; exact O2.out.alloc _)
      have HB := hid (show Below w.heap.size w w3 by rw [hw3]; exact below_tr HB.out (below_new _ _))
      clear hw3
      obtain ⟨x0, x1, x2, x3, x4, x5, x6⟩ := HX.out.get7
      obtain ⟨y0, y1, y2, y3, y4, y5, y6⟩ := O2.out.box.get7
      have sf : ∀ j, w3.frozen? ⟨w.heap.size, j, none⟩ = false := O2.out.soft
      have yl := O2.out.box.1
      have xl := HX.out.1
      go_wp2_with fail
      refine body_name ?_
      intro w9 hw9
      have O9 : Own w.heap.size w9 w.heap.size (CompL.cells ⟨1 + k, 2, ⟨v.maj, v.min, 0, ⟨#[]⟩, ⟨#[]⟩⟩⟩) := by rw [hw9]; exact O2.out.set7 _ _ _ _ _ _ _
      have B9 : Below w.heap.size w w9 := by rw [hw9]; exact below_set7 HB.out (Nat.le_refl _) _ _ _ _ _ _ _
      clear hw9
      obtain ⟨k0, k1, k2, k3, k4, k5, k6⟩ := O9.box.get7
      refine bodyPost_ret (v := CompL.val ⟨1 + k, 2, ⟨v.maj, v.min, 0, ⟨#[]⟩, ⟨#[]⟩⟩⟩) (by simp [results, Tryz.results40, go_sem, k0, k1, k2, k3, k4, k5, k6]) rfl ?_
      exact ⟨⟨1 + k, 2, ⟨v.maj, v.min, 0, ⟨#[]⟩, ⟨#[]⟩⟩⟩, rfl, (by simpa using HM.out), (fit_e _ _ _), B9⟩
    · have HM := hid (comp_full (op := 1 + k) HV.out.1 o1 o9 HK9.out)
      go_upto_region 12 with fail
      refine wp_name ?_
      intro w3 hw3
      have HX := hid (show Box w3 w2.heap.size (CompL.cells ⟨1 + k, 3, ⟨v.maj, v.min, v.pat, v.pre, ⟨#[]⟩⟩⟩) by rw [hw3]; exact Box.new w2 (CompL.cells ⟨1 + k, 3, ⟨v.maj, v.min, v.pat, v.pre, ⟨#[]⟩⟩⟩) 52)
      have O2 := hid (show Own w.heap.size w3 w.heap.size zero7 by rw [hw3]; exact O2.out.alloc _)
      have HB := hid (show Below w.heap.size w w3 by rw [hw3]; exact below_tr HB.out (below_new _ _))
      clear hw3
      obtain ⟨x0, x1, x2, x3, x4, x5, x6⟩ := HX.out.get7
      obtain ⟨y0, y1, y2, y3, y4, y5, y6⟩ := O2.out.box.get7
      have sf : ∀ j, w3.frozen? ⟨w.heap.size, j, none⟩ = false := O2.out.soft
      have yl := O2.out.box.1
      have xl := HX.out.1
      go_wp2_with fail
      refine body_name ?_
      intro w9 hw9
      have O9 : Own w.heap.size w9 w.heap.size (CompL.cells ⟨1 + k, 3, ⟨v.maj, v.min, v.pat, v.pre, ⟨#[]⟩⟩⟩) := by rw [hw9]; exact O2.out.set7 _ _ _ _ _ _ _
      have B9 : Below w.heap.size w w9 := by rw [hw9]; exact below_set7 HB.out (Nat.le_refl _) _ _ _ _ _ _ _
      clear hw9
      obtain ⟨k0, k1, k2, k3, k4, k5, k6⟩ := O9.box.get7
      refine bodyPost_ret (v := CompL.val ⟨1 + k, 3, ⟨v.maj, v.min, v.pat, v.pre, ⟨#[]⟩⟩⟩) (by simp [results, Tryz.results40, go_sem, k0, k1, k2, k3, k4, k5, k6]) rfl ?_
      exact ⟨⟨1 + k, 3, ⟨v.maj, v.min, v.pat, v.pre, ⟨#[]⟩⟩⟩, rfl, (HM.out), (fit_nobld HV.out.2), B9⟩
def RangePostC (w : World) (e : Ending) (w' : World) : Prop := ∃ A c r, e = .returned (rangeV A r.length c) ∧ Alts w' A r ∧ mayG r = true ∧ fitG r ∧ r.length ≤ c ∧ Below w.heap.size w w'
theorem HeadsAt.cap {w : World} {base : Nat} {v : Value} {r : List (List CompL)} (h : HeadsAt w base v r) : ∃ A c, v = .slice A r.length c ∧ Alts w A r ∧ r.length ≤ c := by
  obtain ⟨A, c, hv, hal⟩ := h.alts
  obtain ⟨hs, h1, h2, h3⟩ := h
  refine ⟨A, c, hv, hal, ?_⟩
  rcases h2.2 with ⟨-, h0⟩ | ⟨g, cap, cur, hv2, hg, hh, hle, -⟩
  · rw [h0]; exact Nat.zero_le _
  · rw [hv] at hv2
    injection hv2 with e1 e2 e3
    rw [e3]; exact hle
theorem one_may {c : CompL} (h : MayX c) : mayG [[c]] = true := by
  have hl := printX_len c
  rw [mayG, Bool.and_eq_true, decide_eq_true_eq]
  refine ⟨?_, ?_⟩
  · simp [fewG, fewA, mayX_iff.2 h]
  · have e : rangeT [[c]] = printX c := rfl
    rw [e]; omega
theorem one_fit {c : CompL} (h : c.fit) : fitG [[c]] := fun a ha x hx => by
  rw [List.mem_singleton.1 ha] at hx
  rw [List.mem_singleton.1 hx]; exact h
structure RW (w : World) (B g4 g5 : Nat) (v : Value) (r : List (List CompL)) (u : World) : Prop where
  below : Below w.heap.size w u
  o4 : Own w.heap.size u g4 [.slice none 0 0]
  o5 : Own w.heap.size u g5 [v]
  heads : HeadsAt u B v r
  lo4 : g4 < B
  lo5 : g5 < B
  ne : g4 ≠ g5
  size : B ≤ u.heap.size
theorem RW.on {w u u' : World} {B g4 g5 : Nat} {v : Value} {r : List (List CompL)} (h : RW w B g4 g5 v r u) (hb : Below u.heap.size u u') : RW w B g4 g5 v r u' :=
  ⟨below_tr h.below hb, h.o4.below hb, h.o5.below hb, h.heads.below hb, h.lo4, h.lo5, h.ne, Nat.le_trans h.size hb.size⟩
theorem RW.next {w u w' : World} {B g4 g5 : Nat} {v v' : Value} {r : List (List CompL)} {a : List CompL} {Aa : Option Addr} {ca : Nat} {hs : List Value} (h : RW w B g4 g5 v r u) (h1 : hs.length = r.length)
    (h3 : ∀ i (h : i < r.length), ∃ Ai ci, hs[i]? = some (.slice Ai r[i].length ci) ∧ Comps u Ai r[i] ∧ (r[i] ≠ [] → ∀ ad, Ai = some ad → B ≤ ad.block ∧ v.ownBlock ≠ some ad.block))
    (h2 : w'.ownsRow B 49 1 v' (r.length + 1) (hs ++ [.slice Aa a.length ca])) (hb : Below B u w') (hg : u.grownBy w' v.ownBlock) (hv : ∀ k, v'.ownBlock = some k → v.ownBlock = some k ∨ u.heap.size ≤ k)
    (ha : Comps u Aa a) (hab : a ≠ [] → ∀ ad, Aa = some ad → B ≤ ad.block ∧ v.ownBlock ≠ some ad.block) (hwB : w.heap.size ≤ B) : RW w B g4 g5 v' (r ++ [a]) (w'.setCell ⟨g5, 0, none⟩ v') := by
  have o5 := (h.o5.kbB h.lo5 hb.kb)
  refine ⟨below_put (h.below.trans (hb.mono hwB)) o5.low v', (h.o4.kbB h.lo4 hb.kb).other h.ne v', ?_, (HeadsAt.snoc h1 h3 h2 hg hv ha hab).put h.lo5 v', h.lo4, h.lo5, h.ne, ?_⟩
  · have := o5.put (j := 0) (by simp) v'
    simpa using this
  · rw [World.size_setCell]; exact Nat.le_trans h.size hb.size
theorem alts_one {u : World} {cc : CompL} {T1 T2 : TypeId} {n : Nat} (hn : u.heap.size = n) : Alts ((u.alloc (.cells cc.cells.toArray T1)).alloc (.cells [Value.slice (some ⟨n, 0, none⟩) 1 1].toArray T2)) (some ⟨n + 1, 0, none⟩) [[cc]] := by
  subst hn
  have h1 := (Box.new u cc.cells T1).below (below_new _ (.cells [Value.slice (some ⟨u.heap.size, 0, none⟩) 1 1].toArray T2))
  have h2 := Box.new (u.alloc (.cells cc.cells.toArray T1)) [Value.slice (some ⟨u.heap.size, 0, none⟩) 1 1] T2
  rw [World.size_alloc] at h2
  refine .inr ⟨u.heap.size + 1, 0, rfl, h2.1, fun i hi => ?_⟩
  obtain rfl : i = 0 := by simpa using hi
  refine ⟨some ⟨u.heap.size, 0, none⟩, 1, h2.2 0 _ rfl, .inr ⟨u.heap.size, 0, rfl, h1.1, fun q hq j v hv => ?_⟩⟩
  obtain rfl : q = 0 := by simpa using hq
  have := h1.2 j v hv
  simpa using this
def AltsOk (r : List (List CompL)) : Prop := ∀ a ∈ r, (∀ c ∈ a, CompL.fit c) ∧ a.length ≤ 3
theorem AltsOk.snoc {r : List (List CompL)} {a : List CompL} (h : AltsOk r) (h1 : ∀ c ∈ a, CompL.fit c) (h2 : a.length ≤ 3) : AltsOk (r ++ [a]) := fun x hx => by
  rcases List.mem_append.1 hx with k | k
  · exact h x k
  · rw [List.mem_singleton.1 k]; exact ⟨h1, h2⟩
set_option maxRecDepth 100000 in
set_option maxHeartbeats 8000000 in
theorem lawrange_cap (A : Option Addr) (cap : Nat) (zs : List Int) (i : Int) (w : World) (h : IntsAt w A zs) (hi : 0 ≤ i) (hi2 : i ≤ 1000000) (hln : zs.length ≤ 9223372036854775807) : Calls Tryz.prog 34 #[.slice A zs.length cap, .int .i64 i] w (RangePostC w) := by
  have hf : ∀ (j n : Int) (w' : World), Below w.heap.size w w' → 0 ≤ j → j ≤ 1000000000 → 0 < n → n ≤ 1000000 → Calls Tryz.prog 70 #[.slice A zs.length cap, .int .i64 j, .int .i64 n] w' fun e w'' => e = .returned (.int .i64 (fromL zs j n)) ∧ w' = w'' := fun j n w' hb h1 h2 h3 h4 => from_any A cap zs j n w' (h.below hb) h1 h2 hln h3 h4
  have HF := hid (fun (j : Int) w' hb (h1 : 0 ≤ j) (h2 : j ≤ 1000000000) => hf j 3 w' hb h1 h2 (by omega) (by omega))
  have HC := hid (fun (j : Int) w' (hb : Below w.heap.size w w') (h1 : 0 ≤ j) (h2 : j ≤ 10000000) => lawcomp_any A cap zs j w' (h.below hb) h1 h2 hln)
  have HBD := hid (fun (j : Int) => fromL_bd zs j 3 (by omega))
  clear h hf
  generalize fromL zs = fl at *
  generalize zs.length = n at *
  go_enter Tryz.func34, Tryz.ntmps34
  go_upto_block 0 with fail
  refine wp_name ?_
  intro w1 hw1
  have O4 := hid (show Own w.heap.size w1 w.heap.size [.slice none 0 0] by rw [hw1]; exact (Own.new w [.slice none 0 0] 35 (Nat.le_refl _)).alloc _)
  have O5 := hid (show Own w.heap.size w1 (w.heap.size + 1) [.slice none 0 0] by rw [hw1]; exact Own.new2 w _ [.slice none 0 0] 35 (Nat.le_refl _))
  have HB := hid (show Below w.heap.size w w1 by rw [hw1]; exact below_tr (below_new _ _) (below_new _ _))
  clear hw1
  have hne : w.heap.size ≠ w.heap.size + 1 := by omega
  generalize w.heap.size + 1 = g5 at *
  have HRW := hid (show RW w w1.heap.size w.heap.size g5 (.slice none 0 0) [] w1 from ⟨HB.out, O4.out, O5.out, .nil, O4.out.box.1, O5.out.box.1, hne, Nat.le_refl _⟩)
  have HWB := hid HB.out.size
  clear O4 O5 HB
  generalize hB : w1.heap.size = B at *
  clear hB
  have hq := HBD.out i
  generalize hqq : fl i 3 = q at *
  have HQ := hid hqq
  clear hqq
  obtain ⟨q0, q3⟩ := hq
  go_cut [6] from 7 to 56 (fun i6 wx => ∃ (v : Value) (r : List (List CompL)), r.length ≤ 3 ∧ Hid (AltsOk r) ∧ Hid (RW w B w.heap.size g5 v r wx))
  case first =>
    go_wp2_with fail
    go_loopw [6] (fun i6 wr => ∃ (k : Nat) (v : Value) (r : List (List CompL)), i6 = .int .i64 k ∧ k ≤ q + 1 ∧ r.length = k ∧ Hid (AltsOk r) ∧ Hid (RW w B w.heap.size g5 v r wr)) (fun i6 _ => 4 - (intOf i6).toNat)
    case atStart => exact ⟨0, _, [], rfl, by omega, rfl, hid (fun a ha => by simp at ha), HRW⟩
    case round =>
      obtain ⟨k, v, r, rfl, hk, hrk, HOK, HRW⟩ := hrel
      have HFQ := hid (HF.out i wr HRW.out.below hi (by omega))
      rw [HQ.out] at HFQ
      go_wp2_with fail
      refine HFQ.out.mono ?_
      rintro _ _ ⟨rfl, rfl⟩
      by_cases hkq : (k : Int) ≤ q
      · have hkd : decide ((k : Int) ≤ q) = true := decide_eq_true hkq
        have hB4 := HRW.out.size
        have HJ := hid (HBD.out (i + 1 + k))
        have j0 : (0 : Int) ≤ (k : Int) := by omega
        go_upto_block 2 with fail
        go_wp2_with fail
        go_loopw [8, 7] (fun j vs ur => ∃ (p : Nat) (l : List CompL) (va : Value), j = .int .i64 p ∧ va = vs ∧ p ≤ 3 ∧ l.length = p ∧ Hid (∀ c ∈ l, CompL.fit c) ∧ Hid (OwnX ur wr.heap.size va l) ∧ Hid (Below wr.heap.size wr ur)) (fun j _ _ => 4 - (intOf j).toNat)
        case atStart => exact ⟨0, [], _, rfl, rfl, by omega, rfl, hid (fun c hc => by simp at hc), hid .nil, hid (Below.refl _ _)⟩
        case round =>
          rename World => ur
          obtain ⟨p, l, va, rfl, rfl, hp3, hlp, HFL, HOX, HBU⟩ := hrel
          have HBW := hid (below_tr HRW.out.below HBU.out)
          have HFJ := hid (HF.out (i + 1 + k) ur HBW.out (by omega) (by omega))
          have hbd := HJ.out
          generalize fl (i + 1 + k) 3 = qj at *
          obtain ⟨t0, t3⟩ := hbd
          go_wp2_with fail
          refine HFJ.out.mono ?_
          rintro _ _ ⟨rfl, rfl⟩
          by_cases hpq : (p : Int) ≤ qj
          · have hpd : decide ((p : Int) ≤ qj) = true := decide_eq_true hpq
            have hp2 : p ≤ 2 := by omega
            have HCP := hid (HC.out (i + 4 + 21 * k + 7 * p) ur HBW.out (by omega) (by omega))
            have s0 : (0 : Int) ≤ (p : Int) := by omega
            go_wp2_with fail
            refine HCP.out.mono ?_
            rintro _ u2 ⟨cc, rfl, hmx, hfx, hb2⟩
            have HFX := hid hfx
            have HOX2 := hid (HOX.out.below hb2)
            have HBU2 := hid (below_tr HBU.out hb2)
            clear hb2 hmx hfx
            have hsz := HBU2.out.size
            go_wp2_with (first | (at_builtin; refine wpList_app1g EKcomps rfl (.tmp 26) (.tmp 37) rfl (CompL.cells cc) HOX2.out rfl rfl rfl (oneX _) (by unfold maxLen; omega) (by omega) hsz ?_; intro v' w' h2 h3 h4))
            go_roundw
            case rel => exact ⟨p + 1, l ++ [cc], _, by go_num, rfl, by omega, by rw [List.length_append, hlp]; rfl, hid (fun c hc => by
              rcases List.mem_append.1 hc with k | k
              · exact HFL.out c k
              · rw [List.mem_singleton.1 k]; exact HFX.out), hid (OwnL.snoc h2), hid (HBU2.out.trans h3)⟩
            case measure => simp [intOf]; omega
          · subst hlp
            subst hrk
            have hpd : decide ((l.length : Int) ≤ qj) = false := decide_eq_false hpq
            obtain ⟨Aa, ca, rfl, hcs, hab, -⟩ := OwnL.lies cells7 HOX.out
            have HRU := hid (HRW.out.on HBU.out)
            have HCS := hid hcs
            have HAB : Hid (∀ ad, Aa = some ad → B ≤ ad.block ∧ v.ownBlock ≠ some ad.block) := hid (fun ad had => by
              have h1 := (hab ad had).1
              refine ⟨by omega, fun e => ?_⟩
              obtain ⟨hs, -, h2, -⟩ := HRW.out.heads
              have := (h2.lt _ e).2
              omega)
            obtain ⟨hs, e1, e2, e3⟩ := HRU.out.heads
            have HE1 := hid e1
            have HE2 := hid e2
            have HE3 := hid e3
            clear hcs hab HOX e1 e2 e3
            have y0 := HRU.out.o5.box.2 0 _ rfl
            have sf : ∀ j, ur.frozen? ⟨g5, j, none⟩ = false := HRU.out.o5.soft
            have yl := HRU.out.o5.box.1
            have hsz := HRU.out.size
            have hr3 : r.length ≤ 3 := by omega
            have HL5 := hid HRU.out.lo5
            go_wp2_with (first | (at_builtin; refine wpList_app1y EKheads rfl (.tmp 40) (.tmp 42) rfl [.slice Aa l.length ca] HE2.out rfl rfl rfl (one1 _ rfl) (by unfold maxLen; omega) (by omega) hsz ?_; intro v' w' h2 h3 h4 h5; obtain ⟨A9, c9, rfl⟩ := own_slice h2; have HNX := hid (HRU.out.next HE1.out HE3.out h2 h3 h4 h5 HCS.out (fun _ => HAB.out) HWB.out); have HO5 := hid (HRU.out.o5.kbB HL5.out h3.kb); clear h2 h3 h4 h5 y0 sf yl; have y0 := HO5.out.box.2 0 _ rfl; have sf : ∀ j, w'.frozen? ⟨g5, j, none⟩ = false := HO5.out.soft; have yl := HO5.out.box.1))
            go_roundw
            case rel => exact ⟨r.length + 1, _, r ++ [l], by go_num, by omega, by rw [List.length_append]; rfl, hid (HOK.out.snoc HFL.out (by omega)), HNX⟩
            case measure => simp [intOf]; omega
      · have hkd : decide ((k : Int) ≤ q) = false := decide_eq_false hkq
        go_wp2_with fail
        go_meet
        case rel => exact ⟨v, r, by omega, HOK, HRW⟩
  case rest =>
    obtain ⟨v, r, hr3, HOK, HRW⟩ := hcut
    have HFR := hid (show fitG r from fun a ha => (HOK.out a ha).1)
    obtain ⟨A1, c1, rfl, hal, hcap⟩ := HRW.out.heads.cap
    have HAL := hid hal
    have y0 := HRW.out.o5.box.2 0 _ rfl
    have yl := HRW.out.o5.box.1
    have HMY := hid (rmay7_any A1 c1 r wc hal HFR.out (by omega) (fun a ha => by have := (HOK.out a ha).2; omega))
    clear hal
    go_wp2_with fail
    refine HMY.out.mono ?_
    rintro _ u1 ⟨rfl, hb⟩
    have HRU := hid (HRW.out.on hb)
    have HAL := hid (HAL.out.below hb)
    clear hb y0 yl HMY
    cases hmg : mayG r
    · have HCP := hid (HC.out (i + 4) u1 HRU.out.below (by omega) (by omega))
      go_wp2_with fail
      refine HCP.out.mono ?_
      rintro _ u2 ⟨cc, rfl, hmx, hfx, hb2⟩
      have HMX := hid hmx
      have HFX := hid hfx
      have HRU2 := hid (HRU.out.on hb2)
      clear hb2 hmx hfx HCP
      have x0 := HRU2.out.o4.box.2 0 _ rfl
      have sf : ∀ j, u2.frozen? ⟨w.heap.size, j, none⟩ = false := HRU2.out.o4.soft
      have xl := HRU2.out.o4.box.1
      go_wp2_with fail
      refine body_name ?_
      intro w9 hw9
      have O9 : Own w.heap.size w9 w.heap.size [.slice (some ⟨u2.heap.size + 1, 0, none⟩) 1 1] := by rw [hw9]; exact ((HRU2.out.o4.put (j := 0) (by simp) _).alloc _).alloc _
      have B9 : Below w.heap.size w w9 := by rw [hw9]; exact below_tr (below_put HRU2.out.below (Nat.le_refl _) _) (below_tr (below_new _ _) (below_new _ _))
      have A9 : Alts w9 (some ⟨u2.heap.size + 1, 0, none⟩) [[cc]] := by rw [hw9]; exact alts_one (World.size_setCell _ _ _)
      clear hw9
      have k0 := O9.box.2 0 _ rfl
      refine bodyPost_ret (v := rangeV (some ⟨u2.heap.size + 1, 0, none⟩) 1 1) (by simp [results, Tryz.results34, go_sem, k0]) rfl ?_
      exact ⟨_, 1, [[cc]], rfl, A9, one_may HMX.out, one_fit HFX.out, Nat.le_refl 1, B9⟩
    · have HMG := hid hmg
      clear hmg
      have y0 := HRU.out.o5.box.2 0 _ rfl
      have yl := HRU.out.o5.box.1
      have x0 := HRU.out.o4.box.2 0 _ rfl
      have sf : ∀ j, u1.frozen? ⟨w.heap.size, j, none⟩ = false := HRU.out.o4.soft
      have xl := HRU.out.o4.box.1
      go_wp2_with fail
      refine body_name ?_
      intro w9 hw9
      have O9 : Own w.heap.size w9 w.heap.size [.slice A1 r.length c1] := by rw [hw9]; exact HRU.out.o4.put (j := 0) (by simp) _
      have B9 : Below w.heap.size w w9 := by rw [hw9]; exact below_put HRU.out.below (Nat.le_refl _) _
      have A9 : Alts w9 A1 r := by
        rw [hw9]
        obtain ⟨A', c', e, h⟩ := (HRU.out.heads.put (j := 0) HRU.out.lo4 (.slice A1 r.length c1)).alts
        injection e with e
        rw [← e] at h; exact h
      clear hw9
      have k0 := O9.box.2 0 _ rfl
      refine bodyPost_ret (v := rangeV A1 r.length c1) (by simp [results, Tryz.results34, go_sem, k0]) rfl ?_
      exact ⟨A1, c1, r, rfl, A9, HMG.out, HFR.out, hcap, B9⟩
end Go.Proofs.YtplmlahpmnjneaaGreatDoor
