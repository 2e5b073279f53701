/- Contracts: tell.Parse. -/
import Derived.Test.YtjceaniffooohaaGreatDoorTi
namespace Go.Proofs.YtjceaniffooohaaGreatDoor
open Go.RowKit Go.Lib
open Rw
set_option linter.unusedVariables false
set_option linter.unusedSimpArgs false

/-! ### How long a text may be -/
theorem joinP_len : ∀ (ps : List (List UInt8)), (∀ p ∈ ps, p.length ≤ 8) → (joinP ps).length ≤ 9 * ps.length
  | [], _ => by simp [joinP]
  | [p], h => by have := h p (by simp); simp only [joinP, List.length_cons, List.length_nil]; omega
  | p :: q :: r, h => by
    have h1 := h p (by simp)
    have h2 := joinP_len (q :: r) (fun x hx => h x (List.mem_cons_of_mem _ hx))
    simp only [joinP, List.length_append, List.length_cons] at h2 ⊢
    omega
theorem tags_len {l : List UInt8} (h : tagsL l = true) : l.length ≤ 36 := by
  rw [tagsL, Bool.and_eq_true, decide_eq_true_eq] at h
  have e : joinP (splitP l) = l := by have := join_split l []; simpa [splitP] using this
  have := joinP_len (splitP l) (fun p hp => by
    have := List.all_eq_true.1 h.2 p hp
    rw [tagOk, Bool.and_eq_true, Bool.and_eq_true, decide_eq_true_eq] at this
    exact this.1.2)
  rw [e] at this
  omega
theorem printV_88 (v : Ver) : (printV v).length ≤ 88 := by
  rw [printV]
  split
  · rename_i hm
    obtain ⟨-, -, -, hp, hb⟩ := mayV_parts hm
    have h1 := nums_len hm
    have h2 : (preT v).length ≤ 37 := by
      unfold preT
      split
      · simp
      · rw [preOk, Bool.or_eq_true] at hp
        rcases hp with hp | hp
        · exact absurd hp (by assumption)
        · rw [preL, Bool.and_eq_true] at hp
          have := tags_len hp.1
          simp only [List.length_cons]; omega
    have h3 : (bldT v).length ≤ 37 := by
      unfold bldT
      split
      · simp
      · rw [bldOk, Bool.or_eq_true] at hb
        rcases hb with hb | hb
        · exact absurd hb (by assumption)
        · have := tags_len hb
          simp only [List.length_cons]; omega
    simp only [List.length_append]; omega
  · simp
theorem spanT_181 (s : SpanL) : (spanT s).length ≤ 181 := by
  have h1 := printV_88 s.fr.v
  have h2 := printV_88 s.til.v
  have h3 : (loT s.fr).length ≤ 90 := by
    unfold loT
    split
    · cases s.fr.aft <;> simp <;> omega
    · simp
  have h4 : (hiT s.til).length ≤ 90 := by
    unfold hiT
    split
    · cases s.til.aft <;> simp <;> omega
    · simp
  unfold spanT
  split
  · simp
  · simp only [List.length_append]
    have : (if s.fr.en = 0 ∧ s.til.en = 0 then [32] else ([] : List UInt8)).length ≤ 1 := by split <;> simp
    omega
theorem joinOr_len : ∀ (l : List SpanL), (joinS orB (l.map spanT)).length ≤ 185 * l.length
  | [] => by simp [joinS]
  | [s] => by have := spanT_181 s; simp only [List.map_cons, List.map_nil, joinS, List.length_cons, List.length_nil]; omega
  | s :: t :: r => by
    have h1 := spanT_181 s
    have h2 := joinOr_len (t :: r)
    have e : joinS orB ((s :: t :: r).map spanT) = spanT s ++ orB ++ joinS orB ((t :: r).map spanT) := rfl
    rw [e]
    simp only [List.length_append, List.length_cons, orB, List.length_nil] at h2 ⊢
    omega
theorem rowT_len (l : List SpanL) : (rowT l).length ≤ 185 * l.length + 1 := by
  unfold rowT
  split
  · simp
  · have := joinOr_len l; omega
theorem setT_len (l m : List SpanL) : (setT l m).length ≤ 185 * (l.length + m.length) + 5 := by
  have h1 := rowT_len l
  have h2 := rowT_len m
  unfold setT
  split
  · simp only [List.length_append]
    split
    · simp; omega
    · simp only [List.length_append, slB, List.length_cons, List.length_nil]; omega
  · simp
theorem tprint_set (A B : Option Addr) (c d : Nat) (l m : List SpanL) (w : World) (hL : Laid w) (hl : Spans w A l) (hm : Spans w B m) (hfl : fitL l) (hfm : fitL m) (hln : l.length ≤ 5000000000) (hmn : m.length ≤ 5000000000) :
    Calls Tryz.prog 41 #[setV A l.length c B m.length d] w (StrPost w (setT l m)) :=
  tprint_any A B c d l m w hL hl hm hfl hfm (by omega) (by omega) (by have := setT_len l m; omega)
/-! ### tell.Parse -/
theorem scut_any (s : ByteArray) (w : World) (hL : Laid w) (hs : s.size < 4294967281) : Calls Tryz.prog 75 #[.string s, .string ⟨#[32, 47, 32]⟩] w fun e w' =>
    e = .returned (.tuple #[.string (strB (Lib.cut (bts s) slB).1), .string (strB (Lib.cut (bts s) slB).2.1), .bool (Lib.cut (bts s) slB).2.2]) ∧ ∃ n, w' = w.drewN n := by
  obtain ⟨m, hm⟩ := hL.maxl
  refine (Any.strings_Cut Tryz.lays145 s ⟨#[32, 47, 32]⟩ m w hs hm).mono ?_
  rintro e w' ⟨rfl, n, rfl⟩
  refine ⟨?_, n, rfl⟩
  have e1 : bts s = s.data.toList := by rw [bts, bts_data]
  rw [e1]; rfl
theorem cut_len2 (s sep : List UInt8) : (Lib.cut s sep).1.length ≤ s.length ∧ (Lib.cut s sep).2.1.length ≤ s.length := by
  unfold Lib.cut
  split
  · simp only [List.length_take, List.length_drop]; omega
  · simp
/-- a set has come back, or the word that it is none -/
def TellPost (w : World) (o : Option (List SpanL × List SpanL)) (e : Ending) (w' : World) : Prop :=
  ∃ A c B d, e = .returned (.tuple #[setV A (o.getD ([], [])).1.length c B (o.getD ([], [])).2.length d, .int .i64 (if o.isSome then 0 else 2)]) ∧ SpanB w' w.heap.size A (o.getD ([], [])).1 ∧ SpanB w' w.heap.size B (o.getD ([], [])).2 ∧
    fitL (o.getD ([], [])).1 ∧ fitL (o.getD ([], [])).2 ∧ (o.getD ([], [])).1.length ≤ 4294967281 ∧ (o.getD ([], [])).2.length ≤ 4294967281 ∧ Below w.heap.size w w'
theorem Own.set2 {B : Nat} {w : World} {g : Nat} {a0 a1 : Value} (h : Own B w g [a0, a1]) (b0 b1 : Value) : Own B ((w.setCell ⟨g, 0, none⟩ b0).setCell ⟨g, 1, none⟩ b1) g [b0, b1] :=
  ⟨h.box.set (o := 0) (vs := [b0, b1]) (by simp), h.soft.set (o := 0) (vs := [b0, b1]), h.low⟩
theorem spanB_none (w : World) (b : Nat) : SpanB w b none [] := ⟨.nil, fun ad h => by cases h⟩
theorem tell_none {w w' : World} (h : Below w.heap.size w w') : TellPost w none (.returned (.tuple #[setV none 0 0 none 0 0, .int .i64 2])) w' :=
  ⟨none, 0, none, 0, rfl, spanB_none _ _, spanB_none _ _, fit_nil, fit_nil, by simp, by simp, h⟩
theorem Own.newN (w : World) (o : Obj) (cs : List Value) (t : TypeId) (n : Nat) : Own w.heap.size (((w.alloc o).drewN n).alloc (.cells cs.toArray t)) (w.heap.size + 1) cs := by
  have e : ((w.alloc o).drewN n).heap.size = w.heap.size + 1 := World.size_alloc w o
  have := Own.new ((w.alloc o).drewN n) cs t (B := w.heap.size) (by rw [e]; omega)
  rwa [e] at this
set_option maxRecDepth 100000 in
set_option maxHeartbeats 8000000 in
theorem tparse_any (s : ByteArray) (w : World) (hL : Laid w) (hs : s.size ≤ 4294967280) : Calls Tryz.prog 43 #[.string s] w (TellPost w (setP (bts s))) := by
  have HL := hid hL
  clear hL
  have HCUT := hid (fun w1 (h : Below w.heap.size w w1) => scut_any s w1 (HL.out.below h) (by omega))
  have hcl := cut_len2 (bts s) slB
  rw [bts_len] at hcl
  have HCL := hid hcl
  have HSP : Hid (rawP (bts s) = match rowP (Lib.cut (bts s) slB).1 with | none => none | some l => if (Lib.cut (bts s) slB).2.2 then (match rowP (Lib.cut (bts s) slB).2.1 with | none => none | some m => some (l, m)) else some (l, [])) := hid rfl
  have HST : Hid (setP (bts s) = match rawP (bts s) with | none => none | some x => if mayS x.1 x.2 && decide (setT x.1 x.2 = bts s) then some x else none) := hid rfl
  clear hcl
  generalize (Lib.cut (bts s) slB).1 = x at *
  generalize (Lib.cut (bts s) slB).2.1 = y at *
  generalize (Lib.cut (bts s) slB).2.2 = both at *
  go_enter Tryz.func43, Tryz.ntmps43
  go_wp2_with fail
  refine (HCUT.out _ (below_new _ _)).mono ?_
  rintro _ _ ⟨rfl, n1, rfl⟩
  go_wp2_with fail
  refine calls_name ?_
  intro w1 hw1
  have O1 := hid (show Own w.heap.size w1 w.heap.size [.slice none 0 0, .slice none 0 0] by rw [hw1]; exact ((Own.new w [.slice none 0 0, .slice none 0 0] 31 (Nat.le_refl _)).drewN n1).alloc _)
  have O2 := hid (show Own w.heap.size w1 (w.heap.size + 1) [.slice none 0 0, .slice none 0 0] by
    rw [hw1]
    exact Own.newN w _ [.slice none 0 0, .slice none 0 0] 31 n1)
  have HB := hid (show Below w.heap.size w w1 by rw [hw1]; exact below_tr (below_drewN (below_new w _) n1) (below_new _ _))
  have HV1 : w.heap.size + 1 < w1.heap.size := O2.out.box.1
  clear hw1
  have HSX := hid (tspans_any (strB x) w1 (HL.out.below HB.out) (by rw [strB_size]; have := HCL.out; omega))
  have HSY := hid (fun u (h : Below w.heap.size w u) => tspans_any (strB y) u (HL.out.below h) (by rw [strB_size]; have := HCL.out; omega))
  simp only [bts_strB] at HSX HSY
  generalize rowP x = o1 at *
  generalize rowP y = o2 at *
  refine HSX.out.mono ?_
  rintro _ w2 ⟨A, c, rfl, hsa, hfa, hla, hb⟩
  have HSA := hid hsa
  have HFA := hid hfa
  have O1 := hid (O1.out.below hb)
  have O2 := hid (O2.out.below hb)
  have HB := hid (below_tr HB.out hb)
  have HW2 := hb.size
  clear hsa hfa hb HSX
  cases both
  · -- one row
    cases o1 with
    | none =>
      dsimp only [Option.getD_none, Option.isSome_none, List.length_nil] at *
      obtain ⟨y0, y1⟩ := O2.out.box.get2
      have HNO := hid (show setP (bts s) = none by rw [HST.out, HSP.out])
      obtain ⟨x0, x1⟩ := O1.out.box.get2
      have sf1 : ∀ j, w2.frozen? ⟨w.heap.size, j, none⟩ = false := O1.out.soft
      have hlt1 := O1.out.box.1
      have sf : ∀ j, w2.frozen? ⟨w.heap.size + 1, j, none⟩ = false := O2.out.soft
      have hlt := O2.out.box.1
      go_wp2_with fail
      refine body_name ?_
      intro w9 hw9
      have O9 : Own w.heap.size w9 w.heap.size [.slice none 0 0, .slice none 0 0] := by rw [hw9]; exact (O1.out.other (by omega) _).set2 _ _
      have B9 : Below w.heap.size w w9 := by rw [hw9]; exact below_put (below_put (below_put HB.out (by omega) _) (Nat.le_refl _) _) (Nat.le_refl _) _
      clear hw9
      obtain ⟨k0, k1⟩ := O9.box.get2
      refine bodyPost_ret (v := .tuple #[setV none 0 0 none 0 0, .int .i64 2]) (by simp [results, Tryz.results43, go_sem, k0, k1, setV]) rfl ?_
      rw [show setP (bts s) = none from HNO.out]
      exact tell_none B9
    | some l =>
      dsimp only [Option.getD_some, Option.isSome_some] at *
      obtain ⟨y0, y1⟩ := O2.out.box.get2
      have sf : ∀ j, w2.frozen? ⟨w.heap.size + 1, j, none⟩ = false := O2.out.soft
      have hlt := O2.out.box.1
      go_wp2_with fail
      refine calls_name ?_
      intro w3 hv
      have O2 := hid (show Own w.heap.size w3 (w.heap.size + 1) [.slice A l.length c, .slice none 0 0] by rw [hv]; exact O2.out.put (j := 0) (by simp) _)
      have O1 := hid (show Own w.heap.size w3 w.heap.size [.slice none 0 0, .slice none 0 0] by rw [hv]; exact O1.out.other (by omega) _)
      have HB := hid (show Below w.heap.size w w3 by rw [hv]; exact below_put HB.out (by omega) _)
      have HSA := hid (show SpanB w3 w1.heap.size A l by rw [hv]; exact spanB_put HSA.out HV1 _)
      clear hv y0 y1 sf hlt
      have HRAW := hid (show rawP (bts s) = some (l, []) by rw [HSP.out]; rfl)
      have HMAY := hid (fun v (h : Below w3.heap.size w3 v) => smay_any A none c 0 l [] v ((HL.out.below HB.out).below h).first (HSA.out.1.below h) .nil HFA.out fit_nil (by omega) (by simp))
      have HPR := hid (fun v (h : Below w3.heap.size w3 v) => tprint_set A none c 0 l [] v ((HL.out.below HB.out).below h) (HSA.out.1.below h) .nil HFA.out fit_nil (by omega) (by simp))
      simp only [List.length_nil] at HMAY HPR
      generalize hln : l.length = nl at *
      have HLN := hid hln
      clear hln
      refine (HMAY.out _ (Below.refl _ _)).mono ?_
      rintro _ z1 ⟨rfl, hb⟩
      have O1 := hid (O1.out.below hb)
      have O2 := hid (O2.out.below hb)
      have HB1 := hid (below_tr HB.out hb)
      have HBZ := hid hb
      clear hb
      cases hm : mayS l []
      · have HB := HB1
        obtain ⟨y0, y1⟩ := O2.out.box.get2
        have HNO := hid (show setP (bts s) = none by rw [HST.out, HRAW.out]; simp [hm])
        obtain ⟨x0, x1⟩ := O1.out.box.get2
        have sf1 : ∀ j, z1.frozen? ⟨w.heap.size, j, none⟩ = false := O1.out.soft
        have hlt1 := O1.out.box.1
        go_wp2_with fail
        refine body_name ?_
        intro w9 hw9
        have O9 : Own w.heap.size w9 w.heap.size [.slice none 0 0, .slice none 0 0] := by rw [hw9]; exact O1.out.set2 _ _
        have B9 : Below w.heap.size w w9 := by rw [hw9]; exact below_put (below_put HB.out (Nat.le_refl _) _) (Nat.le_refl _) _
        clear hw9
        obtain ⟨k0, k1⟩ := O9.box.get2
        refine bodyPost_ret (v := .tuple #[setV none 0 0 none 0 0, .int .i64 2]) (by simp [results, Tryz.results43, go_sem, k0, k1, setV]) rfl ?_
        rw [show setP (bts s) = none from HNO.out]
        exact tell_none B9
      · obtain ⟨y0, y1⟩ := O2.out.box.get2
        go_wp2_with fail
        refine (HPR.out _ HBZ.out).mono ?_
        rintro _ z2 ⟨tx, rfl, htx, hb⟩
        have HTX := hid htx
        have O1 := hid (O1.out.below hb)
        have O2 := hid (O2.out.below hb)
        have HBZ2 := hid (below_tr HBZ.out hb)
        have HB := hid (below_tr HB1.out hb)
        clear hb y0 y1 htx HB1 HBZ
        obtain ⟨y0, y1⟩ := O2.out.box.get2
        by_cases he : tx = s
        · subst he
          have HOK := hid (show setP (bts tx) = some (l, []) by rw [HST.out, HRAW.out]; simp [hm, HTX.out])
          obtain ⟨x0, x1⟩ := O1.out.box.get2
          have sf1 : ∀ j, z2.frozen? ⟨w.heap.size, j, none⟩ = false := O1.out.soft
          have hlt1 := O1.out.box.1
          go_wp2_with fail
          refine body_name ?_
          intro w9 hw9
          have O9 : Own w.heap.size w9 w.heap.size [.slice A nl c, .slice none 0 0] := by rw [hw9]; exact O1.out.set2 _ _
          have B9 : Below w.heap.size w w9 := by rw [hw9]; exact below_put (below_put HB.out (Nat.le_refl _) _) (Nat.le_refl _) _
          have S9 : SpanB w9 w1.heap.size A l := by rw [hw9]; exact spanB_put (spanB_put (spanB_below HSA.out HBZ2.out) (by omega) _) (by omega) _
          clear hw9
          obtain ⟨k0, k1⟩ := O9.box.get2
          refine bodyPost_ret (v := .tuple #[setV A nl c none 0 0, .int .i64 0]) (by simp [results, Tryz.results43, go_sem, k0, k1, setV]) rfl ?_
          rw [show setP (bts tx) = some (l, []) from HOK.out]
          refine ⟨A, c, none, 0, ?_, ⟨S9.1, fun ad h => by have := S9.2 ad h; omega⟩, spanB_none _ _, HFA.out, fit_nil, ?_, ?_, B9⟩
          · simp only [Option.getD_some, HLN.out, List.length_nil]; rfl
          · simp only [Option.getD_some, HLN.out]; omega
          · simp only [Option.getD_some]; simp
        · have hl : ¬ tx.toList = s.toList := fun e => he (bts_inj e)
          have hl2 : (tx.toList == s.toList) = false := by simpa using hl
          have HNE := hid (show ¬ setT l [] = bts s by rw [← HTX.out]; exact fun e => he (bts_inj e))
          have HNO := hid (show setP (bts s) = none by rw [HST.out, HRAW.out]; simp [hm, HNE.out])
          obtain ⟨x0, x1⟩ := O1.out.box.get2
          have sf1 : ∀ j, z2.frozen? ⟨w.heap.size, j, none⟩ = false := O1.out.soft
          have hlt1 := O1.out.box.1
          go_wp2_with fail
          refine body_name ?_
          intro w9 hw9
          have O9 : Own w.heap.size w9 w.heap.size [.slice none 0 0, .slice none 0 0] := by rw [hw9]; exact O1.out.set2 _ _
          have B9 : Below w.heap.size w w9 := by rw [hw9]; exact below_put (below_put HB.out (Nat.le_refl _) _) (Nat.le_refl _) _
          clear hw9
          obtain ⟨k0, k1⟩ := O9.box.get2
          refine bodyPost_ret (v := .tuple #[setV none 0 0 none 0 0, .int .i64 2]) (by simp [results, Tryz.results43, go_sem, k0, k1, setV]) rfl ?_
          rw [show setP (bts s) = none from HNO.out]
          exact tell_none B9
  · -- two rows
    obtain ⟨y0, y1⟩ := O2.out.box.get2
    have sf : ∀ j, w2.frozen? ⟨w.heap.size + 1, j, none⟩ = false := O2.out.soft
    have hlt := O2.out.box.1
    go_wp2_with fail
    refine calls_name ?_
    intro w3 hv
    have O2 := hid (show Own w.heap.size w3 (w.heap.size + 1) [.slice A (o1.getD []).length c, .slice none 0 0] by rw [hv]; exact O2.out.put (j := 0) (by simp) _)
    have O1 := hid (show Own w.heap.size w3 w.heap.size [.slice none 0 0, .slice none 0 0] by rw [hv]; exact O1.out.other (by omega) _)
    have HB := hid (show Below w.heap.size w w3 by rw [hv]; exact below_put HB.out (by omega) _)
    have HSA := hid (show SpanB w3 w1.heap.size A (o1.getD []) by rw [hv]; exact spanB_put HSA.out HV1 _)
    have hw31 : w1.heap.size ≤ w3.heap.size := by rw [hv, World.size_setCell]; exact HW2
    clear hv y0 y1 sf hlt
    refine (HSY.out _ HB.out).mono ?_
    rintro _ w4 ⟨B, d, rfl, hsb, hfb, hlb, hb⟩
    have HSB := hid (show SpanB w4 w1.heap.size B (o2.getD []) from ⟨hsb.1, fun ad h => by have := hsb.2 ad h; omega⟩)
    have HFB := hid hfb
    have O1 := hid (O1.out.below hb)
    have O2 := hid (O2.out.below hb)
    have HSA := hid (spanB_below HSA.out hb)
    have HB := hid (below_tr HB.out hb)
    clear hsb hfb hb
    cases o1 with
    | none =>
      dsimp only [Option.getD_none, Option.isSome_none, List.length_nil] at *
      obtain ⟨y0, y1⟩ := O2.out.box.get2
      have HNO := hid (show setP (bts s) = none by rw [HST.out, HSP.out])
      obtain ⟨x0, x1⟩ := O1.out.box.get2
      have sf1 : ∀ j, w4.frozen? ⟨w.heap.size, j, none⟩ = false := O1.out.soft
      have hlt1 := O1.out.box.1
      have sf : ∀ j, w4.frozen? ⟨w.heap.size + 1, j, none⟩ = false := O2.out.soft
      have hlt := O2.out.box.1
      go_wp2_with fail
      refine body_name ?_
      intro w9 hw9
      have O9 : Own w.heap.size w9 w.heap.size [.slice none 0 0, .slice none 0 0] := by rw [hw9]; exact (O1.out.other (by omega) _).set2 _ _
      have B9 : Below w.heap.size w w9 := by rw [hw9]; exact below_put (below_put (below_put HB.out (by omega) _) (Nat.le_refl _) _) (Nat.le_refl _) _
      clear hw9
      obtain ⟨k0, k1⟩ := O9.box.get2
      refine bodyPost_ret (v := .tuple #[setV none 0 0 none 0 0, .int .i64 2]) (by simp [results, Tryz.results43, go_sem, k0, k1, setV]) rfl ?_
      rw [show setP (bts s) = none from HNO.out]
      exact tell_none B9
    | some l =>
      cases o2 with
      | none =>
        dsimp only [Option.getD_none, Option.isSome_none, List.length_nil, Option.getD_some, Option.isSome_some] at *
        obtain ⟨y0, y1⟩ := O2.out.box.get2
        have HNO := hid (show setP (bts s) = none by rw [HST.out, HSP.out]; rfl)
        obtain ⟨x0, x1⟩ := O1.out.box.get2
        have sf1 : ∀ j, w4.frozen? ⟨w.heap.size, j, none⟩ = false := O1.out.soft
        have hlt1 := O1.out.box.1
        have sf : ∀ j, w4.frozen? ⟨w.heap.size + 1, j, none⟩ = false := O2.out.soft
        have hlt := O2.out.box.1
        go_wp2_with fail
        refine body_name ?_
        intro w9 hw9
        have O9 : Own w.heap.size w9 w.heap.size [.slice none 0 0, .slice none 0 0] := by rw [hw9]; exact (O1.out.other (by omega) _).set2 _ _
        have B9 : Below w.heap.size w w9 := by rw [hw9]; exact below_put (below_put (below_put HB.out (by omega) _) (Nat.le_refl _) _) (Nat.le_refl _) _
        clear hw9
        obtain ⟨k0, k1⟩ := O9.box.get2
        refine bodyPost_ret (v := .tuple #[setV none 0 0 none 0 0, .int .i64 2]) (by simp [results, Tryz.results43, go_sem, k0, k1, setV]) rfl ?_
        rw [show setP (bts s) = none from HNO.out]
        exact tell_none B9
      | some m =>
        dsimp only [Option.getD_some, Option.isSome_some] at *
        obtain ⟨y0, y1⟩ := O2.out.box.get2
        have sf : ∀ j, w4.frozen? ⟨w.heap.size + 1, j, none⟩ = false := O2.out.soft
        have hlt := O2.out.box.1
        go_wp2_with fail
        refine calls_name ?_
        intro w5 hv
        have O2 := hid (show Own w.heap.size w5 (w.heap.size + 1) [.slice A l.length c, .slice B m.length d] by rw [hv]; exact O2.out.put (j := 1) (by simp) _)
        have O1 := hid (show Own w.heap.size w5 w.heap.size [.slice none 0 0, .slice none 0 0] by rw [hv]; exact O1.out.other (by omega) _)
        have HB := hid (show Below w.heap.size w w5 by rw [hv]; exact below_put HB.out (by omega) _)
        have HSA := hid (show SpanB w5 w1.heap.size A l by rw [hv]; exact spanB_put HSA.out HV1 _)
        have HSB := hid (show SpanB w5 w1.heap.size B m by rw [hv]; exact spanB_put HSB.out HV1 _)
        clear hv y0 y1 sf hlt
        have HRAW := hid (show rawP (bts s) = some (l, m) by rw [HSP.out]; rfl)
        have HMAY := hid (fun v (h : Below w5.heap.size w5 v) => smay_any A B c d l m v ((HL.out.below HB.out).below h).first (HSA.out.1.below h) (HSB.out.1.below h) HFA.out HFB.out (by omega) (by omega))
        have HPR := hid (fun v (h : Below w5.heap.size w5 v) => tprint_set A B c d l m v ((HL.out.below HB.out).below h) (HSA.out.1.below h) (HSB.out.1.below h) HFA.out HFB.out (by omega) (by omega))
        generalize hln : l.length = nl at *
        have HLN := hid hln
        clear hln
        generalize hlm : m.length = nm at *
        have HLM := hid hlm
        clear hlm
        refine (HMAY.out _ (Below.refl _ _)).mono ?_
        rintro _ z1 ⟨rfl, hb⟩
        have O1 := hid (O1.out.below hb)
        have O2 := hid (O2.out.below hb)
        have HB1 := hid (below_tr HB.out hb)
        have HBZ := hid hb
        clear hb
        cases hm : mayS l m
        · have HB := HB1
          obtain ⟨y0, y1⟩ := O2.out.box.get2
          have HNO := hid (show setP (bts s) = none by rw [HST.out, HRAW.out]; simp [hm])
          obtain ⟨x0, x1⟩ := O1.out.box.get2
          have sf1 : ∀ j, z1.frozen? ⟨w.heap.size, j, none⟩ = false := O1.out.soft
          have hlt1 := O1.out.box.1
          go_wp2_with fail
          refine body_name ?_
          intro w9 hw9
          have O9 : Own w.heap.size w9 w.heap.size [.slice none 0 0, .slice none 0 0] := by rw [hw9]; exact O1.out.set2 _ _
          have B9 : Below w.heap.size w w9 := by rw [hw9]; exact below_put (below_put HB.out (Nat.le_refl _) _) (Nat.le_refl _) _
          clear hw9
          obtain ⟨k0, k1⟩ := O9.box.get2
          refine bodyPost_ret (v := .tuple #[setV none 0 0 none 0 0, .int .i64 2]) (by simp [results, Tryz.results43, go_sem, k0, k1, setV]) rfl ?_
          rw [show setP (bts s) = none from HNO.out]
          exact tell_none B9
        · obtain ⟨y0, y1⟩ := O2.out.box.get2
          go_wp2_with fail
          refine (HPR.out _ HBZ.out).mono ?_
          rintro _ z2 ⟨tx, rfl, htx, hb⟩
          have HTX := hid htx
          have O1 := hid (O1.out.below hb)
          have O2 := hid (O2.out.below hb)
          have HBZ2 := hid (below_tr HBZ.out hb)
          have HB := hid (below_tr HB1.out hb)
          clear hb y0 y1 htx HB1 HBZ
          obtain ⟨y0, y1⟩ := O2.out.box.get2
          by_cases he : tx = s
          · subst he
            have HOK := hid (show setP (bts tx) = some (l, m) by rw [HST.out, HRAW.out]; simp [hm, HTX.out])
            obtain ⟨x0, x1⟩ := O1.out.box.get2
            have sf1 : ∀ j, z2.frozen? ⟨w.heap.size, j, none⟩ = false := O1.out.soft
            have hlt1 := O1.out.box.1
            go_wp2_with fail
            refine body_name ?_
            intro w9 hw9
            have O9 : Own w.heap.size w9 w.heap.size [.slice A nl c, .slice B nm d] := by rw [hw9]; exact O1.out.set2 _ _
            have B9 : Below w.heap.size w w9 := by rw [hw9]; exact below_put (below_put HB.out (Nat.le_refl _) _) (Nat.le_refl _) _
            have S9 : SpanB w9 w1.heap.size A l := by rw [hw9]; exact spanB_put (spanB_put (spanB_below HSA.out HBZ2.out) (by omega) _) (by omega) _
            have T9 : SpanB w9 w1.heap.size B m := by rw [hw9]; exact spanB_put (spanB_put (spanB_below HSB.out HBZ2.out) (by omega) _) (by omega) _
            clear hw9
            obtain ⟨k0, k1⟩ := O9.box.get2
            refine bodyPost_ret (v := .tuple #[setV A nl c B nm d, .int .i64 0]) (by simp [results, Tryz.results43, go_sem, k0, k1, setV]) rfl ?_
            rw [show setP (bts tx) = some (l, m) from HOK.out]
            refine ⟨A, c, B, d, ?_, ⟨S9.1, fun ad h => by have := S9.2 ad h; omega⟩, ⟨T9.1, fun ad h => by have := T9.2 ad h; omega⟩, HFA.out, HFB.out, ?_, ?_, B9⟩
            · simp only [Option.getD_some, HLN.out, HLM.out]; rfl
            · simp only [Option.getD_some, HLN.out]; omega
            · simp only [Option.getD_some, HLM.out]; omega
          · have hl : ¬ tx.toList = s.toList := fun e => he (bts_inj e)
            have hl2 : (tx.toList == s.toList) = false := by simpa using hl
            have HNE := hid (show ¬ setT l m = bts s by rw [← HTX.out]; exact fun e => he (bts_inj e))
            have HNO := hid (show setP (bts s) = none by rw [HST.out, HRAW.out]; simp [hm, HNE.out])
            obtain ⟨x0, x1⟩ := O1.out.box.get2
            have sf1 : ∀ j, z2.frozen? ⟨w.heap.size, j, none⟩ = false := O1.out.soft
            have hlt1 := O1.out.box.1
            go_wp2_with fail
            refine body_name ?_
            intro w9 hw9
            have O9 : Own w.heap.size w9 w.heap.size [.slice none 0 0, .slice none 0 0] := by rw [hw9]; exact O1.out.set2 _ _
            have B9 : Below w.heap.size w w9 := by rw [hw9]; exact below_put (below_put HB.out (Nat.le_refl _) _) (Nat.le_refl _) _
            clear hw9
            obtain ⟨k0, k1⟩ := O9.box.get2
            refine bodyPost_ret (v := .tuple #[setV none 0 0 none 0 0, .int .i64 2]) (by simp [results, Tryz.results43, go_sem, k0, k1, setV]) rfl ?_
            rw [show setP (bts s) = none from HNO.out]
            exact tell_none B9
end Go.Proofs.YtjceaniffooohaaGreatDoor
