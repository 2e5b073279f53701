/- Versions, cuts, spans, rows out of numbers. -/
import Derived.Test.YtmnjnoggchgnjaaGreatDoorBa
import Derived.Test.YtmnjnoggchgnjaaGreatDoorBh
namespace Go.Proofs.YtmnjnoggchgnjaaGreatDoor
open Go.RowKit Go.Lib
set_option linter.unusedVariables false
set_option linter.unusedSimpArgs false

def numA : List Int := [0, 1, 2, 3, 0, 1, 10, 9999]
def preA : List (List UInt8) := [[], [], [], [], [48], [49], [50], [49, 49], [97], [97, 46, 49], [97, 46, 98], [98], [48, 46, 48], [114, 99, 46, 49]]
def bldA : List (List UInt8) := [[], [], [], [], [48, 48, 55], [120, 46, 49]]
def versionL (zs : List Int) (i : Int) : Ver := ⟨numA.getD (fromL zs i 8).toNat 0, numA.getD (fromL zs (i + 1) 8).toNat 0, numA.getD (fromL zs (i + 2) 8).toNat 0, ⟨(preA.getD (fromL zs (i + 3) 14).toNat []).toArray⟩, ⟨(bldA.getD (fromL zs (i + 4) 6).toNat []).toArray⟩⟩
def arrN : List Value := numA.map (Value.int .i64)
def arrP : List Value := preA.map strV
def arrB : List Value := bldA.map strV
theorem arr_get {α : Type} (f : α → Value) (l : List α) (d : α) (r : Int) (h0 : 0 ≤ r) (h1 : r < l.length) : (l.map f)[r.toNat]? = some (f (l.getD r.toNat d)) := by
  have : r.toNat < l.length := by omega
  simp [this]
theorem wp_name {P : Program} {c : Code} {Q : Exit → Act → World → Prop} {a : Act} {w : World} (h : ∀ w', w' = w → c.wp P Q a w') : c.wp P Q a w := h w rfl
set_option maxRecDepth 100000 in
set_option maxHeartbeats 1000000 in
theorem version_any (A : Option Addr) (cap : Nat) (zs : List Int) (i : Int) (w : World) (h : IntsAt w A zs) (hi : 0 ≤ i) (hi2 : i ≤ 100000000) (hln : zs.length ≤ 9223372036854775807) : Calls Tryz.prog 15 #[.slice A zs.length cap, .int .i64 i] w (VerPost w (versionL zs i)) := by
  have hf : ∀ (j n : Int) (w' : World), Below w.heap.size w w' → 0 ≤ j → j ≤ 1000000000 → 0 < n → n ≤ 1000000 → Calls Tryz.prog 51 #[.slice A zs.length cap, .int .i64 j, .int .i64 n] w' fun e w'' => e = .returned (.int .i64 (fromL zs j n)) ∧ w'' = w' := fun j n w' hb h1 h2 h3 h4 => (from_any A cap zs j n w' (h.below hb) h1 h2 hln h3 h4).mono fun _ _ ⟨h1, h2⟩ => ⟨h1, h2.symm⟩
  have HF := hid hf
  have HV := hid (show versionL zs i = ⟨numA.getD (fromL zs i 8).toNat 0, numA.getD (fromL zs (i + 1) 8).toNat 0, numA.getD (fromL zs (i + 2) 8).toNat 0, ⟨(preA.getD (fromL zs (i + 3) 14).toNat []).toArray⟩, ⟨(bldA.getD (fromL zs (i + 4) 6).toNat []).toArray⟩⟩ from rfl)
  have b1 := fromL_bd zs i 8 (by omega)
  have b2 := fromL_bd zs (i + 1) 8 (by omega)
  have b3 := fromL_bd zs (i + 2) 8 (by omega)
  have b4 := fromL_bd zs (i + 3) 14 (by omega)
  have b5 := fromL_bd zs (i + 4) 6 (by omega)
  have C1 := hid (fun w' hb => hf i 8 w' hb hi (by omega) (by omega) (by omega))
  have C2 := hid (fun w' hb => hf (i + 1) 8 w' hb (by omega) (by omega) (by omega) (by omega))
  have C3 := hid (fun w' hb => hf (i + 2) 8 w' hb (by omega) (by omega) (by omega) (by omega))
  have C4 := hid (fun w' hb => hf (i + 3) 14 w' hb (by omega) (by omega) (by omega) (by omega))
  have C5 := hid (fun w' hb => hf (i + 4) 6 w' hb (by omega) (by omega) (by omega) (by omega))
  clear h hf HF
  generalize fromL zs i 8 = r1 at *
  generalize fromL zs (i + 1) 8 = r2 at *
  generalize fromL zs (i + 2) 8 = r3 at *
  generalize fromL zs (i + 3) 14 = r4 at *
  generalize fromL zs (i + 4) 6 = r5 at *
  obtain ⟨b1, d1⟩ := b1
  obtain ⟨b2, d2⟩ := b2
  obtain ⟨b3, d3⟩ := b3
  obtain ⟨b4, d4⟩ := b4
  obtain ⟨b5, d5⟩ := b5
  generalize zs.length = n at *
  go_enter Tryz.func15, Tryz.ntmps15
  go_wp2_with fail
  refine wp_name ?_
  intro w4 hw4
  have HB4 : Hid (Below w.heap.size w w4) := hid (by
    rw [hw4]; exact below_tr (below_tr (below_tr (below_new _ _) (below_new _ _)) (below_new _ _)) (below_new _ _))
  have X0 : Hid (Box w4 w.heap.size zeroV.cells) := hid (by
    rw [hw4]; exact (((Box.new w zeroV.cells _).below (below_new _ _)).below (below_new _ _)).below (below_new _ _))
  have X1 : Hid (Box w4 (w.heap.size + 1) arrN) := hid (by
    rw [hw4]
    have := (Box.new (w.alloc (.cells zeroV.cells.toArray 28)) arrN 52)
    simp only [World.size_alloc] at this
    exact (this.below (below_new _ _)).below (below_new _ _))
  have X2 : Hid (Box w4 (w.heap.size + 1 + 1) arrP) := hid (by
    rw [hw4]
    have := (Box.new ((w.alloc (.cells zeroV.cells.toArray 28)).alloc (.cells arrN.toArray 52)) arrP 53)
    simp only [World.size_alloc] at this
    exact this.below (below_new _ _))
  have X3 : Hid (Box w4 (w.heap.size + 1 + 1 + 1) arrB) := hid (by
    rw [hw4]
    have := (Box.new (((w.alloc (.cells zeroV.cells.toArray 28)).alloc (.cells arrN.toArray 52)).alloc (.cells arrP.toArray 53)) arrB 54)
    simp only [World.size_alloc] at this
    exact this)
  have S0 : Hid (Soft w4 w.heap.size) := hid (by
    rw [hw4]
    exact (((Soft.new w zeroV.cells.toArray 28).below (by simp) (below_new _ _)).below (by simp; omega) (below_new _ _)).below (by simp; omega) (below_new _ _))
  clear hw4
  have HB5 := hid HB4.out.drew
  have X0 := hid (X0.out.below (Below.refl _ _).drew)
  have X1 := hid (X1.out.below (Below.refl _ _).drew)
  have X2 := hid (X2.out.below (Below.refl _ _).drew)
  have X3 := hid (X3.out.below (Below.refl _ _).drew)
  have S0 := hid (show Soft w4.drew w.heap.size from S0.out)
  have q1 := X1.out.2 _ _ (arr_get (Value.int .i64) numA 0 r1 b1 d1)
  have q2 := X1.out.2 _ _ (arr_get (Value.int .i64) numA 0 r2 b2 d2)
  have q3 := X1.out.2 _ _ (arr_get (Value.int .i64) numA 0 r3 b3 d3)
  have q4 : w4.drew.cell? ⟨w.heap.size + 1 + 1, r4.toNat, none⟩ = some (.string ⟨(preA.getD r4.toNat []).toArray⟩) := X2.out.2 _ _ (arr_get strV preA [] r4 b4 d4)
  have q5 : w4.drew.cell? ⟨w.heap.size + 1 + 1 + 1, r5.toNat, none⟩ = some (.string ⟨(bldA.getD r5.toNat []).toArray⟩) := X3.out.2 _ _ (arr_get strV bldA [] r5 b5 d5)
  have C1 := hid (C1.out _ HB5.out)
  have C2 := hid (C2.out _ HB5.out)
  have C3 := hid (C3.out _ HB5.out)
  have C4 := hid (C4.out _ HB5.out)
  have C5 := hid (C5.out _ HB5.out)
  generalize numA.getD r1.toNat 0 = v1 at *
  generalize numA.getD r2.toNat 0 = v2 at *
  generalize numA.getD r3.toNat 0 = v3 at *
  generalize (⟨(preA.getD r4.toNat []).toArray⟩ : ByteArray) = v4 at *
  generalize (⟨(bldA.getD r5.toNat []).toArray⟩ : ByteArray) = v5 at *
  refine wp_region_still_tail 30 (by kernel_rfl) (by kernel_rfl) ?_
  change wpStill _ _ w4.drew (fun a' => wpList _ _ _ _ a' w4.drew) _ _
  generalize w4.drew = w5 at *
  simp only [List.take_succ_cons, List.take_zero, List.drop_succ_cons, List.drop_zero]
  have y1 : IntKind.i64.wrap (i + 1) = i + 1 := IntWalk.i64_in _ (by omega)
  have y2 : IntKind.i64.wrap (i + 2) = i + 2 := IntWalk.i64_in _ (by omega)
  have y3 : IntKind.i64.wrap (i + 3) = i + 3 := IntWalk.i64_in _ (by omega)
  have y4 : IntKind.i64.wrap (i + 4) = i + 4 := IntWalk.i64_in _ (by omega)
  repeat still_step
  still_call C1.out
  repeat still_step
  still_call C2.out
  repeat still_step
  still_call C3.out
  repeat still_step
  still_call C4.out
  repeat still_step
  still_call C5.out
  repeat still_step
  refine wpStill_nil ?_
  clear y1 y2 y3 y4 q1 q2 q3 q4 q5
  obtain ⟨hg0, hx0⟩ := X0.out
  obtain ⟨t0, t1, t2, t3, t4⟩ := X0.out.get5
  have hfz : ∀ j, w5.frozen? ⟨w.heap.size, j, none⟩ = false := S0.out
  clear hx0
  go_wp2_with fail
  rw [show (((((w5.setCell ⟨w.heap.size, 0, none⟩ (.int .i64 v1)).setCell ⟨w.heap.size, 1, none⟩ (.int .i64 v2)).setCell ⟨w.heap.size, 2, none⟩ (.int .i64 v3)).setCell ⟨w.heap.size, 3, none⟩ (.string v4)).setCell ⟨w.heap.size, 4, none⟩ (.string v5)) = w5.setCells w.heap.size 0 (Ver.cells ⟨v1, v2, v3, v4, v5⟩) from rfl]
  have HEND : Hid (Box (w5.setCells w.heap.size 0 (Ver.cells ⟨v1, v2, v3, v4, v5⟩)) w.heap.size (Ver.cells ⟨v1, v2, v3, v4, v5⟩)) := hid (X0.out.set (o := 0) (vs := Ver.cells ⟨v1, v2, v3, v4, v5⟩) (by simp))
  have HB6 := hid (HB5.out.setCells (Nat.le_refl _) (Ver.cells ⟨v1, v2, v3, v4, v5⟩) 0)
  clear hg0 t0 t1 t2 t3 t4 hfz
  generalize w5.setCells w.heap.size 0 (Ver.cells ⟨v1, v2, v3, v4, v5⟩) = w6 at *
  obtain ⟨k0, k1, k2, k3, k4⟩ := HEND.out.get5
  refine bodyPost_ret (v := (Ver.val ⟨v1, v2, v3, v4, v5⟩)) (by simp [results, Tryz.results15, go_sem, k0, k1, k2, k3, k4]) rfl ⟨?_, HB6.out⟩
  rw [HV.out]
end Go.Proofs.YtmnjnoggchgnjaaGreatDoor
/- Cuts out of numbers. -/
namespace Go.Proofs.YtmnjnoggchgnjaaGreatDoor
open Go.RowKit Go.Lib
set_option linter.unusedVariables false
set_option linter.unusedSimpArgs false

theorem getD_mem {α : Type} {l : List α} {r : Int} {d : α} (h0 : 0 ≤ r) (h1 : r < l.length) : l.getD r.toNat d ∈ l := by
  have : r.toNat < l.length := by omega
  simp [this]
theorem numA_ok : ∀ x, x ∈ numA → fitsI x = true := by decide
theorem preA_ok : ∀ x, x ∈ preA → preOk x = true ∧ x.length ≤ 8 := by decide +kernel
theorem bldA_ok : ∀ x, x ∈ bldA → bldOk x = true ∧ x.length ≤ 8 := by decide +kernel
theorem bts_mk (l : List UInt8) : bts ⟨l.toArray⟩ = l := by rw [bts, bts_data]
theorem versionL_ok (zs : List Int) (i : Int) : mayV (versionL zs i) = true ∧ (versionL zs i).fit := by
  have b1 := fromL_bd zs i 8 (by omega)
  have b2 := fromL_bd zs (i + 1) 8 (by omega)
  have b3 := fromL_bd zs (i + 2) 8 (by omega)
  have b4 := fromL_bd zs (i + 3) 14 (by omega)
  have b5 := fromL_bd zs (i + 4) 6 (by omega)
  have p1 := preA_ok _ (getD_mem (d := []) b4.1 b4.2)
  have p2 := bldA_ok _ (getD_mem (d := []) b5.1 b5.2)
  constructor
  · simp only [mayV, versionL, bts_mk, p1.1, p2.1, numA_ok _ (getD_mem b1.1 b1.2), numA_ok _ (getD_mem b2.1 b2.2), numA_ok _ (getD_mem b3.1 b3.2), Bool.and_self]
  · have e : ∀ l : List UInt8, (⟨l.toArray⟩ : ByteArray).size = l.length := fun l => by rw [← bts_len, bts_mk]
    simp only [Ver.fit, versionL, e]
    omega
def cutL (zs : List Int) (i : Int) : CutL := if fromL zs (i + 5) 9 < 2 then ⟨2 * fromL zs (i + 5) 9 - 1, zeroV, false⟩ else ⟨0, bareV (versionL zs i), fromL zs (i + 5) 2 == 1⟩
theorem cutL_ok (zs : List Int) (i : Int) : mayC (cutL zs i) = true ∧ (cutL zs i).fit := by
  have hb := fromL_bd zs (i + 5) 9 (by omega)
  have hv := versionL_ok zs i
  unfold cutL
  split
  · refine ⟨?_, ?_⟩
    · rw [mayC_end (by simp only; omega), eqVer_iff.2 rfl]; rfl
    · exact firstC_fit
  · refine ⟨?_, ?_⟩
    · rw [mayC_zero rfl]
      rw [show bts (bareV (versionL zs i)).bld = [] from bts_e, bare_may hv.1]; rfl
    · have h2 := hv.2
      simp only [CutL.fit, Ver.fit, bareV] at h2 ⊢
      exact ⟨h2.1, by decide⟩
theorem zero_cells : zeroV.cells = [.int .i64 0, .int .i64 0, .int .i64 0, .string ⟨#[]⟩, .string ⟨#[]⟩] := rfl
def zeroC : CutL := ⟨0, zeroV, false⟩

set_option maxRecDepth 100000 in
set_option maxHeartbeats 1000000 in
theorem cut_any (A : Option Addr) (cap : Nat) (zs : List Int) (i : Int) (w : World) (h : IntsAt w A zs) (hi : 0 ≤ i) (hi2 : i ≤ 10000000) (hln : zs.length ≤ 9223372036854775807) : Calls Tryz.prog 124 #[.slice A zs.length cap, .int .i64 i] w (CutPost w (cutL zs i)) := by
  have hf : ∀ (j n : Int) (w' : World), Below w.heap.size w w' → 0 ≤ j → j ≤ 1000000000 → 0 < n → n ≤ 1000000 → Calls Tryz.prog 51 #[.slice A zs.length cap, .int .i64 j, .int .i64 n] w' fun e w'' => e = .returned (.int .i64 (fromL zs j n)) ∧ w'' = w' := fun j n w' hb h1 h2 h3 h4 => (from_any A cap zs j n w' (h.below hb) h1 h2 hln h3 h4).mono fun _ _ ⟨h1, h2⟩ => ⟨h1, h2.symm⟩
  have C1 := hid (fun w' hb => hf (i + 5) 9 w' hb (by omega) (by omega) (by omega) (by omega))
  have C2 := hid (fun w' hb => hf (i + 5) 2 w' hb (by omega) (by omega) (by omega) (by omega))
  have CV := hid (fun w' (hb : Below w.heap.size w w') => version_any A cap zs i w' (h.below hb) hi (by omega) hln)
  have b1 := fromL_bd zs (i + 5) 9 (by omega)
  have b2 := fromL_bd zs (i + 5) 2 (by omega)
  have HC := hid (show cutL zs i = (if fromL zs (i + 5) 9 < 2 then ⟨2 * fromL zs (i + 5) 9 - 1, zeroV, false⟩ else ⟨0, bareV (versionL zs i), fromL zs (i + 5) 2 == 1⟩ : CutL) from rfl)
  clear h hf
  generalize fromL zs (i + 5) 9 = k at *
  generalize fromL zs (i + 5) 2 = q at *
  generalize versionL zs i = v at *
  generalize zs.length = n at *
  obtain ⟨b1, d1⟩ := b1
  obtain ⟨b2, d2⟩ := b2
  have HBN := hid (below_new w (.cells zeroC.cells.toArray 58))
  have HX0 := hid (Box.new w zeroC.cells 58)
  have HS0 := hid (Soft.new w zeroC.cells.toArray 58)
  have C1 := hid (C1.out _ HBN.out)
  go_enter Tryz.func124, Tryz.ntmps124
  go_wp2_with fail
  refine C1.out.mono ?_
  rintro _ w2 ⟨rfl, hw2⟩
  obtain ⟨t0, t1, t2, t3, t4, t5, t6⟩ := HX0.out.get7
  rw [← hw2] at HBN HX0 HS0 t0 t1 t2 t3 t4 t5 t6
  clear hw2
  cases hd : decide (k < 2)
  · have hk : ¬ k < 2 := by simpa using hd
    rw [if_neg hk] at HC
    clear hk t0 t1 t2 t3 t4 t5 t6
    go_wp2_with fail
    refine (CV.out _ HBN.out).mono ?_
    rintro _ w3 ⟨rfl, hb3⟩
    have HB3 := hid (HBN.out.trans (hb3.mono HBN.out.size))
    have HX3 := hid (HX0.out.below hb3)
    have HS3 := hid (HS0.out.below HX0.out.1 hb3)
    have HNW := hid (below_new w3 (.cells (bareV v).cells.toArray 28))
    have HY3 := hid (Box.new w3 (bareV v).cells 28)
    clear hb3
    go_wp2_with fail
    refine wp_name ?_
    intro w4 hw4
    have hgl := hid HX3.out.1
    have HB4 : Hid (Below w.heap.size w w4) := hid (by rw [hw4]; exact HB3.out.trans (HNW.out.mono HB3.out.size))
    have HX4 : Hid (Box w4 w.heap.size zeroC.cells) := hid (by rw [hw4]; exact HX3.out.below HNW.out)
    have HS4 : Hid (Soft w4 w.heap.size) := hid (by rw [hw4]; exact HS3.out.below hgl.out HNW.out)
    have HY4 : Hid (Box w4 w3.heap.size (bareV v).cells) := hid (by rw [hw4]; exact HY3.out)
    clear hw4 HY3 HX3 HS3 HB3 HNW
    generalize bareV v = u at *
    have HB5 := hid HB4.out.drew
    have HX5 := hid (HX4.out.below (Below.refl _ _).drew)
    have HS5 := hid (show Soft w4.drew w.heap.size from HS4.out)
    have HY5 := hid (HY4.out.below (Below.refl _ _).drew)
    have C2 := hid (C2.out _ HB5.out)
    refine wp_region_still_tail 7 (by kernel_rfl) (by kernel_rfl) ?_
    change wpStill _ _ w4.drew (fun a' => wpList _ _ _ _ a' w4.drew) _ _
    generalize w4.drew = w5 at *
    simp only [List.take_succ_cons, List.take_zero, List.drop_succ_cons, List.drop_zero]
    have y1 : IntKind.i64.wrap (i + 5) = i + 5 := IntWalk.i64_in _ (by omega)
    obtain ⟨t0, t1, t2, t3, t4⟩ := HY5.out.get5
    repeat still_step
    still_call C2.out
    repeat still_step
    refine wpStill_nil ?_
    clear y1 t0 t1 t2 t3 t4
    obtain ⟨t0, t1, t2, t3, t4, t5, t6⟩ := HX5.out.get7
    have hfz : ∀ j, w5.frozen? ⟨w.heap.size, j, none⟩ = false := HS5.out
    go_wp2_with fail
    rw [show (((((((w5.setCell ⟨w.heap.size, 0, none⟩ (.int .i64 0)).setCell ⟨w.heap.size, 1, none⟩ (.int .i64 u.maj)).setCell ⟨w.heap.size, 2, none⟩ (.int .i64 u.min)).setCell ⟨w.heap.size, 3, none⟩ (.int .i64 u.pat)).setCell ⟨w.heap.size, 4, none⟩ (.string u.pre)).setCell ⟨w.heap.size, 5, none⟩ (.string u.bld)).setCell ⟨w.heap.size, 6, none⟩ (.bool (q == 1))) = w5.setCells w.heap.size 0 (CutL.cells ⟨0, u, q == 1⟩) from rfl]
    have HEND := hid (HX5.out.set7 ⟨0, u, q == 1⟩)
    have HB6 := hid (HB5.out.setCells (Nat.le_refl _) (CutL.cells ⟨0, u, q == 1⟩) 0)
    clear t0 t1 t2 t3 t4 t5 t6 hfz
    generalize w5.setCells w.heap.size 0 (CutL.cells ⟨0, u, q == 1⟩) = w6 at *
    obtain ⟨k0, k1, k2, k3, k4, k5, k6⟩ := HEND.out.get7
    refine bodyPost_ret (v := (CutL.val ⟨0, u, q == 1⟩)) (by simp [results, Tryz.results124, go_sem, k0, k1, k2, k3, k4, k5, k6]) rfl ⟨?_, HB6.out⟩
    rw [HC.out]
  · have hk : k < 2 := by simpa using hd
    rw [if_pos hk] at HC
    have hfz : ∀ j, w2.frozen? ⟨w.heap.size, j, none⟩ = false := HS0.out
    go_wp2_with fail
    rw [show (((((((w2.setCell ⟨w.heap.size, 0, none⟩ (.int .i64 (2 * k - 1))).setCell ⟨w.heap.size, 1, none⟩ (.int .i64 0)).setCell ⟨w.heap.size, 2, none⟩ (.int .i64 0)).setCell ⟨w.heap.size, 3, none⟩ (.int .i64 0)).setCell ⟨w.heap.size, 4, none⟩ (.string ⟨#[]⟩)).setCell ⟨w.heap.size, 5, none⟩ (.string ⟨#[]⟩)).setCell ⟨w.heap.size, 6, none⟩ (.bool false)) = w2.setCells w.heap.size 0 (CutL.cells ⟨2 * k - 1, zeroV, false⟩) from rfl]
    have HEND := hid (HX0.out.set7 ⟨2 * k - 1, zeroV, false⟩)
    have HB6 := hid (HBN.out.setCells (Nat.le_refl _) (CutL.cells ⟨2 * k - 1, zeroV, false⟩) 0)
    clear t0 t1 t2 t3 t4 t5 t6 hfz
    generalize w2.setCells w.heap.size 0 (CutL.cells ⟨2 * k - 1, zeroV, false⟩) = w6 at *
    obtain ⟨k0, k1, k2, k3, k4, k5, k6⟩ := HEND.out.get7
    refine bodyPost_ret (v := (CutL.val ⟨2 * k - 1, zeroV, false⟩)) (by simp [results, Tryz.results124, go_sem, k0, k1, k2, k3, k4, k5, k6]) rfl ⟨?_, HB6.out⟩
    rw [HC.out]
end Go.Proofs.YtmnjnoggchgnjaaGreatDoor
/- Spans and rows out of numbers. -/
namespace Go.Proofs.YtmnjnoggchgnjaaGreatDoor
open Go.RowKit Go.Lib
set_option linter.unusedVariables false
set_option linter.unusedSimpArgs false

def allMay (l : List SpanL) : Prop := ∀ s, s ∈ l → spanMay s = true
/-- some spans, each of which may be, have come back in memory of their own -/
def SpansPost (w : World) (base most : Nat) (e : Ending) (w' : World) : Prop := ∃ v l, e = .returned v ∧ OwnS w' base v l ∧ fitAll l ∧ allMay l ∧ l.length ≤ most ∧ Below base w w'
set_option maxRecDepth 100000 in
set_option maxHeartbeats 1000000 in
theorem spans_any (base most : Nat) (A : Option Addr) (cap : Nat) (zs : List Int) (i : Int) (w : World) (h : IntsAt w A zs) (hi : 0 ≤ i) (hi2 : i ≤ 1000000) (hm : most ≤ 100) (hln : zs.length ≤ 9223372036854775807) (hbase : base ≤ w.heap.size) : Calls Tryz.prog 89 #[.slice A zs.length cap, .int .i64 i, .int .i64 (most : Int)] w (SpansPost w base most) := by
  have C0 := hid (from_any A cap zs i ((most : Int) + 1) w h hi (by omega) hln (by omega) (by omega))
  have CC := hid (fun (j : Int) w' (hb : Below w.heap.size w w') (h1 : 0 ≤ j) (h2 : j ≤ 10000000) => cut_any A cap zs j w' (h.below hb) h1 h2 hln)
  have b0 := fromL_bd zs i ((most : Int) + 1) (by omega)
  have CO := hid (fun (j : Int) => cutL_ok zs j)
  have hM : maxLen = 9223372036854775807 := rfl
  clear h
  generalize fromL zs i ((most : Int) + 1) = k0 at *
  obtain ⟨k0, rfl⟩ := Int.eq_ofNat_of_zero_le b0.1
  have b1 : k0 ≤ most := by omega
  clear b0
  generalize zs.length = n at *
  go_enter Tryz.func89, Tryz.ntmps89
  go_wp2_with fail
  refine C0.out.mono ?_
  rintro _ _ ⟨rfl, rfl⟩
  go_wp2_with fail
  go_loopw [9, 8, 7] (fun _ i o wr => ∃ (k : Nat) (v : Value) (out : List SpanL), i = .int .i64 k ∧ v = o ∧ k ≤ most ∧ Hid (HasRow wr w.heap.size v out (most - k)) ∧ Hid (allMay out) ∧ Below w.heap.size w wr) (fun _ i _ _ => (intOf i).toNat)
  case atStart => exact ⟨k0, _, [], rfl, rfl, b1, ⟨OwnS.nil _ _, (fun s h => by cases h), by simp⟩, (fun s h => by cases h), Below.refl _ _⟩
  case round =>
    obtain ⟨k, v, out, rfl, rfl, hk, HR, HG, hbr⟩ := hrel
    have HBR := hid hbr
    have hgw := hid hbr.size
    cases k with
    | zero =>
      have hd : decide ((0 : Int) < ((0 : Nat) : Int)) = false := by simp
      go_wp2_with fail
      go_ret
      exact ⟨v, out, rfl, OwnS.low HR.out.own hbase, HR.out.fit, HG.out, Nat.le_trans HR.out.len (Nat.sub_le _ _), HBR.out.mono hbase⟩
    | succ k =>
      have hkc : ((k + 1 : Nat) : Int) = (k : Int) + 1 := by omega
      have j1 : 0 ≤ i + 12 * ((k + 1 : Nat) : Int) - 11 := by omega
      have j2 : 0 ≤ i + 12 * ((k + 1 : Nat) : Int) - 5 := by omega
      have j3 : i + 12 * ((k + 1 : Nat) : Int) - 11 ≤ 10000000 := by omega
      have j4 : i + 12 * ((k + 1 : Nat) : Int) - 5 ≤ 10000000 := by omega
      have HOW := hid HR.out.own
      have HOB := hid (own_bound HR.out.own)
      have HLN := HR.out.len
      have C1 := hid (CC.out _ wr HBR.out j1 j3)
      have C2 := hid (fun w' (h : Below wr.heap.size wr w') => CC.out _ w' (below_tr HBR.out h) j2 j4)
      have O1 := hid (CO.out (i + 12 * ((k + 1 : Nat) : Int) - 11))
      have O2 := hid (CO.out (i + 12 * ((k + 1 : Nat) : Int) - 5))
      generalize cutL zs (i + 12 * ((k + 1 : Nat) : Int) - 11) = a at *
      generalize cutL zs (i + 12 * ((k + 1 : Nat) : Int) - 5) = b at *
      clear hbr hkc
      go_wp2_with fail
      refine C1.out.mono ?_
      rintro _ w1 ⟨rfl, hb1⟩
      have HB1 := hid hb1
      clear hb1
      go_wp2_with fail
      refine (C2.out _ HB1.out).mono ?_
      rintro _ w2 ⟨rfl, hb2⟩
      have HB2 := hid (below_tr HB1.out hb2)
      have hc := hid (fun w' => rccompare_any a b w' O1.out.2 O2.out.2)
      have HBW := hid (below_tr HB2.out (below_new w2 (.cells (SpanL.cells ⟨a, b⟩).toArray 60)))
      have HX := hid (Box.new w2 (SpanL.cells ⟨a, b⟩) 60)
      have HS := hid (Soft.new w2 (SpanL.cells ⟨a, b⟩).toArray 60)
      have HO := hid (own_below HOW.out HBW.out)
      have HOB2 := hid (fun r hr => Nat.lt_of_lt_of_le (HOB.out r hr).2 HB2.out.size)
      have HB2S := hid HB2.out.size
      clear hb2 HB1 HB2 C1 C2
      go_wp2_with fail
      refine (hc.out _).mono ?_
      rintro _ w3 ⟨rfl, hb3⟩
      generalize hg : w2.heap.size = g at *
      have HX3 := hid (HX.out.below hb3)
      have HS3 := hid (HS.out.below HX.out.1 hb3)
      have HO3 := hid (own_below HO.out hb3)
      have HBW3 := hid (HBW.out.trans (hb3.mono HBW.out.size))
      clear hg hb3 HX HS HO HBW hc
      cases hd1 : decide (0 < cmpC a b)
      · skip
        have hgx := HX3.out.1
        obtain ⟨⟨p0, p1, p2, p3, p4, p5, p6⟩, q0, q1, q2, q3, q4, q5, q6⟩ := HX3.out.get14
        have hsm := hid (fun w' => rspanmay_any ⟨a, b⟩ w' ⟨O1.out.2, O2.out.2⟩)
        cases hd2 : spanMay ⟨a, b⟩
        · rw [hd2] at hsm
          go_wp2_with fail
          refine (hsm.out _).mono ?_
          rintro _ w6 ⟨rfl, hb6⟩
          clear p0 p1 p2 p3 p4 p5 p6 q0 q1 q2 q3 q4 q5 q6 hgx
          have HO6 := hid (own_below HO3.out hb6)
          have HBW6 := hid (HBW3.out.trans (hb6.mono HBW3.out.size))
          clear hb6
          go_wp2_with fail
          go_roundw
          case rel => exact ⟨k, v, out, by go_num, rfl, by omega, ⟨HO6.out, HR.out.fit, by omega⟩, HG.out, HBR.out.trans (HBW6.out.mono hgw.out)⟩
          case measure => simp [intOf]
        · rw [hd2] at hsm
          go_wp2_with fail
          refine (hsm.out _).mono ?_
          rintro _ w6 ⟨rfl, hb6⟩
          clear p0 p1 p2 p3 p4 p5 p6 q0 q1 q2 q3 q4 q5 q6 hgx
          have HX6 := hid (HX3.out.below hb6)
          have HO6 := hid (own_below HO3.out hb6)
          have HBW6 := hid (HBW3.out.trans (hb6.mono HBW3.out.size))
          have hz6 := hid HBW6.out.size
          clear hb6
          obtain ⟨⟨p0, p1, p2, p3, p4, p5, p6⟩, q0, q1, q2, q3, q4, q5, q6⟩ := HX6.out.get14
          go_wp2_with (first | (at_builtin; refine wpList_app1g EKspans rfl (.tmp 48) (.tmp 50) rfl (SpanL.cells ⟨a, b⟩) HO6.out rfl rfl rfl (oneS1 _) (by omega) (by omega) (by have := hz6.out; have := hgw.out; omega) ?_; intro v' w7 h2 h3 h4; clear p0 p1 p2 p3 p4 p5 p6 q0 q1 q2 q3 q4 q5 q6))
          go_roundw
          case rel => exact ⟨k, v', out ++ [(⟨a, b⟩ : SpanL)], by go_num, rfl, by omega, ⟨OwnS.app h2, (fun t ht => by rw [List.mem_append, List.mem_singleton] at ht; rcases ht with ht | rfl; exact HR.out.fit t ht; exact ⟨O1.out.2, O2.out.2⟩), by simp; omega⟩, (fun t ht => by rw [List.mem_append, List.mem_singleton] at ht; rcases ht with ht | rfl; exact HG.out t ht; exact hd2), (HBR.out.trans (HBW6.out.mono hgw.out)).trans h3⟩
          case measure => simp [intOf]
      · have hf : ∀ j, w3.frozen? ⟨g, j, none⟩ = false := HS3.out
        have hgx := HX3.out.1
        obtain ⟨⟨p0, p1, p2, p3, p4, p5, p6⟩, q0, q1, q2, q3, q4, q5, q6⟩ := HX3.out.get14
        go_wp2_with fail
        rw [show ((((((((((((((w3.setCell ⟨g, 0, none⟩ (.int .i64 b.en)).setCell ⟨g, 1, none⟩ (.int .i64 b.v.maj)).setCell ⟨g, 2, none⟩ (.int .i64 b.v.min)).setCell ⟨g, 3, none⟩ (.int .i64 b.v.pat)).setCell ⟨g, 4, none⟩ (.string b.v.pre)).setCell ⟨g, 5, none⟩ (.string b.v.bld)).setCell ⟨g, 6, none⟩ (.bool b.aft)).setCell ⟨g, 7, none⟩ (.int .i64 a.en)).setCell ⟨g, 8, none⟩ (.int .i64 a.v.maj)).setCell ⟨g, 9, none⟩ (.int .i64 a.v.min)).setCell ⟨g, 10, none⟩ (.int .i64 a.v.pat)).setCell ⟨g, 11, none⟩ (.string a.v.pre)).setCell ⟨g, 12, none⟩ (.string a.v.bld)).setCell ⟨g, 13, none⟩ (.bool a.aft)) = (w3.setCells g 0 b.cells).setCells g 7 a.cells from rfl]
        have HX4 := hid ((HX3.out.setFr b).setTil a)
        have HO4 := hid (own_set (g := g) (o := 7) (vs := a.cells) (own_set (g := g) (o := 0) (vs := b.cells) HO3.out HOB2.out) HOB2.out)
        have HBW4 := hid ((HBW3.out.setCells HB2S.out b.cells 0).setCells HB2S.out a.cells 7)
        clear p0 p1 p2 p3 p4 p5 p6 q0 q1 q2 q3 q4 q5 q6 hf hgx HX3 HS3 HO3 HBW3
        generalize (w3.setCells g 0 b.cells).setCells g 7 a.cells = w4 at *
        have hgx := HX4.out.1
        obtain ⟨⟨p0, p1, p2, p3, p4, p5, p6⟩, q0, q1, q2, q3, q4, q5, q6⟩ := HX4.out.get14
        have hsm := hid (fun w' => rspanmay_any ⟨b, a⟩ w' ⟨O2.out.2, O1.out.2⟩)
        cases hd2 : spanMay ⟨b, a⟩
        · rw [hd2] at hsm
          go_wp2_with fail
          refine (hsm.out _).mono ?_
          rintro _ w6 ⟨rfl, hb6⟩
          clear p0 p1 p2 p3 p4 p5 p6 q0 q1 q2 q3 q4 q5 q6 hgx
          have HO6 := hid (own_below HO4.out hb6)
          have HBW6 := hid (HBW4.out.trans (hb6.mono HBW4.out.size))
          clear hb6
          go_wp2_with fail
          go_roundw
          case rel => exact ⟨k, v, out, by go_num, rfl, by omega, ⟨HO6.out, HR.out.fit, by omega⟩, HG.out, HBR.out.trans (HBW6.out.mono hgw.out)⟩
          case measure => simp [intOf]
        · rw [hd2] at hsm
          go_wp2_with fail
          refine (hsm.out _).mono ?_
          rintro _ w6 ⟨rfl, hb6⟩
          clear p0 p1 p2 p3 p4 p5 p6 q0 q1 q2 q3 q4 q5 q6 hgx
          have HX6 := hid (HX4.out.below hb6)
          have HO6 := hid (own_below HO4.out hb6)
          have HBW6 := hid (HBW4.out.trans (hb6.mono HBW4.out.size))
          have hz6 := hid HBW6.out.size
          clear hb6
          obtain ⟨⟨p0, p1, p2, p3, p4, p5, p6⟩, q0, q1, q2, q3, q4, q5, q6⟩ := HX6.out.get14
          go_wp2_with (first | (at_builtin; refine wpList_app1g EKspans rfl (.tmp 48) (.tmp 50) rfl (SpanL.cells ⟨b, a⟩) HO6.out rfl rfl rfl (oneS1 _) (by omega) (by omega) (by have := hz6.out; have := hgw.out; omega) ?_; intro v' w7 h2 h3 h4; clear p0 p1 p2 p3 p4 p5 p6 q0 q1 q2 q3 q4 q5 q6))
          go_roundw
          case rel => exact ⟨k, v', out ++ [(⟨b, a⟩ : SpanL)], by go_num, rfl, by omega, ⟨OwnS.app h2, (fun t ht => by rw [List.mem_append, List.mem_singleton] at ht; rcases ht with ht | rfl; exact HR.out.fit t ht; exact ⟨O2.out.2, O1.out.2⟩), by simp; omega⟩, (fun t ht => by rw [List.mem_append, List.mem_singleton] at ht; rcases ht with ht | rfl; exact HG.out t ht; exact hd2), (HBR.out.trans (HBW6.out.mono hgw.out)).trans h3⟩
          case measure => simp [intOf]

/-- a row that may be has come back in memory of its own -/
def VRowPost (w : World) (base : Nat) (e : Ending) (w' : World) : Prop := ∃ v l, e = .returned v ∧ OwnS w' base v l ∧ fitL l ∧ Rw.Val l ∧ l.length ≤ 9 ∧ Below base w w'
theorem row_any (base : Nat) (A : Option Addr) (cap : Nat) (zs : List Int) (i : Int) (w : World) (h : IntsAt w A zs) (hi : 0 ≤ i) (hi2 : i ≤ 1000000) (hln : zs.length ≤ 9223372036854775807) (hbase : base ≤ w.heap.size) : Calls Tryz.prog 42 #[.slice A zs.length cap, .int .i64 i] w (VRowPost w base) := by
  have CS := hid (spans_any base 4 A cap zs i w h hi hi2 (by omega) hln hbase)
  clear h
  generalize zs.length = n at *
  go_enter Tryz.func42, Tryz.ntmps42
  go_wp2_with fail
  refine CS.out.mono ?_
  rintro _ w1 ⟨v, l, rfl, h1, h2, h3, h4, h5⟩
  obtain ⟨A1, c1, rfl, h6⟩ := h1.spans
  have CM := hid (rmake_any base A1 c1 l w1 h6 h2.toL (by omega) (Nat.le_trans hbase h5.size))
  have HSP : Hid (∀ s, s ∈ l → Rw.lt s.fr s.til) := hid fun s hs => Rw.spanMay_iff.1 (h3 s hs)
  have HG := hid (rmakeL_good h2.toL)
  have HB := hid h5
  clear h1 h2 h3 h5 h6
  go_wp2_with fail
  refine CM.out.mono ?_
  rintro _ w2 ⟨v2, rfl, k1, k2, k3⟩
  go_wp2_with fail
  go_ret
  exact ⟨v2, _, rfl, k1, HG.out.1, (Rw.make_spec HSP.out).2.1, by have := HG.out.2; omega, HB.out.trans k2⟩
end Go.Proofs.YtmnjnoggchgnjaaGreatDoor
