/- Versions, cuts, spans, rows out of numbers. -/
import Derived.Test.YtjceaniffooohaaGreatDoorBa
import Derived.Test.YtjceaniffooohaaGreatDoorBh
namespace Go.Proofs.YtjceaniffooohaaGreatDoor
open Go.RowKit Go.Lib
set_option linter.unusedVariables false
set_option linter.unusedSimpArgs false

def numA : List Int := [0, 1, 2, 3, 0, 1, 10, 9999]
def preA : List (List UInt8) := [[], [], [], [], [48], [49], [50], [49, 49], [97], [97, 46, 49], [97, 46, 98], [98], [48, 46, 48], [114, 99, 46, 49]]
def bldA : List (List UInt8) := [[], [], [], [], [48, 48, 55], [120, 46, 49]]
def versionL (zs : List Int) (i : Int) : Ver := ⟨numA.getD (fromL zs i 8).toNat 0, numA.getD (fromL zs (i + 1) 8).toNat 0, numA.getD (fromL zs (i + 2) 8).toNat 0, ⟨(preA.getD (fromL zs (i + 3) 14).toNat []).toArray⟩, ⟨(bldA.getD (fromL zs (i + 4) 6).toNat []).toArray⟩⟩
def arrN : List Value := numA.map (Value.int .i64)
def arrP : List Value := preA.map strV
def arrB : List Value := bldA.map strV
theorem arr_get {α : Type} (f : α → Value) (l : List α) (d : α) (r : Int) (h0 : 0 ≤ r) (h1 : r < l.length) : (l.map f)[r.toNat]? = some (f (l.getD r.toNat d)) := by
  have : r.toNat < l.length := by omega
  simp [this]
theorem wp_name {P : Program} {c : Code} {Q : Exit → Act → World → Prop} {a : Act} {w : World} (h : ∀ w', w' = w → c.wp P Q a w') : c.wp P Q a w := h w rfl
set_option maxRecDepth 100000 in
set_option maxHeartbeats 1000000 in
theorem version_any (A : Option Addr) (cap : Nat) (zs : List Int) (i : Int) (w : World) (h : IntsAt w A zs) (hi : 0 ≤ i) (hi2 : i ≤ 100000000) (hln : zs.length ≤ 9223372036854775807) : Calls Tryz.prog 29 #[.slice A zs.length cap, .int .i64 i] w (VerPost w (versionL zs i)) := by
  have hf : ∀ (j n : Int) (w' : World), Below w.heap.size w w' → 0 ≤ j → j ≤ 1000000000 → 0 < n → n ≤ 1000000 → Calls Tryz.prog 60 #[.slice A zs.length cap, .int .i64 j, .int .i64 n] w' fun e w'' => e = .returned (.int .i64 (fromL zs j n)) ∧ w'' = w' := fun j n w' hb h1 h2 h3 h4 => (from_any A cap zs j n w' (h.below hb) h1 h2 hln h3 h4).mono fun _ _ ⟨h1, h2⟩ => ⟨h1, h2.symm⟩
  have HF := hid hf
  have HV := hid (show versionL zs i = ⟨numA.getD (fromL zs i 8).toNat 0, numA.getD (fromL zs (i + 1) 8).toNat 0, numA.getD (fromL zs (i + 2) 8).toNat 0, ⟨(preA.getD (fromL zs (i + 3) 14).toNat []).toArray⟩, ⟨(bldA.getD (fromL zs (i + 4) 6).toNat []).toArray⟩⟩ from rfl)
  have b1 := fromL_bd zs i 8 (by omega)
  have b2 := fromL_bd zs (i + 1) 8 (by omega)
  have b3 := fromL_bd zs (i + 2) 8 (by omega)
  have b4 := fromL_bd zs (i + 3) 14 (by omega)
  have b5 := fromL_bd zs (i + 4) 6 (by omega)
  have C1 := hid (fun w' hb => hf i 8 w' hb hi (by omega) (by omega) (by omega))
  have C2 := hid (fun w' hb => hf (i + 1) 8 w' hb (by omega) (by omega) (by omega) (by omega))
  have C3 := hid (fun w' hb => hf (i + 2) 8 w' hb (by omega) (by omega) (by omega) (by omega))
  have C4 := hid (fun w' hb => hf (i + 3) 14 w' hb (by omega) (by omega) (by omega) (by omega))
  have C5 := hid (fun w' hb => hf (i + 4) 6 w' hb (by omega) (by omega) (by omega) (by omega))
  clear h hf HF
  generalize fromL zs i 8 = r1 at *
  generalize fromL zs (i + 1) 8 = r2 at *
  generalize fromL zs (i + 2) 8 = r3 at *
  generalize fromL zs (i + 3) 14 = r4 at *
  generalize fromL zs (i + 4) 6 = r5 at *
  obtain ⟨b1, d1⟩ := b1
  obtain ⟨b2, d2⟩ := b2
  obtain ⟨b3, d3⟩ := b3
  obtain ⟨b4, d4⟩ := b4
  obtain ⟨b5, d5⟩ := b5
  generalize zs.length = n at *
  go_enter Tryz.func29, Tryz.ntmps29
  go_wp2_with fail
  refine wp_name ?_
  intro w4 hw4
  have HB4 : Hid (Below w.heap.size w w4) := hid (by
    rw [hw4]; exact below_tr (below_tr (below_tr (below_new _ _) (below_new _ _)) (below_new _ _)) (below_new _ _))
  have X0 : Hid (Box w4 w.heap.size zeroV.cells) := hid (by
    rw [hw4]; exact (((Box.new w zeroV.cells _).below (below_new _ _)).below (below_new _ _)).below (below_new _ _))
  have X1 : Hid (Box w4 (w.heap.size + 1) arrN) := hid (by
    rw [hw4]
    have := (Box.new (w.alloc (.cells zeroV.cells.toArray 44)) arrN 73)
    simp only [World.size_alloc] at this
    exact (this.below (below_new _ _)).below (below_new _ _))
  have X2 : Hid (Box w4 (w.heap.size + 1 + 1) arrP) := hid (by
    rw [hw4]
    have := (Box.new ((w.alloc (.cells zeroV.cells.toArray 44)).alloc (.cells arrN.toArray 73)) arrP 74)
    simp only [World.size_alloc] at this
    exact this.below (below_new _ _))
  have X3 : Hid (Box w4 (w.heap.size + 1 + 1 + 1) arrB) := hid (by
    rw [hw4]
    have := (Box.new (((w.alloc (.cells zeroV.cells.toArray 44)).alloc (.cells arrN.toArray 73)).alloc (.cells arrP.toArray 74)) arrB 75)
    simp only [World.size_alloc] at this
    exact this)
  have S0 : Hid (Soft w4 w.heap.size) := hid (by
    rw [hw4]
    exact (((Soft.new w zeroV.cells.toArray 44).below (by simp) (below_new _ _)).below (by simp; omega) (below_new _ _)).below (by simp; omega) (below_new _ _))
  clear hw4
  have HB5 := hid HB4.out.drew
  have X0 := hid (X0.out.below (Below.refl _ _).drew)
  have X1 := hid (X1.out.below (Below.refl _ _).drew)
  have X2 := hid (X2.out.below (Below.refl _ _).drew)
  have X3 := hid (X3.out.below (Below.refl _ _).drew)
  have S0 := hid (show Soft w4.drew w.heap.size from S0.out)
  have q1 := X1.out.2 _ _ (arr_get (Value.int .i64) numA 0 r1 b1 d1)
  have q2 := X1.out.2 _ _ (arr_get (Value.int .i64) numA 0 r2 b2 d2)
  have q3 := X1.out.2 _ _ (arr_get (Value.int .i64) numA 0 r3 b3 d3)
  have q4 : w4.drew.cell? ⟨w.heap.size + 1 + 1, r4.toNat, none⟩ = some (.string ⟨(preA.getD r4.toNat []).toArray⟩) := X2.out.2 _ _ (arr_get strV preA [] r4 b4 d4)
  have q5 : w4.drew.cell? ⟨w.heap.size + 1 + 1 + 1, r5.toNat, none⟩ = some (.string ⟨(bldA.getD r5.toNat []).toArray⟩) := X3.out.2 _ _ (arr_get strV bldA [] r5 b5 d5)
  have C1 := hid (C1.out _ HB5.out)
  have C2 := hid (C2.out _ HB5.out)
  have C3 := hid (C3.out _ HB5.out)
  have C4 := hid (C4.out _ HB5.out)
  have C5 := hid (C5.out _ HB5.out)
  generalize numA.getD r1.toNat 0 = v1 at *
  generalize numA.getD r2.toNat 0 = v2 at *
  generalize numA.getD r3.toNat 0 = v3 at *
  generalize (⟨(preA.getD r4.toNat []).toArray⟩ : ByteArray) = v4 at *
  generalize (⟨(bldA.getD r5.toNat []).toArray⟩ : ByteArray) = v5 at *
  refine wp_region_still_tail 30 (by kernel_rfl) (by kernel_rfl) ?_
  change wpStill _ _ w4.drew (fun a' => wpList _ _ _ _ a' w4.drew) _ _
  generalize w4.drew = w5 at *
  simp only [List.take_succ_cons, List.take_zero, List.drop_succ_cons, List.drop_zero]
  have y1 : IntKind.i64.wrap (i + 1) = i + 1 := IntWalk.i64_in _ (by omega)
  have y2 : IntKind.i64.wrap (i + 2) = i + 2 := IntWalk.i64_in _ (by omega)
  have y3 : IntKind.i64.wrap (i + 3) = i + 3 := IntWalk.i64_in _ (by omega)
  have y4 : IntKind.i64.wrap (i + 4) = i + 4 := IntWalk.i64_in _ (by omega)
  repeat still_step
  still_call C1.out
  repeat still_step
  still_call C2.out
  repeat still_step
  still_call C3.out
  repeat still_step
  still_call C4.out
  repeat still_step
  still_call C5.out
  repeat still_step
  refine wpStill_nil ?_
  clear y1 y2 y3 y4 q1 q2 q3 q4 q5
  obtain ⟨hg0, hx0⟩ := X0.out
  obtain ⟨t0, t1, t2, t3, t4⟩ := X0.out.get5
  have hfz : ∀ j, w5.frozen? ⟨w.heap.size, j, none⟩ = false := S0.out
  clear hx0
  go_wp2_with fail
  rw [show (((((w5.setCell ⟨w.heap.size, 0, none⟩ (.int .i64 v1)).setCell ⟨w.heap.size, 1, none⟩ (.int .i64 v2)).setCell ⟨w.heap.size, 2, none⟩ (.int .i64 v3)).setCell ⟨w.heap.size, 3, none⟩ (.string v4)).setCell ⟨w.heap.size, 4, none⟩ (.string v5)) = w5.setCells w.heap.size 0 (Ver.cells ⟨v1, v2, v3, v4, v5⟩) from rfl]
  have HEND : Hid (Box (w5.setCells w.heap.size 0 (Ver.cells ⟨v1, v2, v3, v4, v5⟩)) w.heap.size (Ver.cells ⟨v1, v2, v3, v4, v5⟩)) := hid (X0.out.set (o := 0) (vs := Ver.cells ⟨v1, v2, v3, v4, v5⟩) (by simp))
  have HB6 := hid (HB5.out.setCells (Nat.le_refl _) (Ver.cells ⟨v1, v2, v3, v4, v5⟩) 0)
  clear hg0 t0 t1 t2 t3 t4 hfz
  generalize w5.setCells w.heap.size 0 (Ver.cells ⟨v1, v2, v3, v4, v5⟩) = w6 at *
  obtain ⟨k0, k1, k2, k3, k4⟩ := HEND.out.get5
  refine bodyPost_ret (v := (Ver.val ⟨v1, v2, v3, v4, v5⟩)) (by simp [results, Tryz.results29, go_sem, k0, k1, k2, k3, k4]) rfl ⟨?_, HB6.out⟩
  rw [HV.out]
end Go.Proofs.YtjceaniffooohaaGreatDoor
/- Cuts out of numbers. -/
namespace Go.Proofs.YtjceaniffooohaaGreatDoor
open Go.RowKit Go.Lib
set_option linter.unusedVariables false
set_option linter.unusedSimpArgs false

theorem getD_mem {α : Type} {l : List α} {r : Int} {d : α} (h0 : 0 ≤ r) (h1 : r < l.length) : l.getD r.toNat d ∈ l := by
  have : r.toNat < l.length := by omega
  simp [this]
theorem numA_ok : ∀ x, x ∈ numA → fitsI x = true := by decide
theorem preA_ok : ∀ x, x ∈ preA → preOk x = true ∧ x.length ≤ 8 := by decide +kernel
theorem bldA_ok : ∀ x, x ∈ bldA → bldOk x = true ∧ x.length ≤ 8 := by decide +kernel
theorem bts_mk (l : List UInt8) : bts ⟨l.toArray⟩ = l := by rw [bts, bts_data]
theorem versionL_ok (zs : List Int) (i : Int) : mayV (versionL zs i) = true ∧ (versionL zs i).fit := by
  have b1 := fromL_bd zs i 8 (by omega)
  have b2 := fromL_bd zs (i + 1) 8 (by omega)
  have b3 := fromL_bd zs (i + 2) 8 (by omega)
  have b4 := fromL_bd zs (i + 3) 14 (by omega)
  have b5 := fromL_bd zs (i + 4) 6 (by omega)
  have p1 := preA_ok _ (getD_mem (d := []) b4.1 b4.2)
  have p2 := bldA_ok _ (getD_mem (d := []) b5.1 b5.2)
  constructor
  · simp only [mayV, versionL, bts_mk, p1.1, p2.1, numA_ok _ (getD_mem b1.1 b1.2), numA_ok _ (getD_mem b2.1 b2.2), numA_ok _ (getD_mem b3.1 b3.2), Bool.and_self]
  · have e : ∀ l : List UInt8, (⟨l.toArray⟩ : ByteArray).size = l.length := fun l => by rw [← bts_len, bts_mk]
    simp only [Ver.fit, versionL, e]
    omega
def cutL (zs : List Int) (i : Int) : CutL := if fromL zs (i + 5) 9 < 2 then ⟨2 * fromL zs (i + 5) 9 - 1, zeroV, false⟩ else ⟨0, bareV (versionL zs i), fromL zs (i + 5) 2 == 1⟩
theorem cutL_ok (zs : List Int) (i : Int) : mayC (cutL zs i) = true ∧ (cutL zs i).fit := by
  have hb := fromL_bd zs (i + 5) 9 (by omega)
  have hv := versionL_ok zs i
  unfold cutL
  split
  · refine ⟨?_, ?_⟩
    · rw [mayC_end (by simp only; omega), eqVer_iff.2 rfl]; rfl
    · exact firstC_fit
  · refine ⟨?_, ?_⟩
    · rw [mayC_zero rfl]
      rw [show bts (bareV (versionL zs i)).bld = [] from bts_e, bare_may hv.1]; rfl
    · have h2 := hv.2
      simp only [CutL.fit, Ver.fit, bareV] at h2 ⊢
      exact ⟨h2.1, by decide⟩
theorem zero_cells : zeroV.cells = [.int .i64 0, .int .i64 0, .int .i64 0, .string ⟨#[]⟩, .string ⟨#[]⟩] := rfl
def zeroC : CutL := ⟨0, zeroV, false⟩

end Go.Proofs.YtjceaniffooohaaGreatDoor
/- Spans and rows out of numbers. -/
namespace Go.Proofs.YtjceaniffooohaaGreatDoor
open Go.RowKit Go.Lib
set_option linter.unusedVariables false
set_option linter.unusedSimpArgs false

def allMay (l : List SpanL) : Prop := ∀ s, s ∈ l → spanMay s = true
/-- some spans, each of which may be, have come back in memory of their own -/
def SpansPost (w : World) (base most : Nat) (e : Ending) (w' : World) : Prop := ∃ v l, e = .returned v ∧ OwnS w' base v l ∧ fitAll l ∧ allMay l ∧ l.length ≤ most ∧ Below base w w'
/-- a row that may be has come back in memory of its own -/
def VRowPost (w : World) (base : Nat) (e : Ending) (w' : World) : Prop := ∃ v l, e = .returned v ∧ OwnS w' base v l ∧ fitL l ∧ Rw.Val l ∧ l.length ≤ 9 ∧ Below base w w'
end Go.Proofs.YtjceaniffooohaaGreatDoor
