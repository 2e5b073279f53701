/- Cuts out of numbers. -/
import Derived.Test.YtodicnjoimoiiaaLawV
namespace Go.Proofs.Ytodicnjoimoiiaa
open Go.RowKit Go.Lib
set_option linter.unusedVariables false
set_option linter.unusedSimpArgs false

theorem getD_mem {α : Type} {l : List α} {r : Int} {d : α} (h0 : 0 ≤ r) (h1 : r < l.length) : l.getD r.toNat d ∈ l := by
  have : r.toNat < l.length := by omega
  simp [this]
theorem numA_ok : ∀ x, x ∈ numA → fitsI x = true := by decide
theorem preA_ok : ∀ x, x ∈ preA → preOk x = true ∧ x.length ≤ 8 := by decide +kernel
theorem bldA_ok : ∀ x, x ∈ bldA → bldOk x = true ∧ x.length ≤ 8 := by decide +kernel
theorem bts_mk (l : List UInt8) : bts ⟨l.toArray⟩ = l := by rw [bts, bts_data]
theorem versionL_ok (zs : List Int) (i : Int) : mayV (versionL zs i) = true ∧ (versionL zs i).fit := by
  have b1 := fromL_bd zs i 8 (by omega)
  have b2 := fromL_bd zs (i + 1) 8 (by omega)
  have b3 := fromL_bd zs (i + 2) 8 (by omega)
  have b4 := fromL_bd zs (i + 3) 14 (by omega)
  have b5 := fromL_bd zs (i + 4) 6 (by omega)
  have p1 := preA_ok _ (getD_mem (d := []) b4.1 b4.2)
  have p2 := bldA_ok _ (getD_mem (d := []) b5.1 b5.2)
  constructor
  · simp only [mayV, versionL, bts_mk, p1.1, p2.1, numA_ok _ (getD_mem b1.1 b1.2), numA_ok _ (getD_mem b2.1 b2.2), numA_ok _ (getD_mem b3.1 b3.2), Bool.and_self]
  · have e : ∀ l : List UInt8, (⟨l.toArray⟩ : ByteArray).size = l.length := fun l => by rw [← bts_len, bts_mk]
    simp only [Ver.fit, versionL, e]
    omega
def cutL (zs : List Int) (i : Int) : CutL := if fromL zs (i + 5) 9 < 2 then ⟨2 * fromL zs (i + 5) 9 - 1, zeroV, false⟩ else ⟨0, bareV (versionL zs i), fromL zs (i + 5) 2 == 1⟩
theorem cutL_ok (zs : List Int) (i : Int) : mayC (cutL zs i) = true ∧ (cutL zs i).fit := by
  have hb := fromL_bd zs (i + 5) 9 (by omega)
  have hv := versionL_ok zs i
  unfold cutL
  split
  · refine ⟨?_, ?_⟩
    · rw [mayC_end (by simp only; omega), eqVer_iff.2 rfl]; rfl
    · exact firstC_fit
  · refine ⟨?_, ?_⟩
    · rw [mayC_zero rfl]
      rw [show bts (bareV (versionL zs i)).bld = [] from bts_e, bare_may hv.1]; rfl
    · have h2 := hv.2
      simp only [CutL.fit, Ver.fit, bareV] at h2 ⊢
      exact ⟨h2.1, by decide⟩
theorem zero_cells : zeroV.cells = [.int .i64 0, .int .i64 0, .int .i64 0, .string ⟨#[]⟩, .string ⟨#[]⟩] := rfl
def zeroC : CutL := ⟨0, zeroV, false⟩

set_option maxRecDepth 100000 in
set_option maxHeartbeats 1000000 in
theorem cut_any (A : Option Addr) (cap : Nat) (zs : List Int) (i : Int) (w : World) (h : IntsAt w A zs) (hi : 0 ≤ i) (hi2 : i ≤ 10000000) (hln : zs.length ≤ 9223372036854775807) : Calls Try.prog 46 #[.slice A zs.length cap, .int .i64 i] w (CutPost w (cutL zs i)) := by
  have hf : ∀ (j n : Int) (w' : World), Below w.heap.size w w' → 0 ≤ j → j ≤ 1000000000 → 0 < n → n ≤ 1000000 → Calls Try.prog 45 #[.slice A zs.length cap, .int .i64 j, .int .i64 n] w' fun e w'' => e = .returned (.int .i64 (fromL zs j n)) ∧ w'' = w' := fun j n w' hb h1 h2 h3 h4 => (from_any A cap zs j n w' (h.below hb) h1 h2 hln h3 h4).mono fun _ _ ⟨h1, h2⟩ => ⟨h1, h2.symm⟩
  have C1 := hid (fun w' hb => hf (i + 5) 9 w' hb (by omega) (by omega) (by omega) (by omega))
  have C2 := hid (fun w' hb => hf (i + 5) 2 w' hb (by omega) (by omega) (by omega) (by omega))
  have CV := hid (fun w' (hb : Below w.heap.size w w') => version_any A cap zs i w' (h.below hb) hi (by omega) hln)
  have b1 := fromL_bd zs (i + 5) 9 (by omega)
  have b2 := fromL_bd zs (i + 5) 2 (by omega)
  have HC := hid (show cutL zs i = (if fromL zs (i + 5) 9 < 2 then ⟨2 * fromL zs (i + 5) 9 - 1, zeroV, false⟩ else ⟨0, bareV (versionL zs i), fromL zs (i + 5) 2 == 1⟩ : CutL) from rfl)
  clear h hf
  generalize fromL zs (i + 5) 9 = k at *
  generalize fromL zs (i + 5) 2 = q at *
  generalize versionL zs i = v at *
  generalize zs.length = n at *
  obtain ⟨b1, d1⟩ := b1
  obtain ⟨b2, d2⟩ := b2
  have HBN := hid (below_new w (.cells zeroC.cells.toArray 35))
  have HX0 := hid (Box.new w zeroC.cells 35)
  have HS0 := hid (Soft.new w zeroC.cells.toArray 35)
  have C1 := hid (C1.out _ HBN.out)
  go_enter Try.func46, Try.ntmps46
  go_wp2_with fail
  refine C1.out.mono ?_
  rintro _ w2 ⟨rfl, hw2⟩
  obtain ⟨t0, t1, t2, t3, t4, t5, t6⟩ := HX0.out.get7
  rw [← hw2] at HBN HX0 HS0 t0 t1 t2 t3 t4 t5 t6
  clear hw2
  cases hd : decide (k < 2)
  · have hk : ¬ k < 2 := by simpa using hd
    rw [if_neg hk] at HC
    clear hk t0 t1 t2 t3 t4 t5 t6
    go_wp2_with fail
    refine (CV.out _ HBN.out).mono ?_
    rintro _ w3 ⟨rfl, hb3⟩
    have HB3 := hid (HBN.out.trans (hb3.mono HBN.out.size))
    have HX3 := hid (HX0.out.below hb3)
    have HS3 := hid (HS0.out.below HX0.out.1 hb3)
    have HNW := hid (below_new w3 (.cells (bareV v).cells.toArray 24))
    have HY3 := hid (Box.new w3 (bareV v).cells 24)
    clear hb3
    go_wp2_with fail
    refine wp_name ?_
    intro w4 hw4
    have hgl := hid HX3.out.1
    have HB4 : Hid (Below w.heap.size w w4) := hid (by rw [hw4]; exact HB3.out.trans (HNW.out.mono HB3.out.size))
    have HX4 : Hid (Box w4 w.heap.size zeroC.cells) := hid (by rw [hw4]; exact HX3.out.below HNW.out)
    have HS4 : Hid (Soft w4 w.heap.size) := hid (by rw [hw4]; exact HS3.out.below hgl.out HNW.out)
    have HY4 : Hid (Box w4 w3.heap.size (bareV v).cells) := hid (by rw [hw4]; exact HY3.out)
    clear hw4 HY3 HX3 HS3 HB3 HNW
    generalize bareV v = u at *
    have HB5 := hid HB4.out.drew
    have HX5 := hid (HX4.out.below (Below.refl _ _).drew)
    have HS5 := hid (show Soft w4.drew w.heap.size from HS4.out)
    have HY5 := hid (HY4.out.below (Below.refl _ _).drew)
    have C2 := hid (C2.out _ HB5.out)
    refine wp_region_still_tail 7 (by kernel_rfl) (by kernel_rfl) ?_
    change wpStill _ _ w4.drew (fun a' => wpList _ _ _ _ a' w4.drew) _ _
    generalize w4.drew = w5 at *
    simp only [List.take_succ_cons, List.take_zero, List.drop_succ_cons, List.drop_zero]
    have y1 : IntKind.i64.wrap (i + 5) = i + 5 := IntWalk.i64_in _ (by omega)
    obtain ⟨t0, t1, t2, t3, t4⟩ := HY5.out.get5
    repeat still_step
    still_call C2.out
    repeat still_step
    refine wpStill_nil ?_
    clear y1 t0 t1 t2 t3 t4
    obtain ⟨t0, t1, t2, t3, t4, t5, t6⟩ := HX5.out.get7
    have hfz : ∀ j, w5.frozen? ⟨w.heap.size, j, none⟩ = false := HS5.out
    go_wp2_with fail
    rw [show (((((((w5.setCell ⟨w.heap.size, 0, none⟩ (.int .i64 0)).setCell ⟨w.heap.size, 1, none⟩ (.int .i64 u.maj)).setCell ⟨w.heap.size, 2, none⟩ (.int .i64 u.min)).setCell ⟨w.heap.size, 3, none⟩ (.int .i64 u.pat)).setCell ⟨w.heap.size, 4, none⟩ (.string u.pre)).setCell ⟨w.heap.size, 5, none⟩ (.string u.bld)).setCell ⟨w.heap.size, 6, none⟩ (.bool (q == 1))) = w5.setCells w.heap.size 0 (CutL.cells ⟨0, u, q == 1⟩) from rfl]
    have HEND := hid (HX5.out.set7 ⟨0, u, q == 1⟩)
    have HB6 := hid (HB5.out.setCells (Nat.le_refl _) (CutL.cells ⟨0, u, q == 1⟩) 0)
    clear t0 t1 t2 t3 t4 t5 t6 hfz
    generalize w5.setCells w.heap.size 0 (CutL.cells ⟨0, u, q == 1⟩) = w6 at *
    obtain ⟨k0, k1, k2, k3, k4, k5, k6⟩ := HEND.out.get7
    refine bodyPost_ret (v := (CutL.val ⟨0, u, q == 1⟩)) (by simp [results, Try.results46, go_sem, k0, k1, k2, k3, k4, k5, k6]) rfl ⟨?_, HB6.out⟩
    rw [HC.out]
  · have hk : k < 2 := by simpa using hd
    rw [if_pos hk] at HC
    have hfz : ∀ j, w2.frozen? ⟨w.heap.size, j, none⟩ = false := HS0.out
    go_wp2_with fail
    rw [show (((((((w2.setCell ⟨w.heap.size, 0, none⟩ (.int .i64 (2 * k - 1))).setCell ⟨w.heap.size, 1, none⟩ (.int .i64 0)).setCell ⟨w.heap.size, 2, none⟩ (.int .i64 0)).setCell ⟨w.heap.size, 3, none⟩ (.int .i64 0)).setCell ⟨w.heap.size, 4, none⟩ (.string ⟨#[]⟩)).setCell ⟨w.heap.size, 5, none⟩ (.string ⟨#[]⟩)).setCell ⟨w.heap.size, 6, none⟩ (.bool false)) = w2.setCells w.heap.size 0 (CutL.cells ⟨2 * k - 1, zeroV, false⟩) from rfl]
    have HEND := hid (HX0.out.set7 ⟨2 * k - 1, zeroV, false⟩)
    have HB6 := hid (HBN.out.setCells (Nat.le_refl _) (CutL.cells ⟨2 * k - 1, zeroV, false⟩) 0)
    clear t0 t1 t2 t3 t4 t5 t6 hfz
    generalize w2.setCells w.heap.size 0 (CutL.cells ⟨2 * k - 1, zeroV, false⟩) = w6 at *
    obtain ⟨k0, k1, k2, k3, k4, k5, k6⟩ := HEND.out.get7
    refine bodyPost_ret (v := (CutL.val ⟨2 * k - 1, zeroV, false⟩)) (by simp [results, Try.results46, go_sem, k0, k1, k2, k3, k4, k5, k6]) rfl ⟨?_, HB6.out⟩
    rw [HC.out]
end Go.Proofs.Ytodicnjoimoiiaa

