/- The walks of version.Compare and of the reference's Compare. -/
import Derived.Test.YtodicnjoimoiiaaWg
namespace Go.Proofs.Ytodicnjoimoiiaa
open Go.RowKit Go.Lib
set_option linter.unusedVariables false
set_option linter.unusedSimpArgs false

def Ver.core (v : Ver) : Ver := { v with bld := ⟨#[]⟩ }
/-- a version has come back; memory has grown at most -/
def VerPost (w : World) (v : Ver) (e : Ending) (w' : World) : Prop := e = .returned v.val ∧ Below w.heap.size w w'

theorem core_any (v : Ver) (w : World) : Calls Try.prog 77 #[v.val] w (VerPost w v.core) := by
  go_enter Try.func77, Try.ntmps77
  go_wp2
  refine bodyPost_ret (v := .agg #[.int .i64 v.maj, .int .i64 v.min, .int .i64 v.pat, .string v.pre, .string ⟨#[]⟩]) (by simp [results, Try.results77, go_sem]) rfl ⟨rfl, ?_⟩
  exact ((below_new _ _).alloc (by simp) _)

def or3 (x y z : Int) : Int := if x ≠ 0 then x else if y ≠ 0 then y else z

set_option maxRecDepth 100000 in
set_option maxHeartbeats 400000 in
theorem or_any (g : Nat) (x y z : Int) (w : World) (h0 : w.cell? ⟨g, 0, none⟩ = some (.int .i64 x)) (h1 : w.cell? ⟨g, 1, none⟩ = some (.int .i64 y)) (h2 : w.cell? ⟨g, 2, none⟩ = some (.int .i64 z)) :
    Calls Try.prog 78 #[.slice (some ⟨g, 0, none⟩) 3 3] w fun e w' => e = .returned (.int .i64 (or3 x y z)) ∧ w = w' := by
  generalize hr : or3 x y z = r
  have HR := hid hr
  clear hr
  go_enter Try.func78, Try.ntmps78
  go_wp2
  go_loop [5, 8] (fun v i => ∃ k : Nat, k ≤ 3 ∧ i = .int .i64 k ∧ Hid ((0 < k → x = 0) ∧ (1 < k → y = 0) ∧ (2 < k → z = 0))) (fun _ i => 3 - (intOf i).toNat)
  case atStart => exact ⟨0, by omega, rfl, ⟨fun h => by omega, fun h => by omega, fun h => by omega⟩⟩
  case round =>
    obtain ⟨k, hk, rfl, HZ⟩ := hrel
    rcases (show k = 0 ∨ k = 1 ∨ k = 2 ∨ k = 3 from by omega) with rfl | rfl | rfl | rfl
    · by_cases hx : x = 0
      · have hx' : (x != 0) = false := by simp [hx]
        have HX := hid hx
        clear hx
        go_wp2
        go_round
        case rel => exact ⟨1, by omega, by go_num, ⟨fun _ => HX.out, fun h => by omega, fun h => by omega⟩⟩
        case measure => simp [intOf]
      · have hx' : (x != 0) = true := by simpa using hx
        go_wp2
        go_ret
        exact ⟨by rw [← HR.out, or3, if_pos hx]; rfl, rfl⟩
    · have HX := hid (HZ.out.1 (by omega))
      by_cases hx : y = 0
      · have hx' : (y != 0) = false := by simp [hx]
        have HY := hid hx
        clear hx
        go_wp2
        go_round
        case rel => exact ⟨2, by omega, by go_num, ⟨fun _ => HX.out, fun _ => HY.out, fun h => by omega⟩⟩
        case measure => simp [intOf]
      · have hx' : (y != 0) = true := by simpa using hx
        go_wp2
        go_ret
        exact ⟨by rw [← HR.out, or3, if_neg (by simp [HX.out]), if_pos hx]; rfl, rfl⟩
    · have HX := hid (HZ.out.1 (by omega))
      have HY := hid (HZ.out.2.1 (by omega))
      by_cases hx : z = 0
      · have hx' : (z != 0) = false := by simp [hx]
        have HV := hid hx
        clear hx
        go_wp2
        go_round
        case rel => exact ⟨3, by omega, by go_num, ⟨fun _ => HX.out, fun _ => HY.out, fun _ => HV.out⟩⟩
        case measure => simp [intOf]
      · have hx' : (z != 0) = true := by simpa using hx
        go_wp2
        go_ret
        exact ⟨by rw [← HR.out, or3, if_neg (by simp [HX.out]), if_neg (by simp [HY.out])]; rfl, rfl⟩
    · have HX := hid (HZ.out.1 (by omega))
      have HY := hid (HZ.out.2.1 (by omega))
      have HV := hid (HZ.out.2.2 (by omega))
      go_wp2
      go_ret
      exact ⟨by rw [← HR.out, or3, HX.out, HY.out, HV.out]; rfl, rfl⟩

/-! ### '==' on versions -/
def eqVer (a b : Ver) : Bool := a.maj == b.maj && a.min == b.min && a.pat == b.pat && bts a.pre == bts b.pre && bts a.bld == bts b.bld
theorem eqVer_iff {a b : Ver} : eqVer a b = true ↔ a = b := by
  simp only [eqVer, Bool.and_eq_true, beq_iff_eq]
  constructor
  · rintro ⟨⟨⟨⟨h1, h2⟩, h3⟩, h4⟩, h5⟩
    cases a; cases b
    simp only at h1 h2 h3 h4 h5
    rw [h1, h2, h3, bts_inj h4, bts_inj h5]
  · rintro rfl; simp
theorem fields24 : Try.prog.underlying 24 = some (.struct (Try.prog.fieldsOf 24)) := by kernel_rfl
theorem stood24 : Try.prog.stoodInHeld 24 = false := by kernel_rfl
theorem guard24 : Try.prog.eqGuardType Try.prog.depth 24 = false := by kernel_rfl
set_option maxHeartbeats 400000 in
theorem eqlV (a b : Ver) (w : World) : (binOp .eql 24 a.val b.val).run Try.prog w = .ok (.bool (eqVer a b)) w := by
  rw [run_eql_struct, show (10000 : Nat) = 9999 + 1 from rfl, run_equalIn_agg w 9999 24 _ _ fields24 stood24]
  simp only [Program.fieldsOf, Try.underlying24]
  have u3 := Try.underlying3
  have u9 := Try.underlying9
  have a3 := Try.isAgg3
  have z3 := Try.sizeOf3
  have a9 := Try.isAgg9
  have z9 := Try.sizeOf9
  go_simp
  unfold eqVer
  cases h1 : a.maj == b.maj <;> cases h2 : a.min == b.min <;> cases h3 : a.pat == b.pat <;> cases h4 : a.pre.toList == b.pre.toList <;> cases h5 : a.bld.toList == b.bld.toList <;> simp_all
theorem eqgV (op : BinOp) (x y : Operand) (a b : Ver) (w : World) : (eqGuard op 24 x y a.val b.val).run Try.prog w = .ok () w := run_eqGuard_agg w op _ x y _ _ guard24
end Go.Proofs.Ytodicnjoimoiiaa
