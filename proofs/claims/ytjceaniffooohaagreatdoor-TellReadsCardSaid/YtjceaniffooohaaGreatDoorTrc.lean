/- Contracts: the reference's parsing of spans: begins, cut, words, one. -/
import Derived.Test.YtjceaniffooohaaGreatDoorTrb
import Derived.Test.YtjceaniffooohaaGreatDoorTi
import Derived.Test.YtjceaniffooohaaGreatDoorTr
namespace Go.Proofs.YtjceaniffooohaaGreatDoor
open Go.RowKit Go.Lib
open Rw
set_option linter.unusedVariables false
set_option linter.unusedSimpArgs false

/-- a cut has come back, and whether it is one -/
def CutOk (w : World) (o : Option CutL) (e : Ending) (w' : World) : Prop := ∃ c : CutL, e = .returned (.tuple #[c.val, .bool o.isSome]) ∧ (∀ u, o = some u → c = u) ∧ Below w.heap.size w w'
def zeroC0 : CutL := ⟨0, zeroV, false⟩
theorem rcut_no {s : ByteArray} {f : Bool} (h : Lib.hasPrefix (bts s) [if f then 62 else 60] = false) : rcutP (bts s) f = none := by rw [rcutP, h]; rfl
theorem rcut_yes {s : ByteArray} {f : Bool} (h : Lib.hasPrefix (bts s) [if f then 62 else 60] = true) : rcutP (bts s) f = match parseV (Lib.trimPrefix ((bts s).drop 1) [61]) with
    | none => none
    | some v => some ⟨0, v, if Lib.hasPrefix ((bts s).drop 1) [61] then !f else f⟩ := by rw [rcutP, h]; rfl
theorem trim_yes {l p : List UInt8} (h : Lib.hasPrefix l p = true) : Lib.trimPrefix l p = l.drop p.length := by rw [Lib.trimPrefix, if_pos h]
theorem trim_no {l p : List UInt8} (h : Lib.hasPrefix l p = false) : Lib.trimPrefix l p = l := by rw [Lib.trimPrefix, if_neg (by simp [h])]
/-- behind the sign: what is read of the rest -/
def cutO (o : Option Ver) (a : Bool) : Option CutL := match o with
  | none => none
  | some v => some ⟨0, v, a⟩
set_option maxRecDepth 100000 in
set_option maxHeartbeats 1000000 in
theorem rcut8_any (s : ByteArray) (f : Bool) (w : World) (hs : s.size ≤ 4398046511103) : Calls Tryz.prog 179 #[.string s, .bool f] w (CutOk w (rcutP (bts s) f)) := by
  have h60 : Lib.hasPrefix (bts s) (bts ⟨#[60]⟩) = Lib.hasPrefix (bts s) [60] := by rw [b60]
  have h62 : Lib.hasPrefix (bts s) (bts ⟨#[62]⟩) = Lib.hasPrefix (bts s) [62] := by rw [b62]
  have HB60 := hid (begins8_any s ⟨#[60]⟩)
  have HB62 := hid (begins8_any s ⟨#[62]⟩)
  rw [h60] at HB60
  rw [h62] at HB62
  clear h60 h62
  cases hp : Lib.hasPrefix (bts s) [if f then 62 else 60]
  · have HNO := hid (rcut_no hp)
    rw [HNO.out]
    cases f
    all_goals
      first | (rw [show Lib.hasPrefix (bts s) [60] = false from hp] at HB60) | (rw [show Lib.hasPrefix (bts s) [62] = false from hp] at HB62)
      clear hp
      go_enter Tryz.func179, Tryz.ntmps179
      go_wp2_with fail
      first | (with_reducible refine (HB60.out _).mono ?_) | (with_reducible refine (HB62.out _).mono ?_)
      rintro _ _ ⟨rfl, rfl⟩
      go_wp2_with fail
      refine body_name ?_
      intro w9 hw9
      have O9 : Own w.heap.size w9 w.heap.size zeroC0.cells := by rw [hw9]; exact Own.new w zeroC0.cells 81 (Nat.le_refl _)
      have B9 : Below w.heap.size w w9 := by rw [hw9]; exact below_new _ _
      clear hw9
      obtain ⟨k0, k1, k2, k3, k4, k5, k6⟩ := O9.box.get7
      refine bodyPost_ret (v := .tuple #[zeroC0.val, .bool false]) (by simp [results, Tryz.results179, go_sem, k0, k1, k2, k3, k4, k5, k6, zeroC0, zeroV]) rfl ?_
      exact ⟨zeroC0, rfl, fun u h => (by cases h), B9⟩
  · have hpos : 0 < s.size := by cases f <;> exact pre_pos hp
    have HY := hid (rcut_yes hp)
    have HPF := hid (fun (s2 : ByteArray) u (h : s2.size ≤ 4398046511103) => rvparse_any s2 u (by omega))
    have HB61 := hid (begins8_any (s.extract 1 s.size) ⟨#[61]⟩)
    rw [b61, bts_tail] at HB61
    have hz1 : (s.extract 1 s.size).size ≤ 4398046511103 := by rw [ByteArray.size_extract]; omega
    have HT1 := hid (bts_tail s)
    have HT2 := hid (bts_tail (s.extract 1 s.size))
    have HPP := hid (fun h => pre_pos (s := s.extract 1 s.size) (b := 61) h)
    rw [HT1.out] at HT2 HPP
    have HAF : Hid (∃ af : Bool, af = (if Lib.hasPrefix ((bts s).drop 1) [61] then !f else f)) := hid ⟨_, rfl⟩
    obtain ⟨af, haf⟩ := HAF.out
    have HAF := hid haf
    have HOE0 := hid (HY.out.trans (by rw [← haf]))
    generalize rcutP (bts s) f = oc at *
    clear haf HY
    have HTY := hid (fun h => trim_yes (l := (bts s).drop 1) (p := [61]) h)
    have HTN := hid (fun h => trim_no (l := (bts s).drop 1) (p := [61]) h)
    generalize Lib.hasPrefix ((bts s).drop 1) [61] = b61 at *
    generalize hx1 : s.extract 1 s.size = s1 at *
    have HX1 := hid hx1
    clear hx1
    generalize hq : Lib.trimPrefix ((bts s).drop 1) [61] = q at *
    have HQ := hid hq
    clear hq
    cases f
    all_goals
      first | (rw [show Lib.hasPrefix (bts s) [60] = true from hp] at HB60) | (rw [show Lib.hasPrefix (bts s) [62] = true from hp] at HB62)
      clear hp
      go_enter Tryz.func179, Tryz.ntmps179
      go_wp2_with fail
      first | (with_reducible refine (HB60.out _).mono ?_) | (with_reducible refine (HB62.out _).mono ?_)
      rintro _ _ ⟨rfl, rfl⟩
      go_wp2_with fail
      rw [HX1.out]
      refine (HB61.out _).mono ?_
      rintro _ _ ⟨rfl, rfl⟩
      go_upto_if 20 with fail
      refine wp_name ?_
      intro w1 hw1
      have O1 := hid (show Own w.heap.size w1 w.heap.size [.int .i64 0, .int .i64 0, .int .i64 0, .int .i64 0, .string ⟨#[]⟩, .string ⟨#[]⟩, .bool false] by rw [hw1]; exact Own.new w [.int .i64 0, .int .i64 0, .int .i64 0, .int .i64 0, .string ⟨#[]⟩, .string ⟨#[]⟩, .bool false] 81 (Nat.le_refl _))
      have HB := hid (show Below w.heap.size w w1 by rw [hw1]; exact below_new _ _)
      clear hw1
      go_cut [0, 7] from 19 to 34 (fun sv av wx => ∃ s2 : ByteArray, sv = .string s2 ∧ s2.size ≤ 4398046511103 ∧ Hid (bts s2 = q) ∧ av = .bool af ∧ wx = w1)
      case first =>
        cases b61
        · have HQ2 := hid (HTN.out rfl)
          have HE := hid HAF.out
          go_wp2_with fail
          go_meet
          case rel => exact ⟨s1, rfl, hz1, hid (HT1.out.trans HQ2.out.symm), by rw [HE.out]; rfl, rfl⟩
        · have HQ2 := hid (HTY.out rfl)
          have HE := hid HAF.out
          have hpos2 := HPP.out rfl
          go_wp2_with fail
          go_meet
          case rel => exact ⟨s1.extract 1 s1.size, rfl, by rw [ByteArray.size_extract]; omega, hid (HT2.out.trans HQ2.out.symm), by rw [HE.out]; rfl, rfl⟩
      case rest =>
        obtain ⟨s2, rfl, hz2, HS2, rfl, rfl⟩ := hcut
        have HP := hid (fun u => HPF.out s2 u hz2)
        rw [HS2.out] at HP
        generalize parseV q = ov at *
        have HV0 : Hid (∃ v : Ver, ov.getD zeroV = v ∧ ∀ u, ov = some u → v = u) := hid ⟨_, rfl, fun u h => by rw [h]; rfl⟩
        obtain ⟨v, hv1, hv2⟩ := HV0.out
        have HV := hid hv2
        have HV1 := hid hv1
        clear hv1 hv2 HV0
        have HOC := hid (show ov.isSome = oc.isSome by rw [HOE0.out]; cases ov <;> rfl)
        have HOV := hid (show ∀ u, oc = some u → (⟨0, v, af⟩ : CutL) = u by
          intro u hu
          rw [HOE0.out] at hu
          cases ov with
          | none => cases hu
          | some x => injection hu with hu; rw [← hu, HV.out x rfl])
        have HP := hid (fun u => (HP.out u).mono (R' := fun e w' => e = .returned (.tuple #[v.val, .int .i64 (if oc.isSome then 0 else 5)]) ∧ Below u.heap.size u w') (fun e w' h => by
          obtain ⟨h1, h2⟩ := h
          rw [HV1.out, HOC.out] at h1
          exact ⟨h1, h2⟩))
        clear HOC HV HV1 HOE0
        go_wp2_with fail
        refine (HP.out _).mono ?_
        rintro _ w2 ⟨rfl, hb⟩
        have O1 := hid (O1.out.below hb)
        have HB := hid (below_tr HB.out hb)
        clear hb
        go_upto_region 12 with fail
        refine wp_name ?_
        intro w3 hw3
        have O1 := hid (show Own w.heap.size w3 w.heap.size [.int .i64 0, .int .i64 0, .int .i64 0, .int .i64 0, .string ⟨#[]⟩, .string ⟨#[]⟩, .bool false] by rw [hw3]; exact O1.out.alloc _)
        have O8 := hid (show Own w.heap.size w3 w2.heap.size v.cells by rw [hw3]; exact Own.new w2 v.cells 44 HB.out.size)
        have HB := hid (show Below w.heap.size w w3 by rw [hw3]; exact below_tr HB.out (below_new _ _))
        clear hw3
        generalize w2.heap.size = g8 at *
        obtain ⟨x0, x1, x2, x3, x4, x5, x6⟩ := O1.out.box.get7
        obtain ⟨y0, y1, y2, y3, y4⟩ := O8.out.box.get5
        have sf1 : ∀ j, w3.frozen? ⟨w.heap.size, j, none⟩ = false := O1.out.soft
        have hlt1 := O1.out.box.1
        have hlt8 := O8.out.box.1
        generalize hen : (if oc.isSome = true then (0 : Int) else 5) = en
        have HEN := hid hen
        clear hen
        generalize his : oc.isSome = is at *
        have HIS := hid his
        clear his
        have HEB := hid (show (en == 0) = is by rw [← HEN.out]; cases is <;> rfl)
        generalize hbb : (en == 0) = bb at *
        have HBB := hid hbb
        clear hbb
        go_wp2_with fail
        refine body_name ?_
        intro w9 hw9
        have O9 : Own w.heap.size w9 w.heap.size (CutL.cells ⟨0, v, af⟩) := by rw [hw9]; exact O1.out.set7 _ _ _ _ _ _ _
        have B9 : Below w.heap.size w w9 := by rw [hw9]; exact below_set7 HB.out (Nat.le_refl _) _ _ _ _ _ _ _
        clear hw9
        obtain ⟨k0, k1, k2, k3, k4, k5, k6⟩ := O9.box.get7
        refine bodyPost_ret (v := .tuple #[CutL.val ⟨0, v, af⟩, .bool oc.isSome]) (by simp [results, Tryz.results179, go_sem, k0, k1, k2, k3, k4, k5, k6, HIS.out, HBB.out, HEB.out]) rfl ?_
        exact ⟨_, rfl, HOV.out, B9⟩
end Go.Proofs.YtjceaniffooohaaGreatDoor
