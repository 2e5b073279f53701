/- Contracts: the reference's Parse of versions. -/
import Derived.Test.YtjceaniffooohaaGreatDoorTf
namespace Go.Proofs.YtjceaniffooohaaGreatDoor
open Go.RowKit Go.Lib
set_option linter.unusedVariables false
set_option linter.unusedSimpArgs false

set_option maxRecDepth 100000 in
set_option maxHeartbeats 1000000 in
theorem rplace_any (s : ByteArray) (b : UInt8) (w : World) (hs : s.size ≤ 9223372036854775806) : Calls Tryz.prog 229 #[.string s, .int .u8 b.toNat] w fun e w' => e = .returned (.int .i64 (beforeL b (bts s)).length) ∧ w = w' := by
  go_enter Tryz.func229, Tryz.ntmps229
  go_wp2_with fail
  go_loop [5] (fun k => ∃ n : Nat, n ≤ s.size ∧ k = .int .i64 n ∧ Hid (b ∉ (bts s).take n)) (fun k => s.size - (intOf k).toNat)
  case atStart => exact ⟨0, Nat.zero_le _, rfl, hid (by simp)⟩
  case round =>
    obtain ⟨n, hn, rfl, HN⟩ := hrel
    go_wp2_with fail
    · have hlt : n < s.size := by assumption
      have hc := u8_of_beq (by assumption : ((s[n].toNat : Int) == (b.toNat : Int)) = true)
      go_ret
      refine ⟨congrArg (fun n : Nat => Ending.returned (.int .i64 (n : Int))) ?_, rfl⟩
      rw [(behind_at hlt hc HN.out).1, bts_len, ByteArray.size_extract]
      omega
    · go_round
      case rel =>
        have hlt : n < s.size := by assumption
        refine ⟨n + 1, by omega, by go_num, hid ?_⟩
        rw [bts_take s n hlt, List.mem_append, not_or]
        refine ⟨HN.out, ?_⟩
        rw [List.mem_singleton]
        exact fun e => u8_of_bne (by assumption : ((s[n].toNat : Int) == (b.toNat : Int)) = false) e.symm
      case measure => simp [intOf]; omega
    · go_ret
      obtain rfl : n = s.size := by omega
      have h := HN.out
      rw [bts_take_all] at h
      exact ⟨congrArg (fun n : Nat => Ending.returned (.int .i64 (n : Int))) (by rw [(before_none h).1, bts_len]), rfl⟩
/-- a version has come back, and whether it is one -/
def ThreePost (w : World) (o : Option Ver) (e : Ending) (w' : World) : Prop := ∃ v : Ver, e = .returned (.tuple #[v.val, .bool o.isSome]) ∧ (∀ u, o = some u → v = u) ∧ Below w.heap.size w w'
theorem three_none {ls : List (List UInt8)} (h : ls.length ≠ 3) (p b : List UInt8) : threeV ls p b = none := by
  unfold threeV
  split
  · rename_i x; simp at h
  · rfl
theorem three_of (p : List (List UInt8)) (pre bld : List UInt8) : threeV p pre bld = match threeV p [] [] with
    | some v => some ⟨v.maj, v.min, v.pat, strB pre, strB bld⟩
    | none => none := by
  unfold threeV
  split
  · split <;> rfl
  · rfl
set_option maxRecDepth 100000 in
set_option maxHeartbeats 2000000 in
theorem three_any (g cap : Nat) (ls : List (List UInt8)) (w : World) (hH : Held w g ls) (hln : ls.length ≤ 4398046511105) : Calls Tryz.prog 230 #[.slice (some ⟨g, 0, none⟩) ls.length cap] w (ThreePost w (threeV ls [] [])) := by
  have HH := hid hH
  clear hH
  by_cases h3 : ls.length = 3
  · obtain ⟨l0, l1, l2, rfl⟩ : ∃ l0 l1 l2, ls = [l0, l1, l2] := by
      match ls, h3 with
      | [a, b, c], _ => exact ⟨a, b, c, rfl⟩
    have c0 : w.cell? ⟨g, 0, none⟩ = some (.string (strB l0)) := HH.out.2 0 (by simp)
    have c1 : w.cell? ⟨g, 1, none⟩ = some (.string (strB l1)) := HH.out.2 1 (by simp)
    have c2 : w.cell? ⟨g, 2, none⟩ = some (.string (strB l2)) := HH.out.2 2 (by simp)
    have hg := HH.out.1
    have HG := hid hg
    have HC := hid (And.intro c0 (And.intro c1 c2))
    clear c1 c2 h3
    have hg1 : g < w.heap.size + 1 := by omega
    have hg2 : g < w.heap.size + 1 + 1 := by omega
    go_enter Tryz.func230, Tryz.ntmps230
    go_wp2_with fail
    refine calls_name ?_
    intro w1 hw1
    have hb : Below w.heap.size w w1 := by rw [hw1]; exact below_tr (below_new _ _) (below_new _ _)
    have O1 := hid (show Own w.heap.size w1 w.heap.size zeroV.cells by rw [hw1]; exact (Own.new w zeroV.cells 44 (Nat.le_refl _)).alloc _)
    have HB := hid hb
    clear hw1 hb c0 hg hg1 hg2
    refine (rnumber_any (strB l0) w1).mono ?_
    rintro _ v0 ⟨rfl, hb⟩
    rw [bts_strB]
    have O1 := hid (O1.out.below hb)
    have HB := hid (below_tr HB.out hb)
    clear hb
    have c1 : v0.cell? ⟨g, 1, none⟩ = some (.string (strB l1)) := (HB.out.cell (p := ⟨g, 1, none⟩) HG.out).trans HC.out.2.1
    generalize hk0 : numberL l0 = m0 at *
    obtain ⟨i0, b0⟩ := m0
    have HK0 := hid hk0
    clear hk0
    go_wp2_with fail
    refine (rnumber_any (strB l1) v0).mono ?_
    rintro _ v1 ⟨rfl, hb⟩
    rw [bts_strB]
    have O1 := hid (O1.out.below hb)
    have HB := hid (below_tr HB.out hb)
    clear hb c1
    have c2 : v1.cell? ⟨g, 2, none⟩ = some (.string (strB l2)) := (HB.out.cell (p := ⟨g, 2, none⟩) HG.out).trans HC.out.2.2
    generalize hk1 : numberL l1 = m1 at *
    obtain ⟨i1, b1⟩ := m1
    have HK1 := hid hk1
    clear hk1
    go_wp2_with fail
    refine (rnumber_any (strB l2) v1).mono ?_
    rintro _ v2 ⟨rfl, hb⟩
    rw [bts_strB]
    have O1 := hid (O1.out.below hb)
    have HB := hid (below_tr HB.out hb)
    clear hb c2
    generalize hk2 : numberL l2 = m2 at *
    obtain ⟨i2, b2⟩ := m2
    have HK2 := hid hk2
    clear hk2
    obtain ⟨x0, x1, x2, x3, x4⟩ := O1.out.box.get5
    have sf : ∀ j, v2.frozen? ⟨w.heap.size, j, none⟩ = false := O1.out.soft
    have hlt := O1.out.box.1
    have HR : Hid (threeV [l0, l1, l2] [] [] = if b0 && (b1 && b2) then some ⟨i0, i1, i2, strB [], strB []⟩ else none) := hid (by simp only [threeV, HK0.out, HK1.out, HK2.out])
    generalize threeV [l0, l1, l2] [] [] = o at *
    have HE : Hid (o.isSome = (b0 && (b1 && b2))) := hid (by rw [HR.out]; cases b0 <;> cases b1 <;> cases b2 <;> rfl)
    have HV : Hid (∀ u, o = some u → (⟨i0, i1, i2, ⟨#[]⟩, ⟨#[]⟩⟩ : Ver) = u) := hid (fun u hu => by
      rw [HR.out] at hu
      split at hu
      · injection hu
      · cases hu)
    clear HR
    cases b0 <;> cases b1 <;> cases b2
    all_goals
      go_wp2_with fail
      refine body_name ?_
      intro w9 hw9
      have O9 : Own w.heap.size w9 w.heap.size (Ver.cells ⟨i0, i1, i2, ⟨#[]⟩, ⟨#[]⟩⟩) := by rw [hw9]; exact O1.out.set5 _ _ _ _ _
      have B9 : Below w.heap.size w w9 := by rw [hw9]; exact below_set5 HB.out (Nat.le_refl _) _ _ _ _ _
      clear hw9
      obtain ⟨k0, k1, k2, k3, k4⟩ := O9.box.get5
      refine bodyPost_ret (v := .tuple #[Ver.val ⟨i0, i1, i2, ⟨#[]⟩, ⟨#[]⟩⟩, .bool o.isSome]) (by simp [results, Tryz.results230, go_sem, k0, k1, k2, k3, k4, HE.out]) rfl ?_
      exact ⟨_, rfl, HV.out, B9⟩
  · have HR := hid (three_none h3 [] [])
    have hd : ((ls.length : Int) != 3) = true := by simp; omega
    clear h3
    generalize ls.length = n at *
    rw [HR.out]
    go_enter Tryz.func230, Tryz.ntmps230
    go_wp2_with fail
    refine body_name ?_
    intro w9 hw9
    have O9 : Own w.heap.size w9 w.heap.size zeroV.cells := by
      rw [hw9]
      exact (Own.new w zeroV.cells 44 (Nat.le_refl _)).alloc _
    have B9 : Below w.heap.size w w9 := by rw [hw9]; exact below_tr (below_new _ _) (below_new _ _)
    clear hw9
    obtain ⟨k0, k1, k2, k3, k4⟩ := O9.box.get5
    refine bodyPost_ret (v := .tuple #[zeroV.val, .bool false]) (by simp [results, Tryz.results230, go_sem, k0, k1, k2, k3, k4, zeroV]) rfl ?_
    exact ⟨zeroV, rfl, fun u h => (by cases h), B9⟩
end Go.Proofs.YtjceaniffooohaaGreatDoor
