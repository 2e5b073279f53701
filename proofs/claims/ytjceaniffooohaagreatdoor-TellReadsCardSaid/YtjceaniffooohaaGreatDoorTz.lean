/- The reference's texts: linchpinref8.row. -/
import Derived.Test.YtjceaniffooohaaGreatDoorTy
namespace Go.Proofs.YtjceaniffooohaaGreatDoor
open Go.RowKit Go.Lib
open Rw
set_option linter.unusedVariables false
set_option linter.unusedSimpArgs false

set_option maxRecDepth 100000 in
set_option maxHeartbeats 1000000 in
theorem rrow8_full (A : Option Addr) (c : Nat) (sp : List SpanL) (w : World) (hsp : Spans w A sp) (hf : fitL sp) (hne : sp ≠ []) (hln : sp.length ≤ 5000000000) : Calls Tryz.prog 74 #[.slice A sp.length c] w (StrPost w (rowT sp)) := by
  have hpos : 0 < sp.length := List.length_pos_iff.2 hne
  have HE := hid hne
  have HSP := hid hsp
  have HF := hid hf
  have HR := hid (rowT_len sp)
  clear hsp hf hne
  generalize hn : sp.length = n at *
  have HN := hid hn
  clear hn
  have hn0 : ((n : Int) == 0) = false := by simp; omega
  go_enter Tryz.func74, Tryz.ntmps74
  go_wp2_with fail
  go_loopw [4, 3] (fun i o wr => ∃ (k : Nat) (t : ByteArray), i = .int .i64 k ∧ k ≤ n ∧ o = .string t ∧ Hid (bts t = rowTo sp k) ∧ Hid (Below w.heap.size w wr)) (fun i _ _ => n - (intOf i).toNat)
  case atStart => exact ⟨0, _, rfl, Nat.zero_le _, rfl, hid (by rw [rowTo_zero]; exact bts_lit []), hid (Below.refl _ _)⟩
  case round =>
    obtain ⟨k, t, rfl, hk, rfl, HT, HB⟩ := hrel
    have st : t.size ≤ 185 * 5000000000 + 1 := by rw [← bts_len, HT.out]; have := rowTo_len HE.out k; have := HR.out; omega
    by_cases hlt : k < n
    · have hlt' : k < sp.length := by rw [HN.out]; exact hlt
      obtain ⟨g, off, rfl, hgl, ⟨x0, x1, x2, x3, x4, x5, x6⟩, z0, z1, z2, z3, z4, z5, z6⟩ := (HSP.out.below HB.out).at_ (k := k) hlt'
      have i0 : (0 : Int) ≤ (k : Int) := by omega
      have i1 : (k : Int) < (n : Int) := by omega
      have HSPN := hid (fun u => rspan8_any (nth sp k) u (HF.out k hlt'))
      have HL2 := hid (rowTo_len HE.out (k + 1))
      by_cases hk0 : k = 0
      · subst hk0
        have HX := hid (rowTo_first hlt')
        simp only [Nat.zero_mul, Nat.add_zero] at x0 x1 x2 x3 x4 x5 x6 z0 z1 z2 z3 z4 z5 z6
        generalize nth sp 0 = s at *
        go_wp2_with fail
        refine (HSPN.out _).mono ?_
        rintro _ u1 ⟨t1, rfl, ht1, k1⟩
        have HT1 := hid ht1
        have s1 : t1.size ≤ 1000000000000 := by rw [← bts_len, HT1.out, ← HX.out]; have h := HL2.out; simp only [Nat.zero_add] at h; have := HR.out; omega
        clear ht1 x0 x1 x2 x3 x4 x5 x6 z0 z1 z2 z3 z4 z5 z6
        go_wp2_with fail
        go_roundw
        case rel => exact ⟨0 + 1, _, by go_num, by omega, rfl, hid (by rw [bts_append, HT.out, HT1.out, rowTo_zero, HX.out]; rfl), hid (below_tr HB.out k1)⟩
        case measure => simp [intOf]; omega
      · have hkp : (0 : Int) < (k : Int) := by omega
        have HX := hid (rowTo_next (by omega) hlt')
        generalize nth sp k = s at *
        go_wp2_with fail
        refine (HSPN.out _).mono ?_
        rintro _ u1 ⟨t1, rfl, ht1, k1⟩
        have HT1 := hid ht1
        have s1 : t1.size ≤ 1000000000000 := by
          rw [← bts_len, HT1.out]
          have h := HL2.out
          rw [HX.out] at h
          simp only [List.length_append] at h
          have := HR.out
          omega
        clear ht1 x0 x1 x2 x3 x4 x5 x6 z0 z1 z2 z3 z4 z5 z6
        go_wp2_with fail
        go_roundw
        case rel => exact ⟨k + 1, _, by go_num, by omega, rfl, hid (by rw [bts_append, bts_append, HT.out, HT1.out, bor, HX.out, List.append_assoc]), hid (below_tr HB.out k1)⟩
        case measure => simp [intOf]; omega
    · obtain rfl : k = n := by omega
      go_wp2_with fail
      first | go_ret | go_end0 | go_returns
      refine ⟨_, rfl, ?_, HB.out⟩
      have h1 := HT.out
      rw [← HN.out, rowTo_all HE.out] at h1
      exact h1
end Go.Proofs.YtjceaniffooohaaGreatDoor
