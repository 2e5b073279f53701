/- Numbers out of a row of numbers: Place, At, From. -/
import Derived.Test.YtodicnjoimoiiaaKit
import Derived.StillTailTactics
namespace Go.Proofs.Ytodicnjoimoiiaa
open Go.RowKit Go.Lib
set_option linter.unusedVariables false
set_option linter.unusedSimpArgs false

def placeI (v n : Int) : Int := if v.tmod n < 0 then v.tmod n + n else v.tmod n
theorem tmod_bd (v n : Int) (hn : 0 < n) : -n < v.tmod n ∧ v.tmod n < n := ⟨by have := Int.lt_tmod_of_pos v hn; omega, Int.tmod_lt_of_pos v hn⟩
theorem placeI_bd (v n : Int) (hn : 0 < n) : 0 ≤ placeI v n ∧ placeI v n < n := by
  have := tmod_bd v n hn
  unfold placeI; split <;> omega
theorem ret_i {a b : Int} (h : a = b) : Ending.returned (.int .i64 a) = .returned (.int .i64 b) := by rw [h]
def I64 (v : Int) : Prop := -9223372036854775808 ≤ v ∧ v ≤ 9223372036854775807
set_option maxHeartbeats 1000000 in
theorem place_any (v n : Int) (w : World) (hn : 0 < n) (hn2 : n ≤ 1000000) : Calls Try.prog 22 #[.int .i64 v, .int .i64 n] w fun e w' => e = .returned (.int .i64 (placeI v n)) ∧ w = w' := by
  have hb := tmod_bd v n hn
  have hz : (n == 0) = false := by simp; omega
  obtain ⟨hb1, hb2⟩ := hb
  cases hlt : decide (v.tmod n < 0)
  · have HP := hid (show placeI v n = v.tmod n by rw [placeI, if_neg (by simpa using hlt)])
    go_enter Try.func22, Try.ntmps22
    go_wp2_with fail
    go_ret
    exact ⟨ret_i HP.out.symm, rfl⟩
  · have HP := hid (show placeI v n = v.tmod n + n by rw [placeI, if_pos (by simpa using hlt)])
    go_enter Try.func22, Try.ntmps22
    go_wp2_with fail
    go_ret
    exact ⟨ret_i HP.out.symm, rfl⟩
def IntsAt (w : World) (A : Option Addr) (zs : List Int) : Prop := zs = [] ∨ ∃ b off, A = some ⟨b, off, none⟩ ∧ b < w.heap.size ∧ ∀ i, i < zs.length → w.cell? ⟨b, off + i, none⟩ = some (.int .i64 (zs.getD i 0))
theorem IntsAt.below {w w' : World} {A : Option Addr} {zs : List Int} (h : IntsAt w A zs) (hb : Below w.heap.size w w') : IntsAt w' A zs := by
  rcases h with h | ⟨b, off, rfl, hlt, hc⟩
  · exact .inl h
  · exact .inr ⟨b, off, rfl, Nat.lt_of_lt_of_le hlt hb.size, fun i hi => (hb.cell (p := ⟨b, _, none⟩) hlt).trans (hc i hi)⟩
def atL (zs : List Int) (i : Int) : Int := if i < 0 ∨ (zs.length : Int) ≤ i then 0 else zs.getD i.toNat 0
set_option maxHeartbeats 1000000 in
theorem at_any (A : Option Addr) (cap : Nat) (zs : List Int) (i : Int) (w : World) (h : IntsAt w A zs) (hi : 0 ≤ i) (hi2 : i ≤ 1000000000) (hln : zs.length ≤ 9223372036854775807) : Calls Try.prog 63 #[.slice A zs.length cap, .int .i64 i] w fun e w' => e = .returned (.int .i64 (atL zs i)) ∧ w = w' := by
  obtain ⟨k, rfl⟩ := Int.eq_ofNat_of_zero_le hi
  by_cases hlt : k < zs.length
  · rcases h with h | ⟨b, off, rfl, hb, hc⟩
    · subst h; simp at hlt
    · have HP := hid (show atL zs (k : Int) = zs.getD k 0 by rw [atL, if_neg (by omega), Int.toNat_natCast])
      have hcell := hc k hlt
      have h1 : (k : Int) < (zs.length : Int) := by omega
      clear hc
      generalize zs.length = n at *
      generalize zs.getD k 0 = z at *
      go_enter Try.func63, Try.ntmps63
      go_wp2_with fail
      go_ret
      exact ⟨ret_i HP.out.symm, rfl⟩
  · have HP := hid (show atL zs (k : Int) = 0 by rw [atL, if_pos (by omega)])
    have h1 : (zs.length : Int) ≤ (k : Int) := by omega
    clear h
    generalize zs.length = n at *
    go_enter Try.func63, Try.ntmps63
    go_wp2_with fail
    go_ret
    exact ⟨ret_i HP.out.symm, rfl⟩
def fromL (zs : List Int) (i n : Int) : Int := placeI (atL zs i) n
theorem fromL_bd (zs : List Int) (i n : Int) (hn : 0 < n) : 0 ≤ fromL zs i n ∧ fromL zs i n < n := placeI_bd _ _ hn
theorem from_any (A : Option Addr) (cap : Nat) (zs : List Int) (i n : Int) (w : World) (h : IntsAt w A zs) (hi : 0 ≤ i) (hi2 : i ≤ 1000000000) (hln : zs.length ≤ 9223372036854775807) (hn : 0 < n) (hn2 : n ≤ 1000000) : Calls Try.prog 45 #[.slice A zs.length cap, .int .i64 i, .int .i64 n] w fun e w' => e = .returned (.int .i64 (fromL zs i n)) ∧ w = w' := by
  have h1 := hid (at_any A cap zs i w h hi hi2 hln)
  have h2 := hid (place_any (atL zs i) n w hn hn2)
  have HF := hid (show fromL zs i n = placeI (atL zs i) n from rfl)
  clear h
  generalize fromL zs i n = r at *
  generalize placeI (atL zs i) n = q at *
  generalize atL zs i = z at *
  generalize zs.length = m at *
  go_enter Try.func45, Try.ntmps45
  go_wp2_with fail
  refine h1.out.mono ?_
  rintro _ _ ⟨rfl, rfl⟩
  go_wp2_with fail
  refine h2.out.mono ?_
  rintro _ _ ⟨rfl, rfl⟩
  go_wp2_with fail
  go_ret
  exact ⟨ret_i HF.out.symm, rfl⟩
end Go.Proofs.Ytodicnjoimoiiaa
