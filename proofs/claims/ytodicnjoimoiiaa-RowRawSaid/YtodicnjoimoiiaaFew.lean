/- The walk of linchpinlaw4.few. -/
import Derived.Test.YtodicnjoimoiiaaRowB
namespace Go.Proofs.Ytodicnjoimoiiaa
open Go.RowKit Go.Lib
set_option linter.unusedVariables false
set_option linter.unusedSimpArgs false

def shortV (v : Ver) : Bool := !(decide (60 < (v.pre.size : Int)) || decide (60 < (v.bld.size : Int)))
def shortS (s : SpanL) : Bool := !(decide (60 < (s.fr.v.pre.size : Int)) || decide (60 < (s.fr.v.bld.size : Int)) || decide (60 < (s.til.v.pre.size : Int)) || decide (60 < (s.til.v.bld.size : Int)))
/-- are the first k short? -/
def shortTo (l : List SpanL) (k : Nat) : Prop := ∀ j, j < k → shortS (nth l j) = true
def fewR (m : Nat) (l : List SpanL) : Bool := decide (l.length ≤ m) && l.all shortS
theorem shortTo_step {l : List SpanL} {k : Nat} (h : shortTo l k) (h1 : shortS (nth l k) = true) : shortTo l (k + 1) := by
  intro j hj
  rcases Nat.lt_or_ge j k with h' | h'
  · exact h j h'
  · obtain rfl : j = k := by omega
    exact h1
theorem few_no {m : Nat} {l : List SpanL} {k : Nat} (hk : k < l.length) (h : shortS (nth l k) = false) : fewR m l = false := by
  have : l.all shortS = false := by
    rw [List.all_eq_false]
    rw [nth_lt hk] at h
    exact ⟨_, List.getElem_mem hk, by simp [h]⟩
  rw [fewR, this, Bool.and_false]
theorem few_long {m : Nat} {l : List SpanL} (h : m < l.length) : fewR m l = false := by
  rw [fewR, decide_eq_false (by omega), Bool.false_and]
theorem few_yes {m : Nat} {l : List SpanL} (h : l.length ≤ m) (h2 : shortTo l l.length) : fewR m l = true := by
  rw [fewR, decide_eq_true h, Bool.true_and, List.all_eq_true]
  intro s hs
  obtain ⟨i, hi, rfl⟩ := List.getElem_of_mem hs
  have := h2 i hi
  rwa [nth_lt hi] at this
theorem short_fit {s : SpanL} (h : shortS s = true) : s.fit := by
  simp only [shortS, Bool.not_eq_true', Bool.or_eq_false_iff, decide_eq_false_iff_not] at h
  obtain ⟨⟨⟨h1, h2⟩, h3⟩, h4⟩ := h
  exact ⟨⟨by omega, by omega⟩, ⟨by omega, by omega⟩⟩
theorem few_fit {m : Nat} {l : List SpanL} (h : fewR m l = true) : l.length ≤ m ∧ fitL l := by
  rw [fewR, Bool.and_eq_true, decide_eq_true_eq, List.all_eq_true] at h
  refine ⟨h.1, fun i hi => ?_⟩
  rw [nth_lt hi]
  exact short_fit (h.2 _ (List.getElem_mem hi))
theorem shortV_fit {v : Ver} (h : shortV v = true) : v.fit := by
  simp only [shortV, Bool.not_eq_true', Bool.or_eq_false_iff, decide_eq_false_iff_not] at h
  exact ⟨by omega, by omega⟩

set_option maxRecDepth 100000 in
set_option maxHeartbeats 4000000 in
theorem few_any (A : Option Addr) (c : Nat) (l : List SpanL) (w : World) (hl : Spans w A l) (hln : l.length ≤ 9223372036854775807) : Calls Try.prog 11 #[.slice A l.length c] w fun e w' => e = .returned (.bool (fewR 12 l)) ∧ w = w' := by
  generalize hr : fewR 12 l = r
  have HR := hid hr
  clear hr
  have HL := hid hl
  clear hl
  generalize hn : l.length = n at *
  have HN := hid hn
  clear hn
  go_enter Try.func11, Try.ntmps11
  go_wp2_with fail
  go_loop [3] (fun i => ∃ k : Nat, i = .int .i64 k ∧ k ≤ n ∧ k ≤ 12 ∧ Hid (shortTo l k)) (fun i => n - (intOf i).toNat)
  case atStart => exact ⟨0, rfl, Nat.zero_le _, Nat.zero_le _, fun j hj => by omega⟩
  case round =>
    obtain ⟨k, rfl, hk, hk2, HM⟩ := hrel
    by_cases hlt : k < n
    · have hlt' : k < l.length := by rw [HN.out]; exact hlt
      by_cases hbig : k = 12
      · have HE := hid (few_long (m := 12) (l := l) (by omega))
        have hd : decide ((11 : Int) < (k : Int)) = true := by simp; omega
        clear hbig
        go_wp2_with fail
        go_ret
        exact ⟨by rw [← HR.out, HE.out]; rfl, rfl⟩
      · have hd : decide ((11 : Int) < (k : Int)) = false := by simp; omega
        obtain ⟨b, off, rfl, hbl, ⟨x0, x1, x2, x3, x4, x5, x6⟩, z0, z1, z2, z3, z4, z5, z6⟩ := HL.out.at_ (k := k) hlt'
        have i0 : (0 : Int) ≤ (k : Int) := by omega
        have i1 : (k : Int) < (n : Int) := by omega
        generalize hsk : nth l k = s at *
        have HK := hid hsk
        clear hsk
        cases d0 : decide (60 < (s.fr.v.pre.size : Int))
        · skip
          cases d1 : decide (60 < (s.fr.v.bld.size : Int))
          · skip
            cases d2 : decide (60 < (s.til.v.pre.size : Int))
            · skip
              cases d3 : decide (60 < (s.til.v.bld.size : Int))
              · skip
                have HE := hid (show shortS s = true by simp [shortS, d0, d1, d2, d3])
                go_wp2_with fail
                go_round
                case rel => exact ⟨k + 1, by go_num, by omega, by omega, shortTo_step HM.out (by rw [HK.out]; exact HE.out)⟩
                case measure => simp [intOf]; omega
              · have HE := hid (few_no (m := 12) hlt' (by rw [HK.out]; simp [shortS, d0, d1, d2, d3]))
                go_wp2_with fail
                go_ret
                exact ⟨by rw [← HR.out, HE.out]; rfl, rfl⟩
            · have HE := hid (few_no (m := 12) hlt' (by rw [HK.out]; simp [shortS, d0, d1, d2]))
              go_wp2_with fail
              go_ret
              exact ⟨by rw [← HR.out, HE.out]; rfl, rfl⟩
          · have HE := hid (few_no (m := 12) hlt' (by rw [HK.out]; simp [shortS, d0, d1]))
            go_wp2_with fail
            go_ret
            exact ⟨by rw [← HR.out, HE.out]; rfl, rfl⟩
        · have HE := hid (few_no (m := 12) hlt' (by rw [HK.out]; simp [shortS, d0]))
          go_wp2_with fail
          go_ret
          exact ⟨by rw [← HR.out, HE.out]; rfl, rfl⟩
    · obtain rfl : k = n := by omega
      have HE := hid (few_yes (m := 12) (l := l) (by rw [HN.out]; omega) (by rw [HN.out]; exact HM.out))
      have hd : decide ((k : Int) < (k : Int)) = false := by simp
      go_wp2_with fail
      go_ret
      exact ⟨by rw [← HR.out, HE.out]; rfl, rfl⟩
end Go.Proofs.Ytodicnjoimoiiaa
