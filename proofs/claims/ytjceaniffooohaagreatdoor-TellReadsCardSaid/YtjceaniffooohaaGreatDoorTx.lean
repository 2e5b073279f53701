/- Sets as texts: linchpinlaw8.few, part: the loops of linchpinlaw5's over again. -/
import Derived.Test.YtjceaniffooohaaGreatDoorSetP
namespace Go.Proofs.YtjceaniffooohaaGreatDoor
open Go.RowKit Go.Lib
open Rw
set_option linter.unusedVariables false
set_option linter.unusedSimpArgs false

set_option maxRecDepth 100000 in
set_option maxHeartbeats 4000000 in
theorem part8_any (A : Option Addr) (c : Nat) (l : List SpanL) (w : World) (hl : Spans w A l) (hln : l.length ≤ 9223372036854775807) : Calls Tryz.prog 68 #[.slice A l.length c] w fun e w' => e = .returned (.bool (fewR 8 l)) ∧ w = w' := by
  generalize hr : fewR 8 l = r
  have HR := hid hr
  clear hr
  have HL := hid hl
  clear hl
  generalize hn : l.length = n at *
  have HN := hid hn
  clear hn
  go_enter Tryz.func68, Tryz.ntmps68
  go_wp2_with fail
  go_loop [3] (fun i => ∃ k : Nat, i = .int .i64 k ∧ k ≤ n ∧ k ≤ 8 ∧ Hid (shortTo l k)) (fun i => n - (intOf i).toNat)
  case atStart => exact ⟨0, rfl, Nat.zero_le _, Nat.zero_le _, fun j hj => by omega⟩
  case round =>
    obtain ⟨k, rfl, hk, hk2, HM⟩ := hrel
    by_cases hlt : k < n
    · have hlt' : k < l.length := by rw [HN.out]; exact hlt
      by_cases hbig : k = 8
      · have HE := hid (few_long (m := 8) (l := l) (by omega))
        have hd : decide ((7 : Int) < (k : Int)) = true := by simp; omega
        clear hbig
        go_wp2_with fail
        go_ret
        exact ⟨by rw [← HR.out, HE.out]; rfl, rfl⟩
      · have hd : decide ((7 : Int) < (k : Int)) = false := by simp; omega
        obtain ⟨b, off, rfl, hbl, ⟨x0, x1, x2, x3, x4, x5, x6⟩, z0, z1, z2, z3, z4, z5, z6⟩ := HL.out.at_ (k := k) hlt'
        have i0 : (0 : Int) ≤ (k : Int) := by omega
        have i1 : (k : Int) < (n : Int) := by omega
        generalize hsk : nth l k = s at *
        have HK := hid hsk
        clear hsk
        cases d0 : decide (60 < (s.fr.v.pre.size : Int))
        · skip
          cases d1 : decide (60 < (s.fr.v.bld.size : Int))
          · skip
            cases d2 : decide (60 < (s.til.v.pre.size : Int))
            · skip
              cases d3 : decide (60 < (s.til.v.bld.size : Int))
              · skip
                have HE := hid (show shortS s = true by simp [shortS, d0, d1, d2, d3])
                go_wp2_with fail
                go_round
                case rel => exact ⟨k + 1, by go_num, by omega, by omega, shortTo_step HM.out (by rw [HK.out]; exact HE.out)⟩
                case measure => simp [intOf]; omega
              · have HE := hid (few_no (m := 8) hlt' (by rw [HK.out]; simp [shortS, d0, d1, d2, d3]))
                go_wp2_with fail
                go_ret
                exact ⟨by rw [← HR.out, HE.out]; rfl, rfl⟩
            · have HE := hid (few_no (m := 8) hlt' (by rw [HK.out]; simp [shortS, d0, d1, d2]))
              go_wp2_with fail
              go_ret
              exact ⟨by rw [← HR.out, HE.out]; rfl, rfl⟩
          · have HE := hid (few_no (m := 8) hlt' (by rw [HK.out]; simp [shortS, d0, d1]))
            go_wp2_with fail
            go_ret
            exact ⟨by rw [← HR.out, HE.out]; rfl, rfl⟩
        · have HE := hid (few_no (m := 8) hlt' (by rw [HK.out]; simp [shortS, d0]))
          go_wp2_with fail
          go_ret
          exact ⟨by rw [← HR.out, HE.out]; rfl, rfl⟩
    · obtain rfl : k = n := by omega
      have HE := hid (few_yes (m := 8) (l := l) (by rw [HN.out]; omega) (by rw [HN.out]; exact HM.out))
      have hd : decide ((k : Int) < (k : Int)) = false := by simp
      go_wp2_with fail
      go_ret
      exact ⟨by rw [← HR.out, HE.out]; rfl, rfl⟩

theorem fews8_any (A B : Option Addr) (c d : Nat) (l m : List SpanL) (w : World) (hl : Spans w A l) (hm : Spans w B m) (hln : l.length ≤ 9223372036854775807) (hmn : m.length ≤ 9223372036854775807) : Calls Tryz.prog 39 #[setV A l.length c B m.length d] w (BoolPost w (fewR 8 l && fewR 8 m)) := by
  have HB0 := hid (below_new w (.cells [.slice A l.length c, .slice B m.length d].toArray 31))
  have HX := hid (Box.new w [.slice A l.length c, .slice B m.length d] 31)
  have HC := hid (part8_any A c l _ (hl.below HB0.out) hln)
  have HD := hid (part8_any B d m _ (hm.below HB0.out) hmn)
  obtain ⟨z0, z1⟩ := HX.out.get2
  clear hl hm
  generalize l.length = n at *
  generalize m.length = n2 at *
  cases h1 : fewR 8 l
  · go_enter Tryz.func39, Tryz.ntmps39
    go_wp2_with fail
    refine HC.out.mono ?_
    rintro _ _ ⟨rfl, rfl⟩
    rw [h1]
    go_wp2_with fail
    go_ret
    exact ⟨rfl, HB0.out⟩
  · go_enter Tryz.func39, Tryz.ntmps39
    go_wp2_with fail
    refine HC.out.mono ?_
    rintro _ _ ⟨rfl, rfl⟩
    rw [h1]
    go_wp2_with fail
    refine HD.out.mono ?_
    rintro _ _ ⟨rfl, rfl⟩
    go_wp2_with fail
    go_ret
    exact ⟨rfl, HB0.out⟩
end Go.Proofs.YtjceaniffooohaaGreatDoor
