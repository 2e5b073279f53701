/- The walk of version.tags: a loop over the parts, in it a range over a part. -/
import Derived.Test.YtodicnjoimoiiaaWd
import Derived.Deep.LoopGhost
namespace Go.Proofs.Ytodicnjoimoiiaa
open Go.RowKit Go.Lib
set_option linter.unusedVariables false
set_option linter.unusedSimpArgs false

theorem decode_notag (s : ByteArray) (k : Nat) (h : k < s.size) (hd : tagCh s[k] = false) : (Utf8.decode s k).1 < 45 ∨ (45 < (Utf8.decode s k).1 ∧ (Utf8.decode s k).1 < 48) ∨ (57 < (Utf8.decode s k).1 ∧ (Utf8.decode s k).1 < 97) ∨ 122 < (Utf8.decode s k).1 := by
  have hc := tagCh_no hd
  by_cases ha : s[k].toNat < 128
  · rw [decode_ascii s k h ha]; simp only; omega
  · have := (decode_high s k h (by omega)).1; omega

set_option maxRecDepth 100000 in
set_option maxHeartbeats 2000000 in
theorem tags_any (s : ByteArray) (w : World) (hs : s.size ≤ 4398046511104) : Calls Try.prog 84 #[.string s] w (BoolPost w (tagsL (bts s))) := by
  generalize hr : tagsL (bts s) = r
  have HR := hid hr
  clear hr
  go_enter Try.func84, Try.ntmps84
  go_wp2_with fail
  go_step3
  go_wp2_with fail
  refine (split46 s _ hs).mono ?_
  rintro e w1 ⟨g, cap, rfl, hg, hgs, hcap, hcell, hb⟩
  have HH := hid (show Held w1 g (splitP (bts s)) from ⟨hgs, hcell⟩)
  clear hcell
  have hd4 : decide (((splitP (bts s)).length : Int) ≤ 4) = decide ((splitP (bts s)).length ≤ 4) := decide_eq_decide.2 (by omega)
  have hnb : (splitP (bts s)).length ≤ 4398046511105 := by have := (splitL_len 46 (bts s) []).2; rw [bts_len] at this; exact Nat.le_trans this (by omega)
  generalize hn : (splitP (bts s)).length = n at *
  have HN := hid hn
  clear hn
  generalize hf : decide (n ≤ 4) = f at *
  have HF := hid hf
  clear hf
  go_wp2_with fail
  go_step3
  go_wp2_with fail
  go_loopg [4, 6, 8, 16] n (fun gk good t c i wr => ∃ k : Nat, i = .int .i64 k ∧ good = .bool f ∧ k + gk = n ∧ Hid (((splitP (bts s)).take k).all tagOk = true) ∧ Hid (Held wr g (splitP (bts s))) ∧ Below w.heap.size w wr)
  case atStart => exact ⟨0, rfl, rfl, by omega, rfl, HH, hb⟩
  case round =>
    obtain ⟨k, rfl, rfl, hk, HA, HW, hbr⟩ := hrel
    obtain ⟨g0, rfl⟩ : ∃ z : Nat, z = gk := ⟨_, rfl⟩
    have hsz := hbr.size
    by_cases hlt : k < n
    · have hlt' : k < (splitP (bts s)).length := by rw [HN.out]; exact hlt
      obtain ⟨x, hx1, hx2, hx3⟩ := part_str s k hlt'
      have hck := HW.out.2 k hlt'
      rw [hx1] at hck
      have HX := hid hx2
      clear hx1 hx2
      have hgw := HW.out.1
      by_cases h0 : 0 < x.size
      · obtain ⟨he, hne⟩ := ne_of_size h0
        by_cases h8 : x.size ≤ 8
        · have hd8 : decide ((8 : Int) < (x.size : Int)) = false := by simp; omega
          go_wp2_with fail
          clear hck
          obtain ⟨wo, rfl⟩ : ∃ wo : World, wo = wr := ⟨_, rfl⟩
          go_loopg [4, 8] x.size (fun gm good c wi => ∃ m : Nat, good = .bool f ∧ m + gm = x.size ∧ Hid (((bts x).take m).all tagCh = true) ∧ wi = wo.iter x m)
          case atStart => exact ⟨0, rfl, by omega, rfl, rfl⟩
          case round =>
            obtain ⟨m, rfl, hm, HM, rfl⟩ := hrel
            by_cases hml : m < x.size
            · by_cases hd : tagCh x[m] = true
              · have HD := hid hd
                have hc := tagCh_yes hd
                have hnx := fun ty => run_next_ascii (P := Try.prog) wo x m ty hml (by omega)
                clear hd
                generalize hcc : x[m].toNat = c at *
                have HC := hid hcc
                clear hcc
                rcases hc with rfl | ⟨hc1, hc2⟩ | ⟨hc1, hc2⟩
                all_goals
                  go_wp2_with fail
                  go_roundg (gk - 1)
                  case measure => omega
                  case rel => exact ⟨m + 1, rfl, by omega, bts_all_take x m hml HM.out HD.out, rfl⟩
              · have hdf : tagCh x[m] = false := by simpa using hd
                have hnx := fun ty => run_next_any (P := Try.prog) wo x m ty hml
                have hdc := decode_notag x m hml hdf
                have HE := hid (show tagsL (bts s) = false by rw [tagsL, all_take_false hlt' (by rw [← HX.out]; exact tag_char hml hdf)]; simp)
                clear hd hdf
                generalize (Utf8.decode x m).1 = c at *
                generalize (Utf8.decode x m).2 = q at *
                have hc45 : ((c : Int) != 45) = true := by rw [bne_iff_ne]; omega
                rcases hdc with hdc | ⟨hdc, hdc2⟩ | ⟨hdc, hdc2⟩ | hdc
                all_goals
                  go_wp2_with fail
                  try rw [Exit.noGoto_ret]
                  go_ret
                  exact ⟨by rw [← HR.out, HE.out]; rfl, below_tr hbr (below_iter _ _ _)⟩
            · obtain rfl : m = x.size := by omega
              have hnx := fun ty => run_next_end (P := Try.prog) wo x x.size ty (by omega)
              have HT := hid (show tagOk (splitP (bts s))[k] = true by rw [← HX.out]; exact tag_good h0 h8 HM.out)
              go_wp2_with fail
              go_roundg (g0 - 1)
              case measure => omega
              case rel => exact ⟨k + 1, by go_num, rfl, by omega, all_take_succ hlt' HA.out HT.out, HW.out.iter _ _, below_tr hbr (below_iter _ _ _)⟩
        · have hd8 : decide ((8 : Int) < (x.size : Int)) = true := by simp; omega
          have HE := hid (show tagsL (bts s) = false by rw [tagsL, all_take_false hlt' (by rw [← HX.out]; exact tag_long (by omega))]; simp)
          go_wp2_with fail
          try rw [Exit.noGoto_ret]
          go_ret
          exact ⟨by rw [← HR.out, HE.out]; rfl, hbr⟩
      · have he := isEmpty_of h0
        have HE := hid (show tagsL (bts s) = false by rw [tagsL, all_take_false hlt' (by rw [← HX.out]; exact tag_long (by omega))]; simp)
        go_wp2_with fail
        try rw [Exit.noGoto_ret]
        go_ret
        exact ⟨by rw [← HR.out, HE.out]; rfl, hbr⟩
    · obtain rfl : k = n := by omega
      have HE := hid (show tagsL (bts s) = f by have := HA.out; rw [← HN.out] at this; rw [tagsL, all_take_full this, HN.out, ← HF.out]; simp)
      go_wp2_with fail
      try rw [Exit.noGoto_ret]
      go_ret
      exact ⟨by rw [← HR.out, HE.out]; rfl, hbr⟩
end Go.Proofs.Ytodicnjoimoiiaa
