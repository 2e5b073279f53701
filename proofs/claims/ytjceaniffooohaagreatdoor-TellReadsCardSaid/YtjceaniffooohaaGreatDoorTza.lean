/- The reference's texts: linchpinref8.Print. -/
import Derived.Test.YtjceaniffooohaaGreatDoorTz
import Derived.Test.YtjceaniffooohaaGreatDoorSetR
namespace Go.Proofs.YtjceaniffooohaaGreatDoor
open Go.RowKit Go.Lib
open Rw
set_option linter.unusedVariables false
set_option linter.unusedSimpArgs false

theorem rrow8_nil (A : Option Addr) (c : Nat) (w : World) : Calls Tryz.prog 74 #[.slice A 0 c] w (StrPost w [45]) := by
  go_enter Tryz.func74, Tryz.ntmps74
  go_wp2_with fail
  go_ret
  exact ⟨_, rfl, bts_lit [45], Below.refl _ _⟩
theorem rrow8_any (A : Option Addr) (c : Nat) (sp : List SpanL) (w : World) (hsp : Spans w A sp) (hf : fitL sp) (hln : sp.length ≤ 5000000000) : Calls Tryz.prog 74 #[.slice A sp.length c] w (StrPost w (rowT sp)) := by
  by_cases hne : sp = []
  · subst hne; exact rrow8_nil A c w
  · exact rrow8_full A c sp w hsp hf hne hln
set_option maxRecDepth 100000 in
set_option maxHeartbeats 1000000 in
theorem rprint8_any (A B : Option Addr) (c d : Nat) (l m : List SpanL) (w : World) (hl : Spans w A l) (hm : Spans w B m) (hfl : fitL l) (hfm : fitL m) (hln : l.length ≤ 40000) (hmn : m.length ≤ 40000) : Calls Tryz.prog 42 #[setV A l.length c B m.length d] w (StrPost w (setT l m)) := by
  have HM := hid (fun u (h : Below w.heap.size w u) => rsmay_any A B c d l m u (hl.below h) (hm.below h) hfl hfm (by omega) (by omega))
  have HR1 := hid (fun u (h : Below w.heap.size w u) => rrow8_any A c l u (hl.below h) hfl (by omega))
  have HR2 := hid (fun u (h : Below w.heap.size w u) => rrow8_any B d m u (hm.below h) hfm (by omega))
  have HL1 := hid (show (rowT l).length ≤ 100000000 by have := rowT_len l; omega)
  have HL2 := hid (show (rowT m).length ≤ 100000000 by have := rowT_len m; omega)
  have HEM : Hid (m.isEmpty = decide (m.length = 0)) := hid (by cases m <;> simp)
  have HX := hid (Box.new w [.slice A l.length c, .slice B m.length d] 31)
  have HB := hid (below_new w (.cells [Value.slice A l.length c, .slice B m.length d].toArray 31))
  clear hl hm hfl hfm
  generalize l.length = n at *
  generalize m.length = k at *
  cases hmay : mayS l m
  · rw [hmay] at HM
    have HT := hid (setT_no hmay)
    go_enter Tryz.func42, Tryz.ntmps42
    go_wp2_with fail
    refine (HM.out _ HB.out).mono ?_
    rintro _ w1 ⟨rfl, hb⟩
    go_wp2_with fail
    go_ret
    exact ⟨_, rfl, by rw [HT.out]; exact bts_lit [], below_tr HB.out hb⟩
  · rw [hmay] at HM
    have HT := hid (setT_yes hmay)
    clear hmay
    by_cases hk : k = 0
    · subst hk
      go_enter Tryz.func42, Tryz.ntmps42
      go_wp2_with fail
      refine (HM.out _ HB.out).mono ?_
      rintro _ w1 ⟨rfl, hb⟩
      obtain ⟨y0, y1⟩ := (HX.out.below hb).get2
      go_wp2_with fail
      refine (HR1.out _ (below_tr HB.out hb)).mono ?_
      rintro _ w2 ⟨t, rfl, ht, hb2⟩
      go_wp2_with fail
      go_ret
      exact ⟨_, rfl, by rw [HT.out, HEM.out, ht]; simp, below_tr (below_tr HB.out hb) hb2⟩
    · have hk2 : ((k : Int) == 0) = false := by simp; omega
      go_enter Tryz.func42, Tryz.ntmps42
      go_wp2_with fail
      refine (HM.out _ HB.out).mono ?_
      rintro _ w1 ⟨rfl, hb⟩
      have h1 := below_tr HB.out hb
      obtain ⟨y0, y1⟩ := (HX.out.below hb).get2
      go_wp2_with fail
      refine wp_plan (.call [0, 1, 4, 5] 2 (.call [3] 6 (.last [7, 8]))) (by kernel_rfl) (by intro _ _ d _ _ h; cases d <;> exact h) (by kernel_rfl) ?_
      have qa0 := fun (z : BW w1) => ((HX.out.below hb).below z.ok).get2.1
      have qa1 := fun (z : BW w1) => ((HX.out.below hb).below z.ok).get2.2
      refine plan_call ?_
      simp only [pickOps, List.map_cons, List.map_nil, List.getElem?_toArray, List.getElem?_cons_zero, List.getElem?_cons_succ, Option.getD_some]
      repeat go_big_quiet_step (fail)
      refine wpQuiet_nil ?_
      go_wp2_with fail
      refine (HR1.out _ (below_tr h1 (Below.refl _ _).drew)).mono ?_
      rintro _ u1 ⟨t1, rfl, ht1, k1⟩
      have i1 : Below w1.heap.size w1 u1 := below_tr (Below.refl _ _).drew k1
      have s1 : t1.size ≤ 100000000 := by rw [← bts_len, ht1]; exact HL1.out
      have HT1 := hid ht1
      clear ht1 qa0 qa1
      go_wp2_with fail
      refine plan_on (i1) ?_
      refine plan_call ?_
      simp only [pickOps, List.map_cons, List.map_nil, List.getElem?_toArray, List.getElem?_cons_zero, List.getElem?_cons_succ, Option.getD_some]
      repeat go_big_quiet_step (fail)
      refine wpQuiet_nil ?_
      go_wp2_with fail
      refine (HR2.out _ (below_tr h1 i1)).mono ?_
      rintro _ u2 ⟨t2, rfl, ht2, k2⟩
      have s2 : t2.size ≤ 100000000 := by rw [← bts_len, ht2]; exact HL2.out
      have HT2 := hid ht2
      clear ht2
      go_wp2_with fail
      refine plan_on (k2) ?_
      refine plan_last ?_
      simp only [pickOps, List.map_cons, List.map_nil, List.getElem?_toArray, List.getElem?_cons_zero, List.getElem?_cons_succ, Option.getD_some]
      repeat go_big_quiet_step (fail)
      refine wpQuiet_nil ?_
      go_wp2_with fail
      go_ret
      exact ⟨_, rfl, by rw [bts_append, bts_append, HT.out, HEM.out, HT1.out, HT2.out, bsl]; simp [hk], below_tr h1 (below_tr i1 k2)⟩
end Go.Proofs.YtjceaniffooohaaGreatDoor
