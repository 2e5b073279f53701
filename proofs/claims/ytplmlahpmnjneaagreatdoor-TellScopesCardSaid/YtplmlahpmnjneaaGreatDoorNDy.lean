import Derived.Test.YtplmlahpmnjneaaGreatDoorNTu
import Derived.Test.YtplmlahpmnjneaaGreatDoorNDk
namespace Go.Proofs.YtplmlahpmnjneaaGreatDoor
open Go.RowKit Go.Lib
open Rw
set_option linter.unusedVariables false
set_option linter.unusedSimpArgs false
def BackPost7 (w : World) (l m : List SpanL) (nl nm : Nat) (e : Ending) (w' : World) : Prop := ∃ A c B d, e = .returned (.tuple #[setV A nl c B nm d, .int .i64 0]) ∧ Spans w' A l ∧ Spans w' B m ∧ Below w.heap.size w w'
theorem tback7_any (s : ByteArray) (l m : List SpanL) (nl nm : Nat) (w : World) (hl : l.length = nl) (hm : m.length = nm) (hL : Laid w) (hs : s.size ≤ 4294967280) (h : setP (bts s) = some (l, m)) : Calls Tryz.prog 18 #[.string s] w (BackPost7 w l m nl nm) := by
  subst hl hm
  have k := tparse_any s w hL hs
  rw [h] at k
  refine Calls.mono k ?_
  rintro e w' ⟨A, c, B, d, he, h1, h2, -, -, -, -, hb⟩
  exact ⟨A, c, B, d, he, h1.1, h2.1, hb⟩
set_option maxRecDepth 100000 in
set_option maxHeartbeats 4000000 in
theorem walk_TellScopes (t : ByteArray) (w : World) (hsz : t.size ≤ 9223372036854775807) (hL : Laid w) : Calls Tryz.prog 13 #[.string t] w (BoolK w true) := by
  have HL := hid hL
  clear hL
  by_cases hbig : 96 < t.size
  · have hb2 : (96 : Int) < (t.size : Int) := by omega
    go_enter Tryz.func13, Tryz.ntmps13
    go_wp2_with fail
    refine (tawake_any w HL.out).mono ?_
    rintro _ w2 ⟨rfl, hb⟩
    go_wp2_with fail
    go_ret
    exact ⟨rfl, hb.kb⟩
  · have hb2 : ¬ (96 : Int) < (t.size : Int) := by omega
    clear hbig
    have P1 := hid (of7_any t w HL.out)
    have HG := hid (ofG_good (bts t))
    generalize ofG (bts t) = o at *
    obtain ⟨⟨s1, s2⟩, n2⟩ := o
    dsimp only at HG P1
    generalize hq1 : s1.length = q1 at *
    have HQ1 := hid hq1
    clear hq1
    generalize hq2 : s2.length = q2 at *
    have HQ2 := hid hq2
    clear hq2
    go_enter Tryz.func13, Tryz.ntmps13
    go_wp2_with fail
    refine P1.out.mono ?_
    rintro _ w1 ⟨A1, c1, B1, d1, he, hs1, hs2, hb⟩
    dsimp only at he hs1 hs2
    rw [HQ1.out, HQ2.out] at he
    subst he
    have HSA := hid (HG.out.at_ hs1.1 hs2.1)
    have HB := hid hb
    clear hs1 hs2 hb
    go_upto_region 4 with fail
    refine wp_name ?_
    intro u1 hu
    have HX1 := hid (show Box u1 w1.heap.size [.slice A1 q1 c1, .slice B1 q2 d1] by rw [hu]; exact Box.new w1 [.slice A1 q1 c1, .slice B1 q2 d1] 24)
    have HSA := hid (show SetAt 250 u1 A1 s1 B1 s2 by rw [hu]; exact HSA.out.kb (kb_new _ _))
    have HB := hid (show KB w.heap.size w u1 by rw [hu]; exact kb_tr HB.out (kb_new _ _))
    clear hu
    by_cases hn : n2 = 0
    · subst hn
      have HPS := hid (tset_print c1 d1 (HL.out.kb HB.out) HSA.out (by omega))
      rw [HQ1.out, HQ2.out] at HPS
      obtain ⟨x0, x1⟩ := HX1.out.get2
      have xl := HX1.out.1
      go_wp2_with fail
      refine HPS.out.mono ?_
      rintro _ w2 ⟨tx, rfl, htx, hb⟩
      have HTX := hid htx
      have HB := hid (kb_tr HB.out hb.kb)
      have HX1 := hid (HX1.out.below hb)
      have HSA := hid (HSA.out.below hb)
      have HPP := hid (tback7_any tx s1 s2 q1 q2 w2 HQ1.out HQ2.out (HL.out.kb HB.out) (by
        have e := bts_len tx
        rw [HTX.out] at e
        have := setT_len s1 s2
        have := HSA.out.nrel
        have := HSA.out.npre
        omega) (by rw [HTX.out]; exact setP_back HSA.out.val))
      clear htx hb x0 x1 xl HPS
      go_wp2_with fail
      refine HPP.out.mono ?_
      rintro _ w3 ⟨A2, c2, B2, d2, rfl, hs1, hs2, hb⟩
      have HS2 := hid (HG.out.at_ hs1 hs2)
      have HB := hid (kb_tr HB.out hb.kb)
      have HX1 := hid (HX1.out.below hb)
      have HSA := hid (HSA.out.below hb)
      clear hs1 hs2 hb HPP
      go_upto_region 7 with fail
      refine wp_name ?_
      intro u2 hu
      have HX1 := hid (show Box u2 w1.heap.size [.slice A1 q1 c1, .slice B1 q2 d1] by rw [hu]; exact HX1.out.kb (kb_new _ _))
      have HX2 := hid (show Box u2 w3.heap.size [.slice A2 q1 c2, .slice B2 q2 d2] by rw [hu]; exact Box.new w3 [.slice A2 q1 c2, .slice B2 q2 d2] 24)
      have HSA := hid (show SetAt 250 u2 A1 s1 B1 s2 by rw [hu]; exact HSA.out.kb (kb_new _ _))
      have HS2 := hid (show SetAt 250 u2 A2 s1 B2 s2 by rw [hu]; exact HS2.out.kb (kb_new _ _))
      have HB := hid (show KB w.heap.size w u2 by rw [hu]; exact kb_tr HB.out (kb_new _ _))
      clear hu
      go_wp2_with fail
      refine (tawake_any u2 (HL.out.kb HB.out)).mono ?_
      rintro _ w4 ⟨rfl, hb⟩
      have HSM := hid (law_sameR c1 d1 c2 d2 (HSA.out.below hb) (HS2.out.below hb) (by omega))
      rw [sameS_self, HQ1.out, HQ2.out] at HSM
      have HB := hid (kb_tr HB.out hb.kb)
      obtain ⟨x0, x1⟩ := (HX1.out.below hb).get2
      have xl := (HX1.out.below hb).1
      obtain ⟨y0, y1⟩ := (HX2.out.below hb).get2
      have yl := (HX2.out.below hb).1
      clear hb
      go_wp2_with fail
      refine HSM.out.mono ?_
      rintro _ w5 ⟨rfl, hb⟩
      have HB := hid (kb_tr HB.out hb.kb)
      clear hb x0 x1 xl y0 y1 yl
      go_wp2_with fail
      go_ret
      exact ⟨rfl, HB.out⟩
    · go_wp2_with fail
      refine (tawake_any u1 (HL.out.kb HB.out)).mono ?_
      rintro _ w2 ⟨rfl, hb⟩
      have HB := hid (kb_tr HB.out hb.kb)
      clear hb
      go_wp2_with fail
      go_ret
      exact ⟨rfl, HB.out⟩
end Go.Proofs.YtplmlahpmnjneaaGreatDoor
