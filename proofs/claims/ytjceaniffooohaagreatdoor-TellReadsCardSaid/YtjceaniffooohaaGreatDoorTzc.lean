/- Sets as texts: the walk of linchpinlaw8.TellReads. -/
import Derived.Test.YtjceaniffooohaaGreatDoorTrf
import Derived.Test.YtjceaniffooohaaGreatDoorTk
namespace Go.Proofs.YtjceaniffooohaaGreatDoor
open Go.RowKit Go.Lib
open Rw
set_option linter.unusedVariables false
set_option linter.unusedSimpArgs false

set_option maxRecDepth 100000 in
set_option maxHeartbeats 2000000 in
theorem walk_TellReads (t : ByteArray) (w : World) (hsz : t.size ≤ 9223372036854775807) (hL : Laid w) : Calls Tryz.prog 12 #[.string t] w (BoolPost w true) := by
  have HL := hid hL
  have HAW := hid (fun u (h : Below w.heap.size w u) => tawake_any u (HL.out.below h))
  clear hL
  by_cases hbig : 400 < t.size
  · have hb2 : (400 : Int) < (t.size : Int) := by omega
    go_enter Tryz.func12, Tryz.ntmps12
    go_wp2_with fail
    refine (HAW.out _ (Below.refl _ _)).mono ?_
    rintro _ w2 ⟨rfl, hb⟩
    go_wp2_with fail
    go_ret
    exact ⟨rfl, hb⟩
  · have hb2 : (t.size : Int) ≤ 400 := by omega
    have hle : t.size ≤ 400 := by omega
    have HP := hid (tparse_any t w HL.out (by omega))
    have HR := hid (fun u => rparse8_any t u (by omega))
    have HSD := hid (fun x (h : setP (bts t) = some x) => (setP_sound h).2)
    generalize setP (bts t) = so at *
    clear hbig
    go_enter Tryz.func12, Tryz.ntmps12
    go_wp2_with fail
    refine HP.out.mono ?_
    rintro _ w1 ⟨A, c, B, d, rfl, hsa, hsb, hfa, hfb, hla, hlb, hb⟩
    have H1 := hid (And.intro hsa (And.intro hsb (And.intro hfa (And.intro hfb (And.intro hla hlb)))))
    have HB := hid hb
    clear hsa hsb hfa hfb hla hlb hb HP
    generalize hl : (so.getD ([], [])).1 = l at *
    generalize hm : (so.getD ([], [])).2 = m at *
    have HLM := hid (show so.getD ([], []) = (l, m) from Prod.ext hl hm)
    clear hl hm
    generalize hen : (if so.isSome = true then (0 : Int) else 2) = en
    have HEN := hid hen
    clear hen
    go_wp2_with fail
    refine calls_name ?_
    intro w2 hw2
    have X3 := hid (show Box w2 w1.heap.size [.slice A l.length c, .slice B m.length d] by rw [hw2]; exact Box.new w1 [.slice A l.length c, .slice B m.length d] 31)
    have B12 := hid (show Below w1.heap.size w1 w2 by rw [hw2]; exact below_new _ _)
    clear hw2
    refine (HR.out _).mono ?_
    rintro _ w3 ⟨C, c2, D, d2, rfl, hsa, hsb, hfa, hfb, hla, hlb, hb⟩
    rw [HLM.out] at hsa hsb hla hlb
    have H2 := hid (And.intro hsa (And.intro hsb (And.intro hla hlb)))
    have X3 := hid (X3.out.below hb)
    have B13 := hid (below_tr B12.out hb)
    have H1 := hid (show SpanB w3 w.heap.size A l ∧ SpanB w3 w.heap.size B m ∧ fitL l ∧ fitL m ∧ l.length ≤ 4294967281 ∧ m.length ≤ 4294967281 from ⟨spanB_below H1.out.1 B13.out, spanB_below H1.out.2.1 B13.out, H1.out.2.2⟩)
    rw [HLM.out, HEN.out]
    dsimp only
    clear hsa hsb hfa hfb hla hlb hb HR
    go_wp2_with fail
    refine calls_name ?_
    intro w4 hw4
    have X5 := hid (show Box w4 w3.heap.size [.slice C l.length c2, .slice D m.length d2] by rw [hw4]; exact Box.new w3 [.slice C l.length c2, .slice D m.length d2] 31)
    have B34 := hid (show Below w3.heap.size w3 w4 by rw [hw4]; exact below_new _ _)
    have X3 := hid (X3.out.below B34.out)
    have BW4 := hid (below_tr HB.out (below_tr B13.out B34.out))
    clear hw4
    refine (HAW.out _ BW4.out).mono ?_
    rintro _ w5 ⟨rfl, hb⟩
    have X3 := hid (X3.out.below hb)
    have X5 := hid (X5.out.below hb)
    have B35 := hid (show True from trivial)
    have BW5 := hid (below_tr BW4.out hb)
    have S1 := hid (show Spans w5 A l ∧ Spans w5 B m ∧ Spans w5 C l ∧ Spans w5 D m from ⟨(H1.out.1.1.below B34.out).below hb, (H1.out.2.1.1.below B34.out).below hb, (H2.out.1.1.below B34.out).below hb, (H2.out.2.1.1.below B34.out).below hb⟩)
    clear hb B35
    have HSM := hid (rssame_any A B C D c d c2 d2 l m l m w5 S1.out.1 S1.out.2.1 S1.out.2.2.1 S1.out.2.2.2 (by have := H1.out.2.2.2.2.1; omega) (by have := H1.out.2.2.2.2.2; omega) (by have := H1.out.2.2.2.2.1; omega) (by have := H1.out.2.2.2.2.2; omega))
    rw [sameS_self] at HSM
    have HPR := hid (fun u (h : Below w5.heap.size w5 u) => tprint_set A B c d l m u (HL.out.below (below_tr BW5.out h)) (S1.out.1.below h) (S1.out.2.1.below h) H1.out.2.2.1 H1.out.2.2.2.1 (by have := H1.out.2.2.2.2.1; omega) (by have := H1.out.2.2.2.2.2; omega))
    generalize l.length = ln at *
    generalize m.length = mn at *
    obtain ⟨y0, y1⟩ := X3.out.get2
    obtain ⟨z0, z1⟩ := X5.out.get2
    go_wp2_with fail
    refine HSM.out.mono ?_
    rintro _ w6 ⟨rfl, hb⟩
    have X3 := hid (X3.out.below hb)
    have BW6 := hid (below_tr BW5.out hb)
    have HPR := hid (HPR.out w6 hb)
    clear hb y0 y1 z0 z1 HSM
    obtain ⟨y0, y1⟩ := X3.out.get2
    cases so with
    | none =>
      obtain rfl : en = 2 := HEN.out.symm
      go_wp2_with fail
      go_ret
      exact ⟨rfl, BW6.out⟩
    | some x =>
      obtain rfl : en = 0 := HEN.out.symm
      have HE := hid (show setT l m = bts t by
        have h1 := HLM.out
        simp only [Option.getD_some] at h1
        have h2 := HSD.out x rfl
        rw [h1] at h2
        exact h2)
      rw [HE.out] at HPR
      go_wp2_with fail
      refine HPR.out.mono ?_
      rintro _ w7 ⟨tx, rfl, htx, hb⟩
      obtain rfl := bts_inj htx
      go_wp2_with fail
      go_ret
      exact ⟨rfl, below_tr BW6.out hb⟩
end Go.Proofs.YtjceaniffooohaaGreatDoor
