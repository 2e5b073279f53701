import Derived.Test.YtplmlahpmnjneaaGreatDoorNCi
import Derived.Test.YtplmlahpmnjneaaGreatDoorNCa
namespace Go.Proofs.YtplmlahpmnjneaaGreatDoor
open Go.RowKit Go.Lib
open Rw
set_option linter.unusedVariables false
set_option linter.unusedSimpArgs false
def highP (v : Ver) (p : Int) : CutL := highN v (p + 1).toNat
theorem highP_step (v : Ver) {p : Int} (h : 0 ≤ p) : highP v p = if (bumpL v p).2 then ⟨0, (bumpL v p).1, false⟩ else highP v (p - 1) := by
  obtain ⟨n, rfl⟩ := Int.eq_ofNat_of_zero_le h
  have e1 : ((n : Int) + 1).toNat = n + 1 := by omega
  have e2 : ((n : Int) - 1 + 1).toNat = n := by omega
  rw [highP, highP, e1, e2, highN]
abbrev zero7C : List Value := [.int .i64 0, .int .i64 0, .int .i64 0, .int .i64 0, .string ⟨#[]⟩, .string ⟨#[]⟩, .bool false]
theorem bump_bare (v : Ver) (p : Int) : bareV (bumpL v p).1 = (bumpL v p).1 := by
  unfold bumpL
  split
  · unfold bumpV
    split
    · rfl
    · split <;> rfl
  · rfl
set_option maxRecDepth 100000 in
set_option maxHeartbeats 2000000 in
theorem high_any (v : Ver) (p : Int) (w : World) (hv : v.fit) (hm : mayV v = true) (hp : -1 ≤ p ∧ p ≤ 2) : Calls Tryz.prog 160 #[v.val, .int .i64 p] w (CutPost w (highP v p)) := by
  have HBM := hid (fun (q : Int) u (hq : q = 2 ∨ q = 1 ∨ q = 0) => bump_any v q u hv hm hq)
  have HST := hid (fun (q : Int) (h : 0 ≤ q) => highP_step v h)
  go_enter Tryz.func160, Tryz.ntmps160
  go_upto_block 0 with fail
  refine wp_name ?_
  intro w1 hw1
  have X2 := hid (show Box w1 w.heap.size v.cells by rw [hw1]; exact (Box.new w v.cells 46).below (below_new _ _))
  have O4 := hid (show Own w.heap.size w1 (w.heap.size + 1) zero7C by rw [hw1]; exact Own.new2 w _ zero7C 98 (Nat.le_refl _))
  have HB := hid (show Below w.heap.size w w1 by rw [hw1]; exact below_tr (below_new _ _) (below_new _ _))
  have hl24 : w.heap.size ≤ w.heap.size + 1 := by omega
  clear hw1
  go_cut [] from 7 to 20 (fun wx => Hid (highP v p = lastC) ∧ Hid (Own w.heap.size wx (w.heap.size + 1) zero7C) ∧ Hid (Below w.heap.size w wx))
  case first =>
    go_wp2_with fail
    go_loopw [1] (fun i wr => ∃ q : Int, i = .int .i64 q ∧ -1 ≤ q ∧ q ≤ 2 ∧ Hid (highP v p = highP v q) ∧ Hid (Box wr w.heap.size v.cells) ∧ Hid (Own w.heap.size wr (w.heap.size + 1) zero7C) ∧ Hid (Below w.heap.size w wr)) (fun i _ => (intOf i + 1).toNat)
    case atStart => exact ⟨p, rfl, hp.1, hp.2, hid rfl, X2, O4, HB⟩
    case round =>
      obtain ⟨q, rfl, hq1, hq2, HQ, X2, O4, HB⟩ := hrel
      by_cases h0 : 0 ≤ q
      · have hq3 : q = 2 ∨ q = 1 ∨ q = 0 := by omega
        have HBQ := hid (fun u => HBM.out q u hq3)
        have HSQ := hid (HST.out q h0)
        clear hq3
        obtain ⟨x0, x1, x2, x3, x4⟩ := X2.out.get5
        have hlx := X2.out.1
        have HBB := hid (bump_bare v q)
        generalize bumpL v q = bq at *
        obtain ⟨bv, bb⟩ := bq
        dsimp only at HBQ HSQ HBB
        go_wp2_with fail
        refine (HBQ.out _).mono ?_
        rintro _ w2 ⟨rfl, hb⟩
        dsimp only
        have X2 := hid (X2.out.below hb)
        have O4 := hid (O4.out.below hb)
        have HB := hid (below_tr HB.out hb)
        clear hb x0 x1 x2 x3 x4 hlx
        go_upto_if 17 with fail
        refine wp_name ?_
        intro w3 hw3
        have O5 := hid (show Own w.heap.size w3 w2.heap.size bv.cells by rw [hw3]; exact Own.new w2 bv.cells 46 HB.out.size)
        have X2 := hid (show Box w3 w.heap.size v.cells by rw [hw3]; exact X2.out.below (below_new _ _))
        have O4 := hid (show Own w.heap.size w3 (w.heap.size + 1) zero7C by rw [hw3]; exact O4.out.alloc _)
        have HB := hid (show Below w.heap.size w w3 by rw [hw3]; exact below_tr HB.out (below_new _ _))
        clear hw3
        generalize w2.heap.size = g5 at *
        cases bb
        · have HQ2 := hid (show highP v p = highP v (q - 1) by rw [HQ.out, HSQ.out]; rfl)
          go_wp2_with fail
          go_roundw
          case rel => exact ⟨q - 1, by go_num, by omega, by omega, HQ2, X2, O4, HB⟩
          case measure => simp [intOf]; omega
        · have HQ2 := hid (show highP v p = ⟨0, bv, false⟩ by rw [HQ.out, HSQ.out]; rfl)
          obtain ⟨y0, y1, y2, y3, y4⟩ := O5.out.box.get5
          have hlt5 := O5.out.box.1
          obtain ⟨x0, x1, x2, x3, x4, x5, x6⟩ := O4.out.box.get7
          have sf4 : ∀ j, w3.frozen? ⟨w.heap.size + 1, j, none⟩ = false := O4.out.soft
          have hlt4 := O4.out.box.1
          go_wp2_with fail
          refine body_name ?_
          intro w9 hw9
          have O9 : Own w.heap.size w9 (w.heap.size + 1) (CutL.cells ⟨0, bv, false⟩) := by rw [hw9]; exact O4.out.set7 _ _ _ _ _ _ _
          have B9 : Below w.heap.size w w9 := by rw [hw9]; exact below_set7 HB.out hl24 _ _ _ _ _ _ _
          clear hw9
          obtain ⟨k0, k1, k2, k3, k4, k5, k6⟩ := O9.box.get7
          refine bodyPost_ret (v := CutL.val ⟨0, bv, false⟩) (by simp [results, Tryz.results160, go_sem, k0, k1, k2, k3, k4, k5, k6, lastC, zeroV]) rfl ?_
          rw [HQ2.out]
          exact ⟨rfl, B9⟩
      · have HQ2 := hid (show highP v p = lastC by
          rw [HQ.out]
          obtain rfl : q = -1 := by omega
          rfl)
        go_wp2_with fail
        go_meet
        case rel => exact ⟨HQ2, O4, HB⟩
  case rest =>
    obtain ⟨HQ2, O4, HB⟩ := hcut
    obtain ⟨x0, x1, x2, x3, x4, x5, x6⟩ := O4.out.box.get7
    have sf4 : ∀ j, wc.frozen? ⟨w.heap.size + 1, j, none⟩ = false := O4.out.soft
    have hlt4 := O4.out.box.1
    go_wp2_with fail
    refine body_name ?_
    intro w9 hw9
    have O9 : Own w.heap.size w9 (w.heap.size + 1) (CutL.cells lastC) := by rw [hw9]; exact O4.out.set7 _ _ _ _ _ _ _
    have B9 : Below w.heap.size w w9 := by rw [hw9]; exact below_set7 HB.out hl24 _ _ _ _ _ _ _
    clear hw9
    obtain ⟨k0, k1, k2, k3, k4, k5, k6⟩ := O9.box.get7
    refine bodyPost_ret (v := CutL.val lastC) (by simp [results, Tryz.results160, go_sem, k0, k1, k2, k3, k4, k5, k6, lastC, zeroV]) rfl ?_
    rw [HQ2.out]
    exact ⟨rfl, B9⟩
set_option maxRecDepth 100000 in
set_option maxHeartbeats 2000000 in
theorem caret_any (c : CompL) (w : World) (hm : MayX c) (h9 : c.op ≠ 9) : Calls Tryz.prog 163 #[c.val] w (IntPost w (turnsX c)) := by
  obtain ⟨op, parts, v⟩ := c
  have HM := hid hm
  have h1 : 1 ≤ parts := by have := hm.many; simp only at this h9; omega
  have h3 : parts ≤ 3 := by have := hm.many; simp only at this h9; omega
  have hf := mayV_parts hm.v
  have f1 : 0 ≤ v.maj := by have := hf.1; simp only [fitsI, decide_eq_true_eq] at this; exact this.1
  have f2 : 0 ≤ v.min := by have := hf.2.1; simp only [fitsI, decide_eq_true_eq] at this; exact this.1
  have f3 : 0 ≤ v.pat := by have := hf.2.2.1; simp only [fitsI, decide_eq_true_eq] at this; exact this.1
  have m2 : parts < 2 → v.min = 0 := hm.min
  have m3 : parts < 3 → v.pat = 0 := hm.pat
  have HA := hid (And.intro h1 (And.intro h3 (And.intro f1 (And.intro f2 (And.intro f3 (And.intro m2 m3))))))
  have HT := hid (show turnsX ⟨op, parts, v⟩ = if v.maj ≠ 0 then 0 else if v.min ≠ 0 then 1 else if v.pat ≠ 0 then 2 else (parts - 1).toNat from rfl)
  clear hm hf m2 m3 h9 f1 f2 f3
  generalize turnsX ⟨op, parts, v⟩ = tn at *
  go_enter Tryz.func163, Tryz.ntmps163
  go_wp2_with fail
  all_goals
    go_ret
    refine ⟨?_, below_new _ _⟩
    refine congrArg (fun n : Int => Ending.returned (.int .i64 n)) ?_
    obtain ⟨h1, h3, f1, f2, f3, m2, m3⟩ := HA.out
    rw [HT.out]
    clear HM HA HT
    try simp only [beq_iff_eq, beq_eq_false_iff_ne, bne_iff_ne, bne_eq_false_iff_eq, ne_eq, Bool.not_eq_true, Bool.or_eq_true, Bool.or_eq_false_iff, decide_eq_true_eq, decide_eq_false_iff_not] at *
    repeat' split
    all_goals omega
theorem rown_nil {w w' : World} (h : Below w.heap.size w w') : RowN w [] (.returned (.slice none 0 0)) w' := ⟨none, 0, rfl, SpanB.nil _ _, h⟩
set_option maxRecDepth 100000 in
set_option maxHeartbeats 2000000 in
theorem xspans_any (s : SpanL) (w : World) (hs : s.fit) : Calls Tryz.prog 162 #[s.val] w (RowN w (rowX s)) := by
  have HC := hid (fun u => ccompare_any s.fr s.til u hs.1 hs.2)
  have HR := hid (show rowX s = if cmpC s.fr s.til < 0 then [s] else [] from rfl)
  generalize rowX s = rw0 at *
  generalize cmpC s.fr s.til = cm at *
  go_enter Tryz.func162, Tryz.ntmps162
  go_wp2_with fail
  refine calls_name ?_
  intro w1 hw1
  have HX := hid (show Box w1 w.heap.size s.cells by rw [hw1]; exact Box.new w s.cells 100)
  have HB := hid (show Below w.heap.size w w1 by rw [hw1]; exact below_new _ _)
  clear hw1
  refine (HC.out _).mono ?_
  rintro _ w2 ⟨rfl, hb⟩
  have HX := hid (HX.out.below hb)
  have HB := hid (below_tr HB.out hb)
  clear hb HC
  obtain ⟨⟨y0, y1, y2, y3, y4, y5, y6⟩, ⟨y7, y8, y9, y10, y11, y12, y13⟩⟩ := HX.out.get14
  by_cases h : 0 ≤ cm
  · have HE := hid (HR.out.trans (if_neg (by omega)))
    go_wp2_with fail
    go_ret
    rw [HE.out]
    exact rown_nil HB.out
  · have HE := hid (HR.out.trans (if_pos (by omega)))
    have h2 : cm < 0 := by omega
    have hlt := HX.out.1
    go_wp2_with fail
    go_ret
    rw [HE.out]
    exact ⟨_, _, rfl, ⟨Spans.one (Box.new w2 s.cells 100), fun ad e => by injection e with e; rw [← e]; exact HB.out.size⟩, below_tr HB.out (below_new _ _)⟩
end Go.Proofs.YtplmlahpmnjneaaGreatDoor
