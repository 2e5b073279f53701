import Derived.Test.YtplmlahpmnjneaaGreatDoorMSb
import Derived.Test.YtplmlahpmnjneaaGreatDoorMBe
import Derived.Test.YtplmlahpmnjneaaGreatDoorMBh
import Derived.Test.YtplmlahpmnjneaaGreatDoorMFr
import Derived.Test.YtplmlahpmnjneaaGreatDoorMBd
import Derived.Test.YtplmlahpmnjneaaGreatDoorMSa
import Derived.Deep.Slices
import Derived.Deep.Fields
import Derived.ChangeSame
import Derived.ChangeVars
import Derived.Lib.SmallJoins
import Derived.LaidLaws
import Derived.JoinedOf
import Derived.RowKit
import Derived.RowKitTokens
namespace Go.Proofs.YtplmlahpmnjneaaGreatDoor
open Go.RowKit Go.Lib
set_option linter.unusedVariables false
set_option linter.unusedSimpArgs false
def SetOk (w : World) (r : (List SpanL × List SpanL) × Bool) (e : Ending) (w' : World) : Prop := ∃ A c B d, e = .returned (.tuple #[setV A r.1.1.length c B r.1.2.length d, .bool r.2]) ∧ SpanB w' w.heap.size A r.1.1 ∧ SpanB w' w.heap.size B r.1.2 ∧ Below w.heap.size w w'
set_option maxRecDepth 100000 in
set_option maxHeartbeats 2000000 in
theorem rsmake_no (A B : Option Addr) (c d : Nat) (l m : List SpanL) (w : World) (hl : Spans w A l) (hm : Spans w B m) (hfl : fitL l) (hfm : fitL m) (hln : l.length ≤ 10000) (hmn : m.length ≤ 10000) (hno : (mayR l && mayR m) = false) :
    Calls Tryz.prog 114 #[.slice A l.length c, .slice B m.length d] w (SetOk w (smakeL l m)) := by
  have HE := hid (show smakeL l m = (([], []), false) by rw [smakeL, hno]; rfl)
  have HB0 := hid (below_new w (.cells [Value.slice none 0 0, .slice none 0 0].toArray 24))
  have HX := hid (Box.new w [Value.slice none 0 0, .slice none 0 0] 24)
  have HS := hid (Soft.new w [Value.slice none 0 0, .slice none 0 0].toArray 24)
  have HC := hid (rrowmay_any A c l _ (hl.below HB0.out) hfl (by omega))
  have HD := hid (fun w' (h : Below w.heap.size w w') => rrowmay_any B d m w' (hm.below h) hfm (by omega))
  clear hl hm hfl hfm
  generalize l.length = n at *
  generalize m.length = n2 at *
  cases h1 : mayR l
  · go_enter Tryz.func114, Tryz.ntmps114
    go_wp2_with fail
    refine HC.out.mono ?_
    rintro _ w1 ⟨rfl, hb1⟩
    rw [h1]
    have HX1 := hid (HX.out.below hb1)
    have HS1 := hid (HS.out.below HX.out.1 hb1)
    have HB1 := hid (below_tr HB0.out hb1)
    clear hb1
    go_wp2_with fail
    refine (rsnone_any _).mono ?_
    rintro _ w2 ⟨rfl, hb2⟩
    have HX2 := hid (HX1.out.below hb2)
    have hf : ∀ j, w2.frozen? ⟨w.heap.size, j, none⟩ = false := HS1.out.below HX1.out.1 hb2
    have HB2 := hid (below_tr HB1.out hb2)
    obtain ⟨y0, y1⟩ := HX2.out.get2
    have hlt := HX2.out.1
    clear hb2
    go_wp2_with fail
    refine ret2 HX2.out (v := .tuple #[setV none 0 0 none 0 0, .bool false]) (fun w3 h3 => ?_) rfl (fun h3 => by rw [HE.out]; exact ⟨none, 0, none, 0, rfl, SpanB.nil _ _, SpanB.nil _ _, HB2.out.trans h3⟩)
    obtain ⟨k0, k1⟩ := h3.get2
    simp [results, Tryz.results114, go_sem, k0, k1]
  · have h2 : mayR m = false := by rw [h1] at hno; simpa using hno
    go_enter Tryz.func114, Tryz.ntmps114
    go_wp2_with fail
    refine HC.out.mono ?_
    rintro _ w1 ⟨rfl, hb1⟩
    rw [h1]
    have HX1 := hid (HX.out.below hb1)
    have HS1 := hid (HS.out.below HX.out.1 hb1)
    have HB1 := hid (below_tr HB0.out hb1)
    clear hb1
    go_wp2_with fail
    refine (HD.out _ HB1.out).mono ?_
    rintro _ w2 ⟨rfl, hb2⟩
    rw [h2]
    have HX2 := hid (HX1.out.below hb2)
    have HS2 := hid (HS1.out.below HX1.out.1 hb2)
    have HB2 := hid (below_tr HB1.out hb2)
    clear hb2
    go_wp2_with fail
    refine (rsnone_any _).mono ?_
    rintro _ w3 ⟨rfl, hb3⟩
    have HX3 := hid (HX2.out.below hb3)
    have hf : ∀ j, w3.frozen? ⟨w.heap.size, j, none⟩ = false := HS2.out.below HX2.out.1 hb3
    have HB3 := hid (below_tr HB2.out hb3)
    obtain ⟨y0, y1⟩ := HX3.out.get2
    have hlt := HX3.out.1
    clear hb3
    go_wp2_with fail
    refine ret2 HX3.out (v := .tuple #[setV none 0 0 none 0 0, .bool false]) (fun w3 h3 => ?_) rfl (fun h3 => by rw [HE.out]; exact ⟨none, 0, none, 0, rfl, SpanB.nil _ _, SpanB.nil _ _, HB3.out.trans h3⟩)
    obtain ⟨k0, k1⟩ := h3.get2
    simp [results, Tryz.results114, go_sem, k0, k1]
def zeroS : SpanL := ⟨zeroC, zeroC⟩
theorem pname {F : World → Prop} {w : World} (h : ∀ w', w' = w → F w') : F w := h w rfl
theorem newbox {w w' : World} {cs : List Value} {t : TypeId} (h : Below (w.alloc (.cells cs.toArray t)).heap.size (w.alloc (.cells cs.toArray t)) w') : Box w' w.heap.size cs ∧ Soft w' w.heap.size := ⟨(Box.new w cs t).below h, (Soft.new w cs.toArray t).below (by simp) h⟩
theorem newbox14 {w w' : World} {t : TypeId} (h : Below (w.alloc (.cells #[.int .i64 0, .int .i64 0, .int .i64 0, .int .i64 0, .string ⟨#[]⟩, .string ⟨#[]⟩, .bool false, .int .i64 0, .int .i64 0, .int .i64 0, .int .i64 0, .string ⟨#[]⟩, .string ⟨#[]⟩, .bool false] t)).heap.size (w.alloc (.cells #[.int .i64 0, .int .i64 0, .int .i64 0, .int .i64 0, .string ⟨#[]⟩, .string ⟨#[]⟩, .bool false, .int .i64 0, .int .i64 0, .int .i64 0, .int .i64 0, .string ⟨#[]⟩, .string ⟨#[]⟩, .bool false] t)) w') : Box w' w.heap.size zeroS.cells ∧ Soft w' w.heap.size := newbox (cs := zeroS.cells) h
theorem newbox14d {w w' : World} {t : TypeId} (h : Below (w.alloc (.cells #[.int .i64 0, .int .i64 0, .int .i64 0, .int .i64 0, .string ⟨#[]⟩, .string ⟨#[]⟩, .bool false, .int .i64 0, .int .i64 0, .int .i64 0, .int .i64 0, .string ⟨#[]⟩, .string ⟨#[]⟩, .bool false] t)).drew.heap.size (w.alloc (.cells #[.int .i64 0, .int .i64 0, .int .i64 0, .int .i64 0, .string ⟨#[]⟩, .string ⟨#[]⟩, .bool false, .int .i64 0, .int .i64 0, .int .i64 0, .int .i64 0, .string ⟨#[]⟩, .string ⟨#[]⟩, .bool false] t)).drew w') : Box w' w.heap.size zeroS.cells ∧ Soft w' w.heap.size := newbox (cs := zeroS.cells) (below_tr (Below.refl _ _).drew h)
theorem put14 (w : World) (g : Nat) (f t : CutL) : ((((((((((((((w.setCell ⟨g, 0, none⟩ (.int .i64 f.en)).setCell ⟨g, 1, none⟩ (.int .i64 f.v.maj)).setCell ⟨g, 2, none⟩ (.int .i64 f.v.min)).setCell ⟨g, 3, none⟩ (.int .i64 f.v.pat)).setCell ⟨g, 4, none⟩ (.string f.v.pre)).setCell ⟨g, 5, none⟩ (.string f.v.bld)).setCell ⟨g, 6, none⟩ (.bool f.aft)).setCell ⟨g, 7, none⟩ (.int .i64 t.en)).setCell ⟨g, 8, none⟩ (.int .i64 t.v.maj)).setCell ⟨g, 9, none⟩ (.int .i64 t.v.min)).setCell ⟨g, 10, none⟩ (.int .i64 t.v.pat)).setCell ⟨g, 11, none⟩ (.string t.v.pre)).setCell ⟨g, 12, none⟩ (.string t.v.bld)).setCell ⟨g, 13, none⟩ (.bool t.aft)) = w.setCells g 0 (SpanL.cells ⟨f, t⟩) := rfl
theorem keep14 {a w : World} {B g : Nat} (hb : Below B a w) (hg : B ≤ g) (f t : CutL) : Below B a ((((((((((((((w.setCell ⟨g, 0, none⟩ (.int .i64 f.en)).setCell ⟨g, 1, none⟩ (.int .i64 f.v.maj)).setCell ⟨g, 2, none⟩ (.int .i64 f.v.min)).setCell ⟨g, 3, none⟩ (.int .i64 f.v.pat)).setCell ⟨g, 4, none⟩ (.string f.v.pre)).setCell ⟨g, 5, none⟩ (.string f.v.bld)).setCell ⟨g, 6, none⟩ (.bool f.aft)).setCell ⟨g, 7, none⟩ (.int .i64 t.en)).setCell ⟨g, 8, none⟩ (.int .i64 t.v.maj)).setCell ⟨g, 9, none⟩ (.int .i64 t.v.min)).setCell ⟨g, 10, none⟩ (.int .i64 t.v.pat)).setCell ⟨g, 11, none⟩ (.string t.v.pre)).setCell ⟨g, 12, none⟩ (.string t.v.bld)).setCell ⟨g, 13, none⟩ (.bool t.aft)) := hb.setCells hg (SpanL.cells ⟨f, t⟩) 0
theorem Box.set14 {w : World} {g : Nat} {s : SpanL} (t : SpanL) (h : Box w g s.cells) : Box (w.setCells g 0 t.cells) g t.cells := h.set (o := 0) (vs := t.cells) (by simp)
set_option maxRecDepth 100000 in
set_option maxHeartbeats 4000000 in
theorem rsmake_yes (A B : Option Addr) (c d : Nat) (l m : List SpanL) (w : World) (hl : Spans w A l) (hm : Spans w B m) (hfl : fitL l) (hfm : fitL m) (hln : l.length ≤ 10000) (hmn : m.length ≤ 10000) (h1 : mayR l = true) (h2 : mayR m = true) :
    Calls Tryz.prog 114 #[.slice A l.length c, .slice B m.length d] w (SetOk w (smakeL l m)) := by
  have hM : maxLen = 9223372036854775807 := rfl
  have HE := hid (show smakeL l m = (((rmakeL (turnedR l)).1, m), true) by rw [smakeL, h1, h2]; rfl)
  have HB0 := hid (below_new w (.cells [Value.slice none 0 0, .slice none 0 0].toArray 24))
  have HX := hid (Box.new w [Value.slice none 0 0, .slice none 0 0] 24)
  have HS := hid (Soft.new w [Value.slice none 0 0, .slice none 0 0].toArray 24)
  have HC := hid (rrowmay_any A c l _ (hl.below HB0.out) hfl (by omega))
  have HD := hid (fun w' (h : Below w.heap.size w w') => rrowmay_any B d m w' (hm.below h) hfm (by omega))
  have HLF := hid hfl
  have HL := hid hl
  have HM := hid hm
  clear hl hm hfl hfm
  generalize hn : l.length = n at *
  have HN := hid hn
  generalize hn2 : m.length = n2 at *
  have HN2 := hid hn2
  clear hn hn2
  go_enter Tryz.func114, Tryz.ntmps114
  go_wp2_with fail
  refine HC.out.mono ?_
  rintro _ w1 ⟨rfl, hb1⟩
  rw [h1]
  have HX1 := hid (HX.out.below hb1)
  have HS1 := hid (HS.out.below HX.out.1 hb1)
  have HB1 := hid (below_tr HB0.out hb1)
  clear hb1
  go_wp2_with fail
  refine (HD.out _ HB1.out).mono ?_
  rintro _ w2 ⟨rfl, hb2⟩
  rw [h2]
  have HX2 := hid (HX1.out.below hb2)
  have HS2 := hid (HS1.out.below HX1.out.1 hb2)
  have HB2 := hid (below_tr HB1.out hb2)
  have HL2 := hid (HL.out.below HB2.out)
  have HM2 := hid (HM.out.below HB2.out)
  clear hb2 HX1 HS1 HB1 HX HS HL HM HC HD h1 h2
  go_wp2_with fail
  go_loopw [8, 6, 7] (fun _ o i wr => ∃ (k : Nat) (v : Value), i = .int .i64 k ∧ v = o ∧ k ≤ n ∧ Hid (HasRow wr w2.heap.size v (turnedTo l k) k) ∧ Hid (Below w2.heap.size w2 wr)) (fun _ _ i _ => n - (intOf i).toNat)
  case atStart => exact ⟨0, _, rfl, rfl, Nat.zero_le _, ⟨OwnS.nil _ _, (fun s h => by cases h), by simp [turnedTo, turnedR]⟩, Below.refl _ _⟩
  case round =>
    obtain ⟨k, v, rfl, rfl, hk, HR, HBR⟩ := hrel
    by_cases hlt : k < n
    · have hlt' : k < l.length := by rw [HN.out]; exact hlt
      have HLr := hid (HL2.out.below HBR.out)
      have HT := hid (turnedTo_succ hlt')
      have HSF := hid (turnedS_fit (HLF.out k hlt'))
      obtain ⟨b, off, hA, hbl, hx14⟩ := HLr.out.at_ (k := k) hlt'
      have HCX := hid (fun w' (h : Below wr.heap.size wr w') => (HLr.out.below h).at_ (k := k) hlt')
      generalize nth l k = s at *
      obtain ⟨cf, ct⟩ := s
      obtain ⟨⟨x0, x1, x2, x3, x4, x5, x6⟩, z0, z1, z2, z3, z4, z5, z6⟩ := hx14
      subst hA
      have i0 : (0 : Int) ≤ (k : Int) := by omega
      have i1 : (k : Int) < (n : Int) := by omega
      have CA := hid (fun w' => rturned_any cf w')
      have CB := hid (fun w' => rturned_any ct w')
      have HTS : Hid (turnedS ⟨cf, ct⟩ = ⟨turnedL cf, turnedL ct⟩) := hid rfl
      rw [HTS.out] at HT HSF
      generalize turnedL cf = tf at *
      generalize turnedL ct = tt at *
      clear HTS
      have HSB : Hid (∀ w', Below wr.heap.size wr w' → w'.cell? ⟨b, off + k * 14, none⟩ = some (.int .i64 cf.en) ∧ w'.cell? ⟨b, off + k * 14 + 1, none⟩ = some (.int .i64 cf.v.maj) ∧ w'.cell? ⟨b, off + k * 14 + 2, none⟩ = some (.int .i64 cf.v.min) ∧ w'.cell? ⟨b, off + k * 14 + 3, none⟩ = some (.int .i64 cf.v.pat) ∧ w'.cell? ⟨b, off + k * 14 + 4, none⟩ = some (.string cf.v.pre) ∧ w'.cell? ⟨b, off + k * 14 + 5, none⟩ = some (.string cf.v.bld) ∧ w'.cell? ⟨b, off + k * 14 + 6, none⟩ = some (.bool cf.aft) ∧ w'.cell? ⟨b, off + k * 14 + 7, none⟩ = some (.int .i64 ct.en) ∧ w'.cell? ⟨b, off + k * 14 + 7 + 1, none⟩ = some (.int .i64 ct.v.maj) ∧ w'.cell? ⟨b, off + k * 14 + 7 + 2, none⟩ = some (.int .i64 ct.v.min) ∧ w'.cell? ⟨b, off + k * 14 + 7 + 3, none⟩ = some (.int .i64 ct.v.pat) ∧ w'.cell? ⟨b, off + k * 14 + 7 + 4, none⟩ = some (.string ct.v.pre) ∧ w'.cell? ⟨b, off + k * 14 + 7 + 5, none⟩ = some (.string ct.v.bld) ∧ w'.cell? ⟨b, off + k * 14 + 7 + 6, none⟩ = some (.bool ct.aft)) := hid (fun w' h => by
        obtain ⟨b', off', e, _, ⟨a0, a1, a2, a3, a4, a5, a6⟩, c0, c1, c2, c3, c4, c5, c6⟩ := HCX.out w' h
        injection e with e
        injection e with e1 e2
        subst e1 e2
        exact ⟨a0, a1, a2, a3, a4, a5, a6, c0, c1, c2, c3, c4, c5, c6⟩)
      clear HCX x0 x1 x2 x3 x4 x5 x6 z0 z1 z2 z3 z4 z5 z6
      go_wp2_with fail
      have hg0 : wr.heap.size ≤ wr.drew.heap.size := Nat.le_refl _
      go_region_held3 (fun w' => w'.cell? ⟨b, off + k * 14, none⟩ = some (.int .i64 cf.en) ∧ w'.cell? ⟨b, off + k * 14 + 1, none⟩ = some (.int .i64 cf.v.maj) ∧ w'.cell? ⟨b, off + k * 14 + 2, none⟩ = some (.int .i64 cf.v.min) ∧ w'.cell? ⟨b, off + k * 14 + 3, none⟩ = some (.int .i64 cf.v.pat) ∧ w'.cell? ⟨b, off + k * 14 + 4, none⟩ = some (.string cf.v.pre) ∧ w'.cell? ⟨b, off + k * 14 + 5, none⟩ = some (.string cf.v.bld) ∧ w'.cell? ⟨b, off + k * 14 + 6, none⟩ = some (.bool cf.aft) ∧ w'.cell? ⟨b, off + k * 14 + 7, none⟩ = some (.int .i64 ct.en) ∧ w'.cell? ⟨b, off + k * 14 + 7 + 1, none⟩ = some (.int .i64 ct.v.maj) ∧ w'.cell? ⟨b, off + k * 14 + 7 + 2, none⟩ = some (.int .i64 ct.v.min) ∧ w'.cell? ⟨b, off + k * 14 + 7 + 3, none⟩ = some (.int .i64 ct.v.pat) ∧ w'.cell? ⟨b, off + k * 14 + 7 + 4, none⟩ = some (.string ct.v.pre) ∧ w'.cell? ⟨b, off + k * 14 + 7 + 5, none⟩ = some (.string ct.v.bld) ∧ w'.cell? ⟨b, off + k * 14 + 7 + 6, none⟩ = some (.bool ct.aft))
        (first | (exact HSB.out _ (by with_reducible (first | assumption | exact (Below.refl _ _).drew | exact below_alloc (by assumption) _ | exact below_alloc (Below.refl _ _).drew _ | exact (below_alloc (Below.refl _ _) _).drew | exact below_alloc (Below.refl _ _) _))) | (exact HSB.out _ (by with_reducible (exact keep14 hb5 (by first | exact hb4.size | exact hg0 | exact Nat.le_refl _) tf tt))))
        (first
          | (go_at_call_of 169 cf; (with_reducible refine (CA.out _).mono ?_); rintro _ w4 ⟨rfl, k4⟩; have hb4 : Below wr.heap.size wr w4 := below_tr (by first | assumption | exact (Below.refl _ _).drew | exact below_alloc (by assumption) _ | exact below_alloc (Below.refl _ _).drew _) k4; (try (with_reducible have zb4 := newbox14d k4)))
          | (go_at_call_of 169 ct; (with_reducible refine (CB.out _).mono ?_); rintro _ w5 ⟨rfl, k5⟩; have hb5 : Below wr.heap.size wr w5 := below_tr (by first | assumption | exact (Below.refl _ _).drew | exact below_alloc (by assumption) _ | exact below_alloc (Below.refl _ _).drew _) k5; (try (first | (with_reducible have zb5 := newbox14 k5) | (have zb5 := And.intro (zb4.1.below k5) (zb4.2.below zb4.1.1 k5)))); (try (obtain ⟨⟨⟨y0, y1, y2, y3, y4, y5, y6⟩, y7, y8, y9, y10, y11, y12, y13⟩, yl⟩ := And.intro zb5.1.get14 zb5.1.1)); (try (have yf : ∀ j, w5.frozen? ⟨_, j, none⟩ = false := zb5.2))))
      · refine pname ?_
        intro w6 hw6
        have HX6 : Hid (Box w6 w5.heap.size (SpanL.cells ⟨tf, tt⟩)) := hid (by rw [hw6]; exact Box.new w5 (SpanL.cells ⟨tf, tt⟩) _)
        have HB6 : Hid (Below wr.heap.size wr w6) := hid (by rw [hw6]; exact below_alloc hb5 _)
        have HO6 : Hid (OwnS w6 w2.heap.size v (turnedTo l k)) := hid (HR.out.own.below HB6.out)
        generalize w5.heap.size = g at *
        clear hw6 hb5 hb4 k4 k5
        obtain ⟨⟨⟨x0, x1, x2, x3, x4, x5, x6⟩, z0, z1, z2, z3, z4, z5, z6⟩, hgx⟩ := And.intro HX6.out.get14 HX6.out.1
        have HSM := hid (fun w' => rspanmay_any ⟨tf, tt⟩ w' HSF.out)
        have HRF := hid HR.out.fit
        have HRL := HR.out.len
        have HTO := hid (show turnedTo l (k + 1) = _ from HT.out)
        clear HT HSB CA CB HR
        generalize turnedTo l k = o at *
        cases hd : spanMay ⟨tf, tt⟩
        · rw [hd] at HTO HSM
          go_wp2_with fail
          refine (HSM.out _).mono ?_
          rintro _ w7 ⟨rfl, hb7⟩
          have HB7 := hid (below_tr HB6.out hb7)
          have HO7 := hid (HO6.out.below hb7)
          clear hb7 x0 x1 x2 x3 x4 x5 x6 z0 z1 z2 z3 z4 z5 z6 hgx
          go_wp2_with fail
          go_roundw
          case rel => exact ⟨k + 1, v, by go_num, rfl, by omega, by rw [HTO.out]; exact ⟨HO7.out, HRF.out, by simp; omega⟩, HBR.out.trans (HB7.out.mono HBR.out.size)⟩
          case measure => simp [intOf]; omega
        · rw [hd] at HTO HSM
          go_wp2_with fail
          refine (HSM.out _).mono ?_
          rintro _ w7 ⟨rfl, hb7⟩
          have HB7 := hid (below_tr HB6.out hb7)
          have HO7 := hid (HO6.out.below hb7)
          have hgx := (HX6.out.below hb7).1
          have hz7 := hid (Nat.le_trans HBR.out.size HB7.out.size)
          clear x0 x1 x2 x3 x4 x5 x6 z0 z1 z2 z3 z4 z5 z6
          obtain ⟨⟨x0, x1, x2, x3, x4, x5, x6⟩, z0, z1, z2, z3, z4, z5, z6⟩ := (HX6.out.below hb7).get14
          clear hb7
          go_wp2_with (first | (at_builtin; refine wpList_app1g EKspans rfl (.tmp 41) (.tmp 43) rfl (SpanL.cells ⟨tf, tt⟩) HO7.out rfl rfl rfl (oneS1 _) (by omega) (by omega) hz7.out ?_; intro v' w8 h2 h3 h4; clear x0 x1 x2 x3 x4 x5 x6 z0 z1 z2 z3 z4 z5 z6))
          go_roundw
          case rel => exact ⟨k + 1, v', by go_num, rfl, by omega, by rw [HTO.out]; exact ⟨OwnS.app h2, (fun t ht => by rcases List.mem_append.1 ht with ht | ht; exact HRF.out t ht; rw [List.mem_singleton] at ht; subst ht; exact HSF.out), by simp; omega⟩, (HBR.out.trans (HB7.out.mono HBR.out.size)).trans h3⟩
          case measure => simp [intOf]; omega
      · have hgw : wr.heap.size ≤ w4.heap.size := hb4.size
        refine pname ?_
        intro w6 hw6
        rw [put14] at hw6
        have HX6 : Hid (Box w6 w4.heap.size (SpanL.cells ⟨tf, tt⟩)) := hid (by rw [hw6]; exact zb5.1.set14 ⟨tf, tt⟩)
        have HB6 : Hid (Below wr.heap.size wr w6) := hid (by rw [hw6]; exact Below.setCells hgw _ _ hb5)
        have HO6 : Hid (OwnS w6 w2.heap.size v (turnedTo l k)) := hid (by rw [hw6]; exact own_set (HR.out.own.below hb5) (fun r hr => Nat.lt_of_lt_of_le (own_bound HR.out.own r hr).2 hgw))
        generalize w4.heap.size = g at *
        clear hw6 hb5 hb4 k4 k5 zb5 yl yf y0 y1 y2 y3 y4 y5 y6 y7 y8 y9 y10 y11 y12 y13 hgw
        obtain ⟨⟨⟨x0, x1, x2, x3, x4, x5, x6⟩, z0, z1, z2, z3, z4, z5, z6⟩, hgx⟩ := And.intro HX6.out.get14 HX6.out.1
        have HSM := hid (fun w' => rspanmay_any ⟨tf, tt⟩ w' HSF.out)
        have HRF := hid HR.out.fit
        have HRL := HR.out.len
        have HTO := hid (show turnedTo l (k + 1) = _ from HT.out)
        clear HT HSB CA CB HR
        generalize turnedTo l k = o at *
        cases hd : spanMay ⟨tf, tt⟩
        · rw [hd] at HTO HSM
          go_wp2_with fail
          refine (HSM.out _).mono ?_
          rintro _ w7 ⟨rfl, hb7⟩
          have HB7 := hid (below_tr HB6.out hb7)
          have HO7 := hid (HO6.out.below hb7)
          clear hb7 x0 x1 x2 x3 x4 x5 x6 z0 z1 z2 z3 z4 z5 z6 hgx
          go_wp2_with fail
          go_roundw
          case rel => exact ⟨k + 1, v, by go_num, rfl, by omega, by rw [HTO.out]; exact ⟨HO7.out, HRF.out, by simp; omega⟩, HBR.out.trans (HB7.out.mono HBR.out.size)⟩
          case measure => simp [intOf]; omega
        · rw [hd] at HTO HSM
          go_wp2_with fail
          refine (HSM.out _).mono ?_
          rintro _ w7 ⟨rfl, hb7⟩
          have HB7 := hid (below_tr HB6.out hb7)
          have HO7 := hid (HO6.out.below hb7)
          have hgx := (HX6.out.below hb7).1
          have hz7 := hid (Nat.le_trans HBR.out.size HB7.out.size)
          clear x0 x1 x2 x3 x4 x5 x6 z0 z1 z2 z3 z4 z5 z6
          obtain ⟨⟨x0, x1, x2, x3, x4, x5, x6⟩, z0, z1, z2, z3, z4, z5, z6⟩ := (HX6.out.below hb7).get14
          clear hb7
          go_wp2_with (first | (at_builtin; refine wpList_app1g EKspans rfl (.tmp 41) (.tmp 43) rfl (SpanL.cells ⟨tf, tt⟩) HO7.out rfl rfl rfl (oneS1 _) (by omega) (by omega) hz7.out ?_; intro v' w8 h2 h3 h4; clear x0 x1 x2 x3 x4 x5 x6 z0 z1 z2 z3 z4 z5 z6))
          go_roundw
          case rel => exact ⟨k + 1, v', by go_num, rfl, by omega, by rw [HTO.out]; exact ⟨OwnS.app h2, (fun t ht => by rcases List.mem_append.1 ht with ht | ht; exact HRF.out t ht; rw [List.mem_singleton] at ht; subst ht; exact HSF.out), by simp; omega⟩, (HBR.out.trans (HB7.out.mono HBR.out.size)).trans h3⟩
          case measure => simp [intOf]; omega
      · have hgw : wr.heap.size ≤ wr.heap.size := Nat.le_refl _
        refine pname ?_
        intro w6 hw6
        rw [put14] at hw6
        have HX6 : Hid (Box w6 wr.heap.size (SpanL.cells ⟨tf, tt⟩)) := hid (by rw [hw6]; exact zb5.1.set14 ⟨tf, tt⟩)
        have HB6 : Hid (Below wr.heap.size wr w6) := hid (by rw [hw6]; exact Below.setCells hgw _ _ hb5)
        have HO6 : Hid (OwnS w6 w2.heap.size v (turnedTo l k)) := hid (by rw [hw6]; exact own_set (HR.out.own.below hb5) (fun r hr => Nat.lt_of_lt_of_le (own_bound HR.out.own r hr).2 hgw))
        clear hw6 hb5 hb4 k4 k5 zb5 zb4 yl yf y0 y1 y2 y3 y4 y5 y6 y7 y8 y9 y10 y11 y12 y13 hgw
        obtain ⟨⟨⟨x0, x1, x2, x3, x4, x5, x6⟩, z0, z1, z2, z3, z4, z5, z6⟩, hgx⟩ := And.intro HX6.out.get14 HX6.out.1
        have HSM := hid (fun w' => rspanmay_any ⟨tf, tt⟩ w' HSF.out)
        have HRF := hid HR.out.fit
        have HRL := HR.out.len
        have HTO := hid (show turnedTo l (k + 1) = _ from HT.out)
        clear HT HSB CA CB HR
        generalize turnedTo l k = o at *
        cases hd : spanMay ⟨tf, tt⟩
        · rw [hd] at HTO HSM
          go_wp2_with fail
          refine (HSM.out _).mono ?_
          rintro _ w7 ⟨rfl, hb7⟩
          have HB7 := hid (below_tr HB6.out hb7)
          have HO7 := hid (HO6.out.below hb7)
          clear hb7 x0 x1 x2 x3 x4 x5 x6 z0 z1 z2 z3 z4 z5 z6 hgx
          go_wp2_with fail
          go_roundw
          case rel => exact ⟨k + 1, v, by go_num, rfl, by omega, by rw [HTO.out]; exact ⟨HO7.out, HRF.out, by simp; omega⟩, HBR.out.trans (HB7.out.mono HBR.out.size)⟩
          case measure => simp [intOf]; omega
        · rw [hd] at HTO HSM
          go_wp2_with fail
          refine (HSM.out _).mono ?_
          rintro _ w7 ⟨rfl, hb7⟩
          have HB7 := hid (below_tr HB6.out hb7)
          have HO7 := hid (HO6.out.below hb7)
          have hgx := (HX6.out.below hb7).1
          have hz7 := hid (Nat.le_trans HBR.out.size HB7.out.size)
          clear x0 x1 x2 x3 x4 x5 x6 z0 z1 z2 z3 z4 z5 z6
          obtain ⟨⟨x0, x1, x2, x3, x4, x5, x6⟩, z0, z1, z2, z3, z4, z5, z6⟩ := (HX6.out.below hb7).get14
          clear hb7
          go_wp2_with (first | (at_builtin; refine wpList_app1g EKspans rfl (.tmp 41) (.tmp 43) rfl (SpanL.cells ⟨tf, tt⟩) HO7.out rfl rfl rfl (oneS1 _) (by omega) (by omega) hz7.out ?_; intro v' w8 h2 h3 h4; clear x0 x1 x2 x3 x4 x5 x6 z0 z1 z2 z3 z4 z5 z6))
          go_roundw
          case rel => exact ⟨k + 1, v', by go_num, rfl, by omega, by rw [HTO.out]; exact ⟨OwnS.app h2, (fun t ht => by rcases List.mem_append.1 ht with ht | ht; exact HRF.out t ht; rw [List.mem_singleton] at ht; subst ht; exact HSF.out), by simp; omega⟩, (HBR.out.trans (HB7.out.mono HBR.out.size)).trans h3⟩
          case measure => simp [intOf]; omega
    · obtain rfl : k = n := by omega
      have HTA := hid (show turnedTo l k = turnedR l by rw [← HN.out, turnedTo_all])
      have HRL := HR.out.len
      have HFT : Hid (fitL (turnedTo l k)) := hid fun i hi => by rw [nth_lt hi]; exact HR.out.fit _ (List.getElem_mem _)
      obtain ⟨A3, c3, e3, hs3⟩ := HR.out.own.spans
      subst e3
      have HMK := hid (rmake_any w2.heap.size A3 c3 (turnedTo l k) wr hs3 HFT.out (by omega) HBR.out.size)
      have HMr := hid (HM2.out.below HBR.out)
      clear hs3 HFT HR HRL
      rw [HTA.out] at HMK ⊢
      generalize rmakeL (turnedR l) = rm at *
      generalize (turnedR l).length = nt at *
      go_wp2_with fail
      refine HMK.out.mono ?_
      rintro _ w3 ⟨v3, e3, o3, k3, _⟩
      obtain rfl := e3
      obtain ⟨A4, c4, rfl, S4⟩ := SpanB.own o3
      have HB23 := hid (HBR.out.trans k3)
      have HX3 := hid (HX2.out.below HB23.out)
      have HS3 := hid (HS2.out.below HX2.out.1 HB23.out)
      have HSR := hid (HM2.out.below HB23.out).src
      rw [HN2.out] at HSR
      have HB3 := hid (below_tr HB2.out HB23.out)
      have HS4 := hid S4
      clear k3 o3 S4 HMK HMr
      go_wp2_with (first | (at_builtin; refine wpList_appx EKspans rfl (.const (.slice none 0 0)) (.tmp 51) rfl rfl (World.ownsRow_nil w3 w3.heap.size _ _) rfl HSR.out (oneS m) (by omega) (by omega) (Nat.le_refl _) ?_; intro v5 w5 h5 hb5 _; obtain ⟨y0, y1⟩ := (HX3.out.below hb5).get2; have hf : ∀ j, w5.frozen? ⟨w.heap.size, j, none⟩ = false := HS3.out.below HX3.out.1 hb5; have hlt := (HX3.out.below hb5).1; have HO5 : OwnS w5 w3.heap.size v5 m := (by rw [OwnS, HN2.out]; simpa using h5); obtain ⟨B5, d5, e5, S5'⟩ := SpanB.own HO5; have S5 := hid S5'; rw [HN2.out] at e5; subst e5; clear HO5 S5' h5))
      refine ret2 (HX3.out.below hb5) (v := .tuple #[setV A4 rm.1.length c4 B5 n2 d5, .bool true]) (fun w6 h6 => ?_) rfl (fun h6 => ?_)
      · obtain ⟨k0, k1⟩ := h6.get2
        simp [results, Tryz.results114, go_sem, k0, k1]
      · rw [HE.out]
        exact ⟨A4, c4, B5, d5, by rw [← HN2.out], ((HS4.out.below hb5).set HX2.out.1).low HB2.out.size, (S5.out.set HX3.out.1).low HB3.out.size, (below_tr HB3.out hb5).trans (h6.mono (Nat.le_refl _))⟩
theorem rsmake_any (A B : Option Addr) (c d : Nat) (l m : List SpanL) (w : World) (hl : Spans w A l) (hm : Spans w B m) (hfl : fitL l) (hfm : fitL m) (hln : l.length ≤ 10000) (hmn : m.length ≤ 10000) :
    Calls Tryz.prog 114 #[.slice A l.length c, .slice B m.length d] w (SetOk w (smakeL l m)) := by
  cases h1 : mayR l
  · exact rsmake_no A B c d l m w hl hm hfl hfm hln hmn (by rw [h1]; rfl)
  · cases h2 : mayR m
    · exact rsmake_no A B c d l m w hl hm hfl hfm hln hmn (by rw [h2, Bool.and_false])
    · exact rsmake_yes A B c d l m w hl hm hfl hfm hln hmn h1 h2
end Go.Proofs.YtplmlahpmnjneaaGreatDoor
namespace Go.Proofs.YtplmlahpmnjneaaGreatDoor
open Go.RowKit Go.Lib
open Rw
set_option linter.unusedVariables false
set_option linter.unusedSimpArgs false
theorem smake_good {l m : List SpanL} (hl : fitL l) (hm : fitL m) : fitL (smakeL l m).1.1 ∧ fitL (smakeL l m).1.2 ∧ (smakeL l m).1.1.length ≤ 1 + 2 * l.length ∧ (smakeL l m).1.2.length ≤ m.length := by
  unfold smakeL
  split
  · have hf : fitL (turnedR l) := fun i hi => by
      rw [nth_lt hi]
      have := List.getElem_mem hi
      obtain ⟨t, ht, e⟩ := List.mem_map.1 (List.mem_filter.1 this).1
      rw [← e]
      obtain ⟨j, hj, rfl⟩ := List.getElem_of_mem ht
      have := hl j hj
      rw [nth_lt hj] at this
      exact turnedS_fit this
    have hle : (turnedR l).length ≤ l.length := by
      have := List.length_filter_le spanMay (l.map turnedS)
      rwa [List.length_map] at this
    have g := rmakeL_good hf
    exact ⟨g.1, hm, by have := g.2; simp only; omega, Nat.le_refl _⟩
  · exact ⟨fit_nil, fit_nil, by simp, by simp⟩
end Go.Proofs.YtplmlahpmnjneaaGreatDoor
namespace Go.Proofs.YtplmlahpmnjneaaGreatDoor
open Go.ChangeShapes Go.WideShapes Go.ChangeAt Go.RowKit Go.Deep Go.Joins
open Go.ChangeMaps (open_string shut_string)
set_option linter.unusedVariables false
set_option linter.unusedSimpArgs false
theorem firstG : Tryz.prog.globalNamed "linchpin/set.first" = some 0 := by kernel_rfl
theorem firstT : (Tryz.prog.globals[(0 : Nat)]?).map (·.type) = some 46 := by kernel_rfl
theorem cellsI2 : Tryz.prog.cellsOf 3 = 1 := by kernel_rfl
theorem cellsSt2 : Tryz.prog.cellsOf 9 = 1 := by kernel_rfl
theorem cellsVe2 : Tryz.prog.cellsOf 46 = 5 := by kernel_rfl
section
variable {H : Type} {enc : TypeId × Value → H} {W : World} {base n : Nat} {spare : Nat → Bool} {held : Bool} {cs : List Value} {x : DataW H × List MemPlace}
set_option maxRecDepth 100000 in
theorem ver_reads (h : DataW.trod enc Tryz.prog W base spare held n 46 cs = some x) : ∃ v : Ver, cs = v.cells ∧ x.1 = .agg [.lit (.int .i64 v.maj), .lit (.int .i64 v.min), .lit (.int .i64 v.pat), .lit (.string v.pre.data.toList), .lit (.string v.bld.data.toList)] := by
  obtain ⟨xs, n', _, hx, hcl, hxl, hf⟩ := DataW.trod_struct Tryz.underlying46 h
  rw [cellsVe2] at hcl
  match cs, hcl, xs, hxl with
  | [c0, c1, c2, c3, c4], _, [y0, y1, y2, y3, y4], _ =>
    have h0 := hf 0 _ rfl
    have h1 := hf 1 _ rfl
    have h2 := hf 2 _ rfl
    have h3 := hf 3 _ rfl
    have h4 := hf 4 _ rfl
    simp [cellsI2] at h0 h1 h2
    simp [cellsSt2] at h3 h4
    obtain ⟨m0, e0, f0, _⟩ := DataW.trod_int Tryz.underlying3 h0
    obtain ⟨m1, e1, f1, _⟩ := DataW.trod_int Tryz.underlying3 h1
    obtain ⟨m2, e2, f2, _⟩ := DataW.trod_int Tryz.underlying3 h2
    obtain ⟨s3, e3, f3, z3⟩ := DataW.trod_string Tryz.underlying9 h3
    obtain ⟨s4, e4, f4, z4⟩ := DataW.trod_string Tryz.underlying9 h4
    simp only [List.cons.injEq, and_true] at e0 e1 e2 e3 e4
    subst e0; subst e1; subst e2; subst e3; subst e4
    subst f0; subst f1; subst f2; subst f3; subst f4
    exact ⟨⟨m0, m1, m2, s3, s4⟩, rfl, by rw [hx]; rfl⟩
end
theorem first_reads {W : World} {cs : Array Value} {fuel : Nat} {p : List MemPlace} (h1 : W.var? Tryz.prog "linchpin/set.first" = some cs) (h2 : DataW.trod (fun _ => ()) Tryz.prog W 0 (fun _ => true) false fuel 46 cs.toList = some (Rows.laid_linchpin_set_first, p)) : First W := by
  obtain ⟨v, hv, hd⟩ := ver_reads h2
  simp only [Rows.laid_linchpin_set_first, DataW.agg.injEq, List.cons.injEq, and_true, DataW.lit.injEq, Lit.int.injEq, Lit.string.injEq, true_and] at hd
  obtain ⟨d0, d1, d2, d3, d4⟩ := hd
  obtain ⟨a, b, c, ⟨⟨s⟩⟩, ⟨⟨t⟩⟩⟩ := v
  dsimp only at d0 d1 d2 d3 d4
  subst d0 d1 d2 d3 d4
  have hc : ∀ (j : Nat), W.cell? ⟨0, j, none⟩ = (zeroV.cells)[j]? := fun j => by
    rw [World.var?_cell firstG h1 j, ← Array.getElem?_toList, hv]; rfl
  refine ⟨World.block_lt_of_cell? W ⟨0, 0, none⟩ (hc 0), fun j u hj => by rw [hc j, hj]⟩
theorem first_of_laid {W : World} (h : laidMet Tryz.prog [("linchpin/set.first", Rows.laid_linchpin_set_first)] W) : First W := by
  obtain ⟨ps, hv, _⟩ := h
  obtain ⟨g, t, cs, fuel, p, q, h1, h2, h3, h4, _⟩ := hv
  obtain rfl := Option.some.inj (firstG.symm.trans h1)
  obtain rfl := Option.some.inj (firstT.symm.trans h2)
  exact first_reads h3 h4
section
variable {H : Type} {enc : TypeId × Value → H} {W : World} {base : Nat} {held : Bool}
theorem cellsSet : Tryz.prog.cellsOf 24 = 2 := by kernel_rfl
theorem cellsSl : Tryz.prog.cellsOf 22 = 1 := by kernel_rfl
set_option maxRecDepth 100000 in
theorem spans_cells {fuel : Nat} {c0 : Value} {x : DataW H × List MemPlace} (h : DataW.trod enc Tryz.prog W base (fun _ => true) held fuel 22 [c0] = some x) : ∃ a len cap, c0 = .slice a len cap ∧ ∃ z : List SpanL, z.length = len ∧ Spans W a z ∧ z.length ≤ 9223372036854775807 := by
  have hk : ∃ a len cap, c0 = .slice a len cap := by
    rcases open_slice Tryz.underlying22 h with ⟨hcs, _⟩ | ⟨x, l, c, m, n, D, Pl, hcs, _⟩
    · exact ⟨none, 0, 0, by simpa using hcs⟩
    · exact ⟨some x, l, c, by simpa using hcs⟩
  obtain ⟨a, len, cap, rfl⟩ := hk
  obtain ⟨z, h1, h2, h3⟩ := spans_read (enc := enc) (d := x.1) (p := x.2) ⟨fuel, h⟩
  exact ⟨a, len, cap, rfl, z, h1, h2, h3⟩
set_option maxRecDepth 100000 in
theorem set_read {b0 : Nat} {r : Reach} {v : Value} {d : DataW H} {p : List MemPlace} (hv : Value.okWide Tryz.prog W r b0 24 v) (h : DataW.Trod enc Tryz.prog W base (fun _ => true) held 24 v d p) :
    ∃ (a : Option Addr) (c : Nat) (b : Option Addr) (e : Nat) (z y : List SpanL), v = .agg #[.slice a z.length c, .slice b y.length e] ∧ Spans W a z ∧ Spans W b y ∧ z.length ≤ 9223372036854775807 ∧ y.length ≤ 9223372036854775807 := by
  obtain ⟨cs, rfl, _⟩ := okWide_struct Tryz.underlying24 hv
  obtain ⟨fuel, hf⟩ := h
  obtain ⟨xs, n', _, _, hcl, hxl, hfl⟩ := DataW.trod_struct Tryz.underlying24 hf
  rw [cellsSet] at hcl
  obtain ⟨l⟩ := cs
  simp only [Value.cells] at hcl hfl
  match l, hcl, xs, hxl with
  | [c0, c1], _, [y0, y1], _ =>
    have h0 := hfl 0 _ rfl
    have h1 := hfl 1 _ rfl
    simp [cellsSl] at h0 h1
    obtain ⟨a, la, ca, rfl, z, rfl, g1, g2⟩ := spans_cells h0
    obtain ⟨b, lb, cb, rfl, y, rfl, g3, g4⟩ := spans_cells h1
    exact ⟨a, ca, b, cb, z, y, rfl, g1, g3, g2, g4⟩
end
noncomputable def laidWorld (os : Os) : World := World.holding Tryz.prog os ⟨#[], #[], []⟩
theorem laidWorld_met (os : Os) (args : Array Value) : laidMet Tryz.prog [("linchpin/set.first", Rows.laid_linchpin_set_first)] ((laidWorld os).forCall (fun _ _ => 0) ⟨#[], args, []⟩).memory :=
  laidMet_of_run (ps := MemPlace.row ⟨0, 0, none⟩ 5) 8 (by kernel_rfl) (by kernel_rfl) (by kernel_rfl)
end Go.Proofs.YtplmlahpmnjneaaGreatDoor
