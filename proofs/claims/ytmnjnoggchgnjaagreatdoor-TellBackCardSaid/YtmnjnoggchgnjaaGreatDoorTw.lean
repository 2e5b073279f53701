/- Sets as texts: the walk of linchpinlaw8.TellBack. -/
import Derived.Test.YtmnjnoggchgnjaaGreatDoorTv
import Derived.Laws.IdiomStrings
import Derived.Laws.BitsAllLaws
namespace Go.Proofs.YtmnjnoggchgnjaaGreatDoor
open Go.RowKit Go.Lib
open Rw
set_option linter.unusedVariables false
set_option linter.unusedSimpArgs false

def BackPost (w : World) (l m : List SpanL) (nl nm : Nat) (e : Ending) (w' : World) : Prop := ∃ A c B d, e = .returned (.tuple #[setV A nl c B nm d, .int .i64 0]) ∧ Spans w' A l ∧ Spans w' B m ∧ Below w.heap.size w w'
theorem tback_any (s : ByteArray) (l m : List SpanL) (nl nm : Nat) (w : World) (hl : l.length = nl) (hm : m.length = nm) (hL : Laid w) (hs : s.size ≤ 4294967280) (h : setP (bts s) = some (l, m)) : Calls Tryz.prog 48 #[.string s] w (BackPost w l m nl nm) := by
  subst hl hm
  have k := tparse_any s w hL hs
  rw [h] at k
  refine Calls.mono k ?_
  rintro e w' ⟨A, c, B, d, he, h1, h2, -, -, -, -, hb⟩
  exact ⟨A, c, B, d, he, h1.1, h2.1, hb⟩
/-- a text as bytes: what the new block holds -/
theorem bytes_new {s : ByteArray} {w u : World} {cap : Nat} {t : TypeId} (hu : u = w.drew.alloc (.cells (bytesRow s cap) t ((bytesRow s cap).size, (bytesRow s cap).size + 1))) :
    w.heap.size < u.heap.size ∧ (∀ j (h : j < s.size), u.cell? ⟨w.heap.size, j, none⟩ = some (.int .u8 (s[j].toNat : Int))) ∧ (∀ j, j < s.size → u.frozen? ⟨w.heap.size, j, none⟩ = false) ∧ Below w.heap.size w u := by
  subst hu
  refine ⟨?_, fun j h => ?_, fun j h => ?_, below_tr (Below.refl _ _).drew (below_new _ _)⟩
  · have := World.size_alloc w.drew (.cells (bytesRow s cap) t ((bytesRow s cap).size, (bytesRow s cap).size + 1))
    rw [this]
    exact Nat.lt_succ_self _
  · rw [show (⟨w.heap.size, j, none⟩ : Addr) = ⟨w.drew.heap.size, j, none⟩ from rfl, World.cell?_alloc_mark, bytesRow_at s _ j h]
    rfl
  · rw [show (⟨w.heap.size, j, none⟩ : Addr) = ⟨w.drew.heap.size, j, none⟩ from rfl, World.frozen?_alloc_mark]
    have hsz : s.size ≤ (bytesRow s cap).size := by
      have : s.data.size = s.size := rfl
      simp only [bytesRow, Array.size_append, Array.size_map]
      omega
    simp
    omega
def ReadPost (w : World) (p q : List SpanL) (np nq : Nat) (e : Ending) (w' : World) : Prop := ∃ A c B d, e = .returned (.tuple #[setV A np c B nq d, .int .i64 0]) ∧ Spans w' A p ∧ Spans w' B q ∧ fitL p ∧ fitL q ∧ p.length ≤ 4294967281 ∧ q.length ≤ 4294967281 ∧ Below w.heap.size w w'
theorem tread_none (s : ByteArray) (w : World) (hL : Laid w) (hs : s.size ≤ 4294967280) (h : setP (bts s) = none) : Calls Tryz.prog 48 #[.string s] w (BadPost w) := by
  have k := tparse_any s w hL hs
  rw [h] at k
  refine Calls.mono k ?_
  rintro e w' ⟨A, c, B, d, he, -, -, -, -, -, -, hb⟩
  exact ⟨A, c, B, d, he, hb⟩
theorem tread_some (s : ByteArray) (p q : List SpanL) (np nq : Nat) (w : World) (hp : p.length = np) (hq : q.length = nq) (hL : Laid w) (hs : s.size ≤ 4294967280) (h : setP (bts s) = some (p, q)) : Calls Tryz.prog 48 #[.string s] w (ReadPost w p q np nq) := by
  subst hp hq
  have k := tparse_any s w hL hs
  rw [h] at k
  refine Calls.mono k ?_
  rintro e w' ⟨A, c, B, d, he, h1, h2, h3, h4, h5, h6, hb⟩
  exact ⟨A, c, B, d, he, h1.1, h2.1, h3, h4, h5, h6, hb⟩
/-- a byte turned: another text of the same length; what the bytes read back as -/
theorem bytes_turn {tx : ByteArray} {u : World} {g k cap : Nat} {y : Int} (hk : k < tx.size) (hy0 : 0 ≤ y) (hy1 : y < 256) (hyn : ¬ y = 0) (hc : ∀ j (h : j < tx.size), u.cell? ⟨g, j, none⟩ = some (.int .u8 (tx[j].toNat : Int))) :
    ∃ r : ByteArray, ¬ bts r = bts tx ∧ r.size = tx.size ∧ ∀ v : World, (∀ j, j < tx.size → v.cell? ⟨g, j, none⟩ = (u.setCell ⟨g, k, none⟩ (.int .u8 (bits .xor .u8 (tx[k].toNat : Int) y))).cell? ⟨g, j, none⟩) →
      (convert 49 9 (.slice (some ⟨g, 0, none⟩) tx.size cap)).run Tryz.prog v = .ok (.string r) v := by
  have hyb : (UInt8.ofNat y.toNat).toNat = y.toNat := by rw [UInt8.toNat_ofNat']; omega
  have hx : bits .xor .u8 (tx[k].toNat : Int) y = (((tx[k] ^^^ UInt8.ofNat y.toNat).toNat : Nat) : Int) := by
    rw [u8_xor _ _ (by omega) (by have := tx[k].toNat_lt; omega) hy0 hy1, UInt8.toNat_xor, hyb]; simp
  have hk2 : k < (bts tx).length := by rw [bts_len]; exact hk
  refine ⟨⟨((bts tx).set k (tx[k] ^^^ UInt8.ofNat y.toNat)).toArray⟩, fun e => ?_, ?_, fun v hv => ?_⟩
  · rw [bts_lit] at e
    have e1 := congrArg (fun l => l[k]?) e
    simp only [List.getElem?_set_self hk2, List.getElem?_eq_getElem hk2, bts_get tx k hk, Option.some.injEq] at e1
    have e2 := congrArg UInt8.toNat e1
    rw [UInt8.toNat_xor, hyb] at e2
    have e3 := congrArg (tx[k].toNat ^^^ ·) e2
    simp only [← Nat.xor_assoc, Nat.xor_self, Nat.zero_xor] at e3
    omega
  · show (((bts tx).set k (tx[k] ^^^ UInt8.ofNat y.toNat)).toArray).size = tx.size
    simp [bts_len]
  · have h := run_convert_bytes_back (P := Tryz.prog) v 49 9 5 ⟨g, 0, none⟩ cap ((bts tx).set k (tx[k] ^^^ UInt8.ofNat y.toNat)) Tryz.underlying49 Tryz.underlying5 Tryz.underlying9 (fun j hj => by
      have hj2 : j < tx.size := by simpa [bts_len] using hj
      rw [add_plain, Nat.zero_add, hv j hj2]
      by_cases e : j = k
      · subst e
        rw [World.cell?_setCell_same _ _ _ (hc j hj2), hx, List.getElem_set_self]
      · rw [World.cell?_setCell_other _ _ _ _ (by simp only [ne_eq, Addr.mk.injEq, not_and]; intro _ e2; exact absurd e2.symm e), hc j hj2, List.getElem_set_ne (fun h => e h.symm), bts_get tx j hj2])
    rwa [List.length_set, bts_len] at h
set_option maxRecDepth 100000 in
set_option maxHeartbeats 1000000 in
theorem walk_TellBack (A0 : Option Addr) (c0 : Nat) (z0 : List Int) (a y : Int) (w : World) (h0 : IntsAt w A0 z0) (l0 : z0.length ≤ 9223372036854775807) (hy0 : 0 ≤ y) (hy1 : y < 256) (hL : Laid w) :
    Calls Tryz.prog 11 #[.slice A0 z0.length c0, .int .i64 a, .int .u8 y] w (BoolPost w true) := by
  have HI0 := hid h0
  have HLN0 := hid l0
  have HL := hid hL
  clear hL h0 l0
  go_enter Tryz.func11, Tryz.ntmps11
  go_wp2_with fail
  refine (lawset_any A0 c0 z0 0 w HI0.out (by omega) (by omega) HLN0.out).mono ?_
  rintro _ w1 ⟨al, am, Aa, ca, Ba, da, rfl, Sa, -, -, hb⟩
  have HB := hid hb
  have HSa := hid Sa
  have HVa := hid Sa.val
  clear Sa hb
  generalize hna : al.length = na at *
  generalize hma : am.length = ma at *
  have LLa := hid hna
  have LMa := hid hma
  clear hna hma
  go_wp2_with fail
  refine calls_name ?_
  intro w3 hwn
  have hb : Below w1.heap.size w1 w3 := by rw [hwn]; exact below_new _ _
  have HXa : Hid (Box w3 w1.heap.size [.slice Aa na ca, .slice Ba ma da]) := hid (by rw [hwn]; exact Box.new w1 [.slice Aa na ca, .slice Ba ma da] _)
  have HB := hid (below_tr HB.out hb)
  have HSa := hid (HSa.out.below hb)
  have HL := hid (HL.out.below HB.out)
  clear hwn hb
  have HAW := hid (fun wx (h : Below w3.heap.size w3 wx) => tawake_any wx (HL.out.below h))
  have HPS := hid (tset_print ca da HL.out HSa.out (by decide))
  simp only [LLa.out, LMa.out] at HPS
  refine HPS.out.mono ?_
  rintro _ u3 ⟨tx, rfl, htx, k3⟩
  have HTX := hid htx
  have h3 := k3
  have HSZ : Hid (0 < tx.size ∧ tx.size ≤ 100000) := hid (by
    have e := bts_len tx
    rw [HTX.out] at e
    have := setT_len al am
    have := HSa.out.nrel
    have := HSa.out.npre
    have := rowT_pos (show ValS al al from ⟨HVa.out.rel, HVa.out.right, HVa.out.rel⟩)
    have := congrArg List.length (setT_ok HVa.out)
    rw [List.length_append] at this
    omega)
  have HPP := hid (tback_any tx al am na ma u3 LLa.out LMa.out (HL.out.below h3) (by have := HSZ.out; omega) (by rw [HTX.out]; exact setP_back HVa.out))
  clear htx HPS k3
  go_wp2_with fail
  refine HPP.out.mono ?_
  rintro _ u4 ⟨C, e, D, f, rfl, hC, hD, k4⟩
  have h4 := below_tr h3 k4
  have HSc : Hid (SetAt 19 u4 C al D am) := hid ⟨hC, hD, HSa.out.frel, HSa.out.fpre, HSa.out.nrel, HSa.out.npre, HVa.out⟩
  clear hC hD k4 HPP
  have HSM := hid (fun wx (h : Below u4.heap.size u4 wx) => law_sameR e f ca da (HSc.out.below h) ((HSa.out.below h4).below h) (by decide))
  simp only [LLa.out, LMa.out, sameS_self] at HSM
  obtain ⟨v0, v1⟩ := (HXa.out.below h4).get2
  have hlt := (HXa.out.below h4).1
  have hpos := HSZ.out.1
  have hne : ¬ ((tx.size : Int) = 0) := by omega
  have hne2 : ¬ tx = ByteArray.empty := fun h => by rw [h] at hpos; exact absurd hpos (by decide)
  have hne4 : ((tx.size : Int) == 0) = false := by simpa using hne
  go_wp2_with fail
  refine calls_name ?_
  intro w5 hwn
  have hb : Below u4.heap.size u4 w5 := by rw [hwn]; exact below_new _ _
  have HXc : Hid (Box w5 u4.heap.size [.slice C na e, .slice D ma f]) := hid (by rw [hwn]; exact Box.new u4 [.slice C na e, .slice D ma f] _)
  have h5 := below_tr h4 hb
  clear hwn v0 v1 hlt
  refine (HSM.out _ hb).mono ?_
  rintro _ w6 ⟨rfl, k6⟩
  have h6 := below_tr h5 k6
  have hb6 := below_tr hb k6
  have HXc := hid (HXc.out.below k6)
  obtain ⟨v0, v1⟩ := (HXa.out.below h6).get2
  obtain ⟨x0, x1⟩ := HXc.out.get2
  by_cases hy : y = 0
  · subst hy
    go_wp2_with fail
    refine (HAW.out _ h6).mono ?_
    rintro _ w7 ⟨rfl, k7⟩
    have h7 := below_tr h6 k7
    clear v0 v1 x0 x1
    obtain ⟨v0, v1⟩ := (HXa.out.below h7).get2
    obtain ⟨x0, x1⟩ := (HXc.out.below k7).get2
    go_wp2_with fail
    refine (HSM.out _ (below_tr hb6 k7)).mono ?_
    rintro _ w8 ⟨rfl, k8⟩
    go_wp2_with fail
    go_ret
    exact ⟨rfl, below_tr HB.out (below_tr h7 k8)⟩
  · have hyb : (y == 0) = false := by simpa using hy
    have hconv := run_bytes_of_string (P := Tryz.prog) w6 9 49 5 tx Tryz.underlying9 Tryz.underlying49 Tryz.underlying5
    generalize hcap : grownCap w6 tx.size 0 5 = cap at hconv
    go_wp2_with fail
    refine calls_name ?_
    intro u7 hu7
    obtain ⟨g1, g2, g3, g4⟩ := bytes_new hu7
    clear hu7 hconv hcap
    have h7 := below_tr h6 g4
    refine (place_any a tx.size u7 (by omega) (by have := HSZ.out; omega)).mono ?_
    rintro _ _ ⟨rfl, rfl⟩
    obtain ⟨p1, p2⟩ := placeI_bd a tx.size (by omega)
    generalize placeI a tx.size = ki at *
    obtain ⟨k, rfl⟩ := Int.eq_ofNat_of_zero_le p1
    have hk : k < tx.size := by omega
    have q1 := g2 k hk
    have q2 := g3 k hk
    obtain ⟨r, r1, r2, r3⟩ := bytes_turn (cap := cap) hk hy0 hy1 hy g2
    have hback := r3 _ (fun j _ => rfl)
    have g5 : Below w6.heap.size w6 (u7.setCell ⟨w6.heap.size, k, none⟩ (.int .u8 (bits .xor .u8 (tx[k].toNat : Int) y))) := below_put g4 (Nat.le_refl _) _
    go_wp2_with fail
    refine calls_name ?_
    intro w8 hw8
    have hv8 : ∀ j, j < tx.size → w8.cell? ⟨w6.heap.size, j, none⟩ = (u7.setCell ⟨w6.heap.size, k, none⟩ (.int .u8 (bits .xor .u8 (tx[k].toNat : Int) y))).cell? ⟨w6.heap.size, j, none⟩ := fun j _ => by rw [hw8]
    have l8 : w6.heap.size < w8.heap.size := by rw [hw8, World.size_setCell]; exact g1
    rw [← hw8] at g5
    have h8 := below_tr h6 g5
    have HR3 := hid r3
    have HR1 := hid r1
    clear hw8 hback r3 r1 g2 g3 q1 q2
    rcases hr : setP (bts r) with _ | ⟨p, q⟩
    · refine (tread_none r w8 (HL.out.below h8) (by have := HSZ.out; omega) hr).mono ?_
      rintro _ w9 ⟨A2, c2, B2, d2, rfl, k9⟩
      go_wp2_with fail
      refine wp_name ?_
      intro w10 hwn
      have h10 := below_tr h8 (below_tr k9 (show Below w9.heap.size w9 w10 by rw [hwn]; exact below_new _ _))
      clear hwn
      refine wp_plan (.call [] 0 (.call [1, 2, 3, 4, 5, 6, 7, 8, 9] 10 (.two [11, 12, 13, 14, 16] 15 17 (.call [] 17 (.last [18, 19, 20, 21, 22])) (.call [] 15 (.last [18, 19, 20, 21, 22]))))) (by kernel_rfl) (by intro _ _ d _ _ h; cases d <;> exact h) (by kernel_rfl) ?_
      refine plan_call ?_
      simp only [pickOps, List.map_cons, List.map_nil, List.getElem?_toArray, List.getElem?_cons_zero, List.getElem?_cons_succ, Option.getD_some]
      repeat go_big_quiet_step (fail)
      refine wpQuiet_nil ?_
      go_wp2_with fail
      refine (HAW.out _ (below_tr h10 (Below.refl _ _).drew)).mono ?_
      rintro _ u0 ⟨rfl, j0⟩
      have i0 : Below w10.heap.size w10 u0 := below_tr (Below.refl _ _).drew j0
      go_wp2_with fail
      refine plan_on (i0) ?_
      refine plan_call ?_
      simp only [pickOps, List.map_cons, List.map_nil, List.getElem?_toArray, List.getElem?_cons_zero, List.getElem?_cons_succ, Option.getD_some]
      repeat go_big_quiet_step (fail)
      refine wpQuiet_nil ?_
      go_wp2_with fail
      refine plan_on (Below.refl _ _) ?_
      refine plan_two ?_
      simp only [pickOps, List.map_cons, List.map_nil, List.getElem?_toArray, List.getElem?_cons_zero, List.getElem?_cons_succ, Option.getD_some]
      repeat go_big_quiet_step (fail)
      refine wpQuiet_nil ?_
      refine ⟨?_, ?_⟩
      all_goals
        go_wp2_with fail
        refine plan_on (Below.refl _ _) ?_
        refine plan_call ?_
        simp only [pickOps, List.map_cons, List.map_nil, List.getElem?_toArray, List.getElem?_cons_zero, List.getElem?_cons_succ, Option.getD_some]
        repeat go_big_quiet_step (fail)
        refine wpQuiet_nil ?_
        go_wp2_with fail
        refine plan_on (Below.refl _ _) ?_
        refine plan_last ?_
        simp only [pickOps, List.map_cons, List.map_nil, List.getElem?_toArray, List.getElem?_cons_zero, List.getElem?_cons_succ, Option.getD_some]
        repeat go_big_quiet_step (fail)
        refine wpQuiet_nil ?_
        go_wp2_with fail
        go_ret
        exact ⟨rfl, below_tr HB.out (below_tr h10 i0)⟩
    · have HPQ := setP_iff.1 hr
      generalize hnp : p.length = np at *
      generalize hnq : q.length = nq at *
      have LLp := hid hnp
      have LMq := hid hnq
      refine (tread_some r p q np nq w8 hnp hnq (HL.out.below h8) (by have := HSZ.out; omega) hr).mono ?_
      clear hnp hnq
      rintro _ w9 ⟨A2, c2, B2, d2, rfl, hsp, hsq, hfp, hfq, hlp, hlq, k9⟩
      go_wp2_with fail
      refine wp_name ?_
      intro w10 hwn
      have hb10 : Below w9.heap.size w9 w10 := by rw [hwn]; exact below_new _ _
      have HXd : Hid (Box w10 w9.heap.size [.slice A2 np c2, .slice B2 nq d2]) := hid (by rw [hwn]; exact Box.new w9 [.slice A2 np c2, .slice B2 nq d2] _)
      clear hwn
      have hb9 := below_tr k9 hb10
      have h10 := below_tr h8 hb9
      have hv10 : ∀ j, j < tx.size → w10.cell? ⟨w6.heap.size, j, none⟩ = (u7.setCell ⟨w6.heap.size, k, none⟩ (.int .u8 (bits .xor .u8 (tx[k].toNat : Int) y))).cell? ⟨w6.heap.size, j, none⟩ := fun j hj => by rw [hb9.cell l8]; exact hv8 j hj
      have l10 : w6.heap.size < w10.heap.size := Nat.lt_of_lt_of_le l8 hb9.size
      have hns : sameS p q al am = false := by
        cases e : sameS p q al am with
        | false => rfl
        | true =>
          obtain ⟨e1, e2⟩ := sameS_iff.1 e
          exact absurd (by rw [← HPQ.2, e1, e2]; exact HTX.out.symm) HR1.out
      have HSM2 := hid (fun wx (h : Below w10.heap.size w10 wx) => rssame_any A2 B2 Aa Ba c2 d2 ca da p q al am wx (hsp.below (below_tr hb10 h)) (hsq.below (below_tr hb10 h)) ((HSa.out.below (below_tr h10 h)).rel) ((HSa.out.below (below_tr h10 h)).pre) (by omega) (by omega) (by have := HSa.out.nrel; omega) (by have := HSa.out.npre; omega))
      have HPR2 := hid (fun wx (h : Below w10.heap.size w10 wx) => tprint_set A2 B2 c2 d2 p q wx (HL.out.below (below_tr h10 h)) (hsp.below (below_tr hb10 h)) (hsq.below (below_tr hb10 h)) hfp hfq (by omega) (by omega))
      simp only [LLa.out, LMa.out, LLp.out, LMq.out, hns] at HSM2
      simp only [LLp.out, LMq.out, HPQ.2] at HPR2
      clear hsp hsq hfp hfq hlp hlq HPQ hns
      refine wp_plan (.call [] 0 (.call [1, 2, 3, 4, 5, 6, 7, 8, 9] 10 (.two [11, 12, 13, 14, 16] 15 17 (.call [] 17 (.last [18, 19, 20, 21, 22])) (.call [] 15 (.last [18, 19, 20, 21, 22]))))) (by kernel_rfl) (by intro _ _ d _ _ h; cases d <;> exact h) (by kernel_rfl) ?_
      refine plan_call ?_
      simp only [pickOps, List.map_cons, List.map_nil, List.getElem?_toArray, List.getElem?_cons_zero, List.getElem?_cons_succ, Option.getD_some]
      repeat go_big_quiet_step (fail)
      refine wpQuiet_nil ?_
      go_wp2_with fail
      refine (HAW.out _ (below_tr h10 (Below.refl _ _).drew)).mono ?_
      rintro _ u0 ⟨rfl, j0⟩
      have i0 : Below w10.heap.size w10 u0 := below_tr (Below.refl _ _).drew j0
      go_wp2_with fail
      refine plan_on (i0) ?_
      have qa0 := fun (z : BW u0) => (HXa.out.below (below_tr h10 (below_tr i0 z.ok))).get2.1
      have qa1 := fun (z : BW u0) => (HXa.out.below (below_tr h10 (below_tr i0 z.ok))).get2.2
      have qd0 := fun (z : BW u0) => (HXd.out.below (below_tr i0 z.ok)).get2.1
      have qd1 := fun (z : BW u0) => (HXd.out.below (below_tr i0 z.ok)).get2.2
      refine plan_call ?_
      simp only [pickOps, List.map_cons, List.map_nil, List.getElem?_toArray, List.getElem?_cons_zero, List.getElem?_cons_succ, Option.getD_some]
      repeat go_big_quiet_step (fail)
      refine wpQuiet_nil ?_
      go_wp2_with fail
      refine (HSM2.out _ i0).mono ?_
      rintro _ u1 ⟨rfl, j1⟩
      have i1 := below_tr i0 j1
      clear qa0 qa1 qd0 qd1
      go_wp2_with fail
      refine plan_on (j1) ?_
      have qd0 := fun (z : BW u1) => (HXd.out.below (below_tr i1 z.ok)).get2.1
      have qd1 := fun (z : BW u1) => (HXd.out.below (below_tr i1 z.ok)).get2.2
      refine plan_two ?_
      simp only [pickOps, List.map_cons, List.map_nil, List.getElem?_toArray, List.getElem?_cons_zero, List.getElem?_cons_succ, Option.getD_some]
      repeat go_big_quiet_step (fail)
      refine wpQuiet_nil ?_
      refine ⟨?_, ?_⟩
      · go_wp2_with fail
        refine (HPR2.out _ i1).mono ?_
        rintro _ u2 ⟨tz, rfl, htz, j2⟩
        have i2 := below_tr i1 j2
        have HE : (tz.toList == r.toList) = true := by rw [show tz.toList = r.toList from htz]; exact beq_self_eq_true _
        clear qd0 qd1 htz
        go_wp2_with fail
        refine plan_on (j2) ?_
        have hback := HR3.out u2 (fun j hj => by rw [i2.cell l10]; exact hv10 j hj)
        refine plan_call ?_
        simp only [pickOps, List.map_cons, List.map_nil, List.getElem?_toArray, List.getElem?_cons_zero, List.getElem?_cons_succ, Option.getD_some]
        repeat go_big_quiet_step (fail)
        refine wpQuiet_nil ?_
        go_wp2_with fail
        refine plan_on (Below.refl _ _) ?_
        refine plan_last ?_
        simp only [pickOps, List.map_cons, List.map_nil, List.getElem?_toArray, List.getElem?_cons_zero, List.getElem?_cons_succ, Option.getD_some]
        repeat go_big_quiet_step (fail)
        refine wpQuiet_nil ?_
        go_wp2_with fail
        go_ret
        exact ⟨rfl, below_tr HB.out (below_tr h10 i2)⟩
      · have hback := HR3.out u1 (fun j hj => by rw [i1.cell l10]; exact hv10 j hj)
        go_wp2_with fail
        refine plan_on (Below.refl _ _) ?_
        clear hback
        refine plan_call ?_
        simp only [pickOps, List.map_cons, List.map_nil, List.getElem?_toArray, List.getElem?_cons_zero, List.getElem?_cons_succ, Option.getD_some]
        repeat go_big_quiet_step (fail)
        refine wpQuiet_nil ?_
        go_wp2_with fail
        refine (HPR2.out _ i1).mono ?_
        rintro _ u2 ⟨tz, rfl, htz, j2⟩
        have i2 := below_tr i1 j2
        have HE : (tz.toList == r.toList) = true := by rw [show tz.toList = r.toList from htz]; exact beq_self_eq_true _
        clear qd0 qd1 htz
        go_wp2_with fail
        refine plan_on (j2) ?_
        refine plan_last ?_
        simp only [pickOps, List.map_cons, List.map_nil, List.getElem?_toArray, List.getElem?_cons_zero, List.getElem?_cons_succ, Option.getD_some]
        repeat go_big_quiet_step (fail)
        refine wpQuiet_nil ?_
        go_wp2_with fail
        go_ret
        exact ⟨rfl, below_tr HB.out (below_tr h10 i2)⟩
theorem walk_TellBack2 (A0 : Option Addr) (c0 : Nat) (z0 : List Int) (a y : Int) (w : World) (h0 : IntsAt w A0 z0) (l0 : z0.length ≤ 9223372036854775807) (_ : (Lit.int .i64 a).wf = true) (h2 : (Lit.int .u8 y).wf = true) (hL : Laid w) :
    Calls Tryz.prog 11 #[.slice A0 z0.length c0, .int .i64 a, .int .u8 y] w (BoolPost w true) := by
  have h : 0 ≤ y ∧ y < 256 := by
    simp only [Lit.wf, Bool.and_eq_true, decide_eq_true_eq] at h2
    have e1 : IntKind.min .u8 = 0 := by decide
    have e2 : IntKind.max .u8 = 255 := by decide
    omega
  exact walk_TellBack A0 c0 z0 a y w h0 l0 h.1 h.2 hL
end Go.Proofs.YtmnjnoggchgnjaaGreatDoor
