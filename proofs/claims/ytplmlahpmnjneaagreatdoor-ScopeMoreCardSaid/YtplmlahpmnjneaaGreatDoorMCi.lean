import Derived.Test.YtplmlahpmnjneaaGreatDoorMCh
import Derived.Test.YtplmlahpmnjneaaGreatDoorMCf
import Derived.Test.YtplmlahpmnjneaaGreatDoorMTa
import Derived.ArgAppend
import Derived.Test.YtplmlahpmnjneaaGreatDoorMTr
namespace Go.Proofs.YtplmlahpmnjneaaGreatDoor
open Go.RowKit Go.Lib
open Rw
set_option linter.unusedVariables false
set_option linter.unusedSimpArgs false
def XPost (w : World) (o : Option CompL) (e : Ending) (w' : World) : Prop := ∃ c : CompL, e = .returned (.tuple #[c.val, .int .i64 (if o.isSome then 0 else 6)]) ∧ (∀ u, o = some u → c = u) ∧ Below w.heap.size w w'
theorem xpost_none {w w' : World} (h : Below w.heap.size w w') : XPost w none (.returned (.tuple #[zeroX.val, .int .i64 6])) w' := ⟨zeroX, rfl, fun u h => (by cases h), h⟩
theorem b94 (s : ByteArray) : bts ((⟨#[94]⟩ : ByteArray) ++ s) = 94 :: bts s := by rw [bts_append, show bts (⟨#[94]⟩ : ByteArray) = [94] from bts_lit [94]]; rfl
set_option maxRecDepth 100000 in
set_option maxHeartbeats 4000000 in
theorem xparse_any (s : ByteArray) (w : World) (hL : Laid w) (hs : s.size ≤ 20000) : Calls Tryz.prog 57 #[.string s] w (XPost w (parseX (bts s))) := by
  have HR1 := hid (fun u (h : Below w.heap.size w u) => xread_any s u (hL.below h) (by omega))
  have HR2 := hid (fun u (h : Below w.heap.size w u) => xread_any ((⟨#[94]⟩ : ByteArray) ++ s) u (hL.below h) (by rw [ByteArray.size_append]; have : (⟨#[94]⟩ : ByteArray).size = 1 := rfl; omega))
  rw [b94] at HR2
  clear hL
  have HPX := hid (show parseX (bts s) = match readX (bts s) with
    | some c => some c
    | none => readX (94 :: bts s) from rfl)
  generalize parseX (bts s) = po at *
  generalize readX (bts s) = o1 at *
  generalize readX (94 :: bts s) = o2 at *
  go_enter Tryz.func57, Tryz.ntmps57
  go_wp2_with fail
  refine calls_name ?_
  intro w1 hw1
  have O2 := hid (show Own w.heap.size w1 w.heap.size zero7 by rw [hw1]; exact Own.new w zero7 52 (Nat.le_refl _))
  have HB := hid (show Below w.heap.size w w1 by rw [hw1]; exact below_new _ _)
  clear hw1
  refine (HR1.out _ HB.out).mono ?_
  rintro _ w2 ⟨c1, rfl, hc1, hb⟩
  have HC1 := hid hc1
  have O2 := hid (O2.out.below hb)
  have HB := hid (below_tr HB.out hb)
  clear hb hc1
  generalize his : o1.isSome = is1 at *
  have HIS := hid his
  clear his
  go_upto_if 13 with fail
  refine wp_name ?_
  intro w3 hw3
  have O4 := hid (show Own w.heap.size w3 w2.heap.size c1.cells by rw [hw3]; exact Own.new w2 c1.cells 52 HB.out.size)
  have O2 := hid (show Own w.heap.size w3 w.heap.size zero7 by rw [hw3]; exact O2.out.alloc _)
  have HB := hid (show Below w.heap.size w w3 by rw [hw3]; exact below_tr HB.out (below_new _ _))
  clear hw3
  generalize w2.heap.size = g4 at *
  cases is1
  · have HPX2 := hid (show po = o2 by
      rw [HPX.out]
      cases o1 with
      | none => rfl
      | some x => have := HIS.out; cases this)
    go_wp2_with fail
    refine (HR2.out _ HB.out).mono ?_
    rintro _ w4 ⟨c2, rfl, hc2, hb⟩
    have HC2 := hid hc2
    have O2 := hid (O2.out.below hb)
    have HB := hid (below_tr HB.out hb)
    clear hb hc2
    generalize his2 : o2.isSome = is2 at *
    have HIS2 := hid his2
    clear his2
    go_upto_if 21 with fail
    refine wp_name ?_
    intro w5 hw5
    have O6 := hid (show Own w.heap.size w5 w4.heap.size c2.cells by rw [hw5]; exact Own.new w4 c2.cells 52 HB.out.size)
    have O2 := hid (show Own w.heap.size w5 w.heap.size zero7 by rw [hw5]; exact O2.out.alloc _)
    have HB := hid (show Below w.heap.size w w5 by rw [hw5]; exact below_tr HB.out (below_new _ _))
    clear hw5
    generalize w4.heap.size = g6 at *
    cases is2
    · have HNO := hid (show o2 = none by
        cases o2 with
        | none => rfl
        | some x => have := HIS2.out; cases this)
      obtain ⟨x0, x1, x2, x3, x4, x5, x6⟩ := O2.out.box.get7
      have sf2 : ∀ j, w5.frozen? ⟨w.heap.size, j, none⟩ = false := O2.out.soft
      have hlt2 := O2.out.box.1
      go_wp2_with fail
      refine body_name ?_
      intro w9 hw9
      have O9 : Own w.heap.size w9 w.heap.size (zero7) := by rw [hw9]; exact O2.out.set7 _ _ _ _ _ _ _
      have B9 : Below w.heap.size w w9 := by rw [hw9]; exact below_set7 HB.out (Nat.le_refl _) _ _ _ _ _ _ _
      clear hw9
      obtain ⟨k0, k1, k2, k3, k4, k5, k6⟩ := O9.box.get7
      refine bodyPost_ret (v := .tuple #[zeroX.val, .int .i64 6]) (by simp [results, Tryz.results57, go_sem, k0, k1, k2, k3, k4, k5, k6, zeroX, zeroV]) rfl ?_
      rw [HPX2.out, HNO.out]
      exact xpost_none B9
    · obtain ⟨y0, y1, y2, y3, y4, y5, y6⟩ := O6.out.box.get7
      have hlt6 := O6.out.box.1
      obtain ⟨x0, x1, x2, x3, x4, x5, x6⟩ := O2.out.box.get7
      have sf2 : ∀ j, w5.frozen? ⟨w.heap.size, j, none⟩ = false := O2.out.soft
      have hlt2 := O2.out.box.1
      go_wp2_with fail
      refine body_name ?_
      intro w9 hw9
      have O9 : Own w.heap.size w9 w.heap.size (c2.cells) := by rw [hw9]; exact O2.out.set7 _ _ _ _ _ _ _
      have B9 : Below w.heap.size w w9 := by rw [hw9]; exact below_set7 HB.out (Nat.le_refl _) _ _ _ _ _ _ _
      clear hw9
      obtain ⟨k0, k1, k2, k3, k4, k5, k6⟩ := O9.box.get7
      refine bodyPost_ret (v := .tuple #[c2.val, .int .i64 0]) (by simp [results, Tryz.results57, go_sem, k0, k1, k2, k3, k4, k5, k6, zeroX, zeroV]) rfl ?_
      rw [HPX2.out]
      exact ⟨c2, by rw [HIS2.out]; rfl, HC2.out, B9⟩
  · have HPX2 := hid (show po = o1 by
      rw [HPX.out]
      cases o1 with
      | none => have := HIS.out; cases this
      | some x => rfl)
    obtain ⟨y0, y1, y2, y3, y4, y5, y6⟩ := O4.out.box.get7
    have hlt4 := O4.out.box.1
    obtain ⟨x0, x1, x2, x3, x4, x5, x6⟩ := O2.out.box.get7
    have sf2 : ∀ j, w3.frozen? ⟨w.heap.size, j, none⟩ = false := O2.out.soft
    have hlt2 := O2.out.box.1
    go_wp2_with fail
    refine body_name ?_
    intro w9 hw9
    have O9 : Own w.heap.size w9 w.heap.size (c1.cells) := by rw [hw9]; exact O2.out.set7 _ _ _ _ _ _ _
    have B9 : Below w.heap.size w w9 := by rw [hw9]; exact below_set7 HB.out (Nat.le_refl _) _ _ _ _ _ _ _
    clear hw9
    obtain ⟨k0, k1, k2, k3, k4, k5, k6⟩ := O9.box.get7
    refine bodyPost_ret (v := .tuple #[c1.val, .int .i64 0]) (by simp [results, Tryz.results57, go_sem, k0, k1, k2, k3, k4, k5, k6, zeroX, zeroV]) rfl ?_
    rw [HPX2.out]
    exact ⟨c1, by rw [HIS.out]; rfl, HC1.out, B9⟩
end Go.Proofs.YtplmlahpmnjneaaGreatDoor
namespace Go.Proofs.YtplmlahpmnjneaaGreatDoor
open Go.RowKit Go.Lib
open Rw
set_option linter.unusedVariables false
set_option linter.unusedSimpArgs false
theorem conv_byte (b : UInt8) (w : World) : (convert 61 9 (.slice (some ⟨w.heap.size, 0, none⟩) 1 1)).run Tryz.prog (w.alloc (.cells #[.int .u8 b.toNat] 5)) = .ok (.string ⟨#[b]⟩) (w.alloc (.cells #[.int .u8 b.toNat] 5)) := by
  refine run_convert_bytes_back (P := Tryz.prog) _ 61 9 5 ⟨w.heap.size, 0, none⟩ 1 [b] Tryz.underlying61 Tryz.underlying5 Tryz.underlying9 (fun j hj => ?_)
  obtain rfl : j = 0 := by simpa using hj
  have e : (⟨w.heap.size, 0, none⟩ : Addr).add 0 = ⟨w.heap.size, 0, none⟩ := rfl
  rw [e, World.cell?_alloc_at _ _ _ _ rfl]
  rfl
theorem joinS_snoc2 {sep q : List UInt8} : ∀ {ls : List (List UInt8)}, ls ≠ [] → joinS sep (ls ++ [q]) = joinS sep ls ++ (sep ++ q)
  | [], h => absurd rfl h
  | [p], _ => by simp [joinS]
  | p :: r :: s, _ => by
    have := joinS_snoc2 (sep := sep) (q := q) (ls := r :: s) (by simp)
    have e1 : joinS sep (p :: r :: s) = p ++ sep ++ joinS sep (r :: s) := rfl
    have e2 : joinS sep ((p :: r :: s) ++ [q]) = p ++ sep ++ joinS sep (r :: s ++ [q]) := rfl
    rw [e2, this, e1]; simp
def joinTo (b : UInt8) (ds : List ByteArray) (k : Nat) : List UInt8 := joinS [b] ((ds.map bts).take k)
theorem joinTo_0 (b : UInt8) (ds : List ByteArray) : joinTo b ds 0 = [] := by simp [joinTo, joinS]
theorem joinTo_all (b : UInt8) (ds : List ByteArray) : joinTo b ds ds.length = joinS [b] (ds.map bts) := by rw [joinTo, List.take_of_length_le (by simp)]
theorem joinTo_1 {b : UInt8} {ds : List ByteArray} (h : 0 < ds.length) : joinTo b ds 1 = bts ds[0] := by
  cases ds with
  | nil => simp at h
  | cons d r => simp [joinTo, joinS]
theorem joinTo_step {b : UInt8} {ds : List ByteArray} {k : Nat} (h0 : 0 < k) (h : k < ds.length) : joinTo b ds (k + 1) = joinTo b ds k ++ ([b] ++ bts ds[k]) := by
  have hk : k < (ds.map bts).length := by simpa using h
  rw [joinTo, List.take_succ_eq_append_getElem hk, joinS_snoc2, List.getElem_map]
  · rfl
  · intro e
    have := congrArg List.length e
    rw [List.length_take, List.length_nil] at this
    omega
set_option maxRecDepth 100000 in
set_option maxHeartbeats 2000000 in
theorem rjoin_any (g cap : Nat) (ds : List ByteArray) (b : UInt8) (w : World) (hx : Box w g (ds.map Value.string)) (hln : ds.length ≤ 1000) (hd : ∀ d ∈ ds, d.size ≤ 1000) :
    Calls Tryz.prog 159 #[.slice (some ⟨g, 0, none⟩) ds.length cap, .int .u8 b.toNat] w (StrPost w (joinS [b] (ds.map bts))) := by
  have HX := hid hx
  have HD := hid hd
  have HALL := hid (joinTo_all b ds)
  clear hx hd
  generalize hn : ds.length = n at *
  have HN := hid hn
  clear hn
  have hcv := conv_byte b
  have hb1 : (⟨#[b]⟩ : ByteArray).size = 1 := rfl
  go_enter Tryz.func159, Tryz.ntmps159
  go_wp2_with fail
  go_loopw [6, 5] (fun i s wr => ∃ (k : Nat) (t : ByteArray), i = .int .i64 k ∧ s = .string t ∧ k ≤ n ∧ t.size ≤ 1001 * k ∧ Hid (bts t = joinTo b ds k) ∧ Hid (Below w.heap.size w wr)) (fun i _ _ => n - (intOf i).toNat)
  case atStart => exact ⟨0, _, rfl, rfl, Nat.zero_le _, Nat.zero_le _, hid (by rw [joinTo_0]; exact bts_lit []), hid (Below.refl _ _)⟩
  case round =>
    obtain ⟨k, t, rfl, rfl, hk, hts, HT, HB⟩ := hrel
    by_cases hlt : k < n
    · have hlt' : k < ds.length := by rw [HN.out]; exact hlt
      have cx : wr.cell? ⟨g, k, none⟩ = some (.string ds[k]) := (HX.out.below HB.out).2 k _ (by simp [hlt'])
      have hgw := (HX.out.below HB.out).1
      have hgw2 : g < wr.heap.size + 1 := by omega
      have hsx : ds[k].size ≤ 1000 := HD.out _ (List.getElem_mem hlt')
      have i0 : (0 : Int) ≤ (k : Int) := by omega
      have i1 : (k : Int) < (n : Int) := by omega
      have hts2 : t.size ≤ 1001000 := by omega
      by_cases hk0 : k = 0
      · subst hk0
        have HS := hid (joinTo_1 (b := b) hlt')
        generalize ds[0] = d at *
        clear hcv
        go_wp2_with fail
        go_roundw
        case rel => exact ⟨1, _, by go_num, rfl, by omega, by rw [ByteArray.size_append]; omega, hid (by rw [bts_append, HT.out, HS.out, joinTo_0]; rfl), HB⟩
        case measure => simp [intOf]; omega
      · have hkp : (0 : Int) < (k : Int) := by omega
        have HS := hid (joinTo_step (b := b) (by omega) hlt')
        generalize ds[k] = d at *
        go_wp2_with fail
        go_roundw
        case rel =>
          refine ⟨k + 1, _, by go_num, rfl, by omega, by rw [ByteArray.size_append, ByteArray.size_append]; omega, hid ?_, hid (below_tr HB.out (below_new _ _))⟩
          rw [bts_append, bts_append, HT.out, HS.out, show bts (⟨#[b]⟩ : ByteArray) = [b] from bts_lit [b]]; simp
        case measure => simp [intOf]; omega
    · obtain rfl : k = n := by omega
      have hge : ¬ (k : Int) < (k : Int) := by omega
      go_wp2_with fail
      go_ret
      exact ⟨_, rfl, by rw [HT.out, HALL.out], HB.out⟩
def ToldPost (w : World) (v : Ver) (n : Nat) (e : Ending) (w' : World) : Prop := ∃ (g : Nat) (d1 d2 d3 : ByteArray), e = .returned (.slice (some ⟨g, 0, none⟩) n 3) ∧ w.heap.size ≤ g ∧ Box w' g [.string d1, .string d2, .string d3] ∧ bts d1 = numT v.maj ∧ bts d2 = numT v.min ∧ bts d3 = numT v.pat ∧ Below w.heap.size w w'
set_option maxRecDepth 100000 in
set_option maxHeartbeats 2000000 in
theorem told_any (op : Int) (n : Nat) (v : Ver) (w : World) (hm : MayX ⟨op, (n : Int), v⟩) (hn3 : n ≤ 3) : Calls Tryz.prog 158 #[CompL.val ⟨op, (n : Int), v⟩] w (ToldPost w v n) := by
  have HF := hid (mayV_parts hm.v)
  clear hm
  go_enter Tryz.func158, Tryz.ntmps158
  go_wp2_with fail
  refine wp_name ?_
  intro w1 hw1
  have HB := hid (show Below w.heap.size w w1 by rw [hw1]; exact below_new _ _)
  have HX : Hid (Box w1 w.heap.size (CompL.cells ⟨op, (n : Int), v⟩)) := hid (by rw [hw1]; exact Box.new w (CompL.cells ⟨op, (n : Int), v⟩) 52)
  clear hw1
  refine wp_plan (.call [0, 1, 2, 4, 5, 6, 8, 9, 10] 3 (.call [] 7 (.call [] 11 (.call [] 12 (.last [13]))))) (by kernel_rfl) (by intro _ _ d _ _ h; cases d <;> exact h) (by kernel_rfl) ?_
  have q2 := fun (z : BW w1) => (HX.out.below z.ok).get7.2.2.1
  have q3 := fun (z : BW w1) => (HX.out.below z.ok).get7.2.2.2.1
  have q4 := fun (z : BW w1) => (HX.out.below z.ok).get7.2.2.2.2.1
  refine plan_call ?_
  simp only [pickOps, List.map_cons, List.map_nil, List.getElem?_toArray, List.getElem?_cons_zero, List.getElem?_cons_succ, Option.getD_some]
  repeat go_big_quiet_step (fail)
  refine wpQuiet_nil ?_
  go_wp2_with fail
  refine (rdigits_fits _ _ HF.out.1).mono ?_
  rintro _ w2 ⟨d1, rfl, hd1, hb2⟩
  have HD1 := hid hd1
  have HB2 := hid (below_tr (Below.refl w1.heap.size w1).drew hb2)
  clear hd1 hb2
  go_wp2_with fail
  refine plan_on (HB2.out) ?_
  refine plan_call ?_
  simp only [pickOps, List.map_cons, List.map_nil, List.getElem?_toArray, List.getElem?_cons_zero, List.getElem?_cons_succ, Option.getD_some]
  repeat go_big_quiet_step (fail)
  refine wpQuiet_nil ?_
  go_wp2_with fail
  refine (rdigits_fits _ _ HF.out.2.1).mono ?_
  rintro _ w3 ⟨d2, rfl, hd2, hb3⟩
  have HD2 := hid hd2
  have HB3 := hid hb3
  clear hd2 hb3
  go_wp2_with fail
  refine plan_on (HB3.out) ?_
  refine plan_call ?_
  simp only [pickOps, List.map_cons, List.map_nil, List.getElem?_toArray, List.getElem?_cons_zero, List.getElem?_cons_succ, Option.getD_some]
  repeat go_big_quiet_step (fail)
  refine wpQuiet_nil ?_
  go_wp2_with fail
  refine (rdigits_fits _ _ HF.out.2.2.1).mono ?_
  rintro _ w4 ⟨d3, rfl, hd3, hb4⟩
  have HD3 := hid hd3
  have HB4 := hid hb4
  clear hd3 hb4
  go_wp2_with fail
  refine plan_on (HB4.out) ?_
  refine plan_call ?_
  simp only [pickOps, List.map_cons, List.map_nil, List.getElem?_toArray, List.getElem?_cons_zero, List.getElem?_cons_succ, Option.getD_some]
  repeat go_big_quiet_step (fail)
  refine wpQuiet_nil ?_
  go_wp2_with fail
  go_wp2_with fail
  refine plan_on (below_new _ _) ?_
  refine plan_last ?_
  simp only [pickOps, List.map_cons, List.map_nil, List.getElem?_toArray, List.getElem?_cons_zero, List.getElem?_cons_succ, Option.getD_some]
  repeat go_big_quiet_step (fail)
  refine wpQuiet_nil ?_
  have HB5 := hid (below_tr HB.out (below_tr HB2.out (below_tr HB3.out HB4.out)))
  have HX5 := hid (HX.out.below (below_tr HB2.out (below_tr HB3.out (below_tr HB4.out (below_new w4 (.cells #[.string d1, .string d2, .string d3] 9))))))
  have HBX := hid (Box.new w4 [.string d1, .string d2, .string d3] 9)
  have hle : w.heap.size ≤ w4.heap.size := HB5.out.size
  clear q2 q3 q4
  obtain ⟨x0, x1, x2, x3, x4, x5, x6⟩ := HX5.out.get7
  have i0 : (0 : Int) ≤ (n : Int) := by omega
  have i1 : (n : Int) ≤ 3 := by omega
  go_wp2_with fail
  go_ret
  exact ⟨w4.heap.size, d1, d2, d3, rfl, hle, HBX.out, HD1.out, HD2.out, HD3.out, below_tr HB5.out (below_new _ _)⟩
end Go.Proofs.YtplmlahpmnjneaaGreatDoor
namespace Go.Proofs.YtplmlahpmnjneaaGreatDoor
open Go.RowKit Go.Lib
open Rw
set_option linter.unusedVariables false
set_option linter.unusedSimpArgs false
theorem wpList_grows {P : Program} {t e : TypeId} {size bytes : Nat} (w : World) (E : EK P t e size bytes) {ops : Array Oper} {rest : List Oper} {o : Oper} {a : Act} {Q : Exit → Act → World → Prop}
    (hg : o.guard = none) (s x : Operand) (hop : o.op = Op.call { callee := Callee.builtin Builtin.append, args := #[s, x], argTypes := #[t, t] })
    (b : Addr) (n cap : Nat) (olds : List Value) (hs : a.eval s = .slice (some b) n cap) (hlo : olds.length = n * size) (holds : ∀ j u, olds[j]? = some u → w.cell? (b.add j) = some u)
    (ad : Addr) (m c : Nat) (news : List Value) (hx : a.eval x = .slice (some ad) m c) (hn : news.length = m * size) (hc : ∀ j u, news[j]? = some u → w.cell? (ad.add j) = some u)
    (hfull : cap < n + m) (b1 : n + m ≤ maxLen) (b2 : (n + m) * bytes ≤ 140737488355328)
    (hK : ∀ v' w', w'.ownsRow w.heap.size e size v' (n + m) (olds ++ news) → Below w.heap.size w w' → wpList P ops Q rest (a.put o.dst v') w') :
    wpList P ops Q (o :: rest) a w := by
  obtain ⟨ht, ⟨i, z, hi, hz, hsize, hby, hzs⟩, hpos⟩ := E
  refine wpList_plain hg fun K hK' => ?_
  obtain ⟨v', w', hrun, r1, r2⟩ := run_append_arg_grows (P := P) w t o.type e i z size bytes ht hi hz hsize hby hzs hpos b n cap olds hlo holds ad m c news hn hc hfull b1 b2
  have hd : w.drawn ≤ w'.drawn := by
    have hr := run_append_grow (P := P) w t o.type e i z ht hi hz b n cap olds (by rw [hsize]; exact hlo) holds ad m c news (by rw [hsize]; exact hn) hc hfull (by simp only [maxLen] at b1; omega) (by rw [hby]; exact growslice_fits hfull b2)
    rw [hr] at hrun
    injection hrun with _ hw
    rw [← hw]
    exact Nat.le_succ _
  unfold Oper.wp
  simp [execOp, hop, resolve, invoke, builtin, hs, hx, hrun, Result.andThen]
  exact hK' _ _ (hK v' w' r1 ((Below.refl _ _).grown r2 hd (Nat.le_refl _) (fun k h => by cases h)))
theorem add0 (g j : Nat) : (⟨g, 0, none⟩ : Addr).add j = ⟨g, j, none⟩ := by
  unfold Addr.add
  split <;> simp_all
theorem toldX_ds {op : Int} {n : Nat} {v : Ver} {d1 d2 d3 : ByteArray} (h1 : bts d1 = numT v.maj) (h2 : bts d2 = numT v.min) (h3 : bts d3 = numT v.pat) : (([d1, d2, d3] : List ByteArray).take n).map bts = toldX ⟨op, (n : Int), v⟩ := by
  rw [toldX, List.map_take, List.map_cons, List.map_cons, List.map_cons, List.map_nil, h1, h2, h3]; rfl
theorem toldN_len {v : Ver} (h : mayV v = true) {n : Nat} (hn : n ≤ 3) : (toldN v n).length ≤ 1000 := by
  obtain ⟨f1, f2, f3, -, -⟩ := mayV_parts h
  have h1 := numT_len f1
  have h2 := numT_len f2
  have h3 := numT_len f3
  rcases (show n = 0 ∨ n = 1 ∨ n = 2 ∨ n = 3 by omega) with rfl | rfl | rfl | rfl
  · rw [toldN_0]; simp
  · rw [toldN_1]; omega
  · rw [toldN_2]; simp; omega
  · rw [toldN_3]; simp; omega
set_option maxRecDepth 100000 in
set_option maxHeartbeats 2000000 in
theorem rxprint_any (c : CompL) (w : World) (hc : c.fit) : Calls Tryz.prog 105 #[c.val] w (StrPost w (printX c)) := by
  have HM := hid (rxmay_any c (w.alloc (.cells c.cells.toArray 52)) hc)
  have HBX := hid (Box.new w c.cells 52)
  have HB0 := hid (below_new w (.cells c.cells.toArray 52))
  cases hm : mayX c
  · rw [hm] at HM
    have HP := hid (show printX c = [] by rw [printX, hm]; rfl)
    go_enter Tryz.func105, Tryz.ntmps105
    go_wp2_with fail
    refine HM.out.mono ?_
    rintro _ w1 ⟨rfl, hb⟩
    go_wp2_with fail
    go_ret
    exact ⟨_, rfl, by rw [HP.out]; exact bts_lit [], below_tr HB0.out hb⟩
  · rw [hm] at HM
    have M := hid (mayX_iff.1 hm)
    have HP := hid (printX_may M.out)
    clear hm
    obtain ⟨op, parts, v⟩ := c
    have hpar : 0 ≤ parts ∧ parts ≤ 3 := by have := M.out.many; simp only at this; omega
    obtain ⟨n, rfl⟩ := Int.eq_ofNat_of_zero_le hpar.1
    have hn3 : n ≤ 3 := by omega
    clear hpar
    have HTD := hid (fun u => told_any op n v u M.out hn3)
    have HSG := hid (fun u => rsign_any op u)
    have hsz := sign_len op
    have HSB := hid (bts_strB (signT op))
    have HF1 := hid (mayV_parts M.out.v)
    generalize strB (signT op) = sg at *
    go_enter Tryz.func105, Tryz.ntmps105
    go_wp2_with fail
    refine HM.out.mono ?_
    rintro _ w1 ⟨rfl, hb⟩
    have HB := hid (below_tr HB0.out hb)
    have HX := hid (HBX.out.below hb)
    obtain ⟨x0, x1, x2, x3, x4, x5, x6⟩ := HX.out.get7
    clear hb HM HBX HB0
    go_wp2_with fail
    refine (HTD.out _).mono ?_
    rintro _ w2 ⟨g, d1, d2, d3, rfl, hgl, hbx, hd1, hd2, hd3, hb⟩
    have HD := hid (toldX_ds (op := op) (n := n) (v := v) hd1 hd2 hd3)
    have hs1 := size_num4 hd1 HF1.out.1
    have hs2 := size_num4 hd2 HF1.out.2.1
    have hs3 := size_num4 hd3 HF1.out.2.2.1
    have HDS := hid (show ∀ d ∈ ([d1, d2, d3] : List ByteArray).take n, d.size ≤ 1000 from fun d hd => by
      have := List.mem_of_mem_take hd
      simp only [List.mem_cons, List.not_mem_nil, or_false] at this
      rcases this with h | h | h <;> rw [h] <;> omega)
    have HBX := hid hbx
    have HB := hid (below_tr HB.out hb)
    have HX := hid (HX.out.below hb)
    have HDL := hid (show (([d1, d2, d3] : List ByteArray).take n).length = n by rw [List.length_take]; simp; omega)
    clear hb hbx hd1 hd2 hd3 hs1 hs2 hs3 x0 x1 x2 x3 x4 x5 x6 HTD
    have HBT := hid (show Box w2 g ((([d1, d2, d3] : List ByteArray).take n).map Value.string) from ⟨HBX.out.1, fun j u hj => HBX.out.2 j u (by
      rw [List.map_take, List.getElem?_take] at hj
      split at hj
      · exact hj
      · cases hj)⟩)
    generalize ([d1, d2, d3] : List ByteArray).take n = ds at *
    clear HBX
    obtain ⟨x0, x1, x2, x3, x4, x5, x6⟩ := HX.out.get7
    by_cases h9 : op = 9
    · have q9 : (op == 9) = true := by simp [h9]
      have hk2 : n ≤ 2 := by have := M.out.many; simp only at this; omega
      have HTX := hid (show textX ⟨op, (n : Int), v⟩ = joinS [46] (toldX ⟨op, (n : Int), v⟩ ++ [[42]]) by rw [textX, if_pos h9])
      clear h9
      have i0 : (0 : Int) ≤ (n : Int) := by omega
      have i1 : (n : Int) ≤ 3 := by omega
      have HCS := hid (show ∀ j u, (ds.map Value.string)[j]? = some u → (w2.alloc (.cells #[.string ⟨#[42]⟩] 9)).cell? ((⟨g, 0, none⟩ : Addr).add j) = some u from fun j u hj => by
        rw [add0]
        exact ((HBT.out.below (below_new _ _)).2 j u hj))
      have HCN := hid (show ∀ j u, ([Value.string ⟨#[42]⟩] : List Value)[j]? = some u → (w2.alloc (.cells #[.string ⟨#[42]⟩] 9)).cell? ((⟨w2.heap.size, 0, none⟩ : Addr).add j) = some u from fun j u hj => by
        rw [add0]
        exact (Box.new w2 [.string ⟨#[42]⟩] 9).2 j u hj)
      go_wp2_with (first | (at_builtin; refine wpList_grows _ EKstrs rfl (.tmp 18) (.tmp 19) rfl ⟨g, 0, none⟩ n n (ds.map Value.string) rfl (by rw [List.length_map, HDL.out]; omega) HCS.out ⟨w2.heap.size, 0, none⟩ 1 1 [.string ⟨#[42]⟩] rfl rfl HCN.out (by omega) (by unfold maxLen; omega) (by omega) ?_; intro v' w3 hrow hbel))
      have HROW := hid (own_form hrow (by omega))
      obtain ⟨g2, cap2, rfl, hg2, hl2, hc2, hcell⟩ := HROW.out
      have HB3 := hid (below_tr HB.out (below_tr (below_new w2 (.cells #[.string ⟨#[42]⟩] 9)) hbel))
      have hbx3 : Box w3 g2 ((ds ++ [(⟨#[42]⟩ : ByteArray)]).map Value.string) := ⟨hl2, fun j u hj => by
        have hjl : j < (n + 1) * 1 := by
          rcases Nat.lt_or_ge j ((n + 1) * 1) with h | h
          · exact h
          · rw [List.getElem?_eq_none (by rw [List.length_map, List.length_append, HDL.out]; simp; omega)] at hj; cases hj
        rw [hcell j hjl]
        rw [List.map_append] at hj
        exact hj⟩
      have HJ := hid (rjoin_any g2 cap2 (ds ++ [(⟨#[42]⟩ : ByteArray)]) 46 w3 hbx3 (by rw [List.length_append, HDL.out]; simp; omega) (fun d hd => by
        rcases List.mem_append.1 hd with h | h
        · exact HDS.out d h
        · simp only [List.mem_singleton] at h; rw [h]; decide))
      rw [show (ds ++ [(⟨#[42]⟩ : ByteArray)]).length = n + 1 by rw [List.length_append, HDL.out]; rfl, List.map_append, HD.out] at HJ
      clear hrow hbel hg2 hl2 hc2 hcell hbx3 HROW
      refine HJ.out.mono ?_
      rintro _ w4 ⟨t, rfl, ht, hb⟩
      go_wp2_with fail
      go_ret
      exact ⟨_, rfl, by rw [HP.out, HTX.out, ht, List.map_cons, List.map_nil, b42x], below_tr HB3.out hb⟩
    · have q9 : (op == 9) = false := by simp [h9]
      have HX9 := hid (textX_else h9 (parts := (n : Int)) (v := v) rfl)
      have HTN := hid (show joinS [46] (ds.map bts) = toldN v n by rw [HD.out]; rfl)
      clear h9
      have hfp := hc.1
      simp only at hfp
      have HJ := hid (fun u (h : Below w2.heap.size w2 u) => rjoin_any g 3 ds 46 u (HBT.out.below h) (by rw [HDL.out]; omega) HDS.out)
      rw [HDL.out, HTN.out] at HJ
      go_wp2_with fail
      refine (HSG.out _).mono ?_
      rintro _ _ ⟨rfl, rfl⟩
      go_wp2_with fail
      refine (HJ.out _ (Below.refl _ _)).mono ?_
      rintro _ w3 ⟨t, rfl, ht, hb⟩
      have HT := hid ht
      have hts : t.size ≤ 1000 := by rw [← bts_len, ht]; exact toldN_len M.out.v hn3
      have HB := hid (below_tr HB.out hb)
      have HX := hid (HX.out.below hb)
      clear ht hb x0 x1 x2 x3 x4 x5 x6
      obtain ⟨x0, x1, x2, x3, x4, x5, x6⟩ := HX.out.get7
      rcases str_case v.pre with ⟨e5, n5⟩ | e5
      · have HE := hid (preT_ne e5)
        go_wp2_with fail
        go_ret
        refine ⟨_, rfl, ?_, HB.out⟩
        rw [HP.out, HX9.out, bts_append, bts_append, bts_append, HT.out, HSB.out, HE.out, b45]; simp
      · have HE := hid (preT_nil e5)
        go_wp2_with fail
        go_ret
        refine ⟨_, rfl, ?_, HB.out⟩
        rw [HP.out, HX9.out, bts_append, HT.out, HSB.out, HE.out]; simp
end Go.Proofs.YtplmlahpmnjneaaGreatDoor
namespace Go.Proofs.YtplmlahpmnjneaaGreatDoor
open Go.RowKit Go.Lib
open Rw
set_option linter.unusedVariables false
set_option linter.unusedSimpArgs false
def OpStr (w : World) (op : Int) (l : List UInt8) (e : Ending) (w' : World) : Prop := ∃ s : ByteArray, e = .returned (.tuple #[.int .i64 op, .string s]) ∧ bts s = l ∧ Below w.heap.size w w'
theorem rsplit_form (s : List UInt8) : rsplitX s = if (findX s opsX).1 = 9 then (if s.getLast? = some 42 then (9, s) else (7, s)) else findX s opsX := rfl
theorem find_ops {s : List UInt8} : ∀ {l : List Int} {op : Int} {r : List UInt8}, findX s l = (op, r) → (∀ x ∈ l, x ≠ 9) → op = 9 → r = s
  | [], op, r, h, _, _ => by rw [findX] at h; exact (congrArg Prod.snd h).symm
  | a :: l, op, r, h, hn, ho => by
    rw [findX] at h
    split at h
    · have := congrArg Prod.fst h
      exact absurd (this.trans ho) (hn a (by simp))
    · exact find_ops h (fun x hx => hn x (List.mem_cons_of_mem _ hx)) ho
set_option maxRecDepth 100000 in
set_option maxHeartbeats 2000000 in
theorem rxsplit_any (s : ByteArray) (w : World) (hs : s.size ≤ 9223372036854775806) : Calls Tryz.prog 102 #[.string s] w (OpStr w (rsplitX (bts s)).1 (rsplitX (bts s)).2) := by
  have HF := hid (rsplit_form (bts s))
  generalize rsplitX (bts s) = rs at *
  generalize hf : findX (bts s) opsX = fx at *
  obtain ⟨fop, frest⟩ := fx
  have HFX := hid hf
  clear hf
  dsimp only at HF
  go_enter Tryz.func102, Tryz.ntmps102
  go_upto_block 0 with fail
  refine wp_name ?_
  intro u0 hu
  have HN : Hid (Box u0 w.heap.size (opsX.map (fun o => .int .i64 o))) := hid (by rw [hu]; exact Box.new w (opsX.map (fun o => .int .i64 o)) 3)
  have HB := hid (show Below w.heap.size w u0 by rw [hu]; exact below_new _ _)
  clear hu
  go_cut [] from 8 to 42 (fun wx => Hid (fop = 9) ∧ wx = u0)
  case first =>
    go_wp2_with fail
    go_loop [5] (fun i => ∃ k : Nat, i = .int .i64 k ∧ k ≤ 8 ∧ Hid (findX (bts s) (opsX.drop k) = (fop, frest))) (fun i => 8 - (intOf i).toNat)
    case atStart => exact ⟨0, rfl, Nat.zero_le _, HFX⟩
    case round =>
      obtain ⟨k, rfl, hk, HFK⟩ := hrel
      by_cases hk8 : k < 8
      · have hkl : k < opsX.length := hk8
        obtain ⟨opk, hopk⟩ : ∃ o, opsX[k] = o := ⟨_, rfl⟩
        have ck : u0.cell? ⟨w.heap.size, k, none⟩ = some (.int .i64 opk) := HN.out.2 k _ (by rw [List.getElem?_map, List.getElem?_eq_getElem hkl, hopk]; rfl)
        have HNE9 := hid (show opk ≠ 9 by
          have : ∀ x ∈ opsX, x ≠ 9 := by decide
          rw [← hopk]
          exact this _ (List.getElem_mem hkl))
        have HFK2 : Hid (findX (bts s) (opk :: opsX.drop (k + 1)) = (fop, frest)) := hid (by
          have := HFK.out
          rw [List.drop_eq_getElem_cons hkl, hopk] at this; exact this)
        have hkn := HN.out.1
        clear hopk hkl
        have HSG := hid (fun u => rsign_any opk u)
        have HBG := hid (fun u => rxbegins_any s (strB (signT opk)) u)
        rw [bts_strB] at HBG
        have hk0 : (0 : Int) ≤ (k : Int) := by omega
        have hki : (k : Int) < 8 := by omega
        cases hb : Lib.hasPrefix (bts s) (signT opk)
        · rw [hb] at HBG
          have HMISS := hid (HFK2.out.symm.trans (find_miss hb))
          clear hb
          generalize strB (signT opk) = sg at *
          go_wp2_with fail
          refine (HSG.out _).mono ?_
          rintro _ _ ⟨rfl, rfl⟩
          go_wp2_with fail
          refine (HBG.out _).mono ?_
          rintro _ _ ⟨rfl, rfl⟩
          go_wp2_with fail
          go_round
          case rel => exact ⟨k + 1, by go_num, by omega, hid HMISS.out.symm⟩
          case measure => simp [intOf]; omega
        · rw [hb] at HBG
          have HHIT := hid (HFK2.out.symm.trans (find_hit hb))
          have hpl := pre_size hb
          rw [bts_len] at hpl
          have hsgs : (strB (signT opk)).size ≤ s.size := by rw [strB_sz]; exact hpl
          have HEX : Hid (bts (s.extract (strB (signT opk)).size s.size) = (bts s).drop (signT opk).length) := hid (by
            rw [bts_extract, strB_sz, List.take_of_length_le]
            rw [List.length_drop, bts_len]; omega)
          clear hb hpl
          generalize strB (signT opk) = sg at *
          go_wp2_with fail
          refine (HSG.out _).mono ?_
          rintro _ _ ⟨rfl, rfl⟩
          go_wp2_with fail
          refine (HBG.out _).mono ?_
          rintro _ _ ⟨rfl, rfl⟩
          go_wp2_with fail
          have hS : u0.drew.cell? ⟨w.heap.size, k, none⟩ = some (.int .i64 opk) := ck
          refine wp_planS (fun u => u.cell? ⟨w.heap.size, k, none⟩ = some (.int .i64 opk)) (.last [0, 1, 2, 3, 4, 5, 6, 7, 8, 9]) (by first | assumption | skip) (by kernel_rfl) (by intro _ _ d _ _ h; cases d <;> exact h) (by kernel_rfl) ?_
          have iS : Nonempty (SW fun u => u.cell? ⟨w.heap.size, k, none⟩ = some (.int .i64 opk)) := ⟨⟨_, hS⟩⟩
          have q0 := fun (z : SW fun u => u.cell? ⟨w.heap.size, k, none⟩ = some (.int .i64 opk)) => z.ok
          refine plan_last ?_
          simp only [pickOps, List.map_cons, List.map_nil, List.getElem?_toArray, List.getElem?_cons_zero, List.getElem?_cons_succ, Option.getD_some]
          repeat go_big_quiet_step (fail)
          refine wpQuiet_nil ?_
          go_wp2_with fail
          go_ret2
          have hfo : fop = opk := congrArg Prod.fst HHIT.out
          have hfr := congrArg Prod.snd HHIT.out
          simp only at hfr
          have hne : fop ≠ 9 := by rw [hfo]; exact HNE9.out
          rw [if_neg hne] at HF
          refine ⟨_, ?_, HEX.out.trans (by rw [HF.out]; exact hfr.symm), below_tr HB.out (Below.refl _ _).drew⟩
          rw [HF.out, hfo]
          rfl
      · obtain rfl : k = 8 := by omega
        have HE := hid (show ((9 : Int), bts s) = (fop, frest) from HFK.out)
        have HFO := hid (show fop = 9 from (congrArg Prod.fst HE.out).symm)
        go_wp2_with fail
        go_meet
        case rel => exact ⟨HFO, rfl⟩
  case rest =>
    obtain ⟨HFO, hwx⟩ := hcut
    subst hwx
    have HF := hid (HF.out.trans (if_pos HFO.out))
    clear HFX HN
    rcases str_case s with ⟨e4, n4⟩ | e4
    · have hpos : 0 < s.size := Nat.pos_of_ne_zero (fun h => n4 (List.length_eq_zero_iff.1 ((bts_len s).trans h)))
      have hl1 : s.size - 1 < s.size := by omega
      have HLAST := hid (show (bts s).getLast? = some s[s.size - 1] by
        rw [List.getLast?_eq_getElem?, bts_len, List.getElem?_eq_getElem (by rw [bts_len]; exact hl1), bts_get s _ hl1])
      have hi : (0 : Int) < (s.size : Int) := by omega
      by_cases h42 : s[s.size - 1] = 42
      · have d1 : ((s[s.size - 1].toNat : Int) == 42) = true := by rw [h42]; rfl
        have HF := hid (HF.out.trans (if_pos (by rw [HLAST.out, h42])))
        clear h42
        go_wp2_with fail
        go_ret2
        exact ⟨s, by rw [HF.out]; rfl, by rw [HF.out], HB.out⟩
      · have d1 : ((s[s.size - 1].toNat : Int) == 42) = false := by
          rw [Bool.eq_false_iff]
          intro e
          refine h42 (UInt8.toNat_inj.1 ?_)
          have := int_beq e
          show s[s.size - 1].toNat = 42
          omega
        have HF := hid (HF.out.trans (if_neg (by rw [HLAST.out]; intro e; injection e with e; exact h42 e)))
        clear h42
        go_wp2_with fail
        go_ret2
        exact ⟨s, by rw [HF.out]; rfl, by rw [HF.out], HB.out⟩
    · have hz : s.size = 0 := by rw [← bts_len, bts, e4]; rfl
      have hi : ¬ (0 : Int) < (s.size : Int) := by omega
      have HF := hid (HF.out.trans (if_neg (by rw [bts, e4]; simp)))
      clear hz
      go_wp2_with fail
      go_ret2
      exact ⟨s, by rw [HF.out]; rfl, by rw [HF.out], HB.out⟩
end Go.Proofs.YtplmlahpmnjneaaGreatDoor
