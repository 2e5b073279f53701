/- Contracts: the texts of numbers and versions. -/
import Derived.Test.YtjceaniffooohaaGreatDoorTa
import Derived.Test.YtjceaniffooohaaGreatDoorPl
import Derived.Test.YtjceaniffooohaaGreatDoorShelf
import Derived.Test.YtjceaniffooohaaGreatDoorSa
import Derived.Lib.AppendIntMem
namespace Go.Proofs.YtjceaniffooohaaGreatDoor
open Go.RowKit Go.Lib
set_option linter.unusedVariables false
set_option linter.unusedSimpArgs false

/-- a text has come back -/
def StrPost (w : World) (l : List UInt8) (e : Ending) (w' : World) : Prop := ∃ s : ByteArray, e = .returned (.string s) ∧ bts s = l ∧ Below w.heap.size w w'
theorem bts_append (a b : ByteArray) : bts (a ++ b) = bts a ++ bts b := by
  rw [bts, bts, bts, bts_data, bts_data, bts_data, ByteArray.data_append, Array.toList_append]
theorem bts_lit (l : List UInt8) : bts (⟨l.toArray⟩ : ByteArray) = l := bts_strB l
theorem str_case (s : ByteArray) : (s.toList.isEmpty = false ∧ ¬ s.toList = []) ∨ s.toList = [] := by
  by_cases h : 0 < s.size
  · exact .inl (ne_of_size h)
  · exact .inr (isEmpty_of h)
theorem tab_below {P : Program} {w w' : World} {name : String} {k : IntKind} {zs : List Int} (h : Lib.TabIs P w name k zs) (hb : Below w.heap.size w w') : Lib.TabIs P w' name k zs := by
  unfold Lib.TabIs World.var? at *
  cases hg : P.globalNamed name with
  | none => rw [hg] at h; cases h
  | some g =>
    rw [hg] at h
    simp only [Option.bind_some] at h ⊢
    have hlt : g < w.heap.size := by
      rcases Nat.lt_or_ge g w.heap.size with k | k
      · exact k
      · rw [Array.getElem?_eq_none k] at h; cases h
    rw [hb.block g hlt]; exact h
/-- what start-up has laid -/
structure Laid (w : World) : Prop where
  first : First w
  pow : Lib.TabIs Tryz.prog w "internal/strconv.uint64pow10" .u64 Lib.pow10Tab
  maxl : ∃ m : Int, w.cell? ⟨1, 0, none⟩ = some (.int .i64 m)
theorem cell_lt {w : World} {p : Addr} {v : Value} (h : w.cell? p = some v) : p.block < w.heap.size := World.block_lt_of_cell? w p h
theorem Laid.below {w w' : World} (h : Laid w) (hb : Below w.heap.size w w') : Laid w' :=
  ⟨h.first.below hb, tab_below h.pow hb, let ⟨m, hm⟩ := h.maxl; ⟨m, by rw [hb.cell (cell_lt hm)]; exact hm⟩⟩
theorem below_grown (w : World) (k : Nat) (os : Array Obj) : Below w.heap.size w (Sort.grow (w.drewN k) os) := ⟨Lib.below_grow _ w (Nat.le_refl _) k os, by simp [Sort.grow, World.drewN]⟩
theorem digits_any (n : Int) (w : World) (hL : Laid w) (h0 : 0 ≤ n) (h1 : n ≤ 9999) : Calls Tryz.prog 141 #[.int .i64 n] w (StrPost w (numT n)) := by
  have HC := hid (Any.strconv_Itoa Tryz.laysM171 n (by omega) (by omega) w hL.pow)
  have e := numT_itoa h0
  clear hL
  go_enter Tryz.func141, Tryz.ntmps141
  go_wp2_with fail
  refine HC.out.mono ?_
  rintro _ _ ⟨rfl, k, os, rfl⟩
  go_wp2_with fail
  go_ret
  exact ⟨_, rfl, bts_lit _, below_grown _ _ _⟩
theorem digits_fits (n : Int) (w : World) (hL : Laid w) (h : fitsI n = true) : Calls Tryz.prog 141 #[.int .i64 n] w (StrPost w (numT n)) := by
  simp only [fitsI, decide_eq_true_eq] at h
  exact digits_any n w hL h.1 h.2
theorem size_num {n : Int} {d : ByteArray} (h : bts d = numT n) (hn : fitsI n = true) : d.size ≤ 4 := by
  simp only [fitsI, decide_eq_true_eq] at hn
  rw [← bts_len, h, numT]
  exact dec_len (by omega)
theorem boxV_reads (w : World) (v : Ver) {w1 : World} (hb : Below (boxV w v).heap.size (boxV w v) w1) : Box w1 w.heap.size v.cells := (Box.new w v.cells 44).below hb
theorem printV_eq {v : Ver} (h : mayV v = true) {d1 d2 d3 : ByteArray} (e1 : bts d1 = numT v.maj) (e2 : bts d2 = numT v.min) (e3 : bts d3 = numT v.pat) :
    printV v = bts (d1 ++ ⟨#[46]⟩ ++ d2 ++ ⟨#[46]⟩ ++ d3) ++ (preT v ++ bldT v) := by
  rw [printV, if_pos h, numsT]
  simp only [bts_append, e1, e2, e3]
  have : bts (⟨#[46]⟩ : ByteArray) = [46] := bts_lit [46]
  rw [this]; simp
theorem b45 : bts (⟨#[45]⟩ : ByteArray) = [45] := bts_lit [45]
theorem b43 : bts (⟨#[43]⟩ : ByteArray) = [43] := bts_lit [43]
theorem preT_ne {v : Ver} (h : v.pre.toList.isEmpty = false) : preT v = 45 :: bts v.pre := by rw [preT, if_neg (by rw [bts, h]; simp)]
theorem preT_nil {v : Ver} (h : v.pre.toList = []) : preT v = [] := by rw [preT, if_pos (by rw [bts, h]; rfl)]
theorem bldT_ne {v : Ver} (h : v.bld.toList.isEmpty = false) : bldT v = 43 :: bts v.bld := by rw [bldT, if_neg (by rw [bts, h]; simp)]
theorem bldT_nil {v : Ver} (h : v.bld.toList = []) : bldT v = [] := by rw [bldT, if_pos (by rw [bts, h]; rfl)]
set_option maxRecDepth 100000 in
set_option maxHeartbeats 4000000 in
theorem vprint_yes (v : Ver) (w : World) (hL : Laid w) (hv : v.fit) (hm : mayV v = true) : Calls Tryz.prog 172 #[v.val] w (StrPost w (printV v)) := by
  obtain ⟨f1, f2, f3, -, -⟩ := mayV_parts hm
  have HM := hid (may_any v (boxV w v) hv)
  rw [hm] at HM
  have HHM := hid hm
  have HF := hid (And.intro f1 (And.intro f2 f3))
  have HL := hid hL
  clear hm hL f1 f2 f3
  go_enter Tryz.func172, Tryz.ntmps172
  go_wp2_with fail
  refine HM.out.mono ?_
  rintro _ w1 ⟨rfl, hb⟩
  have HB := hid (below_box hb)
  have HX := hid (boxV_reads w v hb)
  have HL1 := hid (HL.out.below HB.out)
  clear hb
  go_wp2_with fail
  refine wp_plan (.call [0, 1, 4, 5, 9, 10] 2 (.call [3] 6 (.call [7, 8] 11 (.last [12, 13])))) (by kernel_rfl) (by intro _ _ d _ _ h; cases d <;> exact h) (by kernel_rfl) ?_
  have q0 := fun (z : BW w1) => (HX.out.below z.ok).get5.1
  have q1 := fun (z : BW w1) => (HX.out.below z.ok).get5.2.1
  have q2 := fun (z : BW w1) => (HX.out.below z.ok).get5.2.2.1
  refine plan_call ?_
  simp only [pickOps, List.map_cons, List.map_nil, List.getElem?_toArray, List.getElem?_cons_zero, List.getElem?_cons_succ, Option.getD_some]
  repeat go_big_quiet_step (fail)
  refine wpQuiet_nil ?_
  go_wp2_with fail
  refine (digits_fits _ _ (HL1.out.below (Below.refl _ _).drew) HF.out.1).mono ?_
  rintro _ w2 ⟨d1, rfl, hd1, hb2⟩
  have hs1 := size_num hd1 HF.out.1
  have HB2 := hid (below_tr (Below.refl w1.heap.size w1).drew hb2)
  have HL2 := hid (HL1.out.below HB2.out)
  go_wp2_with fail
  refine plan_on (HB2.out) ?_
  refine plan_call ?_
  simp only [pickOps, List.map_cons, List.map_nil, List.getElem?_toArray, List.getElem?_cons_zero, List.getElem?_cons_succ, Option.getD_some]
  repeat go_big_quiet_step (fail)
  refine wpQuiet_nil ?_
  go_wp2_with fail
  refine (digits_fits _ _ HL2.out HF.out.2.1).mono ?_
  rintro _ w3 ⟨d2, rfl, hd2, hb3⟩
  have hs2 := size_num hd2 HF.out.2.1
  have HL3 := hid (HL2.out.below hb3)
  go_wp2_with fail
  refine plan_on (hb3) ?_
  refine plan_call ?_
  simp only [pickOps, List.map_cons, List.map_nil, List.getElem?_toArray, List.getElem?_cons_zero, List.getElem?_cons_succ, Option.getD_some]
  repeat go_big_quiet_step (fail)
  refine wpQuiet_nil ?_
  go_wp2_with fail
  refine (digits_fits _ _ HL3.out HF.out.2.2).mono ?_
  rintro _ w4 ⟨d3, rfl, hd3, hb4⟩
  have hs3 := size_num hd3 HF.out.2.2
  go_wp2_with fail
  refine plan_on (hb4) ?_
  refine plan_last ?_
  simp only [pickOps, List.map_cons, List.map_nil, List.getElem?_toArray, List.getElem?_cons_zero, List.getElem?_cons_succ, Option.getD_some]
  repeat go_big_quiet_step (fail)
  refine wpQuiet_nil ?_
  have HB4 := hid (below_tr HB.out (below_tr HB2.out (below_tr hb3 hb4)))
  have HX4 := hid (HX.out.below (below_tr HB2.out (below_tr hb3 hb4)))
  have HD := hid (printV_eq HHM.out hd1 hd2 hd3)
  clear hd1 hd2 hd3 hb2 hb3 hb4 q0 q1 q2 HX HL HL1 HL2 HL3
  obtain ⟨x0, x1, x2, x3, x4⟩ := HX4.out.get5
  clear x0 x1 x2
  rcases str_case v.pre with ⟨e4, n4⟩ | e4
  all_goals rcases str_case v.bld with ⟨e6, n6⟩ | e6
  all_goals
    obtain ⟨hp, hq⟩ := hv
    go_wp2_with fail
    go_ret
    refine ⟨_, rfl, ?_, HB4.out⟩
    rw [HD.out]
  · rw [preT_ne e4, bldT_ne e6]; simp only [bts_append, b45, b43]; simp
  · rw [preT_ne e4, bldT_nil e6]; simp only [bts_append, b45]; simp
  · rw [preT_nil e4, bldT_ne e6]; simp only [bts_append, b43]; simp
  · rw [preT_nil e4, bldT_nil e6]; simp
set_option maxRecDepth 100000 in
set_option maxHeartbeats 4000000 in
theorem vprint_any (v : Ver) (w : World) (hL : Laid w) (hv : v.fit) : Calls Tryz.prog 172 #[v.val] w (StrPost w (printV v)) := by
  cases hm : mayV v
  · have HM := hid (may_any v (boxV w v) hv)
    rw [hm] at HM
    have HP := hid (show printV v = [] by rw [printV, hm]; rfl)
    clear hL
    go_enter Tryz.func172, Tryz.ntmps172
    go_wp2_with fail
    refine HM.out.mono ?_
    rintro _ w1 ⟨rfl, hb⟩
    go_wp2_with fail
    go_ret
    exact ⟨_, rfl, by rw [HP.out]; exact bts_lit [], below_box hb⟩
  · exact vprint_yes v w hL hv hm
end Go.Proofs.YtjceaniffooohaaGreatDoor
