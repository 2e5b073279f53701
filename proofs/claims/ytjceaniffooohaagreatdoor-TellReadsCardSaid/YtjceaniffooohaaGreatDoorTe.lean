/- Contracts: the reference's texts of numbers and versions. -/
import Derived.Test.YtjceaniffooohaaGreatDoorTd
import Derived.Laws.IdiomStrings
namespace Go.Proofs.YtjceaniffooohaaGreatDoor
open Go.RowKit Go.Lib
set_option linter.unusedVariables false
set_option linter.unusedSimpArgs false

def prefD (m : Nat) : List UInt8 := if m < 10 then [] else decDigits (m / 10)
theorem prefD_next {m : Nat} (h : 9 < m) : prefD m = prefD (m / 10) ++ [UInt8.ofNat (48 + m / 10 % 10)] := by
  rw [prefD, if_neg (by omega), prefD]
  split
  · rename_i h2
    rw [dec_small h2, Nat.mod_eq_of_lt h2]; rfl
  · rename_i h2
    rw [dec_more h2]
theorem prefD_all (m : Nat) : decDigits m = prefD m ++ [UInt8.ofNat (48 + m % 10)] := by
  rw [prefD]
  split
  · rename_i h2
    rw [dec_small h2, Nat.mod_eq_of_lt h2]; rfl
  · rename_i h2
    rw [dec_more h2]
def dgB (n : Nat) : ByteArray := ⟨[UInt8.ofNat (48 + n % 10)].toArray⟩
theorem dgB_bts (n : Nat) : bts (dgB n) = [UInt8.ofNat (48 + n % 10)] := bts_lit _
theorem dgB_size (n : Nat) : (dgB n).size = 1 := by rw [← bts_len, dgB_bts]; rfl
theorem conv_digit (w : World) (n : Nat) : (convert 87 9 (.slice (some ⟨w.heap.size, 0, none⟩) 1 1)).run Tryz.prog (w.alloc (.cells #[.int .u8 (48 + (n : Int) % 10)] 5)) = .ok (.string (dgB n)) (w.alloc (.cells #[.int .u8 (48 + (n : Int) % 10)] 5)) := by
  refine run_convert_bytes_back (P := Tryz.prog) _ 87 9 5 ⟨w.heap.size, 0, none⟩ 1 [UInt8.ofNat (48 + n % 10)] Tryz.underlying87 Tryz.underlying5 Tryz.underlying9 (fun j hj => ?_)
  obtain rfl : j = 0 := by simpa using hj
  have e : (⟨w.heap.size, 0, none⟩ : Addr).add 0 = ⟨w.heap.size, 0, none⟩ := rfl
  rw [e, World.cell?_alloc_at _ _ _ _ rfl]
  simp only [List.getElem_cons_zero, digU (n % 10) (by omega)]
  rfl
def WRel (w : World) (n m : Nat) (s : ByteArray) (wr : World) : Prop := m ≤ n ∧ s.size ≤ n + 1 - m ∧ decDigits n = prefD m ++ bts s ∧ Below w.heap.size w wr
theorem wrel_start (w : World) (n : Nat) : WRel w n n (dgB n) (w.alloc (.cells #[.int .u8 (48 + (n : Int) % 10)] 5)) :=
  ⟨Nat.le_refl _, by rw [dgB_size]; omega, by rw [dgB_bts]; exact prefD_all n, below_new _ _⟩
theorem wrel_next {w wr : World} {n m : Nat} {s : ByteArray} (h : WRel w n m s wr) (hm : 9 < m) (o : Obj) : WRel w n (m / 10) (dgB (m / 10) ++ s) (wr.alloc o) := by
  obtain ⟨h1, h2, h3, h4⟩ := h
  refine ⟨by omega, ?_, ?_, below_tr h4 (below_new _ _)⟩
  · rw [ByteArray.size_append, dgB_size]; omega
  · rw [h3, prefD_next hm, bts_append, dgB_bts]; simp
set_option maxRecDepth 100000 in
set_option maxHeartbeats 1000000 in
theorem wholeN_any (n : Nat) (w : World) (hn : n ≤ 9999) : Calls Tryz.prog 217 #[.int .u64 n] w (StrPost w (decDigits n)) := by
  have hcv := conv_digit
  go_enter Tryz.func217, Tryz.ntmps217
  go_wp2_with fail
  go_loopw [0, 3] (fun k t wr => ∃ (m : Nat) (s : ByteArray), k = .int .u64 m ∧ t = .string s ∧ WRel w n m s wr) (fun k _ _ => (intOf k).toNat)
  case atStart => exact ⟨n, _, rfl, rfl, wrel_start w n⟩
  case round =>
    obtain ⟨m, s, rfl, rfl, hr⟩ := hrel
    have HR := hid hr
    have hm1 := hr.1
    have hs1 := hr.2.1
    clear hr
    by_cases hm : 9 < m
    · have hcv2 : ∀ w : World, (convert 87 9 (.slice (some ⟨w.heap.size, 0, none⟩) 1 1)).run Tryz.prog (w.alloc (.cells #[.int .u8 (48 + (m : Int) / 10 % 10)] 5)) = .ok (.string (dgB (m / 10))) (w.alloc (.cells #[.int .u8 (48 + (m : Int) / 10 % 10)] 5)) := fun w => conv_digit w (m / 10)
      have hd1 := dgB_size (m / 10)
      clear hcv
      go_wp2_with fail
      go_roundw
      case rel => exact ⟨m / 10, _, by go_num, rfl, wrel_next HR.out hm _⟩
      case measure => simp [intOf]; omega
    · go_wp2_with fail
      go_ret
      obtain ⟨h1, h2, h3, h4⟩ := HR.out
      exact ⟨_, rfl, by rw [h3, prefD, if_pos (by omega)]; rfl, h4⟩
theorem rdigits_any (n : Int) (w : World) (h0 : 0 ≤ n) (h1 : n ≤ 9999) : Calls Tryz.prog 191 #[.int .i64 n] w (StrPost w (numT n)) := by
  obtain ⟨k, rfl⟩ := Int.eq_ofNat_of_zero_le h0
  have HC := hid (wholeN_any k w (by omega))
  have e : numT (k : Int) = decDigits k := by rw [numT, Int.toNat_natCast]
  rw [e]
  clear e
  go_enter Tryz.func191, Tryz.ntmps191
  go_wp2_with fail
  refine HC.out.mono ?_
  rintro _ w1 ⟨s, rfl, hs, hb⟩
  go_wp2_with fail
  go_ret
  exact ⟨s, rfl, hs, hb⟩
theorem rdigits_fits (n : Int) (w : World) (h : fitsI n = true) : Calls Tryz.prog 191 #[.int .i64 n] w (StrPost w (numT n)) := by
  simp only [fitsI, decide_eq_true_eq] at h
  exact rdigits_any n w h.1 h.2
set_option maxRecDepth 100000 in
set_option maxHeartbeats 4000000 in
theorem rnumbers_any (v : Ver) (w : World) (hm : mayV v = true) : Calls Tryz.prog 205 #[v.val] w (StrPost w (numsT v)) := by
  obtain ⟨f1, f2, f3, -, -⟩ := mayV_parts hm
  have HF := hid (And.intro f1 (And.intro f2 f3))
  clear hm f1 f2 f3
  go_enter Tryz.func205, Tryz.ntmps205
  go_wp2_with fail
  refine wp_name ?_
  intro w1 hw1
  have HB := hid (show Below w.heap.size w w1 by rw [hw1]; exact below_new _ _)
  have HX : Hid (Box w1 w.heap.size v.cells) := hid (by rw [hw1]; exact Box.new w v.cells 44)
  clear hw1
  refine wp_plan (.call [0, 1, 4, 5] 2 (.call [3] 6 (.last [7, 8]))) (by kernel_rfl) (by intro _ _ d _ _ h; cases d <;> exact h) (by kernel_rfl) ?_
  have q0 := fun (z : BW w1) => (HX.out.below z.ok).get5.1
  have q1 := fun (z : BW w1) => (HX.out.below z.ok).get5.2.1
  refine plan_call ?_
  simp only [pickOps, List.map_cons, List.map_nil, List.getElem?_toArray, List.getElem?_cons_zero, List.getElem?_cons_succ, Option.getD_some]
  repeat go_big_quiet_step (fail)
  refine wpQuiet_nil ?_
  go_wp2_with fail
  refine (rdigits_fits _ _ HF.out.1).mono ?_
  rintro _ w2 ⟨d1, rfl, hd1, hb2⟩
  have hs1 := size_num hd1 HF.out.1
  have HB2 := hid (below_tr (Below.refl w1.heap.size w1).drew hb2)
  go_wp2_with fail
  refine plan_on (HB2.out) ?_
  refine plan_call ?_
  simp only [pickOps, List.map_cons, List.map_nil, List.getElem?_toArray, List.getElem?_cons_zero, List.getElem?_cons_succ, Option.getD_some]
  repeat go_big_quiet_step (fail)
  refine wpQuiet_nil ?_
  go_wp2_with fail
  refine (rdigits_fits _ _ HF.out.2.1).mono ?_
  rintro _ w3 ⟨d2, rfl, hd2, hb3⟩
  have hs2 := size_num hd2 HF.out.2.1
  go_wp2_with fail
  refine plan_on (hb3) ?_
  refine plan_last ?_
  simp only [pickOps, List.map_cons, List.map_nil, List.getElem?_toArray, List.getElem?_cons_zero, List.getElem?_cons_succ, Option.getD_some]
  repeat go_big_quiet_step (fail)
  refine wpQuiet_nil ?_
  have HB3 := hid (below_tr HB.out (below_tr HB2.out hb3))
  have HX3 := hid (HX.out.below (below_tr HB2.out hb3))
  clear hb2 hb3 q0 q1 HX HB HB2
  obtain ⟨x0, x1, x2, x3, x4⟩ := HX3.out.get5
  clear x0 x1 x3 x4
  go_wp2_with fail
  refine (rdigits_fits _ _ HF.out.2.2).mono ?_
  rintro _ w4 ⟨d3, rfl, hd3, hb4⟩
  have hs3 := size_num hd3 HF.out.2.2
  go_wp2_with fail
  go_ret
  refine ⟨_, rfl, ?_, below_tr HB3.out hb4⟩
  have : bts (⟨#[46]⟩ : ByteArray) = [46] := bts_lit [46]
  simp only [numsT, bts_append, hd1, hd2, hd3, this]; simp
theorem nums_len {v : Ver} (h : mayV v = true) : (numsT v).length ≤ 14 := by
  obtain ⟨f1, f2, f3, -, -⟩ := mayV_parts h
  simp only [fitsI, decide_eq_true_eq] at f1 f2 f3
  have h1 := dec_len (u := v.maj.toNat) (by omega)
  have h2 := dec_len (u := v.min.toNat) (by omega)
  have h3 := dec_len (u := v.pat.toNat) (by omega)
  simp only [numsT, numT, List.length_append, List.length_cons]
  omega
set_option maxRecDepth 100000 in
set_option maxHeartbeats 4000000 in
theorem rvprint_any (v : Ver) (w : World) (hv : v.fit) : Calls Tryz.prog 174 #[v.val] w (StrPost w (printV v)) := by
  have HM := hid (rmay_any v (boxV w v) hv)
  cases hm : mayV v
  · rw [hm] at HM
    have HP := hid (show printV v = [] by rw [printV, hm]; rfl)
    go_enter Tryz.func174, Tryz.ntmps174
    go_wp2_with fail
    refine HM.out.mono ?_
    rintro _ w1 ⟨rfl, hb⟩
    go_wp2_with fail
    go_ret
    exact ⟨_, rfl, by rw [HP.out]; exact bts_lit [], below_box hb⟩
  · rw [hm] at HM
    have HHM := hid hm
    clear hm
    go_enter Tryz.func174, Tryz.ntmps174
    go_wp2_with fail
    refine HM.out.mono ?_
    rintro _ w1 ⟨rfl, hb⟩
    have HB := hid (below_box hb)
    have HX := hid (boxV_reads w v hb)
    clear hb
    obtain ⟨x0, x1, x2, x3, x4⟩ := HX.out.get5
    go_wp2_with fail
    refine (rnumbers_any v _ HHM.out).mono ?_
    rintro _ w2 ⟨d, rfl, hd, hb2⟩
    have hs : d.size ≤ 14 := by rw [← bts_len, hd]; exact nums_len HHM.out
    have HD := hid hd
    have HB2 := hid (below_tr HB.out hb2)
    have HX2 := hid (HX.out.below hb2)
    clear hb2 x0 x1 x2 x3 x4 HX hd HB HM
    obtain ⟨x0, x1, x2, x3, x4⟩ := HX2.out.get5
    clear x0 x1 x2
    rcases str_case v.pre with ⟨e4, n4⟩ | e4
    all_goals rcases str_case v.bld with ⟨e6, n6⟩ | e6
    all_goals
      obtain ⟨hp, hq⟩ := hv
      go_wp2_with fail
      go_ret
      refine ⟨_, rfl, ?_, HB2.out⟩
      rw [printV, if_pos HHM.out, ← HD.out]
    · rw [preT_ne e4, bldT_ne e6]; simp only [bts_append, b45, b43]; simp
    · rw [preT_ne e4, bldT_nil e6]; simp only [bts_append, b45]; simp
    · rw [preT_nil e4, bldT_ne e6]; simp only [bts_append, b43]; simp
    · rw [preT_nil e4, bldT_nil e6]; simp
end Go.Proofs.YtjceaniffooohaaGreatDoor
