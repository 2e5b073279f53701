/- Parts 23 of the proofs. -/
import Derived.Test.YtlmkglgjdmjnkaaGreatDoorQ22
import Derived.Lib.AppendZeros
namespace Go.Proofs.YtlmkglgjdmjnkaaGreatDoor
open Go.RowKit Go.Lib
open Rw
set_option linter.unusedVariables false
set_option linter.unusedSimpArgs false
theorem src_lies {α : Type} {f : α → List Value} {n : Nat} {w : World} {A : Option Addr} {l : List α} (hf : ∀ a, (f a).length = n) (hn : 0 < n) (h : Lies n f w A l) : SrcOf w A l.length n (l.flatMap f) := by
  refine ⟨?_, ?_, ?_⟩
  · rw [List.length_flatMap]
    clear h
    induction l with
    | nil => simp
    | cons a l ih => rw [List.map_cons, List.sum_cons, ih, hf, List.length_cons, Nat.add_mul]; omega
  · intro hA
    rcases h with rfl | ⟨b, off, hb, -⟩
    · rfl
    · rw [hA] at hb; cases hb
  · intro ad hA j u hj
    rcases h with rfl | ⟨b, off, hb, hlt, hc⟩
    · simp at hj
    · rw [hA] at hb
      obtain rfl := Option.some.inj hb
      have hd : j = j / n * n + j % n := by rw [Nat.div_add_mod' j n]
      have hm : j % n < n := Nat.mod_lt _ hn
      have hi : j / n < l.length := by
        rcases Nat.lt_or_ge (j / n) l.length with h | h
        · exact h
        · exfalso
          have hl : (l.flatMap f).length ≤ j := by
            have : (l.flatMap f).length = l.length * n := by
              rw [List.length_flatMap]
              clear hj hc h
              induction l with
              | nil => simp
              | cons a l ih => rw [List.map_cons, List.sum_cons, ih, hf, List.length_cons, Nat.add_mul]; omega
            rw [this]
            have := Nat.mul_le_mul_right n h
            omega
          rw [List.getElem?_eq_none hl] at hj
          cases hj
      rw [hd, flat_get hf l _ _ hi hm] at hj
      have := hc _ hi _ _ hj
      rw [Nat.add_assoc, ← hd] at this
      by_cases hj0 : j = 0
      · subst hj0; simpa [Addr.add] using this
      · simpa [Addr.add, hj0] using this
structure GrpP where
  l : List ByteArray
  A : Option Addr
  c : Nat
abbrev gpC (x : GrpP) : List Value := [.slice x.A x.l.length x.c]
structure GrpsAt (w : World) (A : Option Addr) (l : List GrpP) : Prop where
  row : Lies 1 gpC w A l
  sub : ∀ x ∈ l, Lies 1 cellT w x.A x.l
  len : l.length ≤ 1000000
theorem GrpsAt.kb {w w' : World} {A : Option Addr} {l : List GrpP} (h : GrpsAt w A l) (hb : KB w.heap.size w w') : GrpsAt w' A l := ⟨h.row.kb hb, fun x hx => (h.sub x hx).kb hb, h.len⟩
theorem grp_at {w : World} {A : Option Addr} {l : List GrpP} {k : Nat} (h : GrpsAt w A l) (hk : k < l.length) : ∃ b off, A = some ⟨b, off, none⟩ ∧ Lies 1 cellT w l[k].A l[k].l ∧ b < w.heap.size ∧ w.cell? ⟨b, off + k * 1, none⟩ = some (.slice l[k].A l[k].l.length l[k].c) := by
  obtain ⟨b, off, hA, hl, h2⟩ := h.row.at_ hk
  exact ⟨b, off, hA, h.sub _ (List.getElem_mem hk), hl, h2 0 _ rfl⟩
theorem EKwants : EK Tryz.prog 77 89 3 56 := .mk' (.agg #[.int .i64 0, .slice none 0 0, .slice none 0 0]) Tryz.underlying77 (by kernel_rfl) rfl (by omega)
theorem wt_one (x : WantP) : ∀ u ∈ wtC x, u.oneCell' = true := by
  intro u hu
  simp only [wtC, List.mem_cons, List.not_mem_nil, or_false] at hu
  rcases hu with rfl | rfl | rfl <;> rfl
def GrewK (T : TypeId) (size : Nat) (w : World) (e : Ending) (w' : World) : Prop := ∃ v, e = .returned v ∧ w'.ownsRow w.heap.size T size v 0 [] ∧ KB w.heap.size w w'
def CatK {α : Type} (T : TypeId) (n : Nat) (f : α → List Value) (w : World) (l : List α) (e : Ending) (w' : World) : Prop := ∃ v, e = .returned v ∧ OwnL T n f w' w.heap.size v l ∧ KB w.heap.size w w'
set_option maxRecDepth 100000 in
set_option maxHeartbeats 2000000 in
theorem wgrow_any (n : Nat) (hn : n ≤ 1000000) (w : World) : Calls Tryz.prog 107 #[.slice none 0 0, .int .i64 (n : Int)] w (GrewK 89 3 w) := by
  by_cases h0 : n = 0
  · subst h0
    go_enter Tryz.func107, Tryz.ntmps107
    go_wp2_with fail
    go_ret
    exact ⟨_, rfl, World.ownsRow_nil _ _ _ _, kb_refl _⟩
  · have h1 : (0 : Int) < (n : Int) := by omega
    have h2 : (0 : Int) ≤ (n : Int) := by omega
    obtain ⟨i, z, hi, hz, hs, hb, hzs⟩ := (EKwants).info
    have HE := hid (run_append_nil_zeros (P := Tryz.prog) w 77 3 77 89 i z .i64 .i64 Tryz.underlying77 Tryz.underlying3 hi hz n (by omega) (by omega) (by omega) (by rw [hb]; omega))
    have HG := hid (grownCap_ge w n 0 89)
    have HL := hid (grownCap_le_maxLen w n 0 89 (by unfold maxLen; omega))
    generalize grownCap w n 0 89 = cp at *
    have c0 : (0 : Int) ≤ (cp : Int) := by omega
    clear hi hz hb
    generalize z.cells = zc at *
    go_enter Tryz.func107, Tryz.ntmps107
    go_wp2_with (at_builtin; refine Go.Lib.wpList_append_run _ rfl (.tmp 20) (.tmp 21) _ _ rfl _ _ rfl rfl _ _ HE.out ?_)
    go_ret
    refine ⟨_, rfl, ?_, kb_allocB (kb_drewJ (kb_refl _)) (Nat.le_refl _) _⟩
    exact World.ownsRow_made w.drew _ cp (Nat.le_refl _) HL.out (by rw [Array.size_append, size_zeroCells, size_zeroCells, hzs, ← Nat.add_mul]; congr 1; have := HG.out; omega)
set_option maxRecDepth 100000 in
set_option maxHeartbeats 4000000 in
theorem wcat_any (A : Option Addr) (c : Nat) (l : List NeedP) (w : World) (hA : NeedsAt w A l) (hS : (l.flatMap (·.l)).length ≤ 1000000) : Calls Tryz.prog 78 #[.slice A l.length c] w (CatK 89 3 wtC w (l.flatMap (·.l))) := by
  have HA := hid hA
  have hlen := hA.len
  have HT0 := hid (show 0 + ((l.drop 0).flatMap (·.l)).length = (l.flatMap (·.l)).length from Nat.zero_add _)
  have HR0 := hid (show l.flatMap (·.l) = [] ++ (l.drop 0).flatMap (·.l) from rfl)
  clear hA
  generalize l.flatMap (·.l) = res at *
  obtain ⟨tot, htot⟩ : ∃ t, res.length = t := ⟨_, rfl⟩
  rw [htot] at hS HT0
  have HTOT := hid htot
  obtain ⟨m, hm⟩ : ∃ m, l.length = m := ⟨_, rfl⟩
  rw [hm] at hlen ⊢
  have HM := hid hm
  clear hm htot
  go_enter Tryz.func78, Tryz.ntmps78
  go_upto_block 0 with fail
  go_wp2_with fail
  go_loopw [11, 3] (fun iv sv wr => ∃ k s : Nat, iv = .int .i64 (k : Int) ∧ sv = .int .i64 (s : Int) ∧ k ≤ m ∧ Hid (s + ((l.drop k).flatMap (·.l)).length = tot) ∧ wr = w) (fun iv _ _ => m - (intOf iv).toNat)
  case atStart => exact ⟨0, 0, rfl, rfl, Nat.zero_le _, HT0, rfl⟩
  case round =>
    clear HT0
    rename World => wr
    obtain ⟨k, s, rfl, rfl, hk, HT, rfl⟩ := hrel
    have k0 : (0 : Int) ≤ (k : Int) := by omega
    have s0 : (0 : Int) ≤ (s : Int) := by omega
    by_cases hlt : k < m
    · have h1 : k < l.length := by rw [HM.out]; exact hlt
      have k1 : (k : Int) < (m : Int) := by omega
      obtain ⟨b, off, hAe, -, hbl, c0⟩ := need_at HA.out h1
      subst hAe
      have HT2 := hid (show (s + l[k].l.length) + ((l.drop (k + 1)).flatMap (·.l)).length = tot from by
        have := HT.out
        rw [List.drop_eq_getElem_cons h1, List.flatMap_cons, List.length_append] at this
        omega)
      rw [Nat.mul_one] at c0
      clear HT
      generalize l[k] = y at *
      generalize y.l.length = ny at *
      have s1 : (s : Int) + (ny : Int) ≤ 1000000 := by have := HT2.out; omega
      have n0 : (0 : Int) ≤ (ny : Int) := by omega
      go_wp2_with fail
      first
        | (go_roundw
           case rel => exact ⟨k + 1, s + ny, by go_num, by go_num, by omega, HT2, by first | trivial | rfl⟩
           case measure => simp [intOf] <;> omega)
        | (refine ⟨⟨k + 1, s + ny, by go_num, by go_num, by omega, HT2, by first | trivial | rfl⟩, ?_⟩
           simp [intOf] <;> omega)
    · obtain rfl : k = m := by omega
      have k1 : ¬ (k : Int) < (k : Int) := by omega
      obtain rfl : s = tot := by
        have := HT.out
        rw [List.drop_eq_nil_of_le (by rw [HM.out]; exact Nat.le_refl _)] at this
        simpa using this
      have HGR := hid (wgrow_any s hS wr)
      clear HT
      go_wp2_with fail
      refine HGR.out.mono ?_
      rintro _ u1 ⟨v1, rfl, hown, hb⟩
      have HK1 := hid hb
      have HO1 := hid (show OwnL 89 3 wtC u1 wr.heap.size v1 [] from hown)
      clear hb hown
      go_upto_block 2 with fail
      go_wp2_with fail
      go_loopw [27, 6] (fun iv ov wx => ∃ (i : Nat) (v : Value) (o : List _), iv = .int .i64 (i : Int) ∧ ov = v ∧ i ≤ k ∧ Hid (res = o ++ (l.drop i).flatMap (·.l)) ∧ Hid (OwnL 89 3 wtC wx wr.heap.size v o) ∧ Hid (KB wr.heap.size wr wx)) (fun iv _ _ => k - (intOf iv).toNat)
      case atStart => exact ⟨0, _, [], rfl, rfl, Nat.zero_le _, HR0, HO1, HK1⟩
      case round =>
        clear HR0 HO1 HK1
        rename World => wx
        obtain ⟨i, v, o, rfl, hv, hi, HR, HO, HK⟩ := hrel
        have hv := hv.symm
        subst hv
        have i0 : (0 : Int) ≤ (i : Int) := by omega
        by_cases hlt : i < k
        · have h1 : i < l.length := by rw [HM.out]; exact hlt
          have i1 : (i : Int) < (k : Int) := by omega
          obtain ⟨b, off, hAe, hx, hbl, c0⟩ := need_at (HA.out.kb HK.out) h1
          subst hAe
          have HST := hid (show res = (o ++ l[i].l) ++ (l.drop (i + 1)).flatMap (·.l) from by rw [HR.out, List.drop_eq_getElem_cons h1, List.flatMap_cons, List.append_assoc])
          have hbd : o.length + l[i].l.length ≤ 1000000 := by
            have := HTOT.out
            rw [HST.out, List.length_append, List.length_append] at this
            omega
          rw [Nat.mul_one] at c0
          have HSRC := hid (src_lies (f := wtC) (n := 3) (fun _ => rfl) (by omega) hx.row)
          clear HR hx
          generalize l[i] = y at *
          obtain ⟨yl, yA, yc⟩ := y
          dsimp only at HST hbd c0 HSRC
          have HRW := hid (show wx.ownsRow wr.heap.size 89 3 v o.length (o.flatMap wtC) from HO.out)
          have hsz : wr.heap.size ≤ wx.heap.size := HK.out.size
          have HNY := hid (show yl.length = yl.length from rfl)
          go_wp2_with (at_builtin; refine wpList_appx EKwants rfl (.tmp 31) (.tmp 32) rfl rfl HRW.out rfl HSRC.out (flat_oneQ wt_one yl) (by unfold maxLen; omega) (by omega) hsz ?_; intro v' w3 h2 h3 h4; have HO3 := hid (show OwnL 89 3 wtC w3 wr.heap.size v' (o ++ yl) from by unfold OwnL; rw [List.length_append, List.flatMap_append]; exact h2); have HK3 := hid (show KB wr.heap.size wr w3 from Go.RowKit.Below.trans HK.out h3.kb))
          refine ⟨⟨i + 1, _, o ++ yl, by go_num, rfl, by omega, HST, HO3, HK3⟩, ?_⟩
          simp [intOf] <;> omega
        · obtain rfl : i = k := by omega
          have i1 : ¬ (i : Int) < (i : Int) := by omega
          have HRS := hid (show res = o from by rw [HR.out, List.drop_eq_nil_of_le (by rw [HM.out]; exact Nat.le_refl _)]; simp)
          go_wp2_with fail
          try rw [Exit.noGoto_ret]
          try (first | go_ret | go_ret2)
          exact ⟨_, rfl, by rw [HRS.out]; exact HO.out, HK.out⟩
set_option maxRecDepth 100000 in
set_option maxHeartbeats 2000000 in
theorem sgrow_any (n : Nat) (hn : n ≤ 1000000) (w : World) : Calls Tryz.prog 73 #[.slice none 0 0, .int .i64 (n : Int)] w (GrewK 9 1 w) := by
  by_cases h0 : n = 0
  · subst h0
    go_enter Tryz.func73, Tryz.ntmps73
    go_wp2_with fail
    go_ret
    exact ⟨_, rfl, World.ownsRow_nil _ _ _ _, kb_refl _⟩
  · have h1 : (0 : Int) < (n : Int) := by omega
    have h2 : (0 : Int) ≤ (n : Int) := by omega
    obtain ⟨i, z, hi, hz, hs, hb, hzs⟩ := (EKstrs).info
    have HE := hid (run_append_nil_zeros (P := Tryz.prog) w 31 3 31 9 i z .i64 .i64 Tryz.underlying31 Tryz.underlying3 hi hz n (by omega) (by omega) (by omega) (by rw [hb]; omega))
    have HG := hid (grownCap_ge w n 0 9)
    have HL := hid (grownCap_le_maxLen w n 0 9 (by unfold maxLen; omega))
    generalize grownCap w n 0 9 = cp at *
    have c0 : (0 : Int) ≤ (cp : Int) := by omega
    clear hi hz hb
    generalize z.cells = zc at *
    go_enter Tryz.func73, Tryz.ntmps73
    go_wp2_with (at_builtin; refine Go.Lib.wpList_append_run _ rfl (.tmp 20) (.tmp 21) _ _ rfl _ _ rfl rfl _ _ HE.out ?_)
    go_ret
    refine ⟨_, rfl, ?_, kb_allocB (kb_drewJ (kb_refl _)) (Nat.le_refl _) _⟩
    exact World.ownsRow_made w.drew _ cp (Nat.le_refl _) HL.out (by rw [Array.size_append, size_zeroCells, size_zeroCells, hzs, ← Nat.add_mul]; congr 1; have := HG.out; omega)
set_option maxRecDepth 100000 in
set_option maxHeartbeats 4000000 in
theorem scat_any (A : Option Addr) (c : Nat) (l : List GrpP) (w : World) (hA : GrpsAt w A l) (hS : (l.flatMap (·.l)).length ≤ 1000000) : Calls Tryz.prog 40 #[.slice A l.length c] w (CatK 9 1 cellT w (l.flatMap (·.l))) := by
  have HA := hid hA
  have hlen := hA.len
  have HT0 := hid (show 0 + ((l.drop 0).flatMap (·.l)).length = (l.flatMap (·.l)).length from Nat.zero_add _)
  have HR0 := hid (show l.flatMap (·.l) = [] ++ (l.drop 0).flatMap (·.l) from rfl)
  clear hA
  generalize l.flatMap (·.l) = res at *
  obtain ⟨tot, htot⟩ : ∃ t, res.length = t := ⟨_, rfl⟩
  rw [htot] at hS HT0
  have HTOT := hid htot
  obtain ⟨m, hm⟩ : ∃ m, l.length = m := ⟨_, rfl⟩
  rw [hm] at hlen ⊢
  have HM := hid hm
  clear hm htot
  go_enter Tryz.func40, Tryz.ntmps40
  go_upto_block 0 with fail
  go_wp2_with fail
  go_loopw [11, 3] (fun iv sv wr => ∃ k s : Nat, iv = .int .i64 (k : Int) ∧ sv = .int .i64 (s : Int) ∧ k ≤ m ∧ Hid (s + ((l.drop k).flatMap (·.l)).length = tot) ∧ wr = w) (fun iv _ _ => m - (intOf iv).toNat)
  case atStart => exact ⟨0, 0, rfl, rfl, Nat.zero_le _, HT0, rfl⟩
  case round =>
    clear HT0
    rename World => wr
    obtain ⟨k, s, rfl, rfl, hk, HT, rfl⟩ := hrel
    have k0 : (0 : Int) ≤ (k : Int) := by omega
    have s0 : (0 : Int) ≤ (s : Int) := by omega
    by_cases hlt : k < m
    · have h1 : k < l.length := by rw [HM.out]; exact hlt
      have k1 : (k : Int) < (m : Int) := by omega
      obtain ⟨b, off, hAe, -, hbl, c0⟩ := grp_at HA.out h1
      subst hAe
      have HT2 := hid (show (s + l[k].l.length) + ((l.drop (k + 1)).flatMap (·.l)).length = tot from by
        have := HT.out
        rw [List.drop_eq_getElem_cons h1, List.flatMap_cons, List.length_append] at this
        omega)
      rw [Nat.mul_one] at c0
      clear HT
      generalize l[k] = y at *
      generalize y.l.length = ny at *
      have s1 : (s : Int) + (ny : Int) ≤ 1000000 := by have := HT2.out; omega
      have n0 : (0 : Int) ≤ (ny : Int) := by omega
      go_wp2_with fail
      first
        | (go_roundw
           case rel => exact ⟨k + 1, s + ny, by go_num, by go_num, by omega, HT2, by first | trivial | rfl⟩
           case measure => simp [intOf] <;> omega)
        | (refine ⟨⟨k + 1, s + ny, by go_num, by go_num, by omega, HT2, by first | trivial | rfl⟩, ?_⟩
           simp [intOf] <;> omega)
    · obtain rfl : k = m := by omega
      have k1 : ¬ (k : Int) < (k : Int) := by omega
      obtain rfl : s = tot := by
        have := HT.out
        rw [List.drop_eq_nil_of_le (by rw [HM.out]; exact Nat.le_refl _)] at this
        simpa using this
      have HGR := hid (sgrow_any s hS wr)
      clear HT
      go_wp2_with fail
      refine HGR.out.mono ?_
      rintro _ u1 ⟨v1, rfl, hown, hb⟩
      have HK1 := hid hb
      have HO1 := hid (show OwnL 9 1 cellT u1 wr.heap.size v1 [] from hown)
      clear hb hown
      go_upto_block 2 with fail
      go_wp2_with fail
      go_loopw [27, 6] (fun iv ov wx => ∃ (i : Nat) (v : Value) (o : List _), iv = .int .i64 (i : Int) ∧ ov = v ∧ i ≤ k ∧ Hid (res = o ++ (l.drop i).flatMap (·.l)) ∧ Hid (OwnL 9 1 cellT wx wr.heap.size v o) ∧ Hid (KB wr.heap.size wr wx)) (fun iv _ _ => k - (intOf iv).toNat)
      case atStart => exact ⟨0, _, [], rfl, rfl, Nat.zero_le _, HR0, HO1, HK1⟩
      case round =>
        clear HR0 HO1 HK1
        rename World => wx
        obtain ⟨i, v, o, rfl, hv, hi, HR, HO, HK⟩ := hrel
        have hv := hv.symm
        subst hv
        have i0 : (0 : Int) ≤ (i : Int) := by omega
        by_cases hlt : i < k
        · have h1 : i < l.length := by rw [HM.out]; exact hlt
          have i1 : (i : Int) < (k : Int) := by omega
          obtain ⟨b, off, hAe, hx, hbl, c0⟩ := grp_at (HA.out.kb HK.out) h1
          subst hAe
          have HST := hid (show res = (o ++ l[i].l) ++ (l.drop (i + 1)).flatMap (·.l) from by rw [HR.out, List.drop_eq_getElem_cons h1, List.flatMap_cons, List.append_assoc])
          have hbd : o.length + l[i].l.length ≤ 1000000 := by
            have := HTOT.out
            rw [HST.out, List.length_append, List.length_append] at this
            omega
          rw [Nat.mul_one] at c0
          have HSRC := hid (src_lies (f := cellT) (n := 1) (fun _ => rfl) (by omega) hx)
          clear HR hx
          generalize l[i] = y at *
          obtain ⟨yl, yA, yc⟩ := y
          dsimp only at HST hbd c0 HSRC
          have HRW := hid (show wx.ownsRow wr.heap.size 9 1 v o.length (o.flatMap cellT) from HO.out)
          have hsz : wr.heap.size ≤ wx.heap.size := HK.out.size
          have HNY := hid (show yl.length = yl.length from rfl)
          go_wp2_with (at_builtin; refine wpList_appx EKstrs rfl (.tmp 31) (.tmp 32) rfl rfl HRW.out rfl HSRC.out (flat_oneQ cellT_one1G yl) (by unfold maxLen; omega) (by omega) hsz ?_; intro v' w3 h2 h3 h4; have HO3 := hid (show OwnL 9 1 cellT w3 wr.heap.size v' (o ++ yl) from by unfold OwnL; rw [List.length_append, List.flatMap_append]; exact h2); have HK3 := hid (show KB wr.heap.size wr w3 from Go.RowKit.Below.trans HK.out h3.kb))
          refine ⟨⟨i + 1, _, o ++ yl, by go_num, rfl, by omega, HST, HO3, HK3⟩, ?_⟩
          simp [intOf] <;> omega
        · obtain rfl : i = k := by omega
          have i1 : ¬ (i : Int) < (i : Int) := by omega
          have HRS := hid (show res = o from by rw [HR.out, List.drop_eq_nil_of_le (by rw [HM.out]; exact Nat.le_refl _)]; simp)
          go_wp2_with fail
          try rw [Exit.noGoto_ret]
          try (first | go_ret | go_ret2)
          exact ⟨_, rfl, by rw [HRS.out]; exact HO.out, HK.out⟩
end Go.Proofs.YtlmkglgjdmjnkaaGreatDoor
namespace Go.Proofs.YtlmkglgjdmjnkaaGreatDoor
open Go.RowKit Go.Lib
open Rw
set_option linter.unusedVariables false
set_option linter.unusedSimpArgs false
structure ArrV (B : Nat) (w : World) (g N : Nat) (f : Nat → Value) : Prop where
  lt : g < w.heap.size
  low : B ≤ g
  soft : Soft w g
  cell : ∀ j, j < N → w.cell? ⟨g, j, none⟩ = some (f j)
section
variable {B : Nat} {w w' : World} {g N : Nat} {f : Nat → Value}
theorem ArrV.kb (h : ArrV B w g N f) (hb : KB w.heap.size w w') : ArrV B w' g N f :=
  ⟨Nat.lt_of_lt_of_le h.lt hb.size, h.low, fun j => (Go.RowKit.Below.frozen hb (p := ⟨g, j, none⟩) h.lt).trans (h.soft j), fun j hj => (Go.RowKit.Below.cell hb (p := ⟨g, j, none⟩) h.lt).trans (h.cell j hj)⟩
theorem ArrV.other {k j : Nat} (h : ArrV B w g N f) (hk : g ≠ k) (v : Value) : ArrV B (w.setCell ⟨k, j, none⟩ v) g N f :=
  ⟨by rw [World.size_setCell]; exact h.lt, h.low, h.soft.put v, fun q hq => (World.cell?_setCell_other _ _ _ _ (by simp only [ne_eq, Addr.mk.injEq, not_and]; intro e; exact absurd e.symm hk)).trans (h.cell q hq)⟩
theorem ArrV.put {k : Nat} (h : ArrV B w g N f) (hk : k < N) (v : Value) : ArrV B (w.setCell ⟨g, k, none⟩ v) g N (fun j => if j = k then v else f j) :=
  ⟨by rw [World.size_setCell]; exact h.lt, h.low, h.soft.put _, fun q hq => by
    by_cases e : q = k
    · subst e
      simp only [if_true]
      exact World.cell?_setCell_same _ _ _ (h.cell q hq)
    · simp only [if_neg e]
      exact (World.cell?_setCell_other _ _ _ _ (by simp only [ne_eq, Addr.mk.injEq, not_and]; intro _ e2; exact absurd e2.symm e)).trans (h.cell q hq)⟩
theorem ArrV.of_own {e : TypeId} {z : Value} (h : w.ownsRow B e 1 (.slice (some ⟨g, 0, none⟩) N N) N (madeCells #[z] (N * 1)).toList) : g < w.heap.size → B ≤ g → ArrV B w g N (fun _ => z) := fun hg hB =>
  ⟨hg, hB, fun j => World.ownsRow.frozenAt h j, fun j hj => by
    rw [h.cellAt j (by omega)]
    simp [madeCells, hj, Nat.mod_one]⟩
theorem ArrV.same {f' : Nat → Value} (h : ArrV B w g N f) (e : ∀ j, j < N → f j = f' j) : ArrV B w g N f' := ⟨h.lt, h.low, h.soft, fun j hj => by rw [← e j hj]; exact h.cell j hj⟩
theorem ArrV.base {B' : Nat} (h : ArrV B w g N f) (hB : B' ≤ B) : ArrV B' w g N f := ⟨h.lt, Nat.le_trans hB h.low, h.soft, h.cell⟩
end
structure Mat (B : Nat) (w : World) (g n m : Nat) (h : Nat → Nat) (F : Nat → Nat → Bool) : Prop where
  row : ArrV B w g n (fun j => if j < m then .slice (some ⟨h j, 0, none⟩) n n else .slice none 0 0)
  sub : ∀ k, k < m → ArrV B w (h k) n (fun j => .bool (F k j))
  ne : ∀ k, k < m → h k ≠ g
  inj : ∀ i j, i < m → j < m → h i = h j → i = j
section
variable {B : Nat} {w w' : World} {g n m : Nat} {h : Nat → Nat} {F : Nat → Nat → Bool}
theorem Mat.kb (hM : Mat B w g n m h F) (hb : KB w.heap.size w w') : Mat B w' g n m h F := ⟨hM.row.kb hb, fun k hk => (hM.sub k hk).kb hb, hM.ne, hM.inj⟩
theorem Mat.base {B' : Nat} (hM : Mat B w g n m h F) (hB : B' ≤ B) : Mat B' w g n m h F := ⟨hM.row.base hB, fun k hk => (hM.sub k hk).base hB, hM.ne, hM.inj⟩
theorem Mat.other {k j : Nat} (hM : Mat B w g n m h F) (h1 : g ≠ k) (h2 : ∀ i, i < m → h i ≠ k) (v : Value) : Mat B (w.setCell ⟨k, j, none⟩ v) g n m h F := ⟨hM.row.other h1 v, fun i hi => (hM.sub i hi).other (h2 i hi) v, hM.ne, hM.inj⟩
theorem Mat.add {x : Nat} {f : Nat → Bool} (hM : Mat B w g n m h F) (hm : m < n) (hx : ArrV B w x n (fun j => .bool (f j))) (hg : x ≠ g) (hn : ∀ k, k < m → h k ≠ x) :
    Mat B (w.setCell ⟨g, m, none⟩ (.slice (some ⟨x, 0, none⟩) n n)) g n (m + 1) (fun j => if j = m then x else h j) (fun k j => if k = m then f j else F k j) := by
  refine ⟨(hM.row.put hm _).same fun j hj => ?_, fun k hk => ?_, fun k hk => ?_, fun i j hi hj e => ?_⟩
  · by_cases e : j = m
    · subst e
      simp
    · rw [if_neg e]
      by_cases e2 : j < m
      · rw [if_pos e2, if_pos (by omega), if_neg e]
      · rw [if_neg e2, if_neg (by omega)]
  · by_cases e : k = m
    · subst e
      simp only [if_true]
      exact hx.other hg _
    · simp only [if_neg e]
      exact (hM.sub k (by omega)).other (hM.ne k (by omega)) _
  · by_cases e : k = m
    · rw [if_pos e]; exact hg
    · rw [if_neg e]; exact hM.ne k (by omega)
  · by_cases e1 : i = m <;> by_cases e2 : j = m
    · omega
    · rw [if_pos e1, if_neg e2] at e; exact absurd e.symm (hn j (by omega))
    · rw [if_neg e1, if_pos e2] at e; exact absurd e (hn i (by omega))
    · rw [if_neg e1, if_neg e2] at e; exact hM.inj i j (by omega) (by omega) e
theorem Mat.put {a b : Nat} (hM : Mat B w g n m h F) (ha : a < m) (hb : b < n) (v : Bool) : Mat B (w.setCell ⟨h a, b, none⟩ (.bool v)) g n m h (fun k j => if k = a ∧ j = b then v else F k j) := by
  refine ⟨hM.row.other (fun e => hM.ne a ha e.symm) _, fun k hk => ?_, hM.ne, hM.inj⟩
  by_cases e : k = a
  · subst e
    refine ((hM.sub k hk).put hb (.bool v)).same fun j _ => ?_
    by_cases e2 : j = b
    · simp [e2]
    · simp [e2]
  · refine ((hM.sub k hk).other (fun e2 => e (hM.inj _ _ hk ha e2)) _).same fun j _ => ?_
    simp [e]
theorem Mat.head (hM : Mat B w g n n h F) {a : Nat} (ha : a < n) : w.cell? ⟨g, a, none⟩ = some (.slice (some ⟨h a, 0, none⟩) n n) := by
  have := hM.row.cell a ha
  rwa [if_pos ha] at this
end
theorem Mat.same {B : Nat} {w : World} {g n m : Nat} {h : Nat → Nat} {F F' : Nat → Nat → Bool} (hM : Mat B w g n m h F) (e : ∀ k j, k < m → j < n → F k j = F' k j) : Mat B w g n m h F' := ⟨hM.row, fun k hk => (hM.sub k hk).same fun j hj => by rw [e k j hk hj], hM.ne, hM.inj⟩
theorem lies_put {α : Type} {n : Nat} {f : α → List Value} {w : World} {A : Option Addr} {l : List α} {k j : Nat} (h : Lies n f w A l) (hk : ∀ ad, A = some ad → ad.block ≠ k) (v : Value) : Lies n f (w.setCell ⟨k, j, none⟩ v) A l := by
  rcases h with h | ⟨b, off, hA, hb, hc⟩
  · exact .inl h
  · refine .inr ⟨b, off, hA, by rw [World.size_setCell]; exact hb, fun i hi q u hq => ?_⟩
    refine (World.cell?_setCell_other _ _ _ _ ?_).trans (hc i hi q u hq)
    simp only [ne_eq, Addr.mk.injEq, not_and]
    intro e
    exact absurd e.symm (hk _ hA)
theorem flat_le {α β : Type} {K : Nat} (f : α → List β) : ∀ l : List α, (∀ x ∈ l, (f x).length ≤ K) → (l.flatMap f).length ≤ l.length * K
  | [], _ => by simp
  | x :: l, h => by
    rw [List.flatMap_cons, List.length_append, List.length_cons, Nat.add_mul, Nat.one_mul]
    have h1 := h x (List.mem_cons_self ..)
    have h2 := flat_le f l (fun y hy => h y (List.mem_cons_of_mem _ hy))
    omega
theorem findP_in {α : Type} (q : α → Bool) : ∀ (i : Nat) (l : List α), findP q i l = -1 ∨ ((i : Int) ≤ findP q i l ∧ findP q i l < ((i + l.length : Nat) : Int))
  | _, [] => .inl rfl
  | i, x :: l => by
    rw [findP]
    split
    · exact .inr ⟨Int.le_refl _, by simp only [List.length_cons]; omega⟩
    · rcases findP_in q (i + 1) l with h | ⟨h1, h2⟩
      · exact .inl h
      · exact .inr ⟨by omega, by simp only [List.length_cons]; omega⟩
theorem bool_info : ∃ i : TypeInfo, Tryz.prog.info? 4 = some i ∧ i.zero = some (.bool false) ∧ i.size = 1 ∧ i.bytes = 1 := by
  have h : (Tryz.prog.info? 4).map (fun i => (i.zero, i.size, i.bytes)) = some (some (.bool false), 1, 1) := by kernel_rfl
  cases hi : Tryz.prog.info? 4 with
  | none => rw [hi] at h; cases h
  | some i =>
    rw [hi] at h
    simp only [Option.map_some, Option.some.injEq, Prod.mk.injEq] at h
    exact ⟨i, rfl, h.1, h.2.1, h.2.2⟩
theorem bools_info : ∃ i : TypeInfo, Tryz.prog.info? 112 = some i ∧ i.zero = some (.slice none 0 0) ∧ i.size = 1 ∧ i.bytes = 24 := by
  have h : (Tryz.prog.info? 112).map (fun i => (i.zero, i.size, i.bytes)) = some (some (.slice none 0 0), 1, 24) := by kernel_rfl
  cases hi : Tryz.prog.info? 112 with
  | none => rw [hi] at h; cases h
  | some i =>
    rw [hi] at h
    simp only [Option.map_some, Option.some.injEq, Prod.mk.injEq] at h
    exact ⟨i, rfl, h.1, h.2.1, h.2.2⟩
end Go.Proofs.YtlmkglgjdmjnkaaGreatDoor
