import Derived.Test.YtplmlahpmnjneaaGreatDoorNBc
import Derived.Lib.OthersKept
import Derived.Lib.FrozenHead
import Derived.Lib.UnsafeStr
import Derived.Shelf.RegionOpenPlain
import Derived.Lib.ItoaNum
import Derived.Lib.Split
import Derived.Lib.IndexMore
import Derived.Test.YtplmlahpmnjneaaGreatDoorNPl
import Derived.Test.YtplmlahpmnjneaaGreatDoorShelf
import Derived.Test.YtplmlahpmnjneaaGreatDoorNSa
import Derived.Lib.AppendIntMem
import Derived.Laws.IdiomStrings
import Derived.Handy
import Derived.Test.YtplmlahpmnjneaaGreatDoorNSb
namespace Go.Proofs.YtplmlahpmnjneaaGreatDoor
open Go.RowKit Go.Lib
set_option linter.unusedVariables false
set_option linter.unusedSimpArgs false
section
variable {P : Program} {w : World} {base n : Nat} {v : Value} {xs : List Value}
theorem appS_drawn {t u ty e : TypeId} {i : TypeInfo} (ht : P.underlying t = some (.slice e)) (hu : P.underlying u = some .string) (hi : P.info? e = some i) (hz : i.zero = some (.int .u8 0)) (hsize : i.size = 1) (hby : i.bytes = 1)
    (hown : w.ownsRowF base e 1 v n xs) {s : ByteArray} (hb : n + s.size ≤ 140737488355328) {v' : Value} {w' : World} (hr : (Builtin.append_ #[t, u] ty #[v, .string s]).run P w = .ok v' w') : w.drawn ≤ w'.drawn := by
  rcases hown.2 with ⟨rfl, rfl⟩ | ⟨g, cap, cur, fz, rfl, hbg, hg, hfz, hnc, hcm, hcs, htake⟩
  · rcases Nat.eq_zero_or_pos s.size with h0 | h0
    · simp [Builtin.append_, run_underlying ht, run_underlying hu, sizeOf, typeInfo, hi, Builtin.lenOf, Builtin.firstCells, h0] at hr
      rw [← hr.2]; exact Nat.le_refl _
    · rw [run_append_nil_string (P := P) w t u ty e i _ ht hu hi hz s h0 (by omega) (by rw [hby]; omega)] at hr
      injection hr with _ hr
      rw [← hr]; exact Nat.le_succ _
  · by_cases hroom : n + s.size ≤ cap
    · rw [Lib.run_append_room_stringF (P := P) w t u ty e i ht hu hi hsize g n cap cur fz hg (by simpa using hfz) s hroom (by omega)] at hr
      injection hr with _ hr
      rw [← hr]; exact Nat.le_refl _
    · rw [Lib.run_append_grow_string (P := P) w t u ty e i (.int .u8 0) ht hu hi hz ⟨g, 0, none⟩ n cap xs (by rw [hsize]; simpa using hown.1) (hown.cells (g := g) rfl) s (by omega) (by omega) (by rw [hby]; exact growslice_fits (by omega) (by omega))] at hr
      injection hr with _ hr
      rw [← hr]; exact Nat.le_succ _
theorem wpList_appS {t u e : TypeId} {i : TypeInfo} (ht : P.underlying t = some (.slice e)) (hu : P.underlying u = some .string) (hi : P.info? e = some i) (hz : i.zero = some (.int .u8 0)) (hsize : i.size = 1) (hby : i.bytes = 1)
    {ops : Array Oper} {rest : List Oper} {o : Oper} {a : Act} {Q : Exit → Act → World → Prop} (hgd : o.guard = none) (sl x : Operand) (ho : o.op = .call { callee := .builtin .append, args := #[sl, x], argTypes := #[t, u] })
    (hs : a.eval sl = v) (hown : w.ownsRowF base e 1 v n xs) (s : ByteArray) (hx : a.eval x = .string s) (hb : n + s.size ≤ 140737488355328) (hbase : base ≤ w.heap.size)
    (h : ∀ v' w', w'.ownsRowF base e 1 v' (n + s.size) (xs ++ Lib.strCells s) → w.grownBy w' v.ownBlock → w.drawn ≤ w'.drawn → wpList P ops Q rest (a.put o.dst v') w') : wpList P ops Q (o :: rest) a w := by
  obtain ⟨v', w', hrun, h1, h2, -⟩ := Lib.run_append_own_stringF (P := P) w base t u o.type e i ht hu hi hz hsize hby v n xs hown s (by unfold maxLen; omega) hb hbase
  have h3 := appS_drawn ht hu hi hz hsize hby hown hb hrun
  refine wpList_plain hgd fun K hK => ?_
  unfold Oper.wp execOp
  simp only [ho, resolve, invoke, builtin, Sem.run_bind, Sem.run_pure, Result.andThen_ok, List.map_toArray, List.map_cons, List.map_nil, hs, hx, hrun]
  exact hK _ _ (h v' w' h1 h2 h3)
end
def PageAt (b : Nat) (l : List UInt8) (w : World) : Prop := Lib.IsBuilderF 65 5 b b (Lib.byteCells l) w
structure Wrote (b : Nat) (w w' : World) : Prop where
  below : Below b w w'
  kept : Lib.OthersKept 5 (some b) w w'
theorem Wrote.refl (b : Nat) (w : World) : Wrote b w w := ⟨Below.refl _ _, Lib.OthersKept.refl _ _ _⟩
theorem Wrote.trans {b : Nat} {w w1 w2 : World} (h : Wrote b w w1) (k : Wrote b w1 w2) : Wrote b w w2 := ⟨h.below.trans k.below, h.kept.trans k.kept⟩
theorem pg_lies : liesAt Tryz.prog Tryz.prog.depth 65 (2 / Tryz.prog.cellsOf 65) 0 63 1 = true := by kernel_rfl
theorem pg_size : (Tryz.prog.info? 63).map (·.size) = some 2 := by kernel_rfl
theorem pg_byte : (Tryz.prog.info? 5).map (fun i => (i.zero, i.size, i.bytes)) = some (some (.int .u8 0), 1, 1) := by kernel_rfl
theorem pg_cells8 : Tryz.prog.cellsOf 5 = 1 := by kernel_rfl
set_option maxHeartbeats 1000000 in
set_option maxRecDepth 100000 in
theorem pcheck_fresh (b : Nat) (w : World) (h0 : w.cell? ⟨b, 0, none⟩ = some (.pointer none)) (hsh : w.shape? b = some (65, 2)) (hfz : w.frozen? ⟨b, 0, none⟩ = false) :
    Calls Tryz.prog 82 #[.pointer (some ⟨b, 0, none⟩)] w fun e w' => e = .returned (.tuple #[]) ∧ w' = w.setCell ⟨b, 0, none⟩ (.pointer (some ⟨b, 0, none⟩)) := by
  obtain ⟨j, hj, hjs⟩ := Option.map_eq_some_iff.1 pg_size
  go_enter Tryz.func82, Tryz.ntmps82
  go_wp2
  rw [Lib.run_to_unsafe w ⟨b, 0, none⟩ Tryz.underlying60 Tryz.underlying151 hj (by rw [hjs]; decide) hsh (Nat.zero_lt_succ 1)]
  simp only [Result.andThen]
  rw [Oper.upon_value]
  go_wp2
  rw [run_callFunc_extern Tryz.func134 (by kernel_rfl) (by kernel_rfl) (by kernel_rfl) (e := Extern.AbiNoEscape.same) (by kernel_rfl)]
  rw [Lib.run_noEscape]
  simp only [Result.andThen]
  rw [Oper.upon_value]
  go_wp2
  rw [Lib.run_from_unsafe w ⟨b, 0, none⟩ Tryz.underlying151 Tryz.underlying60 hj hsh pg_lies]
  simp only [Result.andThen]
  rw [Oper.upon_value]
  go_wp2
  go_end0
  exact ⟨rfl, rfl⟩
set_option maxHeartbeats 1000000 in
set_option maxRecDepth 100000 in
theorem pcheck_used (b : Nat) (w : World) (h0 : w.cell? ⟨b, 0, none⟩ = some (.pointer (some ⟨b, 0, none⟩))) :
    Calls Tryz.prog 82 #[.pointer (some ⟨b, 0, none⟩)] w fun e w' => e = .returned (.tuple #[]) ∧ w' = w := by
  obtain ⟨j, hj, _⟩ := Option.map_eq_some_iff.1 pg_size
  go_enter Tryz.func82, Tryz.ntmps82
  go_wp2
  rw [Lib.run_neq_ptr_same w _ Tryz.underlying60 hj]
  go_wp2
  go_end0
  exact ⟨rfl, rfl⟩
theorem pcheck_any (b : Nat) (bs : List Value) (w : World) (h : Lib.IsBuilderF 65 5 b b bs w) :
    Calls Tryz.prog 82 #[.pointer (some ⟨b, 0, none⟩)] w fun e w' => e = .returned (.tuple #[]) ∧ (Lib.BuilderAtF 65 5 b b (.pointer (some ⟨b, 0, none⟩)) bs w' ∧ Wrote b w w') := by
  rcases h with h | h
  · refine (pcheck_fresh b w h.cell0 h.shape h.frozen0).mono ?_
    rintro e w' ⟨rfl, rfl⟩
    exact ⟨rfl, h.used _, (Below.refl b w).setCell (p := ⟨b, 0, none⟩) (Nat.le_refl _) _, (Lib.OthersKept.refl _ _ w).setCell ⟨b, 0, none⟩ rfl _⟩
  · refine (pcheck_used b w h.cell0).mono ?_
    rintro e w' ⟨rfl, rfl⟩
    exact ⟨rfl, h, Wrote.refl b _⟩
set_option maxHeartbeats 2000000 in
set_option maxRecDepth 100000 in
theorem pwrite_any (b : Nat) (l : List UInt8) (s : ByteArray) (w : World) (h : PageAt b l w) (hlen : l.length + s.size ≤ 140737488355328) :
    Calls Tryz.prog 49 #[.pointer (some ⟨b, 0, none⟩), .string s] w fun e w' => e = .returned (.tuple #[.int .i64 s.size, .nilIface]) ∧ PageAt b (l ++ bts s) w' ∧ Wrote b w w' := by
  obtain ⟨i0, hi, hz0, hz1, hz2⟩ := info_parts pg_byte
  have hlb : (Lib.byteCells l).length = l.length := Lib.byteCells_length l
  go_enter Tryz.func49, Tryz.ntmps49
  go_wp2_with (go_at_call 82; refine (pcheck_any b _ _ h).mono ?_)
  rintro e w1 ⟨rfl, h1, hw1⟩
  obtain ⟨hB, v, hbk, hown, hne⟩ := h1
  have c0 : w1.cell? ⟨b, 0, none⟩ = some (.pointer (some ⟨b, 0, none⟩)) := by rw [Lib.cell_of_heap hbk]; rfl
  have c1 : w1.cell? ⟨b, 1, none⟩ = some v := by rw [Lib.cell_of_heap hbk]; rfl
  have hlt : b < w1.heap.size := by
    rcases Nat.lt_or_ge b w1.heap.size with h' | h'
    · exact h'
    · simp [Array.getElem?_eq_none h'] at hbk
  go_wp2_with (at_builtin; refine wpList_appS (base := b) Tryz.underlying61 Tryz.underlying9 hi hz0 hz1 hz2 rfl (.tmp 12) (.tmp 13) rfl rfl hown s rfl ?c4 ?c5 ?_)
  case c4 => omega
  case c5 => omega
  intro v' w2 hown' hgrow hdr
  have hb2 : w2.heap[b]? = some (.cells #[.pointer (some ⟨b, 0, none⟩), v] 65 (0, 0)) := by
    rw [hgrow.block b hlt (fun e => hne e.symm)]
    exact hbk
  have d0 : w2.cell? ⟨b, 0, none⟩ = some (.pointer (some ⟨b, 0, none⟩)) := by rw [Lib.cell_of_heap hb2]; rfl
  have d1 : w2.cell? ⟨b, 1, none⟩ = some v := by rw [Lib.cell_of_heap hb2]; rfl
  have f1 : w2.frozen? ⟨b, 1, none⟩ = false := Lib.frozen_of_heap hb2 1
  obtain ⟨ao, n', cap, rfl⟩ : ∃ ao n' cap, v' = .slice ao n' cap := by
    rcases hown'.2 with ⟨hv, _⟩ | ⟨g, cap, cur, fz, hv, _⟩
    · exact ⟨_, _, _, hv⟩
    · exact ⟨_, _, _, hv⟩
  have e1 : Lib.byteCells l ++ Lib.strCells s = Lib.byteCells (l ++ bts s) := by rw [Lib.byteCells_append, Lib.strCells_eq, bts, bts_data]
  have hfin := hid (Lib.BuilderAtF.put (T := 65) (e := 5) (Nat.le_refl b) hb2 (bs' := Lib.byteCells (l ++ bts s)) (by rw [← e1, List.length_append, Lib.strCells_length, Lib.byteCells_length]; exact hown') (by decide))
  have hw2 : Hid (Wrote b w w2) := hid (hw1.trans ⟨(Below.refl _ _).grown hgrow hdr (by omega) (fun k hk => (hown.lt k hk).1), (Lib.OthersKept.refl _ _ _).grown hgrow (Lib.ownsRowF_kind hown)⟩)
  clear hown hown' hgrow hbk h c0 c1 hw1 hlb e1
  go_wp2
  go_ret2
  exact ⟨rfl, .inr hfin.out, hw2.out.below.setCell (p := ⟨b, 1, none⟩) (Nat.le_refl _) _, hw2.out.kept.setCell ⟨b, 1, none⟩ rfl _⟩
theorem below_freeze {B : Nat} {a w : World} (h : Below B a w) {p : Addr} (hp : B ≤ p.block) (n : Nat) : Below B a (w.freeze p n) := ⟨Lib.below_freeze h.toBelow hp n, by unfold World.freeze; split <;> exact h.drawn⟩
set_option maxHeartbeats 1000000 in
set_option maxRecDepth 100000 in
theorem pstring_full (b : Nat) (l : List UInt8) (w : World) (h : PageAt b l w) (h0 : l ≠ []) :
    Calls Tryz.prog 50 #[.pointer (some ⟨b, 0, none⟩)] w fun e w' => e = .returned (.string ⟨l.toArray⟩) ∧ Below b w w' := by
  obtain ⟨p, hA⟩ : ∃ p, Lib.BuilderAtF 65 5 b b p (Lib.byteCells l) w := by
    rcases h with h | h
    · exact ⟨_, h⟩
    · exact ⟨_, h⟩
  obtain ⟨hB, v, hbk, hown, hne⟩ := hA
  have hl0 : l.length ≠ 0 := by simpa using h0
  rw [Lib.byteCells_length] at hown
  obtain ⟨g, cap, cur, fz, rfl, hbg, hg, hfz, hnc, hcm, hcs, htake⟩ : ∃ g cap cur fz, v = .slice (some ⟨g, 0, none⟩) l.length cap ∧ b ≤ g ∧ w.heap[g]? = some (.cells cur 5 fz) ∧ fz.2 ≤ l.length * 1 ∧ l.length ≤ cap ∧ cap ≤ maxLen ∧ cur.size = cap * 1 ∧ cur.toList.take (l.length * 1) = Lib.byteCells l := by
    rcases hown.2 with ⟨_, hz⟩ | ⟨g, cap, cur, fz, hv, r⟩
    · exact absurd hz hl0
    · exact ⟨g, cap, cur, fz, hv, r⟩
  have hcell : ∀ (j : Nat) (x : UInt8), l[j]? = some x → w.drew.cell? ((⟨g, 0, none⟩ : Addr).add j) = some (.int .u8 x.toNat) := fun j x hx => hown.cells (g := g) rfl j (.int .u8 x.toNat) (by simp [Lib.byteCells, hx])
  have hshp : w.drew.shape? g = some (5, cur.size) := by have hg' : w.drew.heap[g]? = some (.cells cur 5 fz) := hg; simp [World.shape?, hg']
  have c1 : w.drew.cell? ⟨b, 1, none⟩ = some (.slice (some ⟨g, 0, none⟩) l.length cap) := by
    have : w.drew.heap[b]? = some (.cells #[p, .slice (some ⟨g, 0, none⟩) l.length cap] 65 (0, 0)) := hbk
    rw [Lib.cell_of_heap this]; rfl
  have hSD : (Builtin.unsafeSliceData_ #[61] 106 #[.slice (some ⟨g, 0, none⟩) l.length cap]).run Tryz.prog w.drew = .ok (.pointer (some ⟨g, 0, none⟩)) w.drew :=
    Lib.run_unsafeSliceData_row _ _ _ _ _ _ (by omega)
  have hUS : (Builtin.unsafeString_ #[106, 3] 9 #[.pointer (some ⟨g, 0, none⟩), .int .i64 l.length]).run Tryz.prog w.drew = .ok (.string ⟨l.toArray⟩) (w.drew.freeze ⟨g, 0, none⟩ l.length) := by
    refine Lib.run_unsafeString_row w.drew 106 3 9 5 Tryz.underlying106 pg_cells8 g cur.size hshp l h0 (by omega) (by unfold maxLen at hcm; omega) hcell
  clear hown hbk hne htake h hcell hshp
  have mixed : Tryz.prog.follows .mixedOrders = true := by kernel_rfl
  go_enter Tryz.func50, Tryz.ntmps50
  go_wp2
  go_region_o
  all_goals (go_wp2; go_ret; exact ⟨rfl, below_freeze (Below.refl b w).drew (p := ⟨g, 0, none⟩) hbg _⟩)
end Go.Proofs.YtplmlahpmnjneaaGreatDoor
namespace Go.Proofs.YtplmlahpmnjneaaGreatDoor
open Go.RowKit Go.Lib
set_option linter.unusedVariables false
set_option linter.unusedSimpArgs false
theorem digU (d : Nat) (h : d < 10) : (UInt8.ofNat (48 + d)).toNat = 48 + d := by
  rw [UInt8.toNat_ofNat']; omega
theorem dec_small {u : Nat} (h : u < 10) : decDigits u = [UInt8.ofNat (48 + u)] := by rw [decDigits, dif_pos h]
theorem dec_more {u : Nat} (h : ¬ u < 10) : decDigits u = decDigits (u / 10) ++ [UInt8.ofNat (48 + u % 10)] := by rw [decDigits, dif_neg h]
theorem dec_dig : ∀ (u : Nat), (decDigits u).all isDig = true := by
  intro u
  induction u using Nat.strongRecOn with
  | ind u ih =>
    by_cases h : u < 10
    · rw [dec_small h]; simp only [List.all_cons, List.all_nil, Bool.and_true, isDig, digU u h]; simp; omega
    · rw [dec_more h, List.all_append, ih (u / 10) (by omega)]
      simp only [List.all_cons, List.all_nil, Bool.and_true, Bool.true_and, isDig, digU (u % 10) (by omega)]; simp; omega
theorem dec_num : ∀ (u : Nat), numL (decDigits u) = u := by
  intro u
  induction u using Nat.strongRecOn with
  | ind u ih =>
    by_cases h : u < 10
    · rw [dec_small h]; simp only [numL, List.foldl_cons, List.foldl_nil, digU u h]; omega
    · rw [dec_more h, numL_snoc, ih (u / 10) (by omega), digU (u % 10) (by omega)]; omega
theorem dec_ne (u : Nat) : decDigits u ≠ [] := by
  by_cases h : u < 10
  · rw [dec_small h]; simp
  · rw [dec_more h]; simp
theorem dec_head : ∀ (u : Nat), 0 < u → (decDigits u).head? ≠ some 48 := by
  intro u
  induction u using Nat.strongRecOn with
  | ind u ih =>
    intro h0
    by_cases h : u < 10
    · rw [dec_small h]
      simp only [List.head?_cons, ne_eq, Option.some.injEq]
      intro e
      have := congrArg UInt8.toNat e
      rw [digU u h] at this
      simp at this
      omega
    · rw [dec_more h]
      have := ih (u / 10) (by omega) (by omega)
      have hne := dec_ne (u / 10)
      cases hd : decDigits (u / 10) with
      | nil => exact absurd hd hne
      | cons c r => rw [hd] at this; simpa using this
theorem dec_len {u : Nat} (h : u ≤ 9999) : (decDigits u).length ≤ 4 := by
  by_cases h1 : u < 10
  · rw [dec_small h1]; simp
  · rw [dec_more h1]
    by_cases h2 : u / 10 < 10
    · rw [dec_small h2]; simp
    · rw [dec_more h2]
      by_cases h3 : u / 10 / 10 < 10
      · rw [dec_small h3]; simp
      · rw [dec_more h3, dec_small (by omega)]; simp
theorem num_dec {u : Nat} (h : u ≤ 9999) : numberL (decDigits u) = ((u : Int), true) := by
  have hb : badNum (decDigits u) = false := by
    have h1 := dec_len h
    have h2 := dec_dig u
    have h3 : (decDigits u).isEmpty = false := by
      have := dec_ne u
      cases hd : decDigits u with
      | nil => exact absurd hd this
      | cons c r => rfl
    rw [badNum, h2, h3]
    have h4 : decide (4 < (decDigits u).length) = false := by simpa using h1
    rw [h4]
    by_cases h0 : u = 0
    · subst h0; rw [dec_small (by omega)]; rfl
    · have := dec_head u (by omega)
      have h5 : ((decDigits u).head? == some 48) = false := by simpa using this
      rw [h5]; rfl
  rw [numberL, hb, if_neg (by simp), dec_num]
def numT (n : Int) : List UInt8 := decDigits n.toNat
theorem numT_itoa {n : Int} (h : 0 ≤ n) : Lib.itoa n = numT n := by rw [Lib.itoa, if_neg (by omega), numT]
theorem numT_ok {n : Int} (h : fitsI n = true) : numberL (numT n) = (n, true) := by
  simp only [fitsI, decide_eq_true_eq] at h
  rw [numT, num_dec (by omega)]
  exact Prod.ext (by simp only; omega) rfl
theorem numL_pos : ∀ {l : List UInt8}, l.all isDig = true → l ≠ [] → l.head? ≠ some 48 → 0 < numL l := by
  intro l
  induction hn : l.length using Nat.strongRecOn generalizing l with
  | ind n ih =>
    intro ha hne hh
    obtain ⟨l', c, rfl⟩ : ∃ l' c, l = l' ++ [c] := ⟨l.dropLast, l.getLast hne, (List.dropLast_concat_getLast _).symm⟩
    rw [List.all_append, Bool.and_eq_true] at ha
    have hc : 48 ≤ c.toNat ∧ c.toNat ≤ 57 := by simpa [isDig] using ha.2
    rw [numL_snoc]
    by_cases hl : l' = []
    · subst hl
      have : c ≠ 48 := by simpa using hh
      have : c.toNat ≠ 48 := fun e => this (UInt8.toNat_inj.1 e)
      simp [numL]; omega
    · have := ih l'.length (by subst hn; simp) rfl ha.1 hl (by
        cases l' with
        | nil => exact absurd rfl hl
        | cons a r => simpa using hh)
      omega
theorem dec_num_back : ∀ {l : List UInt8}, l.all isDig = true → l ≠ [] → (l.head? = some 48 → l.length = 1) → decDigits (numL l).toNat = l := by
  intro l
  induction hn : l.length using Nat.strongRecOn generalizing l with
  | ind n ih =>
    intro ha hne hh
    obtain ⟨l', c, rfl⟩ : ∃ l' c, l = l' ++ [c] := ⟨l.dropLast, l.getLast hne, (List.dropLast_concat_getLast _).symm⟩
    rw [List.all_append, Bool.and_eq_true] at ha
    have hc : 48 ≤ c.toNat ∧ c.toNat ≤ 57 := by simpa [isDig] using ha.2
    have hcc : UInt8.ofNat (48 + (c.toNat - 48)) = c := by
      apply UInt8.toNat_inj.1
      rw [UInt8.toNat_ofNat']; omega
    by_cases hl : l' = []
    · subst hl
      have e : (numL ([] ++ [c])).toNat = c.toNat - 48 := by simp [numL]; omega
      rw [e, dec_small (by omega), hcc]; rfl
    · have hh' : l'.head? ≠ some 48 := by
        intro e
        have : (l' ++ [c]).head? = some 48 := by
          cases l' with
          | nil => exact absurd rfl hl
          | cons a r => simpa using e
        have h0 := hh this
        rw [← hn] at h0
        simp at h0
        exact hl h0
      have hp := numL_pos ha.1 hl hh'
      have hi := ih l'.length (by subst hn; simp) rfl ha.1 hl (fun e => absurd e hh')
      have e1 : (numL (l' ++ [c])).toNat = 10 * (numL l').toNat + (c.toNat - 48) := by rw [numL_snoc]; omega
      rw [e1, dec_more (by omega)]
      have e2 : (10 * (numL l').toNat + (c.toNat - 48)) / 10 = (numL l').toNat := by omega
      have e3 : (10 * (numL l').toNat + (c.toNat - 48)) % 10 = c.toNat - 48 := by omega
      rw [e2, e3, hi, hcc]
theorem num_back {l : List UInt8} (h : (numberL l).2 = true) : numT (numberL l).1 = l ∧ fitsI (numberL l).1 = true := by
  have hb : badNum l = false := by
    cases hb : badNum l
    · rfl
    · rw [numberL, hb, if_pos rfl] at h; cases h
  have e : numberL l = (numL l, true) := by rw [numberL, hb, if_neg (by simp)]
  rw [e]
  simp only [badNum, Bool.or_eq_false_iff, Bool.and_eq_false_imp, Bool.not_eq_false'] at hb
  obtain ⟨⟨⟨h1, h2⟩, h3⟩, h4⟩ := hb
  have hne : l ≠ [] := by intro e; subst e; simp at h1
  have h5 : l.head? = some 48 → l.length = 1 := fun e => by
    have := h3 (by simp [e])
    have : ¬ 1 < l.length := by simpa using this
    have : l.length ≠ 0 := fun e => hne (List.eq_nil_of_length_eq_zero e)
    omega
  refine ⟨dec_num_back h4 hne h5, ?_⟩
  have h6 : ¬ 4 < l.length := by simpa using h2
  have hbd := numL_bounds l.length l rfl h4
  have : (10 : Int) ^ l.length ≤ 10 ^ 4 := by
    rcases (show l.length = 0 ∨ l.length = 1 ∨ l.length = 2 ∨ l.length = 3 ∨ l.length = 4 by omega) with e | e | e | e | e <;> rw [e] <;> decide
  simp only [fitsI, decide_eq_true_eq]
  omega
def beforeL (b : UInt8) (l : List UInt8) : List UInt8 := l.takeWhile (fun c => c != b)
def afterL (b : UInt8) (l : List UInt8) : List UInt8 := (l.dropWhile (fun c => c != b)).drop 1
theorem before_none {b : UInt8} : ∀ {l : List UInt8}, b ∉ l → beforeL b l = l ∧ afterL b l = []
  | [], _ => ⟨rfl, rfl⟩
  | c :: l, h => by
    have hc : (c != b) = true := by simp only [bne_iff_ne]; intro e; subst e; simp at h
    have := before_none (l := l) (b := b) (by simp at h; exact h.2)
    simp only [beforeL, afterL] at this ⊢
    rw [List.takeWhile_cons, List.dropWhile_cons, if_pos hc, if_pos hc, this.1]
    exact ⟨rfl, this.2⟩
theorem before_at {b : UInt8} : ∀ {l r : List UInt8}, b ∉ l → beforeL b (l ++ b :: r) = l ∧ afterL b (l ++ b :: r) = r
  | [], r, _ => by simp [beforeL, afterL]
  | c :: l, r, h => by
    have hc : (c != b) = true := by simp only [bne_iff_ne]; intro e; subst e; simp at h
    have := before_at (l := l) (r := r) (b := b) (by simp at h; exact h.2)
    simp only [beforeL, afterL, List.cons_append] at this ⊢
    rw [List.takeWhile_cons, List.dropWhile_cons, if_pos hc, if_pos hc, this.1]
    exact ⟨rfl, this.2⟩
theorem split_mem {b : UInt8} : ∀ {l : List UInt8}, b ∈ l → ∃ s t, l = s ++ b :: t ∧ b ∉ s
  | [], h => by cases h
  | c :: l, h => by
    by_cases hc : c = b
    · exact ⟨[], l, by rw [hc]; rfl, by simp⟩
    · have hb : b ∈ l := by
        rcases List.mem_cons.1 h with e | e
        · exact absurd e.symm hc
        · exact e
      obtain ⟨s, t, e, hs⟩ := split_mem hb
      exact ⟨c :: s, t, by rw [e]; rfl, by simp [hs]; exact fun e => hc e.symm⟩
theorem before_or (b : UInt8) (l : List UInt8) : (b ∉ l ∧ beforeL b l = l ∧ afterL b l = []) ∨ (l = beforeL b l ++ b :: afterL b l ∧ b ∉ beforeL b l) := by
  by_cases h : b ∈ l
  · right
    obtain ⟨s, t, rfl, hs⟩ := split_mem h
    obtain ⟨h1, h2⟩ := before_at (r := t) hs
    rw [h1, h2]
    exact ⟨rfl, hs⟩
  · exact .inl ⟨h, before_none h⟩
def numsT (v : Ver) : List UInt8 := numT v.maj ++ 46 :: (numT v.min ++ 46 :: numT v.pat)
def preT (v : Ver) : List UInt8 := if (bts v.pre).isEmpty then [] else 45 :: bts v.pre
def bldT (v : Ver) : List UInt8 := if (bts v.bld).isEmpty then [] else 43 :: bts v.bld
def printV (v : Ver) : List UInt8 := if mayV v then numsT v ++ (preT v ++ bldT v) else []
def strB (l : List UInt8) : ByteArray := ⟨l.toArray⟩
theorem bts_strB (l : List UInt8) : bts (strB l) = l := by rw [bts, bts_data, strB]
theorem strB_bts (s : ByteArray) : strB (bts s) = s := bts_inj (bts_strB _)
def partsV (l : List UInt8) : List (List UInt8) := splitP (beforeL 45 (beforeL 43 l))
def threeV (p : List (List UInt8)) (pre bld : List UInt8) : Option Ver :=
  match p with
  | [a, b, c] => if (numberL a).2 && ((numberL b).2 && (numberL c).2) then some ⟨(numberL a).1, (numberL b).1, (numberL c).1, strB pre, strB bld⟩ else none
  | _ => none
def parseV (l : List UInt8) : Option Ver :=
  match threeV (partsV l) (afterL 45 (beforeL 43 l)) (afterL 43 l) with
  | some v => if mayV v && decide (printV v = l) then some v else none
  | none => none
theorem parseV_sound {l : List UInt8} {v : Ver} (h : parseV l = some v) : mayV v = true ∧ printV v = l := by
  unfold parseV at h
  split at h
  · split at h
    · rename_i hc
      simp only [Bool.and_eq_true, decide_eq_true_eq] at hc
      injection h with h
      subst h
      exact hc
    · cases h
  · cases h
theorem splitL_none {b : UInt8} : ∀ {l cur : List UInt8}, b ∉ l → splitL b cur l = [cur ++ l]
  | [], cur, _ => by simp [splitL]
  | c :: l, cur, h => by
    simp only [List.mem_cons, not_or] at h
    rw [splitL, if_neg (fun e => h.1 e.symm), splitL_none h.2]; simp
theorem splitL_at {b : UInt8} : ∀ {l cur r : List UInt8}, b ∉ l → splitL b cur (l ++ b :: r) = (cur ++ l) :: splitL b [] r
  | [], cur, r, _ => by simp [splitL]
  | c :: l, cur, r, h => by
    simp only [List.mem_cons, not_or] at h
    rw [List.cons_append, splitL, if_neg (fun e => h.1 e.symm), splitL_at h.2]; simp
theorem dig_no {b : UInt8} (hb : b.toNat < 48 ∨ 57 < b.toNat) (u : Int) : b ∉ numT u := fun h => by
  have := List.all_eq_true.1 (dec_dig u.toNat) b h
  simp only [isDig, decide_eq_true_eq] at this
  omega
theorem join_mem {b : UInt8} : ∀ {ls : List (List UInt8)}, b ∈ joinP ls → b = 46 ∨ ∃ t ∈ ls, b ∈ t
  | [], h => by simp [joinP] at h
  | [t], h => by simp [joinP] at h; exact .inr ⟨t, by simp, h⟩
  | t :: u :: r, h => by
    simp only [joinP, List.mem_append, List.mem_cons] at h
    rcases h with h | h | h
    · exact .inr ⟨t, by simp, h⟩
    · exact .inl h
    · rcases join_mem h with h | ⟨x, hx, hb⟩
      · exact .inl h
      · exact .inr ⟨x, List.mem_cons_of_mem _ hx, hb⟩
theorem tags_mem {l : List UInt8} (h : tagsL l = true) {b : UInt8} (hb : b ∈ l) : b.toNat = 46 ∨ tagCh b = true := by
  rw [tagsL, Bool.and_eq_true] at h
  have e : joinP (splitP l) = l := by have := join_split l []; simpa [splitP] using this
  rw [← e] at hb
  rcases join_mem hb with h1 | ⟨t, ht, hb⟩
  · left; rw [h1]; rfl
  · right
    have := List.all_eq_true.1 h.2 t ht
    rw [tagOk, Bool.and_eq_true] at this
    exact List.all_eq_true.1 this.2 b hb
theorem pre_mem {l : List UInt8} (h : preOk l = true) {b : UInt8} (hb : b ∈ l) : b.toNat = 46 ∨ tagCh b = true := by
  rw [preOk, Bool.or_eq_true] at h
  rcases h with h | h
  · rw [List.isEmpty_iff] at h; subst h; cases hb
  · rw [preL, Bool.and_eq_true] at h; exact tags_mem h.1 hb
theorem bld_mem {l : List UInt8} (h : bldOk l = true) {b : UInt8} (hb : b ∈ l) : b.toNat = 46 ∨ tagCh b = true := by
  rw [bldOk, Bool.or_eq_true] at h
  rcases h with h | h
  · rw [List.isEmpty_iff] at h; subst h; cases hb
  · exact tags_mem h hb
theorem mayV_parts {v : Ver} (h : mayV v = true) : fitsI v.maj = true ∧ fitsI v.min = true ∧ fitsI v.pat = true ∧ preOk (bts v.pre) = true ∧ bldOk (bts v.bld) = true := by
  simp only [mayV, Bool.and_eq_true] at h
  exact ⟨h.1.1.1.1, h.1.1.1.2, h.1.1.2, h.1.2, h.2⟩
theorem not_tag {b : UInt8} (h : b.toNat = 43 ∨ b.toNat = 32 ∨ b.toNat = 42 ∨ b.toNat = 47 ∨ b.toNat = 60 ∨ b.toNat = 61 ∨ b.toNat = 62) : ¬ (b.toNat = 46 ∨ tagCh b = true) := by
  simp only [tagCh, decide_eq_true_eq]; omega
theorem nums_no {b : UInt8} (hb : b.toNat < 46 ∨ 57 < b.toNat) (v : Ver) : b ∉ numsT v := by
  have h1 := dig_no (b := b) (by omega)
  have h2 : b ≠ 46 := fun e => by subst e; simp at hb
  simp only [numsT, List.mem_append, List.mem_cons, h1, h2, false_or, not_false_eq_true]
theorem print_parts {v : Ver} (h : mayV v = true) : beforeL 43 (printV v) = numsT v ++ preT v ∧ afterL 43 (printV v) = bts v.bld ∧ beforeL 45 (numsT v ++ preT v) = numsT v ∧ afterL 45 (numsT v ++ preT v) = bts v.pre ∧ splitP (numsT v) = [numT v.maj, numT v.min, numT v.pat] := by
  obtain ⟨-, -, -, hp, hb⟩ := mayV_parts h
  have n43 : (43 : UInt8) ∉ numsT v ++ preT v := by
    rw [List.mem_append, not_or]
    refine ⟨nums_no (by decide) v, ?_⟩
    unfold preT
    split
    · simp
    · rw [List.mem_cons, not_or]
      exact ⟨by decide, fun e => not_tag (b := 43) (by decide) (pre_mem hp e)⟩
  have n45 : (45 : UInt8) ∉ numsT v := nums_no (by decide) v
  have e43 : beforeL 43 (printV v) = numsT v ++ preT v ∧ afterL 43 (printV v) = bts v.bld := by
    rw [printV, if_pos h, ← List.append_assoc]
    unfold bldT
    split
    · rename_i e
      rw [List.append_nil]
      have := before_none n43
      exact ⟨this.1, by rw [this.2, List.isEmpty_iff.1 e]⟩
    · exact before_at n43
  have e45 : beforeL 45 (numsT v ++ preT v) = numsT v ∧ afterL 45 (numsT v ++ preT v) = bts v.pre := by
    unfold preT
    split
    · rename_i e
      rw [List.append_nil]
      have := before_none n45
      exact ⟨this.1, by rw [this.2, List.isEmpty_iff.1 e]⟩
    · exact before_at n45
  refine ⟨e43.1, e43.2, e45.1, e45.2, ?_⟩
  have d46 := fun n => dig_no (b := 46) (by decide) n
  rw [splitP, numsT, splitL_at (d46 _), splitL_at (d46 _), splitL_none (d46 _)]; rfl
theorem three_print {v : Ver} (h : mayV v = true) : threeV [numT v.maj, numT v.min, numT v.pat] (bts v.pre) (bts v.bld) = some v := by
  obtain ⟨h1, h2, h3, -, -⟩ := mayV_parts h
  simp only [threeV, numT_ok h1, numT_ok h2, numT_ok h3, Bool.and_self, if_true, strB_bts]
theorem parseV_print {v : Ver} (h : mayV v = true) : parseV (printV v) = some v := by
  obtain ⟨e1, e2, e3, e4, e5⟩ := print_parts h
  unfold parseV partsV
  rw [e1, e2, e3, e4, e5, three_print h]
  simp [h]
end Go.Proofs.YtplmlahpmnjneaaGreatDoor
namespace Go.Proofs.YtplmlahpmnjneaaGreatDoor
open Go.RowKit Go.Lib
set_option linter.unusedVariables false
set_option linter.unusedSimpArgs false
def StrPost (w : World) (l : List UInt8) (e : Ending) (w' : World) : Prop := ∃ s : ByteArray, e = .returned (.string s) ∧ bts s = l ∧ Below w.heap.size w w'
theorem bts_append (a b : ByteArray) : bts (a ++ b) = bts a ++ bts b := by
  rw [bts, bts, bts, bts_data, bts_data, bts_data, ByteArray.data_append, Array.toList_append]
theorem bts_lit (l : List UInt8) : bts (⟨l.toArray⟩ : ByteArray) = l := bts_strB l
theorem str_case (s : ByteArray) : (s.toList.isEmpty = false ∧ ¬ s.toList = []) ∨ s.toList = [] := by
  by_cases h : 0 < s.size
  · exact .inl (ne_of_size h)
  · exact .inr (isEmpty_of h)
theorem tab_below {P : Program} {w w' : World} {name : String} {k : IntKind} {zs : List Int} (h : Lib.TabIs P w name k zs) (hb : Below w.heap.size w w') : Lib.TabIs P w' name k zs := by
  unfold Lib.TabIs World.var? at *
  cases hg : P.globalNamed name with
  | none => rw [hg] at h; cases h
  | some g =>
    rw [hg] at h
    simp only [Option.bind_some] at h ⊢
    have hlt : g < w.heap.size := by
      rcases Nat.lt_or_ge g w.heap.size with k | k
      · exact k
      · rw [Array.getElem?_eq_none k] at h; cases h
    rw [hb.block g hlt]; exact h
structure Laid (w : World) : Prop where
  first : First w
  pow : Lib.TabIs Tryz.prog w "internal/strconv.uint64pow10" .u64 Lib.pow10Tab
  maxl : ∃ m : Int, w.cell? ⟨1, 0, none⟩ = some (.int .i64 m)
theorem cell_lt {w : World} {p : Addr} {v : Value} (h : w.cell? p = some v) : p.block < w.heap.size := World.block_lt_of_cell? w p h
theorem Laid.below {w w' : World} (h : Laid w) (hb : Below w.heap.size w w') : Laid w' :=
  ⟨h.first.below hb, tab_below h.pow hb, let ⟨m, hm⟩ := h.maxl; ⟨m, by rw [hb.cell (cell_lt hm)]; exact hm⟩⟩
theorem below_grown (w : World) (k : Nat) (os : Array Obj) : Below w.heap.size w (Sort.grow (w.drewN k) os) := ⟨Lib.below_grow _ w (Nat.le_refl _) k os, by simp [Sort.grow, World.drewN]⟩
theorem digits_any (n : Int) (w : World) (hL : Laid w) (h0 : 0 ≤ n) (h1 : n ≤ 9999) : Calls Tryz.prog 153 #[.int .i64 n] w (StrPost w (numT n)) := by
  have HC := hid (Any.strconv_Itoa Tryz.laysM171 n (by omega) (by omega) w hL.pow)
  have e := numT_itoa h0
  clear hL
  go_enter Tryz.func153, Tryz.ntmps153
  go_wp2_with fail
  refine HC.out.mono ?_
  rintro _ _ ⟨rfl, k, os, rfl⟩
  go_wp2_with fail
  go_ret
  exact ⟨_, rfl, bts_lit _, below_grown _ _ _⟩
theorem digits_fits (n : Int) (w : World) (hL : Laid w) (h : fitsI n = true) : Calls Tryz.prog 153 #[.int .i64 n] w (StrPost w (numT n)) := by
  simp only [fitsI, decide_eq_true_eq] at h
  exact digits_any n w hL h.1 h.2
theorem size_num {n : Int} {d : ByteArray} (h : bts d = numT n) (hn : fitsI n = true) : d.size ≤ 4 := by
  simp only [fitsI, decide_eq_true_eq] at hn
  rw [← bts_len, h, numT]
  exact dec_len (by omega)
theorem boxV_reads (w : World) (v : Ver) {w1 : World} (hb : Below (boxV w v).heap.size (boxV w v) w1) : Box w1 w.heap.size v.cells := (Box.new w v.cells 46).below hb
theorem printV_eq {v : Ver} (h : mayV v = true) {d1 d2 d3 : ByteArray} (e1 : bts d1 = numT v.maj) (e2 : bts d2 = numT v.min) (e3 : bts d3 = numT v.pat) :
    printV v = bts (d1 ++ ⟨#[46]⟩ ++ d2 ++ ⟨#[46]⟩ ++ d3) ++ (preT v ++ bldT v) := by
  rw [printV, if_pos h, numsT]
  simp only [bts_append, e1, e2, e3]
  have : bts (⟨#[46]⟩ : ByteArray) = [46] := bts_lit [46]
  rw [this]; simp
theorem b45 : bts (⟨#[45]⟩ : ByteArray) = [45] := bts_lit [45]
theorem b43 : bts (⟨#[43]⟩ : ByteArray) = [43] := bts_lit [43]
theorem preT_ne {v : Ver} (h : v.pre.toList.isEmpty = false) : preT v = 45 :: bts v.pre := by rw [preT, if_neg (by rw [bts, h]; simp)]
theorem preT_nil {v : Ver} (h : v.pre.toList = []) : preT v = [] := by rw [preT, if_pos (by rw [bts, h]; rfl)]
theorem bldT_ne {v : Ver} (h : v.bld.toList.isEmpty = false) : bldT v = 43 :: bts v.bld := by rw [bldT, if_neg (by rw [bts, h]; simp)]
theorem bldT_nil {v : Ver} (h : v.bld.toList = []) : bldT v = [] := by rw [bldT, if_pos (by rw [bts, h]; rfl)]
set_option maxRecDepth 100000 in
set_option maxHeartbeats 4000000 in
theorem vprint_yes (v : Ver) (w : World) (hL : Laid w) (hv : v.fit) (hm : mayV v = true) : Calls Tryz.prog 133 #[v.val] w (StrPost w (printV v)) := by
  obtain ⟨f1, f2, f3, -, -⟩ := mayV_parts hm
  have HM := hid (may_any v (boxV w v) hv)
  rw [hm] at HM
  have HHM := hid hm
  have HF := hid (And.intro f1 (And.intro f2 f3))
  have HL := hid hL
  clear hm hL f1 f2 f3
  go_enter Tryz.func133, Tryz.ntmps133
  go_wp2_with fail
  refine HM.out.mono ?_
  rintro _ w1 ⟨rfl, hb⟩
  have HB := hid (below_box hb)
  have HX := hid (boxV_reads w v hb)
  have HL1 := hid (HL.out.below HB.out)
  clear hb
  go_wp2_with fail
  refine wp_plan (.call [0, 1, 4, 5, 9, 10] 2 (.call [3] 6 (.call [7, 8] 11 (.last [12, 13])))) (by kernel_rfl) (by intro _ _ d _ _ h; cases d <;> exact h) (by kernel_rfl) ?_
  have q0 := fun (z : BW w1) => (HX.out.below z.ok).get5.1
  have q1 := fun (z : BW w1) => (HX.out.below z.ok).get5.2.1
  have q2 := fun (z : BW w1) => (HX.out.below z.ok).get5.2.2.1
  refine plan_call ?_
  simp only [pickOps, List.map_cons, List.map_nil, List.getElem?_toArray, List.getElem?_cons_zero, List.getElem?_cons_succ, Option.getD_some]
  repeat go_big_quiet_step (fail)
  refine wpQuiet_nil ?_
  go_wp2_with fail
  refine (digits_fits _ _ (HL1.out.below (Below.refl _ _).drew) HF.out.1).mono ?_
  rintro _ w2 ⟨d1, rfl, hd1, hb2⟩
  have hs1 := size_num hd1 HF.out.1
  have HB2 := hid (below_tr (Below.refl w1.heap.size w1).drew hb2)
  have HL2 := hid (HL1.out.below HB2.out)
  go_wp2_with fail
  refine plan_on (HB2.out) ?_
  refine plan_call ?_
  simp only [pickOps, List.map_cons, List.map_nil, List.getElem?_toArray, List.getElem?_cons_zero, List.getElem?_cons_succ, Option.getD_some]
  repeat go_big_quiet_step (fail)
  refine wpQuiet_nil ?_
  go_wp2_with fail
  refine (digits_fits _ _ HL2.out HF.out.2.1).mono ?_
  rintro _ w3 ⟨d2, rfl, hd2, hb3⟩
  have hs2 := size_num hd2 HF.out.2.1
  have HL3 := hid (HL2.out.below hb3)
  go_wp2_with fail
  refine plan_on (hb3) ?_
  refine plan_call ?_
  simp only [pickOps, List.map_cons, List.map_nil, List.getElem?_toArray, List.getElem?_cons_zero, List.getElem?_cons_succ, Option.getD_some]
  repeat go_big_quiet_step (fail)
  refine wpQuiet_nil ?_
  go_wp2_with fail
  refine (digits_fits _ _ HL3.out HF.out.2.2).mono ?_
  rintro _ w4 ⟨d3, rfl, hd3, hb4⟩
  have hs3 := size_num hd3 HF.out.2.2
  go_wp2_with fail
  refine plan_on (hb4) ?_
  refine plan_last ?_
  simp only [pickOps, List.map_cons, List.map_nil, List.getElem?_toArray, List.getElem?_cons_zero, List.getElem?_cons_succ, Option.getD_some]
  repeat go_big_quiet_step (fail)
  refine wpQuiet_nil ?_
  have HB4 := hid (below_tr HB.out (below_tr HB2.out (below_tr hb3 hb4)))
  have HX4 := hid (HX.out.below (below_tr HB2.out (below_tr hb3 hb4)))
  have HD := hid (printV_eq HHM.out hd1 hd2 hd3)
  clear hd1 hd2 hd3 hb2 hb3 hb4 q0 q1 q2 HX HL HL1 HL2 HL3
  obtain ⟨x0, x1, x2, x3, x4⟩ := HX4.out.get5
  clear x0 x1 x2
  rcases str_case v.pre with ⟨e4, n4⟩ | e4
  all_goals rcases str_case v.bld with ⟨e6, n6⟩ | e6
  all_goals
    obtain ⟨hp, hq⟩ := hv
    go_wp2_with fail
    go_ret
    refine ⟨_, rfl, ?_, HB4.out⟩
    rw [HD.out]
  · rw [preT_ne e4, bldT_ne e6]; simp only [bts_append, b45, b43]; simp
  · rw [preT_ne e4, bldT_nil e6]; simp only [bts_append, b45]; simp
  · rw [preT_nil e4, bldT_ne e6]; simp only [bts_append, b43]; simp
  · rw [preT_nil e4, bldT_nil e6]; simp
set_option maxRecDepth 100000 in
set_option maxHeartbeats 4000000 in
theorem vprint_any (v : Ver) (w : World) (hL : Laid w) (hv : v.fit) : Calls Tryz.prog 133 #[v.val] w (StrPost w (printV v)) := by
  cases hm : mayV v
  · have HM := hid (may_any v (boxV w v) hv)
    rw [hm] at HM
    have HP := hid (show printV v = [] by rw [printV, hm]; rfl)
    clear hL
    go_enter Tryz.func133, Tryz.ntmps133
    go_wp2_with fail
    refine HM.out.mono ?_
    rintro _ w1 ⟨rfl, hb⟩
    go_wp2_with fail
    go_ret
    exact ⟨_, rfl, by rw [HP.out]; exact bts_lit [], below_box hb⟩
  · exact vprint_yes v w hL hv hm
end Go.Proofs.YtplmlahpmnjneaaGreatDoor
namespace Go.Proofs.YtplmlahpmnjneaaGreatDoor
open Go.RowKit Go.Lib
set_option linter.unusedVariables false
set_option linter.unusedSimpArgs false
theorem nums_len {v : Ver} (h : mayV v = true) : (numsT v).length ≤ 14 := by
  obtain ⟨f1, f2, f3, -, -⟩ := mayV_parts h
  simp only [fitsI, decide_eq_true_eq] at f1 f2 f3
  have h1 := dec_len (u := v.maj.toNat) (by omega)
  have h2 := dec_len (u := v.min.toNat) (by omega)
  have h3 := dec_len (u := v.pat.toNat) (by omega)
  simp only [numsT, numT, List.length_append, List.length_cons]
  omega
end Go.Proofs.YtplmlahpmnjneaaGreatDoor
namespace Go.Proofs.YtplmlahpmnjneaaGreatDoor
open Go.RowKit Go.Lib
set_option linter.unusedVariables false
set_option linter.unusedSimpArgs false
theorem bts_extract (s : ByteArray) (a b : Nat) : bts (s.extract a b) = ((bts s).drop a).take (b - a) := by
  rw [Lib.extract_eq, bts_lit, bts, bts_data]
theorem bts_at (s : ByteArray) (k : Nat) (h : k < s.size) : bts s = (bts s).take k ++ s[k] :: (bts s).drop (k + 1) := by
  have e := List.drop_eq_getElem_cons (l := bts s) (i := k) (by rw [bts_len]; exact h)
  rw [bts_get s k h] at e
  rw [← e, List.take_append_drop]
theorem behind_at {s : ByteArray} {k : Nat} {b : UInt8} (h : k < s.size) (hb : s[k] = b) (hn : b ∉ (bts s).take k) : beforeL b (bts s) = bts (s.extract 0 k) ∧ afterL b (bts s) = bts (s.extract (k + 1) s.size) := by
  have e := bts_at s k h
  rw [hb] at e
  have h1 := before_at (r := (bts s).drop (k + 1)) hn
  rw [← e] at h1
  refine ⟨by rw [h1.1, bts_extract]; simp, ?_⟩
  rw [h1.2, bts_extract, List.take_of_length_le]
  rw [List.length_drop, bts_len]; omega
def Str2 (w : World) (l m : List UInt8) (e : Ending) (w' : World) : Prop := ∃ s t : ByteArray, e = .returned (.tuple #[.string s, .string t]) ∧ bts s = l ∧ bts t = m ∧ ∃ n, w' = w.drewN n
set_option maxRecDepth 100000 in
set_option maxHeartbeats 1000000 in
theorem behind_any (s : ByteArray) (b : UInt8) (w : World) (hs : s.size ≤ 9223372036854775806) : Calls Tryz.prog 139 #[.string s, .int .u8 b.toNat] w (Str2 w (afterL b (bts s)) (beforeL b (bts s))) := by
  go_enter Tryz.func139, Tryz.ntmps139
  go_wp2_with fail
  go_loop [6, 9] (fun i k => ∃ n : Nat, n ≤ s.size ∧ k = .int .i64 n ∧ Hid (b ∉ (bts s).take n)) (fun _ k => s.size - (intOf k).toNat)
  case atStart => exact ⟨0, Nat.zero_le _, rfl, hid (by simp)⟩
  case round =>
    obtain ⟨n, hn, rfl, HN⟩ := hrel
    go_wp2_with fail
    · refine wp_plan (.last [0, 1, 2, 3, 4, 5, 6, 7, 8]) (by kernel_rfl) (by intro _ _ d _ _ h; cases d <;> exact h) (by kernel_rfl) ?_
      have hlt : n < s.size := by assumption
      have hc := hid (u8_of_beq (by assumption : ((s[n].toNat : Int) == (b.toNat : Int)) = true))
      have hlt2 : (n : Int) + 1 ≤ (s.size : Int) := by omega
      refine plan_last ?_
      simp only [pickOps, List.map_cons, List.map_nil, List.getElem?_toArray, List.getElem?_cons_zero, List.getElem?_cons_succ, Option.getD_some]
      repeat go_big_quiet_step (fail)
      refine wpQuiet_nil ?_
      go_wp2_with fail
      go_ret2
      obtain ⟨h1, h2⟩ := behind_at hlt hc.out HN.out
      exact ⟨_, _, rfl, h2.symm, h1.symm, 1, rfl⟩
    · go_round
      case rel =>
        have hlt : n < s.size := by assumption
        refine ⟨n + 1, by omega, by go_num, hid ?_⟩
        rw [bts_take s n hlt, List.mem_append, not_or]
        refine ⟨HN.out, ?_⟩
        rw [List.mem_singleton]
        exact fun e => u8_of_bne (by assumption : ((s[n].toNat : Int) == (b.toNat : Int)) = false) e.symm
      case measure => simp [intOf]; omega
    · go_ret2
      obtain rfl : n = s.size := by omega
      have h := HN.out
      rw [bts_take_all] at h
      obtain ⟨h1, h2⟩ := before_none h
      exact ⟨_, _, rfl, by rw [h2]; exact bts_lit [], h1.symm, 0, rfl⟩
def ParsePost (w : World) (o : Option Ver) (e : Ending) (w' : World) : Prop := e = .returned (.tuple #[(o.getD zeroV).val, .int .i64 (if o.isSome then 0 else 5)]) ∧ Below w.heap.size w w'
theorem Box.put {w : World} {g j : Nat} {cs : List Value} (h : Box w g cs) (hj : j < cs.length) (v : Value) : Box (w.setCell ⟨g, j, none⟩ v) g (cs.take j ++ [v] ++ cs.drop (j + 1)) := h.set (o := j) (vs := [v]) (by simp only [List.length_singleton]; omega)
theorem Box.putOther {w : World} {g k j : Nat} {cs : List Value} (h : Box w g cs) (hk : g ≠ k) (v : Value) : Box (w.setCell ⟨k, j, none⟩ v) g cs := h.setOther (o := j) (vs := [v]) hk
theorem Box.drewN {w : World} {g : Nat} {cs : List Value} (h : Box w g cs) (n : Nat) : Box (w.drewN n) g cs := h
theorem Box.drew {w : World} {g : Nat} {cs : List Value} (h : Box w g cs) : Box w.drew g cs := h
theorem Soft.put {w : World} {g k j : Nat} (h : Soft w g) (v : Value) : Soft (w.setCell ⟨k, j, none⟩ v) g := h.set (o := j) (vs := [v])
theorem Soft.drewN {w : World} {g : Nat} (h : Soft w g) (n : Nat) : Soft (w.drewN n) g := h
theorem below_drewN {w w1 : World} (h : Below w.heap.size w w1) (n : Nat) : Below w.heap.size w (w1.drewN n) := ⟨⟨h.os, h.tape, h.output, h.size, h.block⟩, Nat.le_trans h.drawn (by simp [World.drewN])⟩
theorem below_put {w w1 : World} (h : Below w.heap.size w w1) {k j : Nat} (hk : w.heap.size ≤ k) (v : Value) : Below w.heap.size w (w1.setCell ⟨k, j, none⟩ v) := h.setCell (p := ⟨k, j, none⟩) hk v
structure Own (B : Nat) (w : World) (g : Nat) (cs : List Value) : Prop where
  box : Box w g cs
  soft : Soft w g
  low : B ≤ g
theorem Own.below {B : Nat} {w w' : World} {g : Nat} {cs : List Value} (h : Own B w g cs) (hb : Below w.heap.size w w') : Own B w' g cs := ⟨h.box.below hb, h.soft.below h.box.1 hb, h.low⟩
theorem Own.put {B : Nat} {w : World} {g j : Nat} {cs : List Value} (h : Own B w g cs) (hj : j < cs.length) (v : Value) : Own B (w.setCell ⟨g, j, none⟩ v) g (cs.take j ++ [v] ++ cs.drop (j + 1)) := ⟨h.box.put hj v, h.soft.put v, h.low⟩
theorem Own.other {B : Nat} {w : World} {g k j : Nat} {cs : List Value} (h : Own B w g cs) (hk : g ≠ k) (v : Value) : Own B (w.setCell ⟨k, j, none⟩ v) g cs := ⟨h.box.putOther hk v, h.soft.put v, h.low⟩
theorem Own.drewN {B : Nat} {w : World} {g : Nat} {cs : List Value} (h : Own B w g cs) (n : Nat) : Own B (w.drewN n) g cs := ⟨h.box, h.soft, h.low⟩
theorem Own.new (w : World) (cs : List Value) (t : TypeId) {B : Nat} (hB : B ≤ w.heap.size) : Own B (w.alloc (.cells cs.toArray t)) w.heap.size cs := ⟨Box.new w cs t, Soft.new w _ t, hB⟩
theorem Own.alloc {B : Nat} {w : World} {g : Nat} {cs : List Value} (h : Own B w g cs) (o : Obj) : Own B (w.alloc o) g cs := h.below (below_new w o)
theorem Own.new2 (w : World) (o : Obj) (cs : List Value) (t : TypeId) {B : Nat} (hB : B ≤ w.heap.size) : Own B ((w.alloc o).alloc (.cells cs.toArray t)) (w.heap.size + 1) cs := by
  have := Own.new (w.alloc o) cs t (B := B) (by rw [World.size_alloc]; omega)
  rwa [World.size_alloc] at this
theorem Own.set5 {B : Nat} {w : World} {g : Nat} {a0 a1 a2 a3 a4 : Value} (h : Own B w g [a0, a1, a2, a3, a4]) (b0 b1 b2 b3 b4 : Value) :
    Own B (((((w.setCell ⟨g, 0, none⟩ b0).setCell ⟨g, 1, none⟩ b1).setCell ⟨g, 2, none⟩ b2).setCell ⟨g, 3, none⟩ b3).setCell ⟨g, 4, none⟩ b4) g [b0, b1, b2, b3, b4] :=
  ⟨h.box.set (o := 0) (vs := [b0, b1, b2, b3, b4]) (by simp), h.soft.set (o := 0) (vs := [b0, b1, b2, b3, b4]), h.low⟩
theorem below_set5 {w w1 : World} (h : Below w.heap.size w w1) {g : Nat} (hg : w.heap.size ≤ g) (b0 b1 b2 b3 b4 : Value) :
    Below w.heap.size w (((((w1.setCell ⟨g, 0, none⟩ b0).setCell ⟨g, 1, none⟩ b1).setCell ⟨g, 2, none⟩ b2).setCell ⟨g, 3, none⟩ b3).setCell ⟨g, 4, none⟩ b4) :=
  below_put (below_put (below_put (below_put (below_put h hg _) hg _) hg _) hg _) hg _
theorem body_name {P : Program} {f : Func} {R : Ending → World → Prop} {e : Exit} {a : Act} {w : World} (h : ∀ w1, w1 = w → bodyPost P f R e a w1) : bodyPost P f R e a w := h w rfl
theorem put_cell {w : World} {g k j o : Nat} (h : g ≠ k) (v : Value) : (w.setCell ⟨k, j, none⟩ v).cell? ⟨g, o, none⟩ = w.cell? ⟨g, o, none⟩ := World.cell?_setCell_other _ _ _ _ (by simp only [ne_eq, Addr.mk.injEq, not_and]; intro e; exact absurd e.symm h)
theorem round_name {P : Program} {c : Code} {Q : Exit → Act → World → Prop} {n : Nat} {a : Act} {w : World} (h : ∀ w1, w1 = w → Code.rounds P c Q n a w1) : Code.rounds P c Q n a w := h w rfl
theorem calls_name {P : Program} {f : FuncId} {args : Array Value} {w : World} {R : Ending → World → Prop} (h : ∀ w1, w1 = w → Calls P f args w1 R) : Calls P f args w R := h w rfl
theorem before_len (b : UInt8) (l : List UInt8) : (beforeL b l).length ≤ l.length ∧ (afterL b l).length ≤ l.length := by
  rcases before_or b l with ⟨_, h2, h3⟩ | ⟨h1, _⟩
  · rw [h2, h3]; simp
  · have := congrArg List.length h1
    simp only [List.length_append, List.length_cons] at this
    omega
theorem size_of {s t : ByteArray} {b : UInt8} (h : bts s = beforeL b (bts t) ∨ bts s = afterL b (bts t)) : s.size ≤ t.size := by
  rw [← bts_len s, ← bts_len t]
  have := before_len b (bts t)
  rcases h with h | h <;> rw [h] <;> omega
set_option maxRecDepth 100000 in
set_option maxHeartbeats 4000000 in
theorem vparse_any (s : ByteArray) (w : World) (hL : Laid w) (hs : s.size ≤ 4398046511103) : Calls Tryz.prog 87 #[.string s] w (ParsePost w (parseV (bts s))) := by
  have HL := hid hL
  clear hL
  go_enter Tryz.func87, Tryz.ntmps87
  go_wp2_with fail
  refine (behind_any s 43 _ (by omega)).mono ?_
  rintro _ _ ⟨bld, r1, rfl, hb1, hr1, n1, rfl⟩
  have hz1 : r1.size ≤ s.size := size_of (.inl hr1)
  have hz3 : bld.size ≤ s.size := size_of (.inr hb1)
  go_wp2_with fail
  refine (behind_any r1 45 _ (by omega)).mono ?_
  rintro _ _ ⟨pre, r2, rfl, hb2, hr2, n2, rfl⟩
  have hz2 : r2.size ≤ r1.size := size_of (.inl hr2)
  have hz4 : pre.size ≤ r1.size := size_of (.inr hb2)
  go_wp2_with fail
  refine calls_name ?_
  intro w1 hw1
  have O1 : Hid (Own w.heap.size w1 w.heap.size zeroV.cells) := hid (by
    rw [hw1]
    exact (((((Own.new w zeroV.cells 46 (Nat.le_refl _)).alloc _).drewN n1).other (j := 4) (by omega) _).drewN n2).other (j := 3) (by omega) _)
  have O2 : Hid (Own w.heap.size w1 (w.heap.size + 1) [.int .i64 0, .int .i64 0, .int .i64 0, .string pre, .string bld]) := hid (by
    rw [hw1]
    exact ((((Own.new2 w _ zeroV.cells 46 (Nat.le_refl _)).drewN n1).put (j := 4) (by decide) _).drewN n2).put (j := 3) (by simp) _)
  have HB : Hid (Below w.heap.size w w1) := hid (by
    rw [hw1]
    exact below_put (below_drewN (below_put (below_drewN (below_tr (below_new w _) (below_new _ _)) n1) (by omega) _) n2) (by omega) _)
  clear hw1
  have hp := hid (show partsV (bts s) = splitP (bts r2) by rw [partsV, ← hr1, ← hr2])
  refine (split46 r2 w1 (by omega)).mono ?_
  rintro _ w2 ⟨g, cap, rfl, hg, hgl, hcap, hcell, hb⟩
  have HH := hid (show Held w2 g (splitP (bts r2)) from ⟨hgl, hcell⟩)
  have O1 := hid (O1.out.below hb)
  have O2 := hid (O2.out.below hb)
  have HB := hid (below_tr HB.out hb)
  clear hb hcell
  generalize hls : splitP (bts r2) = ls at *
  generalize hn : ls.length = n at *
  have HN := hid hn
  have HLS := hid hls
  clear hls
  by_cases h3 : n = 3
  · subst h3
    obtain ⟨l0, l1, l2, rfl⟩ : ∃ l0 l1 l2, ls = [l0, l1, l2] := by
      match ls, hn with
      | [a, b, c], _ => exact ⟨a, b, c, rfl⟩
    have c0 : w2.cell? ⟨g, 0, none⟩ = some (.string (strB l0)) := HH.out.2 0 (by simp)
    have c1 : w2.cell? ⟨g, 1, none⟩ = some (.string (strB l1)) := HH.out.2 1 (by simp)
    have c2 : w2.cell? ⟨g, 2, none⟩ = some (.string (strB l2)) := HH.out.2 2 (by simp)
    have HC0 := hid (And.intro c0 (And.intro c1 c2))
    have HG0 := hid hgl
    clear c0 c1 c2 hgl hn
    go_wp2_with fail
    refine wp_name ?_
    intro u0 hu
    have hb : Below w2.heap.size w2 u0 := by rw [hu]; exact below_new w2 _
    have N0 : Hid (Own w.heap.size u0 w2.heap.size [.int .i64 0, .int .i64 0, .int .i64 0]) := hid (by rw [hu]; exact Own.new w2 [.int .i64 0, .int .i64 0, .int .i64 0] 155 HB.out.size)
    clear hu
    have hne : g ≠ w2.heap.size := Nat.ne_of_lt HG0.out
    have hne1 := Nat.ne_of_lt O1.out.box.1
    have hne2 := Nat.ne_of_lt O2.out.box.1
    have O1 := hid (O1.out.below hb)
    have O2 := hid (O2.out.below hb)
    have HB := hid (below_tr HB.out hb)
    have HC : Hid (u0.cell? ⟨g, 0, none⟩ = some (.string (strB l0)) ∧ u0.cell? ⟨g, 1, none⟩ = some (.string (strB l1)) ∧ u0.cell? ⟨g, 2, none⟩ = some (.string (strB l2))) := hid ⟨(hb.cell (p := ⟨g, 0, none⟩) HG0.out).trans HC0.out.1, (hb.cell (p := ⟨g, 1, none⟩) HG0.out).trans HC0.out.2.1, (hb.cell (p := ⟨g, 2, none⟩) HG0.out).trans HC0.out.2.2⟩
    have HG : Hid (g < u0.heap.size) := hid (Nat.lt_of_lt_of_le HG0.out hb.size)
    clear hb HC0 HG0
    generalize w2.heap.size = gn at *
    refine wp_loop_rounds 4 ?_
    rw [rounds_succ]
    have cc := HC.out.1
    have hlg := HG.out
    go_wp2_with fail
    refine (number_any (strB l0) u0).mono ?_
    rintro _ v0 ⟨rfl, hb⟩
    rw [bts_strB]
    have O1 := hid (O1.out.below hb)
    have O2 := hid (O2.out.below hb)
    have N0 := hid (N0.out.below hb)
    have HB := hid (below_tr HB.out hb)
    have HC : Hid (v0.cell? ⟨g, 0, none⟩ = some (.string (strB l0)) ∧ v0.cell? ⟨g, 1, none⟩ = some (.string (strB l1)) ∧ v0.cell? ⟨g, 2, none⟩ = some (.string (strB l2))) := hid ⟨(hb.cell (p := ⟨g, 0, none⟩) HG.out).trans HC.out.1, (hb.cell (p := ⟨g, 1, none⟩) HG.out).trans HC.out.2.1, (hb.cell (p := ⟨g, 2, none⟩) HG.out).trans HC.out.2.2⟩
    have HG : Hid (g < v0.heap.size) := hid (Nat.lt_of_lt_of_le HG.out hb.size)
    clear hb cc hlg
    generalize hk0 : numberL l0 = m0 at *
    obtain ⟨i0, b0⟩ := m0
    cases b0
    · have hr := hid (show parseV (bts s) = none by
        unfold parseV
        rw [hp.out]
        simp [threeV, hk0])
      obtain ⟨x0, x1, x2, x3, x4⟩ := O1.out.box.get5
      have sf : ∀ j, v0.frozen? ⟨w.heap.size, j, none⟩ = false := O1.out.soft
      have hlt := O1.out.box.1
      go_wp2_with fail
      refine body_name ?_
      intro w3 hw3
      have O3 : Own w.heap.size w3 w.heap.size zeroV.cells := by rw [hw3]; exact O1.out.set5 _ _ _ _ _
      have B3 : Below w.heap.size w w3 := by rw [hw3]; exact below_set5 HB.out (Nat.le_refl _) _ _ _ _ _
      clear hw3
      obtain ⟨k0, k1, k2, k3, k4⟩ := O3.box.get5
      refine bodyPost_ret (v := .tuple #[zeroV.val, .int .i64 5]) (by simp [results, Tryz.results87, go_sem, k0, k1, k2, k3, k4, zeroV]) rfl ?_
      rw [show parseV (bts s) = none from hr.out]
      exact ⟨rfl, B3⟩
    obtain ⟨y0, y1, y2⟩ := (⟨N0.out.box.2 0 _ rfl, N0.out.box.2 1 _ rfl, N0.out.box.2 2 _ rfl⟩ : v0.cell? ⟨gn, 0, none⟩ = some (.int .i64 0) ∧ v0.cell? ⟨gn, 1, none⟩ = some (.int .i64 0) ∧ v0.cell? ⟨gn, 2, none⟩ = some (.int .i64 0))
    have sf : ∀ j, v0.frozen? ⟨gn, j, none⟩ = false := N0.out.soft
    have hlt := N0.out.box.1
    go_wp2_with fail
    refine round_name ?_
    intro u1 hu
    have N1 : Hid (Own w.heap.size u1 gn [.int .i64 i0, .int .i64 0, .int .i64 0]) := hid (by rw [hu]; exact N0.out.put (j := 0) (by simp) (.int .i64 i0))
    have HB := hid (show Below w.heap.size w u1 by rw [hu]; exact below_put HB.out N0.out.low _)
    have O1 := hid (show Own w.heap.size u1 w.heap.size zeroV.cells by rw [hu]; exact O1.out.other hne1 _)
    have O2 := hid (show Own w.heap.size u1 (w.heap.size + 1) [.int .i64 0, .int .i64 0, .int .i64 0, .string pre, .string bld] by rw [hu]; exact O2.out.other hne2 _)
    have HC : Hid (u1.cell? ⟨g, 0, none⟩ = some (.string (strB l0)) ∧ u1.cell? ⟨g, 1, none⟩ = some (.string (strB l1)) ∧ u1.cell? ⟨g, 2, none⟩ = some (.string (strB l2))) := hid (by rw [hu]; exact ⟨(put_cell hne _).trans HC.out.1, (put_cell hne _).trans HC.out.2.1, (put_cell hne _).trans HC.out.2.2⟩)
    have HG : Hid (g < u1.heap.size) := hid (by rw [hu, World.size_setCell]; exact HG.out)
    clear hu y0 y1 y2 sf hlt
    rw [rounds_succ]
    have cc := HC.out.2.1
    have hlg := HG.out
    go_wp2_with fail
    refine (number_any (strB l1) u1).mono ?_
    rintro _ v1 ⟨rfl, hb⟩
    rw [bts_strB]
    have O1 := hid (O1.out.below hb)
    have O2 := hid (O2.out.below hb)
    have N1 := hid (N1.out.below hb)
    have HB := hid (below_tr HB.out hb)
    have HC : Hid (v1.cell? ⟨g, 0, none⟩ = some (.string (strB l0)) ∧ v1.cell? ⟨g, 1, none⟩ = some (.string (strB l1)) ∧ v1.cell? ⟨g, 2, none⟩ = some (.string (strB l2))) := hid ⟨(hb.cell (p := ⟨g, 0, none⟩) HG.out).trans HC.out.1, (hb.cell (p := ⟨g, 1, none⟩) HG.out).trans HC.out.2.1, (hb.cell (p := ⟨g, 2, none⟩) HG.out).trans HC.out.2.2⟩
    have HG : Hid (g < v1.heap.size) := hid (Nat.lt_of_lt_of_le HG.out hb.size)
    clear hb cc hlg
    generalize hk1 : numberL l1 = m1 at *
    obtain ⟨i1, b1⟩ := m1
    cases b1
    · have hr := hid (show parseV (bts s) = none by
        unfold parseV
        rw [hp.out]
        simp [threeV, hk0, hk1])
      obtain ⟨x0, x1, x2, x3, x4⟩ := O1.out.box.get5
      have sf : ∀ j, v1.frozen? ⟨w.heap.size, j, none⟩ = false := O1.out.soft
      have hlt := O1.out.box.1
      go_wp2_with fail
      refine body_name ?_
      intro w3 hw3
      have O3 : Own w.heap.size w3 w.heap.size zeroV.cells := by rw [hw3]; exact O1.out.set5 _ _ _ _ _
      have B3 : Below w.heap.size w w3 := by rw [hw3]; exact below_set5 HB.out (Nat.le_refl _) _ _ _ _ _
      clear hw3
      obtain ⟨k0, k1, k2, k3, k4⟩ := O3.box.get5
      refine bodyPost_ret (v := .tuple #[zeroV.val, .int .i64 5]) (by simp [results, Tryz.results87, go_sem, k0, k1, k2, k3, k4, zeroV]) rfl ?_
      rw [show parseV (bts s) = none from hr.out]
      exact ⟨rfl, B3⟩
    obtain ⟨y0, y1, y2⟩ := (⟨N1.out.box.2 0 _ rfl, N1.out.box.2 1 _ rfl, N1.out.box.2 2 _ rfl⟩ : v1.cell? ⟨gn, 0, none⟩ = some (.int .i64 i0) ∧ v1.cell? ⟨gn, 1, none⟩ = some (.int .i64 0) ∧ v1.cell? ⟨gn, 2, none⟩ = some (.int .i64 0))
    have sf : ∀ j, v1.frozen? ⟨gn, j, none⟩ = false := N1.out.soft
    have hlt := N1.out.box.1
    go_wp2_with fail
    refine round_name ?_
    intro u2 hu
    have N2 : Hid (Own w.heap.size u2 gn [.int .i64 i0, .int .i64 i1, .int .i64 0]) := hid (by rw [hu]; exact N1.out.put (j := 1) (by simp) (.int .i64 i1))
    have HB := hid (show Below w.heap.size w u2 by rw [hu]; exact below_put HB.out N1.out.low _)
    have O1 := hid (show Own w.heap.size u2 w.heap.size zeroV.cells by rw [hu]; exact O1.out.other hne1 _)
    have O2 := hid (show Own w.heap.size u2 (w.heap.size + 1) [.int .i64 0, .int .i64 0, .int .i64 0, .string pre, .string bld] by rw [hu]; exact O2.out.other hne2 _)
    have HC : Hid (u2.cell? ⟨g, 0, none⟩ = some (.string (strB l0)) ∧ u2.cell? ⟨g, 1, none⟩ = some (.string (strB l1)) ∧ u2.cell? ⟨g, 2, none⟩ = some (.string (strB l2))) := hid (by rw [hu]; exact ⟨(put_cell hne _).trans HC.out.1, (put_cell hne _).trans HC.out.2.1, (put_cell hne _).trans HC.out.2.2⟩)
    have HG : Hid (g < u2.heap.size) := hid (by rw [hu, World.size_setCell]; exact HG.out)
    clear hu y0 y1 y2 sf hlt
    rw [rounds_succ]
    have cc := HC.out.2.2
    have hlg := HG.out
    go_wp2_with fail
    refine (number_any (strB l2) u2).mono ?_
    rintro _ v2 ⟨rfl, hb⟩
    rw [bts_strB]
    have O1 := hid (O1.out.below hb)
    have O2 := hid (O2.out.below hb)
    have N2 := hid (N2.out.below hb)
    have HB := hid (below_tr HB.out hb)
    have HC : Hid (v2.cell? ⟨g, 0, none⟩ = some (.string (strB l0)) ∧ v2.cell? ⟨g, 1, none⟩ = some (.string (strB l1)) ∧ v2.cell? ⟨g, 2, none⟩ = some (.string (strB l2))) := hid ⟨(hb.cell (p := ⟨g, 0, none⟩) HG.out).trans HC.out.1, (hb.cell (p := ⟨g, 1, none⟩) HG.out).trans HC.out.2.1, (hb.cell (p := ⟨g, 2, none⟩) HG.out).trans HC.out.2.2⟩
    have HG : Hid (g < v2.heap.size) := hid (Nat.lt_of_lt_of_le HG.out hb.size)
    clear hb cc hlg
    generalize hk2 : numberL l2 = m2 at *
    obtain ⟨i2, b2⟩ := m2
    cases b2
    · have hr := hid (show parseV (bts s) = none by
        unfold parseV
        rw [hp.out]
        simp [threeV, hk0, hk1, hk2])
      obtain ⟨x0, x1, x2, x3, x4⟩ := O1.out.box.get5
      have sf : ∀ j, v2.frozen? ⟨w.heap.size, j, none⟩ = false := O1.out.soft
      have hlt := O1.out.box.1
      go_wp2_with fail
      refine body_name ?_
      intro w3 hw3
      have O3 : Own w.heap.size w3 w.heap.size zeroV.cells := by rw [hw3]; exact O1.out.set5 _ _ _ _ _
      have B3 : Below w.heap.size w w3 := by rw [hw3]; exact below_set5 HB.out (Nat.le_refl _) _ _ _ _ _
      clear hw3
      obtain ⟨k0, k1, k2, k3, k4⟩ := O3.box.get5
      refine bodyPost_ret (v := .tuple #[zeroV.val, .int .i64 5]) (by simp [results, Tryz.results87, go_sem, k0, k1, k2, k3, k4, zeroV]) rfl ?_
      rw [show parseV (bts s) = none from hr.out]
      exact ⟨rfl, B3⟩
    obtain ⟨y0, y1, y2⟩ := (⟨N2.out.box.2 0 _ rfl, N2.out.box.2 1 _ rfl, N2.out.box.2 2 _ rfl⟩ : v2.cell? ⟨gn, 0, none⟩ = some (.int .i64 i0) ∧ v2.cell? ⟨gn, 1, none⟩ = some (.int .i64 i1) ∧ v2.cell? ⟨gn, 2, none⟩ = some (.int .i64 0))
    have sf : ∀ j, v2.frozen? ⟨gn, j, none⟩ = false := N2.out.soft
    have hlt := N2.out.box.1
    go_wp2_with fail
    refine round_name ?_
    intro u3 hu
    have N3 : Hid (Own w.heap.size u3 gn [.int .i64 i0, .int .i64 i1, .int .i64 i2]) := hid (by rw [hu]; exact N2.out.put (j := 2) (by simp) (.int .i64 i2))
    have HB := hid (show Below w.heap.size w u3 by rw [hu]; exact below_put HB.out N2.out.low _)
    have O1 := hid (show Own w.heap.size u3 w.heap.size zeroV.cells by rw [hu]; exact O1.out.other hne1 _)
    have O2 := hid (show Own w.heap.size u3 (w.heap.size + 1) [.int .i64 0, .int .i64 0, .int .i64 0, .string pre, .string bld] by rw [hu]; exact O2.out.other hne2 _)
    have HC : Hid (u3.cell? ⟨g, 0, none⟩ = some (.string (strB l0)) ∧ u3.cell? ⟨g, 1, none⟩ = some (.string (strB l1)) ∧ u3.cell? ⟨g, 2, none⟩ = some (.string (strB l2))) := hid (by rw [hu]; exact ⟨(put_cell hne _).trans HC.out.1, (put_cell hne _).trans HC.out.2.1, (put_cell hne _).trans HC.out.2.2⟩)
    have HG : Hid (g < u3.heap.size) := hid (by rw [hu, World.size_setCell]; exact HG.out)
    clear hu y0 y1 y2 sf hlt
    rw [rounds_succ]
    go_wp2_with fail
    have hS : u3.drew.cell? ⟨gn, 0, none⟩ = some (.int .i64 i0) ∧ u3.drew.cell? ⟨gn, 1, none⟩ = some (.int .i64 i1) ∧ u3.drew.cell? ⟨gn, 2, none⟩ = some (.int .i64 i2) := ⟨N3.out.box.2 0 _ rfl, N3.out.box.2 1 _ rfl, N3.out.box.2 2 _ rfl⟩
    refine wp_planS (fun u => u.cell? ⟨gn, 0, none⟩ = some (.int .i64 i0) ∧ u.cell? ⟨gn, 1, none⟩ = some (.int .i64 i1) ∧ u.cell? ⟨gn, 2, none⟩ = some (.int .i64 i2)) (.call [0, 1, 2, 3, 4, 5, 6] 7 (.call [8] 9 (.call [10] 11 (.last [])))) (by first | assumption | skip) (by kernel_rfl) (by intro _ _ d _ _ h; cases d <;> exact h) (by kernel_rfl) ?_
    have iS : Nonempty (SW fun u => u.cell? ⟨gn, 0, none⟩ = some (.int .i64 i0) ∧ u.cell? ⟨gn, 1, none⟩ = some (.int .i64 i1) ∧ u.cell? ⟨gn, 2, none⟩ = some (.int .i64 i2)) := ⟨⟨_, hS⟩⟩
    have q0 := fun (z : SW fun u => u.cell? ⟨gn, 0, none⟩ = some (.int .i64 i0) ∧ u.cell? ⟨gn, 1, none⟩ = some (.int .i64 i1) ∧ u.cell? ⟨gn, 2, none⟩ = some (.int .i64 i2)) => z.ok.1
    have q1 := fun (z : SW fun u => u.cell? ⟨gn, 0, none⟩ = some (.int .i64 i0) ∧ u.cell? ⟨gn, 1, none⟩ = some (.int .i64 i1) ∧ u.cell? ⟨gn, 2, none⟩ = some (.int .i64 i2)) => z.ok.2.1
    have q2 := fun (z : SW fun u => u.cell? ⟨gn, 0, none⟩ = some (.int .i64 i0) ∧ u.cell? ⟨gn, 1, none⟩ = some (.int .i64 i1) ∧ u.cell? ⟨gn, 2, none⟩ = some (.int .i64 i2)) => z.ok.2.2
    obtain ⟨x0, x1, x2, x3, x4⟩ := O2.out.box.get5
    have sf : ∀ j, u3.frozen? ⟨w.heap.size + 1, j, none⟩ = false := O2.out.soft
    have hlt := O2.out.box.1
    have hnn : gn ≠ w.heap.size + 1 := fun e => hne2 e.symm
    refine plan_call ?_
    simp only [pickOps, List.map_cons, List.map_nil, List.getElem?_toArray, List.getElem?_cons_zero, List.getElem?_cons_succ, Option.getD_some]
    repeat go_big_quiet_step (fail)
    refine wpQuiet_nil ?_
    go_wp2_with fail
    refine plan_onS ⟨(put_cell hnn _).trans hS.1, (put_cell hnn _).trans hS.2.1, (put_cell hnn _).trans hS.2.2⟩ ?_
    refine plan_call ?_
    simp only [pickOps, List.map_cons, List.map_nil, List.getElem?_toArray, List.getElem?_cons_zero, List.getElem?_cons_succ, Option.getD_some]
    repeat go_big_quiet_step (fail)
    refine wpQuiet_nil ?_
    go_wp2_with fail
    refine plan_onS ⟨(put_cell hnn _).trans ((put_cell hnn _).trans hS.1), (put_cell hnn _).trans ((put_cell hnn _).trans hS.2.1), (put_cell hnn _).trans ((put_cell hnn _).trans hS.2.2)⟩ ?_
    refine plan_call ?_
    simp only [pickOps, List.map_cons, List.map_nil, List.getElem?_toArray, List.getElem?_cons_zero, List.getElem?_cons_succ, Option.getD_some]
    repeat go_big_quiet_step (fail)
    refine wpQuiet_nil ?_
    go_wp2_with fail
    refine plan_onS ⟨(put_cell hnn _).trans ((put_cell hnn _).trans ((put_cell hnn _).trans hS.1)), (put_cell hnn _).trans ((put_cell hnn _).trans ((put_cell hnn _).trans hS.2.1)), (put_cell hnn _).trans ((put_cell hnn _).trans ((put_cell hnn _).trans hS.2.2))⟩ ?_
    refine plan_last ?_
    simp only [pickOps, List.map_cons, List.map_nil, List.getElem?_toArray, List.getElem?_cons_zero, List.getElem?_cons_succ, Option.getD_some]
    repeat go_big_quiet_step (fail)
    refine wpQuiet_nil ?_
    go_wp2_with fail
    refine calls_name ?_
    intro u4 hu
    have HB := hid (show Below w.heap.size w u4 by rw [hu]; exact (below_put (below_put (below_put HB.out (by omega) _) (by omega) _) (by omega) _).drew)
    have O1 := hid (show Own w.heap.size u4 w.heap.size zeroV.cells by rw [hu]; exact ((((O1.out.other (k := w.heap.size + 1) (j := 0) (by omega) _).other (j := 1) (by omega) _).other (j := 2) (by omega) _).drewN 1))
    have O2 := hid (show Own w.heap.size u4 (w.heap.size + 1) [.int .i64 i0, .int .i64 i1, .int .i64 i2, .string pre, .string bld] by rw [hu]; exact ((((O2.out.put (j := 0) (by simp) _).put (j := 1) (by simp) _).put (j := 2) (by simp) _).drewN 1))
    clear hu hS iS q0 q1 q2 x0 x1 x2 x3 x4 sf hlt hnn
    have HT := hid (show threeV [l0, l1, l2] (bts pre) (bts bld) = some ⟨i0, i1, i2, pre, bld⟩ by simp [threeV, hk0, hk1, hk2, strB_bts])
    have HP : Hid (parseV (bts s) = if mayV ⟨i0, i1, i2, pre, bld⟩ && decide (printV ⟨i0, i1, i2, pre, bld⟩ = bts s) then some ⟨i0, i1, i2, pre, bld⟩ else none) := hid (by
      unfold parseV
      rw [hp.out, ← hr1, ← hb2, ← hb1, HT.out])
    have hfit : (⟨i0, i1, i2, pre, bld⟩ : Ver).fit := ⟨by simp only; omega, by simp only; omega⟩
    have HF := hid hfit
    refine (may_any ⟨i0, i1, i2, pre, bld⟩ u4 hfit).mono ?_
    rintro _ u5 ⟨rfl, hb⟩
    have O1 := hid (O1.out.below hb)
    have O2 := hid (O2.out.below hb)
    have HB := hid (below_tr HB.out hb)
    clear hb hfit
    obtain ⟨x0, x1, x2, x3, x4⟩ := O1.out.box.get5
    obtain ⟨y0, y1, y2, y3, y4⟩ := O2.out.box.get5
    have sf : ∀ j, u5.frozen? ⟨w.heap.size, j, none⟩ = false := O1.out.soft
    have hlt := O1.out.box.1
    cases hm : mayV ⟨i0, i1, i2, pre, bld⟩
    · have hr := hid (show parseV (bts s) = none by rw [HP.out, hm]; rfl)
      go_wp2_with fail
      refine body_name ?_
      intro w3 hw3
      have O3 : Own w.heap.size w3 w.heap.size zeroV.cells := by rw [hw3]; exact O1.out.set5 _ _ _ _ _
      have B3 : Below w.heap.size w w3 := by rw [hw3]; exact below_set5 HB.out (Nat.le_refl _) _ _ _ _ _
      clear hw3
      obtain ⟨k0, k1, k2, k3, k4⟩ := O3.box.get5
      refine bodyPost_ret (v := .tuple #[zeroV.val, .int .i64 5]) (by simp [results, Tryz.results87, go_sem, k0, k1, k2, k3, k4, zeroV]) rfl ?_
      rw [show parseV (bts s) = none from hr.out]
      exact ⟨rfl, B3⟩
    go_wp2_with fail
    refine (vprint_any ⟨i0, i1, i2, pre, bld⟩ u5 (HL.out.below HB.out) HF.out).mono ?_
    rintro _ u6 ⟨tx, rfl, htx0, hb⟩
    have htx := hid htx0
    clear htx0
    have O1 := hid (O1.out.below hb)
    have O2 := hid (O2.out.below hb)
    have HB := hid (below_tr HB.out hb)
    clear hb x0 x1 x2 x3 x4 y0 y1 y2 y3 y4 sf hlt
    obtain ⟨x0, x1, x2, x3, x4⟩ := O1.out.box.get5
    obtain ⟨y0, y1, y2, y3, y4⟩ := O2.out.box.get5
    have sf : ∀ j, u6.frozen? ⟨w.heap.size, j, none⟩ = false := O1.out.soft
    have hlt := O1.out.box.1
    by_cases he : tx = s
    · subst he
      have hr := hid (show parseV (bts tx) = some ⟨i0, i1, i2, pre, bld⟩ by rw [HP.out, hm, htx.out]; simp)
      go_wp2_with fail
      refine body_name ?_
      intro w3 hw3
      have O3 : Own w.heap.size w3 w.heap.size [.int .i64 i0, .int .i64 i1, .int .i64 i2, .string pre, .string bld] := by rw [hw3]; exact O1.out.set5 _ _ _ _ _
      have B3 : Below w.heap.size w w3 := by rw [hw3]; exact below_set5 HB.out (Nat.le_refl _) _ _ _ _ _
      clear hw3
      obtain ⟨k0, k1, k2, k3, k4⟩ := O3.box.get5
      refine bodyPost_ret (v := .tuple #[.agg #[.int .i64 i0, .int .i64 i1, .int .i64 i2, .string pre, .string bld], .int .i64 0]) (by simp [results, Tryz.results87, go_sem, k0, k1, k2, k3, k4]) rfl ?_
      rw [hr.out]
      exact ⟨rfl, B3⟩
    · have hr := hid (show parseV (bts s) = none by
        rw [HP.out, hm]
        simp only [Bool.true_and]
        rw [if_neg (by rw [decide_eq_true_eq, ← htx.out]; exact fun e => he (bts_inj e))])
      have hl : ¬ tx.toList = s.toList := fun e => he (bts_inj e)
      have hl2 : (tx.toList == s.toList) = false := by simpa using hl
      go_wp2_with fail
      refine body_name ?_
      intro w3 hw3
      have O3 : Own w.heap.size w3 w.heap.size zeroV.cells := by rw [hw3]; exact O1.out.set5 _ _ _ _ _
      have B3 : Below w.heap.size w w3 := by rw [hw3]; exact below_set5 HB.out (Nat.le_refl _) _ _ _ _ _
      clear hw3
      obtain ⟨k0, k1, k2, k3, k4⟩ := O3.box.get5
      refine bodyPost_ret (v := .tuple #[zeroV.val, .int .i64 5]) (by simp [results, Tryz.results87, go_sem, k0, k1, k2, k3, k4, zeroV]) rfl ?_
      rw [show parseV (bts s) = none from hr.out]
      exact ⟨rfl, B3⟩
  · have h3' : (n : Int) ≠ 3 := by omega
    have hr := hid (show parseV (bts s) = none by
      unfold parseV
      rw [hp.out]
      match ls, hn with
      | [], _ => rfl
      | [_], _ => rfl
      | [_, _], _ => rfl
      | [_, _, _], k => exact absurd k.symm h3
      | _ :: _ :: _ :: _ :: _, _ => rfl)
    obtain ⟨x0, x1, x2, x3, x4⟩ := O1.out.box.get5
    have sf : ∀ j, w2.frozen? ⟨w.heap.size, j, none⟩ = false := O1.out.soft
    have hlt := O1.out.box.1
    go_wp2_with fail
    refine body_name ?_
    intro w3 hw3
    have O3 : Own w.heap.size w3 w.heap.size zeroV.cells := by rw [hw3]; exact O1.out.set5 _ _ _ _ _
    have B3 : Below w.heap.size w w3 := by rw [hw3]; exact below_set5 HB.out (Nat.le_refl _) _ _ _ _ _
    clear hw3
    obtain ⟨k0, k1, k2, k3, k4⟩ := O3.box.get5
    refine bodyPost_ret (v := .tuple #[zeroV.val, .int .i64 5]) (by simp [results, Tryz.results87, go_sem, k0, k1, k2, k3, k4, zeroV]) rfl ?_
    rw [hr.out]
    exact ⟨rfl, B3⟩
end Go.Proofs.YtplmlahpmnjneaaGreatDoor
namespace Go.Proofs.YtplmlahpmnjneaaGreatDoor
open Go.RowKit Go.Lib
open Rw
set_option linter.unusedVariables false
set_option linter.unusedSimpArgs false
theorem occ_get {s sub : List UInt8} {i k : Nat} (h : Lib.occAt s sub i = true) (hk : k < sub.length) : s[i + k]? = sub[k]? := by
  unfold Lib.occAt at h
  rw [List.isPrefixOf_iff_prefix] at h
  obtain ⟨u, hu⟩ := h
  rw [← List.getElem?_drop, ← hu, List.getElem?_append_left hk]
def Good (sep p : List UInt8) : Prop := (∀ r j, j < p.length → Lib.occAt (p ++ sep ++ r) sep j = false) ∧ ∀ j, j ≤ p.length → Lib.occAt p sep j = false
theorem good_one {a : UInt8} {p : List UInt8} (h : a ∉ p) : Good [a] p := by
  refine ⟨fun r j hj => ?_, fun j hj => ?_⟩
  · rw [Bool.eq_false_iff]; intro ho
    have := occ_get (k := 0) ho (by simp)
    rw [Nat.add_zero, List.append_assoc, List.getElem?_append_left hj] at this
    exact h (List.mem_of_getElem? (by simpa using this))
  · rw [Bool.eq_false_iff]; intro ho
    have := occ_get (k := 0) ho (by simp)
    rw [Nat.add_zero] at this
    exact h (List.mem_of_getElem? (by simpa using this))
def NoPair (a b : UInt8) (p : List UInt8) : Prop := ∀ j : Nat, p[j]? = some a → p[j + 1]? ≠ some b
theorem good_two {a b : UInt8} {t p : List UInt8} (hab : a ≠ b) (h : NoPair a b p) : Good (a :: b :: t) p := by
  refine ⟨fun r j hj => ?_, fun j hj => ?_⟩
  · rw [Bool.eq_false_iff]; intro ho
    have h0 := occ_get (k := 0) ho (by simp)
    have h1 := occ_get (k := 1) ho (by simp)
    rw [Nat.add_zero, List.append_assoc, List.getElem?_append_left hj] at h0
    by_cases h2 : j + 1 < p.length
    · rw [List.append_assoc, List.getElem?_append_left h2] at h1
      exact h j (by simpa using h0) (by simpa using h1)
    · rw [List.append_assoc, List.getElem?_append_right (by omega)] at h1
      have : j + 1 - p.length = 0 := by omega
      rw [this] at h1
      simp at h1
      exact hab h1
  · rw [Bool.eq_false_iff]; intro ho
    have h0 := occ_get (k := 0) ho (by simp)
    have h1 := occ_get (k := 1) ho (by simp)
    rw [Nat.add_zero] at h0
    exact h j (by simpa using h0) (by simpa using h1)
theorem occ_at (p sep r : List UInt8) : Lib.occAt (p ++ sep ++ r) sep p.length = true := by
  unfold Lib.occAt
  rw [List.isPrefixOf_iff_prefix, List.append_assoc, List.drop_left]
  exact ⟨r, rfl⟩
theorem index_at {sep p : List UInt8} (h : Good sep p) (r : List UInt8) : Lib.index (p ++ sep ++ r) sep = p.length :=
  Lib.index_first (by simp only [List.length_append]; omega) (occ_at p sep r) (fun j hj => h.1 r j hj)
theorem index_no {sep p : List UInt8} (h : Good sep p) : Lib.index p sep = -1 := Lib.index_none h.2
def joinS (sep : List UInt8) : List (List UInt8) → List UInt8
  | [] => []
  | [p] => p
  | p :: q :: r => p ++ sep ++ joinS sep (q :: r)
theorem drop_mid (p sep r : List UInt8) : (p ++ sep ++ r).drop (p.length + sep.length) = r := by
  rw [← List.length_append, List.drop_left]
theorem count_join {sep : List UInt8} (hs : sep ≠ []) : ∀ (ps : List (List UInt8)), ps ≠ [] → (∀ p ∈ ps, Good sep p) → ∀ fuel, ps.length ≤ fuel → Lib.countFrom sep fuel (joinS sep ps) = ps.length - 1
  | [], h, _, _, _ => absurd rfl h
  | [p], _, hg, fuel + 1, _ => by
    rw [joinS, Lib.countFrom, index_no (hg p (by simp))]; rfl
  | p :: q :: r, _, hg, fuel + 1, hf => by
    have hi : Lib.index (p ++ sep ++ joinS sep (q :: r)) sep = p.length := index_at (hg p (by simp)) _
    rw [joinS, Lib.countFrom, hi]
    have : ((p.length : Int) == -1) = false := by simp
    rw [this, Int.toNat_natCast, drop_mid, count_join hs (q :: r) (by simp) (fun x hx => hg x (List.mem_cons_of_mem _ hx)) fuel (by simpa using hf)]
    simp only [List.length_cons, Bool.false_eq_true, if_false]; omega
theorem splitK_join {sep : List UInt8} : ∀ (ps : List (List UInt8)), ps ≠ [] → (∀ p ∈ ps, Good sep p) → Lib.splitK sep 0 (ps.length - 1) (joinS sep ps) = ps
  | [], h, _ => absurd rfl h
  | [p], _, _ => rfl
  | p :: q :: r, _, hg => by
    have hi : Lib.index (p ++ sep ++ joinS sep (q :: r)) sep = p.length := index_at (hg p (by simp)) _
    have e : (p :: q :: r).length - 1 = ((q :: r).length - 1) + 1 := by simp
    rw [e, joinS, Lib.splitK, hi]
    have : ((p.length : Int) == -1) = false := by simp
    rw [this, Int.toNat_natCast, drop_mid, Nat.add_zero, splitK_join (q :: r) (by simp) (fun x hx => hg x (List.mem_cons_of_mem _ hx))]
    simp only [Bool.false_eq_true, if_false, List.append_assoc, List.take_left]
theorem joinS_len {sep : List UInt8} (hs : sep ≠ []) : ∀ (ps : List (List UInt8)), ps.length ≤ (joinS sep ps).length + 1
  | [] => by simp
  | [p] => by simp
  | p :: q :: r => by
    have := joinS_len hs (q :: r)
    have h0 : 0 < sep.length := List.length_pos_iff.2 hs
    simp only [joinS, List.length_append, List.length_cons] at this ⊢
    omega
theorem split_join {sep : List UInt8} (hs : sep ≠ []) {ps : List (List UInt8)} (hp : ps ≠ []) (hg : ∀ p ∈ ps, Good sep p) : Lib.split (joinS sep ps) sep = ps := by
  unfold Lib.split Lib.count
  rw [count_join hs ps hp hg _ (joinS_len hs ps), splitK_join ps hp hg]
theorem cut_at {sep p : List UInt8} (h : Good sep p) (r : List UInt8) : Lib.cut (p ++ sep ++ r) sep = (p, r, true) := by
  unfold Lib.cut
  rw [index_at h, if_pos (by omega), Int.toNat_natCast, drop_mid, List.append_assoc, List.take_left]
theorem cut_no {sep p : List UInt8} (h : Good sep p) : Lib.cut p sep = (p, [], false) := by
  unfold Lib.cut
  rw [index_no h, if_neg (by omega)]
def loT (c : CutL) : List UInt8 := if c.en = 0 then 62 :: ((if c.aft then [] else [61]) ++ printV c.v) else []
def hiT (c : CutL) : List UInt8 := if c.en = 0 then 60 :: ((if c.aft then [61] else []) ++ printV c.v) else []
def spanT (s : SpanL) : List UInt8 := if s.fr.en ≠ 0 ∧ s.til.en ≠ 0 then [42] else loT s.fr ++ ((if s.fr.en = 0 ∧ s.til.en = 0 then [32] else []) ++ hiT s.til)
def orB : List UInt8 := [32, 111, 114, 32]
def slB : List UInt8 := [32, 47, 32]
def rowT (l : List SpanL) : List UInt8 := if l.isEmpty then [45] else joinS orB (l.map spanT)
def setT (l m : List SpanL) : List UInt8 := if mayS l m then rowT l ++ (if m.isEmpty then [] else slB ++ rowT m) else []
def fullS : SpanL := ⟨firstC, lastC⟩
def wordP (a : SpanL) (w : List UInt8) : Option SpanL :=
  if w = [42] then some a else
  if !Lib.hasPrefix w [62] && !Lib.hasPrefix w [60] then none else
  match parseV (Lib.trimPrefix (w.drop 1) [61]) with
  | none => none
  | some v => some (if Lib.hasPrefix w [62] then ⟨⟨0, v, !Lib.hasPrefix (w.drop 1) [61]⟩, a.til⟩ else ⟨a.fr, ⟨0, v, Lib.hasPrefix (w.drop 1) [61]⟩⟩)
def wordsP (a : SpanL) : List (List UInt8) → Option SpanL
  | [] => some a
  | w :: r => match wordP a w with
    | none => none
    | some b => wordsP b r
def spanP (x : List UInt8) : Option SpanL := wordsP fullS (Lib.split x [32])
def spansP : List (List UInt8) → Option (List SpanL)
  | [] => some []
  | x :: r => match spanP x with
    | none => none
    | some s => match spansP r with
      | none => none
      | some l => some (s :: l)
def rowP (s : List UInt8) : Option (List SpanL) := if s = [45] then some [] else spansP (Lib.split s orB)
def rawP (s : List UInt8) : Option (List SpanL × List SpanL) :=
  match rowP (Lib.cut s slB).1 with
  | none => none
  | some l => if (Lib.cut s slB).2.2 then (match rowP (Lib.cut s slB).2.1 with | none => none | some m => some (l, m)) else some (l, [])
def setP (s : List UInt8) : Option (List SpanL × List SpanL) :=
  match rawP s with
  | none => none
  | some x => if mayS x.1 x.2 && decide (setT x.1 x.2 = s) then some x else none
theorem eqVer_eq {a b : Ver} (h : eqVer a b = true) : a = b := by
  simp only [eqVer, Bool.and_eq_true, beq_iff_eq] at h
  exact ver_ext h.1.1.1.1 h.1.1.1.2 h.1.1.2 h.1.2 h.2
theorem cut_end {c : CutL} (h : mayC c = true) (h0 : c.en ≠ 0) : c = firstC ∨ c = lastC := by
  rw [mayC, if_neg h0] at h
  simp only [Bool.and_eq_true, Bool.or_eq_true, decide_eq_true_eq, Bool.not_eq_true'] at h
  obtain ⟨⟨h1, h2⟩, h3⟩ := h
  obtain ⟨e, v, a⟩ := c
  simp only at h1 h2 h3
  have := eqVer_eq h2
  subst this h3
  rcases h1 with h1 | h1
  · subst h1; exact .inl rfl
  · subst h1; exact .inr rfl
theorem cut_mid {c : CutL} (h : mayC c = true) (h0 : c.en = 0) : mayV c.v = true ∧ bts c.v.bld = [] := by
  rw [mayC_zero h0, Bool.and_eq_true] at h
  exact ⟨h.1, List.isEmpty_iff.1 h.2⟩
theorem span_ends {s : SpanL} (h : lt s.fr s.til) : (s.fr.en ≠ 0 → s.fr = firstC) ∧ (s.til.en ≠ 0 → s.til = lastC) := by
  obtain ⟨h1, h2, h3⟩ := h
  rw [cmpC_of h1 h2] at h3
  refine ⟨fun h0 => ?_, fun h0 => ?_⟩
  · rcases cut_end h1 h0 with e | e
    · exact e
    · rw [e] at h3
      rw [if_pos (.inl (by decide))] at h3
      by_cases h4 : s.til.en = 0
      · rw [h4] at h3; exact absurd h3 (by decide)
      · rcases cut_end h2 h4 with e2 | e2 <;> rw [e2] at h3 <;> exact absurd h3 (by decide)
  · rcases cut_end h2 h0 with e | e
    · rw [e] at h3
      rw [if_pos (.inr (by decide))] at h3
      by_cases h4 : s.fr.en = 0
      · rw [h4] at h3; exact absurd h3 (by decide)
      · rcases cut_end h1 h4 with e2 | e2 <;> rw [e2] at h3 <;> exact absurd h3 (by decide)
    · exact e
def verCh (b : UInt8) : Prop := b.toNat = 43 ∨ b.toNat = 45 ∨ b.toNat = 46 ∨ tagCh b = true ∨ isDig b = true
theorem print_mem {v : Ver} (h : mayV v = true) {b : UInt8} (hb : b ∈ printV v) : verCh b := by
  obtain ⟨-, -, -, hp, hd⟩ := mayV_parts h
  have hn : ∀ n : Int, b ∈ numT n → verCh b := fun n k => .inr (.inr (.inr (.inr (List.all_eq_true.1 (dec_dig n.toNat) b k))))
  have ht : (b.toNat = 46 ∨ tagCh b = true) → verCh b := fun k => k.elim (fun k => .inr (.inr (.inl k))) (fun k => .inr (.inr (.inr (.inl k))))
  rw [printV, if_pos h] at hb
  simp only [numsT, List.mem_append, List.mem_cons] at hb
  rcases hb with (k | k | k | k | k) | k | k
  · exact hn _ k
  · subst k; exact .inr (.inr (.inl rfl))
  · exact hn _ k
  · subst k; exact .inr (.inr (.inl rfl))
  · exact hn _ k
  · unfold preT at k
    split at k
    · cases k
    · rcases List.mem_cons.1 k with k | k
      · subst k; exact .inr (.inl rfl)
      · exact ht (pre_mem hp k)
  · unfold bldT at k
    split at k
    · cases k
    · rcases List.mem_cons.1 k with k | k
      · subst k; exact .inl rfl
      · exact ht (bld_mem hd k)
theorem ver_not {b : UInt8} (h : b.toNat = 32 ∨ b.toNat = 42 ∨ b.toNat = 47 ∨ b.toNat = 60 ∨ b.toNat = 61 ∨ b.toNat = 62) : ¬ verCh b := by
  simp only [verCh, tagCh, isDig, decide_eq_true_eq]; omega
theorem print_no {v : Ver} (h : mayV v = true) {b : UInt8} (hb : b.toNat = 32 ∨ b.toNat = 42 ∨ b.toNat = 47 ∨ b.toNat = 60 ∨ b.toNat = 61 ∨ b.toNat = 62) : b ∉ printV v := fun k => ver_not hb (print_mem h k)
theorem pre61 {v : Ver} (h : mayV v = true) : Lib.hasPrefix (printV v) [61] = false := by
  have h1 := print_no h (b := 61) (by decide)
  cases hd : printV v with
  | nil => rfl
  | cons c r =>
    rw [hd] at h1
    have : ((61 : UInt8) == c) = false := by
      rw [beq_eq_false_iff_ne]
      exact fun e => h1 (by rw [e]; simp)
    simp [Lib.hasPrefix, List.isPrefixOf, this]
theorem trim61 {v : Ver} (h : mayV v = true) : Lib.trimPrefix (printV v) [61] = printV v := by rw [Lib.trimPrefix, pre61 h]; rfl
theorem word_lo {a : SpanL} {c : CutL} (h : mayC c = true) (h0 : c.en = 0) : wordP a (loT c) = some ⟨c, a.til⟩ := by
  obtain ⟨hm, -⟩ := cut_mid h h0
  rw [loT, if_pos h0, wordP, if_neg (by intro e; have := congrArg List.head? e; simp at this)]
  have e1 : Lib.hasPrefix (62 :: ((if c.aft then [] else [61]) ++ printV c.v)) [62] = true := rfl
  rw [e1]
  simp only [Bool.not_true, Bool.false_and, Bool.false_eq_true, if_false, if_true, List.drop_succ_cons, List.drop_zero]
  obtain ⟨en, v, aft⟩ := c
  simp only at h0 hm
  subst h0
  cases aft
  · have e2 : Lib.hasPrefix ([61] ++ printV v) [61] = true := rfl
    have e3 : Lib.trimPrefix ([61] ++ printV v) [61] = printV v := rfl
    simp only [Bool.false_eq_true, if_false, e2, e3, parseV_print hm, Bool.not_true]
  · simp only [if_true, List.nil_append, trim61 hm, pre61 hm, parseV_print hm, Bool.not_false]
theorem word_hi {a : SpanL} {c : CutL} (h : mayC c = true) (h0 : c.en = 0) : wordP a (hiT c) = some ⟨a.fr, c⟩ := by
  obtain ⟨hm, -⟩ := cut_mid h h0
  rw [hiT, if_pos h0, wordP, if_neg (by intro e; have := congrArg List.head? e; simp at this)]
  have e1 : Lib.hasPrefix (60 :: ((if c.aft then [61] else []) ++ printV c.v)) [60] = true := rfl
  have e0 : Lib.hasPrefix (60 :: ((if c.aft then [61] else []) ++ printV c.v)) [62] = false := rfl
  rw [e1, e0]
  simp only [Bool.not_true, Bool.and_false, Bool.false_eq_true, if_false, List.drop_succ_cons, List.drop_zero]
  obtain ⟨en, v, aft⟩ := c
  simp only at h0 hm
  subst h0
  cases aft
  · simp only [Bool.false_eq_true, if_false, List.nil_append, trim61 hm, pre61 hm, parseV_print hm]
  · have e2 : Lib.hasPrefix ([61] ++ printV v) [61] = true := rfl
    have e3 : Lib.trimPrefix ([61] ++ printV v) [61] = printV v := rfl
    simp only [if_true, e2, e3, parseV_print hm]
def spanW (s : SpanL) : List (List UInt8) := if s.fr.en ≠ 0 ∧ s.til.en ≠ 0 then [[42]] else (if s.fr.en = 0 then [loT s.fr] else []) ++ (if s.til.en = 0 then [hiT s.til] else [])
theorem spanW_ne (s : SpanL) : spanW s ≠ [] := by
  unfold spanW
  by_cases h1 : s.fr.en = 0 <;> by_cases h2 : s.til.en = 0 <;> simp [h1, h2]
theorem spanT_words (s : SpanL) : spanT s = joinS [32] (spanW s) := by
  unfold spanT spanW
  by_cases h1 : s.fr.en = 0 <;> by_cases h2 : s.til.en = 0 <;> simp [h1, h2, joinS, loT, hiT]
def wordCh (b : UInt8) : Prop := b.toNat = 42 ∨ b.toNat = 60 ∨ b.toNat = 61 ∨ b.toNat = 62 ∨ verCh b
theorem lo_mem {c : CutL} (h : mayC c = true) {b : UInt8} (hb : b ∈ loT c) : wordCh b := by
  unfold loT at hb
  split at hb
  · rename_i h0
    obtain ⟨hm, -⟩ := cut_mid h h0
    rcases List.mem_cons.1 hb with k | k
    · subst k; exact .inr (.inr (.inr (.inl rfl)))
    · rcases List.mem_append.1 k with k | k
      · split at k
        · cases k
        · simp at k; subst k; exact .inr (.inr (.inl rfl))
      · exact .inr (.inr (.inr (.inr (print_mem hm k))))
  · cases hb
theorem hi_mem {c : CutL} (h : mayC c = true) {b : UInt8} (hb : b ∈ hiT c) : wordCh b := by
  unfold hiT at hb
  split at hb
  · rename_i h0
    obtain ⟨hm, -⟩ := cut_mid h h0
    rcases List.mem_cons.1 hb with k | k
    · subst k; exact .inr (.inl rfl)
    · rcases List.mem_append.1 k with k | k
      · split at k
        · simp at k; subst k; exact .inr (.inr (.inl rfl))
        · cases k
      · exact .inr (.inr (.inr (.inr (print_mem hm k))))
  · cases hb
theorem word_mem {s : SpanL} (h : lt s.fr s.til) {w : List UInt8} (hw : w ∈ spanW s) {b : UInt8} (hb : b ∈ w) : wordCh b := by
  unfold spanW at hw
  split at hw
  · simp at hw; subst hw; simp at hb; subst hb; exact .inl rfl
  · rcases List.mem_append.1 hw with k | k
    · split at k
      · simp at k; subst k; exact lo_mem h.1 hb
      · cases k
    · split at k
      · simp at k; subst k; exact hi_mem h.2.1 hb
      · cases k
theorem word_no {b : UInt8} (h : b.toNat = 32 ∨ b.toNat = 47) : ¬ wordCh b := by
  rintro (k | k | k | k | k)
  · omega
  · omega
  · omega
  · omega
  · exact ver_not (by omega) k
theorem spanP_back {s : SpanL} (h : lt s.fr s.til) : spanP (spanT s) = some s := by
  have hs : Lib.split (spanT s) [32] = spanW s := by
    rw [spanT_words]
    exact split_join (by simp) (spanW_ne s) (fun p hp => good_one (fun k => word_no (b := 32) (by decide) (word_mem h hp k)))
  rw [spanP, hs]
  obtain ⟨e1, e2⟩ := span_ends h
  unfold spanW
  obtain ⟨f, t⟩ := s
  simp only at e1 e2 ⊢
  by_cases h1 : f.en = 0 <;> by_cases h2 : t.en = 0
  · simp [h1, h2, wordsP, word_lo h.1 h1, word_hi h.2.1 h2]
  · have := e2 h2; subst this
    simp [h1, h2, wordsP, word_lo h.1 h1, fullS]
  · have := e1 h1; subst this
    simp [h1, h2, wordsP, word_hi h.2.1 h2, fullS]
  · have := e1 h1; have k := e2 h2; subst this k
    simp [h1, h2, wordsP, wordP, fullS]
theorem spansP_back : ∀ {l : List SpanL}, (∀ s ∈ l, lt s.fr s.til) → spansP (l.map spanT) = some l
  | [], _ => rfl
  | s :: l, h => by
    rw [List.map_cons, spansP, spanP_back (h s (by simp))]
    simp only [spansP_back (fun x hx => h x (List.mem_cons_of_mem _ hx))]
def After32 (q : UInt8 → Prop) (p : List UInt8) : Prop := ∀ j : Nat, p[j]? = some 32 → ∃ b, p[j + 1]? = some b ∧ q b
theorem After32.pair {q : UInt8 → Prop} {p : List UInt8} (h : After32 q p) {b : UInt8} (hb : ¬ q b) : NoPair 32 b p := fun j hj k => by
  obtain ⟨c, hc, hq⟩ := h j hj
  rw [hc] at k
  injection k with k
  exact hb (k ▸ hq)
theorem After32.append {q : UInt8 → Prop} {p r : List UInt8} (h : After32 q p) (k : After32 q r) : After32 q (p ++ r) := fun j hj => by
  by_cases hlt : j < p.length
  · rw [List.getElem?_append_left hlt] at hj
    obtain ⟨b, hb, hq⟩ := h j hj
    have : j + 1 < p.length := by
      rcases Nat.lt_or_ge (j + 1) p.length with h1 | h1
      · exact h1
      · rw [List.getElem?_eq_none h1] at hb; cases hb
    exact ⟨b, by rw [List.getElem?_append_left this]; exact hb, hq⟩
  · rw [List.getElem?_append_right (by omega)] at hj
    obtain ⟨b, hb, hq⟩ := k _ hj
    refine ⟨b, ?_, hq⟩
    rw [List.getElem?_append_right (by omega)]
    rw [← hb]; congr 1; omega
theorem After32.none {q : UInt8 → Prop} {p : List UInt8} (h : 32 ∉ p) : After32 q p := fun j hj => absurd (List.mem_of_getElem? hj) h
theorem After32.mid {q : UInt8 → Prop} {b : UInt8} {r : List UInt8} (hb : q b) (hr : After32 q (b :: r)) : After32 q (32 :: b :: r) := fun j hj => by
  cases j with
  | zero => exact ⟨b, rfl, hb⟩
  | succ j => exact hr j hj
theorem After32.mono {q q' : UInt8 → Prop} {p : List UInt8} (h : After32 q p) (hq : ∀ b, q b → q' b) : After32 q' p := fun j hj => let ⟨b, h1, h2⟩ := h j hj; ⟨b, h1, hq b h2⟩
theorem spanT_after {s : SpanL} (h : lt s.fr s.til) : After32 (fun b => b = 60) (spanT s) := by
  have h1 : (32 : UInt8) ∉ loT s.fr := fun k => word_no (b := 32) (by decide) (lo_mem h.1 k)
  have h2 : (32 : UInt8) ∉ hiT s.til := fun k => word_no (b := 32) (by decide) (hi_mem h.2.1 k)
  unfold spanT
  split
  · exact .none (by simp)
  · refine (After32.none h1).append ?_
    split
    · rename_i h0
      have h3 := h2
      unfold hiT at h3 ⊢
      rw [if_pos h0.2] at h3 ⊢
      exact .mid rfl (.none h3)
    · exact .none h2
theorem spanT_head (s : SpanL) : ∃ b r, spanT s = b :: r ∧ (b.toNat = 42 ∨ b.toNat = 60 ∨ b.toNat = 62) := by
  unfold spanT
  by_cases h1 : s.fr.en = 0 <;> by_cases h2 : s.til.en = 0 <;> simp [h1, h2, loT, hiT]
def rowCh (b : UInt8) : Prop := b.toNat = 42 ∨ b.toNat = 60 ∨ b.toNat = 62 ∨ b.toNat = 111
theorem joinOr_after : ∀ {l : List SpanL}, (∀ s ∈ l, lt s.fr s.til) → After32 rowCh (joinS orB (l.map spanT)) ∧ (l ≠ [] → ∃ b r, joinS orB (l.map spanT) = b :: r ∧ (b.toNat = 42 ∨ b.toNat = 60 ∨ b.toNat = 62))
  | [], _ => ⟨.none (by simp [joinS]), fun h => absurd rfl h⟩
  | [s], h => ⟨(spanT_after (h s (by simp))).mono (fun b hb => by subst hb; exact .inr (.inl rfl)), fun _ => spanT_head s⟩
  | s :: t :: l, h => by
    obtain ⟨h1, h2⟩ := joinOr_after (l := t :: l) (fun x hx => h x (List.mem_cons_of_mem _ hx))
    obtain ⟨b, r, e, hb⟩ := h2 (by simp)
    obtain ⟨b0, r0, e0, hb0⟩ := spanT_head s
    have hs := (spanT_after (h s (by simp))).mono (q' := rowCh) (fun b hb => by subst hb; exact .inr (.inl rfl))
    have hj : joinS orB ((s :: t :: l).map spanT) = spanT s ++ orB ++ joinS orB ((t :: l).map spanT) := rfl
    refine ⟨?_, fun _ => ⟨b0, r0 ++ orB ++ joinS orB ((t :: l).map spanT), by rw [hj, e0]; rfl, hb0⟩⟩
    rw [hj, List.append_assoc]
    refine hs.append ?_
    rw [e, orB]
    rw [e] at h1
    refine .mid (.inr (.inr (.inr rfl))) ?_
    refine (After32.none (p := [111, 114]) (by simp)).append (r := 32 :: b :: r) ?_
    exact .mid (by rcases hb with k | k | k; exact .inl k; exact .inr (.inl k); exact .inr (.inr (.inl k))) h1
theorem rowT_ne45 {l : List SpanL} (h : ∀ s ∈ l, lt s.fr s.til) (hl : l ≠ []) : rowT l ≠ [45] := by
  obtain ⟨b, r, e, hb⟩ := (joinOr_after h).2 hl
  rw [rowT, if_neg (by simpa using hl), e]
  intro k
  injection k with k
  subst k
  simp at hb
theorem rowP_back {l : List SpanL} (h : ∀ s ∈ l, lt s.fr s.til) : rowP (rowT l) = some l := by
  by_cases hl : l = []
  · subst hl; rfl
  · rw [rowP, if_neg (rowT_ne45 h hl), rowT, if_neg (by simpa using hl)]
    rw [split_join (by simp [orB]) (by simpa using hl) (fun p hp => ?_), spansP_back h]
    obtain ⟨s, hs, rfl⟩ := List.mem_map.1 hp
    exact good_two (by decide) ((spanT_after (h s hs)).pair (by decide))
theorem rowT_good {l : List SpanL} (h : ∀ s ∈ l, lt s.fr s.til) : Good slB (rowT l) := by
  refine good_two (by decide) (After32.pair (q := rowCh) ?_ (by simp [rowCh]))
  unfold rowT
  split
  · exact .none (by simp)
  · exact (joinOr_after h).1
theorem ValS.spans {l m : List SpanL} (h : ValS l m) : (∀ s ∈ l, lt s.fr s.til) ∧ ∀ s ∈ m, lt s.fr s.til := ⟨fun s hs => h.rel.span s hs, fun s hs => h.pre.span s hs⟩
theorem rawP_back {l m : List SpanL} (h : ValS l m) : rawP (setT l m) = some (l, m) := by
  obtain ⟨h1, h2⟩ := h.spans
  rw [setT, h.ok, if_pos rfl, rawP]
  by_cases hm : m = []
  · subst hm
    rw [List.isEmpty_nil, if_pos rfl, List.append_nil, cut_no (rowT_good h1), rowP_back h1]; rfl
  · rw [if_neg (by simpa using hm), ← List.append_assoc, cut_at (rowT_good h1), rowP_back h1]
    simp only [if_true, rowP_back h2]
theorem setP_back {l m : List SpanL} (h : ValS l m) : setP (setT l m) = some (l, m) := by
  rw [setP, rawP_back h]
  simp [h.ok]
end Go.Proofs.YtplmlahpmnjneaaGreatDoor
namespace Go.Proofs.YtplmlahpmnjneaaGreatDoor
open Go.RowKit Go.Lib
open Rw
set_option linter.unusedVariables false
set_option linter.unusedSimpArgs false
theorem rowT_ne {l : List SpanL} (h : ∀ s ∈ l, lt s.fr s.til) : rowT l ≠ [] := by
  by_cases hl : l = []
  · subst hl; simp [rowT]
  · obtain ⟨b, r, e, hb⟩ := (joinOr_after h).2 hl
    rw [rowT, if_neg (by simpa using hl), e]; simp
theorem setT_ne {l m : List SpanL} (h : ValS l m) : setT l m ≠ [] := by
  rw [setT, h.ok, if_pos rfl]
  have := rowT_ne h.spans.1
  cases hr : rowT l with
  | nil => exact absurd hr this
  | cons a b => simp
theorem printV_len {v : Ver} (h : mayV v = true) : (bts v.pre).length ≤ (printV v).length ∧ (bts v.bld).length ≤ (printV v).length := by
  rw [printV, if_pos h]
  simp only [List.length_append]
  have h1 : (bts v.pre).length ≤ (preT v).length := by
    unfold preT
    split
    · rename_i e; rw [List.isEmpty_iff.1 e]; simp
    · simp
  have h2 : (bts v.bld).length ≤ (bldT v).length := by
    unfold bldT
    split
    · rename_i e; rw [List.isEmpty_iff.1 e]; simp
    · simp
  omega
theorem parseV_fit {l : List UInt8} {v : Ver} (h : parseV l = some v) (hl : l.length ≤ 4398046511104) : v.fit := by
  obtain ⟨h1, h2⟩ := parseV_sound h
  have := printV_len h1
  rw [h2, bts_len, bts_len] at this
  exact ⟨by omega, by omega⟩
end Go.Proofs.YtplmlahpmnjneaaGreatDoor
