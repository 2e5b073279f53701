/- A page: a strings.Builder that lies in a struct of its own: its methods' contracts over the page's block. -/
import Derived.Test.YtjceaniffooohaaGreatDoorBc
import Derived.Lib.OthersKept
import Derived.Lib.FrozenHead
import Derived.Lib.UnsafeStr
import Derived.Shelf.RegionOpenPlain
namespace Go.Proofs.YtjceaniffooohaaGreatDoor
open Go.RowKit Go.Lib
set_option linter.unusedVariables false
set_option linter.unusedSimpArgs false

section
variable {P : Program} {w : World} {base n : Nat} {v : Value} {xs : List Value}
/-- an append of a text undoes no draw -/
theorem appS_drawn {t u ty e : TypeId} {i : TypeInfo} (ht : P.underlying t = some (.slice e)) (hu : P.underlying u = some .string) (hi : P.info? e = some i) (hz : i.zero = some (.int .u8 0)) (hsize : i.size = 1) (hby : i.bytes = 1)
    (hown : w.ownsRowF base e 1 v n xs) {s : ByteArray} (hb : n + s.size ≤ 140737488355328) {v' : Value} {w' : World} (hr : (Builtin.append_ #[t, u] ty #[v, .string s]).run P w = .ok v' w') : w.drawn ≤ w'.drawn := by
  rcases hown.2 with ⟨rfl, rfl⟩ | ⟨g, cap, cur, fz, rfl, hbg, hg, hfz, hnc, hcm, hcs, htake⟩
  · rcases Nat.eq_zero_or_pos s.size with h0 | h0
    · simp [Builtin.append_, run_underlying ht, run_underlying hu, sizeOf, typeInfo, hi, Builtin.lenOf, Builtin.firstCells, h0] at hr
      rw [← hr.2]; exact Nat.le_refl _
    · rw [run_append_nil_string (P := P) w t u ty e i _ ht hu hi hz s h0 (by omega) (by rw [hby]; omega)] at hr
      injection hr with _ hr
      rw [← hr]; exact Nat.le_succ _
  · by_cases hroom : n + s.size ≤ cap
    · rw [Lib.run_append_room_stringF (P := P) w t u ty e i ht hu hi hsize g n cap cur fz hg (by simpa using hfz) s hroom (by omega)] at hr
      injection hr with _ hr
      rw [← hr]; exact Nat.le_refl _
    · rw [Lib.run_append_grow_string (P := P) w t u ty e i (.int .u8 0) ht hu hi hz ⟨g, 0, none⟩ n cap xs (by rw [hsize]; simpa using hown.1) (hown.cells (g := g) rfl) s (by omega) (by omega) (by rw [hby]; exact growslice_fits (by omega) (by omega))] at hr
      injection hr with _ hr
      rw [← hr]; exact Nat.le_succ _
theorem wpList_appS {t u e : TypeId} {i : TypeInfo} (ht : P.underlying t = some (.slice e)) (hu : P.underlying u = some .string) (hi : P.info? e = some i) (hz : i.zero = some (.int .u8 0)) (hsize : i.size = 1) (hby : i.bytes = 1)
    {ops : Array Oper} {rest : List Oper} {o : Oper} {a : Act} {Q : Exit → Act → World → Prop} (hgd : o.guard = none) (sl x : Operand) (ho : o.op = .call { callee := .builtin .append, args := #[sl, x], argTypes := #[t, u] })
    (hs : a.eval sl = v) (hown : w.ownsRowF base e 1 v n xs) (s : ByteArray) (hx : a.eval x = .string s) (hb : n + s.size ≤ 140737488355328) (hbase : base ≤ w.heap.size)
    (h : ∀ v' w', w'.ownsRowF base e 1 v' (n + s.size) (xs ++ Lib.strCells s) → w.grownBy w' v.ownBlock → w.drawn ≤ w'.drawn → wpList P ops Q rest (a.put o.dst v') w') : wpList P ops Q (o :: rest) a w := by
  obtain ⟨v', w', hrun, h1, h2, -⟩ := Lib.run_append_own_stringF (P := P) w base t u o.type e i ht hu hi hz hsize hby v n xs hown s (by unfold maxLen; omega) hb hbase
  have h3 := appS_drawn ht hu hi hz hsize hby hown hb hrun
  refine wpList_plain hgd fun K hK => ?_
  unfold Oper.wp execOp
  simp only [ho, resolve, invoke, builtin, Sem.run_bind, Sem.run_pure, Result.andThen_ok, List.map_toArray, List.map_cons, List.map_nil, hs, hx, hrun]
  exact hK _ _ (h v' w' h1 h2 h3)
end
/-- the page's block b holds these bytes -/
def PageAt (b : Nat) (l : List UInt8) (w : World) : Prop := Lib.IsBuilderF 91 5 b b (Lib.byteCells l) w
/-- what a writer of page b turns: the page, rows of bytes -/
structure Wrote (b : Nat) (w w' : World) : Prop where
  below : Below b w w'
  kept : Lib.OthersKept 5 (some b) w w'
theorem Wrote.refl (b : Nat) (w : World) : Wrote b w w := ⟨Below.refl _ _, Lib.OthersKept.refl _ _ _⟩
theorem Wrote.trans {b : Nat} {w w1 w2 : World} (h : Wrote b w w1) (k : Wrote b w1 w2) : Wrote b w w2 := ⟨h.below.trans k.below, h.kept.trans k.kept⟩

theorem pg_lies : liesAt Tryz.prog Tryz.prog.depth 91 (2 / Tryz.prog.cellsOf 91) 0 89 1 = true := by kernel_rfl
theorem pg_size : (Tryz.prog.info? 89).map (·.size) = some 2 := by kernel_rfl
theorem pg_byte : (Tryz.prog.info? 5).map (fun i => (i.zero, i.size, i.bytes)) = some (some (.int .u8 0), 1, 1) := by kernel_rfl
theorem pg_cells8 : Tryz.prog.cellsOf 5 = 1 := by kernel_rfl

set_option maxHeartbeats 1000000 in
set_option maxRecDepth 100000 in
theorem pcheck_fresh (b : Nat) (w : World) (h0 : w.cell? ⟨b, 0, none⟩ = some (.pointer none)) (hsh : w.shape? b = some (91, 2)) (hfz : w.frozen? ⟨b, 0, none⟩ = false) :
    Calls Tryz.prog 121 #[.pointer (some ⟨b, 0, none⟩)] w fun e w' => e = .returned (.tuple #[]) ∧ w' = w.setCell ⟨b, 0, none⟩ (.pointer (some ⟨b, 0, none⟩)) := by
  obtain ⟨j, hj, hjs⟩ := Option.map_eq_some_iff.1 pg_size
  go_enter Tryz.func121, Tryz.ntmps121
  go_wp2
  rw [Lib.run_to_unsafe w ⟨b, 0, none⟩ Tryz.underlying86 Tryz.underlying173 hj (by rw [hjs]; decide) hsh (Nat.zero_lt_succ 1)]
  simp only [Result.andThen]
  rw [Oper.upon_value]
  go_wp2
  rw [run_callFunc_extern Tryz.func173 (by kernel_rfl) (by kernel_rfl) (by kernel_rfl) (e := Extern.AbiNoEscape.same) (by kernel_rfl)]
  rw [Lib.run_noEscape]
  simp only [Result.andThen]
  rw [Oper.upon_value]
  go_wp2
  rw [Lib.run_from_unsafe w ⟨b, 0, none⟩ Tryz.underlying173 Tryz.underlying86 hj hsh pg_lies]
  simp only [Result.andThen]
  rw [Oper.upon_value]
  go_wp2
  go_end0
  exact ⟨rfl, rfl⟩
set_option maxHeartbeats 1000000 in
set_option maxRecDepth 100000 in
theorem pcheck_used (b : Nat) (w : World) (h0 : w.cell? ⟨b, 0, none⟩ = some (.pointer (some ⟨b, 0, none⟩))) :
    Calls Tryz.prog 121 #[.pointer (some ⟨b, 0, none⟩)] w fun e w' => e = .returned (.tuple #[]) ∧ w' = w := by
  obtain ⟨j, hj, _⟩ := Option.map_eq_some_iff.1 pg_size
  go_enter Tryz.func121, Tryz.ntmps121
  go_wp2
  rw [Lib.run_neq_ptr_same w _ Tryz.underlying86 hj]
  go_wp2
  go_end0
  exact ⟨rfl, rfl⟩
theorem pcheck_any (b : Nat) (bs : List Value) (w : World) (h : Lib.IsBuilderF 91 5 b b bs w) :
    Calls Tryz.prog 121 #[.pointer (some ⟨b, 0, none⟩)] w fun e w' => e = .returned (.tuple #[]) ∧ (Lib.BuilderAtF 91 5 b b (.pointer (some ⟨b, 0, none⟩)) bs w' ∧ Wrote b w w') := by
  rcases h with h | h
  · refine (pcheck_fresh b w h.cell0 h.shape h.frozen0).mono ?_
    rintro e w' ⟨rfl, rfl⟩
    exact ⟨rfl, h.used _, (Below.refl b w).setCell (p := ⟨b, 0, none⟩) (Nat.le_refl _) _, (Lib.OthersKept.refl _ _ w).setCell ⟨b, 0, none⟩ rfl _⟩
  · refine (pcheck_used b w h.cell0).mono ?_
    rintro e w' ⟨rfl, rfl⟩
    exact ⟨rfl, h, Wrote.refl b _⟩
set_option maxHeartbeats 2000000 in
set_option maxRecDepth 100000 in
/-- the page takes a text on -/
theorem pwrite_any (b : Nat) (l : List UInt8) (s : ByteArray) (w : World) (h : PageAt b l w) (hlen : l.length + s.size ≤ 140737488355328) :
    Calls Tryz.prog 72 #[.pointer (some ⟨b, 0, none⟩), .string s] w fun e w' => e = .returned (.tuple #[.int .i64 s.size, .nilIface]) ∧ PageAt b (l ++ bts s) w' ∧ Wrote b w w' := by
  obtain ⟨i0, hi, hz0, hz1, hz2⟩ := info_parts pg_byte
  have hlb : (Lib.byteCells l).length = l.length := Lib.byteCells_length l
  go_enter Tryz.func72, Tryz.ntmps72
  go_wp2_with (go_at_call 121; refine (pcheck_any b _ _ h).mono ?_)
  rintro e w1 ⟨rfl, h1, hw1⟩
  obtain ⟨hB, v, hbk, hown, hne⟩ := h1
  have c0 : w1.cell? ⟨b, 0, none⟩ = some (.pointer (some ⟨b, 0, none⟩)) := by rw [Lib.cell_of_heap hbk]; rfl
  have c1 : w1.cell? ⟨b, 1, none⟩ = some v := by rw [Lib.cell_of_heap hbk]; rfl
  have hlt : b < w1.heap.size := by
    rcases Nat.lt_or_ge b w1.heap.size with h' | h'
    · exact h'
    · simp [Array.getElem?_eq_none h'] at hbk
  go_wp2_with (at_builtin; refine wpList_appS (base := b) Tryz.underlying87 Tryz.underlying9 hi hz0 hz1 hz2 rfl (.tmp 12) (.tmp 13) rfl rfl hown s rfl ?c4 ?c5 ?_)
  case c4 => omega
  case c5 => omega
  intro v' w2 hown' hgrow hdr
  have hb2 : w2.heap[b]? = some (.cells #[.pointer (some ⟨b, 0, none⟩), v] 91 (0, 0)) := by
    rw [hgrow.block b hlt (fun e => hne e.symm)]
    exact hbk
  have d0 : w2.cell? ⟨b, 0, none⟩ = some (.pointer (some ⟨b, 0, none⟩)) := by rw [Lib.cell_of_heap hb2]; rfl
  have d1 : w2.cell? ⟨b, 1, none⟩ = some v := by rw [Lib.cell_of_heap hb2]; rfl
  have f1 : w2.frozen? ⟨b, 1, none⟩ = false := Lib.frozen_of_heap hb2 1
  obtain ⟨ao, n', cap, rfl⟩ : ∃ ao n' cap, v' = .slice ao n' cap := by
    rcases hown'.2 with ⟨hv, _⟩ | ⟨g, cap, cur, fz, hv, _⟩
    · exact ⟨_, _, _, hv⟩
    · exact ⟨_, _, _, hv⟩
  have e1 : Lib.byteCells l ++ Lib.strCells s = Lib.byteCells (l ++ bts s) := by rw [Lib.byteCells_append, Lib.strCells_eq, bts, bts_data]
  have hfin := hid (Lib.BuilderAtF.put (T := 91) (e := 5) (Nat.le_refl b) hb2 (bs' := Lib.byteCells (l ++ bts s)) (by rw [← e1, List.length_append, Lib.strCells_length, Lib.byteCells_length]; exact hown') (by decide))
  have hw2 : Hid (Wrote b w w2) := hid (hw1.trans ⟨(Below.refl _ _).grown hgrow hdr (by omega) (fun k hk => (hown.lt k hk).1), (Lib.OthersKept.refl _ _ _).grown hgrow (Lib.ownsRowF_kind hown)⟩)
  clear hown hown' hgrow hbk h c0 c1 hw1 hlb e1
  go_wp2
  go_ret2
  exact ⟨rfl, .inr hfin.out, hw2.out.below.setCell (p := ⟨b, 1, none⟩) (Nat.le_refl _) _, hw2.out.kept.setCell ⟨b, 1, none⟩ rfl _⟩
theorem below_freeze {B : Nat} {a w : World} (h : Below B a w) {p : Addr} (hp : B ≤ p.block) (n : Nat) : Below B a (w.freeze p n) := ⟨Lib.below_freeze h.toBelow hp n, by unfold World.freeze; split <;> exact h.drawn⟩
set_option maxHeartbeats 1000000 in
set_option maxRecDepth 100000 in
theorem pstring_full (b : Nat) (l : List UInt8) (w : World) (h : PageAt b l w) (h0 : l ≠ []) :
    Calls Tryz.prog 73 #[.pointer (some ⟨b, 0, none⟩)] w fun e w' => e = .returned (.string ⟨l.toArray⟩) ∧ Below b w w' := by
  obtain ⟨p, hA⟩ : ∃ p, Lib.BuilderAtF 91 5 b b p (Lib.byteCells l) w := by
    rcases h with h | h
    · exact ⟨_, h⟩
    · exact ⟨_, h⟩
  obtain ⟨hB, v, hbk, hown, hne⟩ := hA
  have hl0 : l.length ≠ 0 := by simpa using h0
  rw [Lib.byteCells_length] at hown
  obtain ⟨g, cap, cur, fz, rfl, hbg, hg, hfz, hnc, hcm, hcs, htake⟩ : ∃ g cap cur fz, v = .slice (some ⟨g, 0, none⟩) l.length cap ∧ b ≤ g ∧ w.heap[g]? = some (.cells cur 5 fz) ∧ fz.2 ≤ l.length * 1 ∧ l.length ≤ cap ∧ cap ≤ maxLen ∧ cur.size = cap * 1 ∧ cur.toList.take (l.length * 1) = Lib.byteCells l := by
    rcases hown.2 with ⟨_, hz⟩ | ⟨g, cap, cur, fz, hv, r⟩
    · exact absurd hz hl0
    · exact ⟨g, cap, cur, fz, hv, r⟩
  have hcell : ∀ (j : Nat) (x : UInt8), l[j]? = some x → w.drew.cell? ((⟨g, 0, none⟩ : Addr).add j) = some (.int .u8 x.toNat) := fun j x hx => hown.cells (g := g) rfl j (.int .u8 x.toNat) (by simp [Lib.byteCells, hx])
  have hshp : w.drew.shape? g = some (5, cur.size) := by have hg' : w.drew.heap[g]? = some (.cells cur 5 fz) := hg; simp [World.shape?, hg']
  have c1 : w.drew.cell? ⟨b, 1, none⟩ = some (.slice (some ⟨g, 0, none⟩) l.length cap) := by
    have : w.drew.heap[b]? = some (.cells #[p, .slice (some ⟨g, 0, none⟩) l.length cap] 91 (0, 0)) := hbk
    rw [Lib.cell_of_heap this]; rfl
  have hSD : (Builtin.unsafeSliceData_ #[87] 142 #[.slice (some ⟨g, 0, none⟩) l.length cap]).run Tryz.prog w.drew = .ok (.pointer (some ⟨g, 0, none⟩)) w.drew :=
    Lib.run_unsafeSliceData_row _ _ _ _ _ _ (by omega)
  have hUS : (Builtin.unsafeString_ #[142, 3] 9 #[.pointer (some ⟨g, 0, none⟩), .int .i64 l.length]).run Tryz.prog w.drew = .ok (.string ⟨l.toArray⟩) (w.drew.freeze ⟨g, 0, none⟩ l.length) := by
    refine Lib.run_unsafeString_row w.drew 142 3 9 5 Tryz.underlying142 pg_cells8 g cur.size hshp l h0 (by omega) (by unfold maxLen at hcm; omega) hcell
  clear hown hbk hne htake h hcell hshp
  have mixed : Tryz.prog.follows .mixedOrders = true := by kernel_rfl
  go_enter Tryz.func73, Tryz.ntmps73
  go_wp2
  go_region_o
  all_goals (go_wp2; go_ret; exact ⟨rfl, below_freeze (Below.refl b w).drew (p := ⟨g, 0, none⟩) hbg _⟩)
end Go.Proofs.YtjceaniffooohaaGreatDoor
