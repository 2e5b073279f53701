/- Parts 28 of the proofs. -/
import Derived.Test.YtlmkglgjdmjnkaaGreatDoorQ27
namespace Go.Proofs.YtlmkglgjdmjnkaaGreatDoor
open Go.RowKit Go.Lib
open Rw
set_option linter.unusedVariables false
set_option linter.unusedSimpArgs false
def hasL (l : List LockL) (x : LockL) : Bool := l.any fun y => eqLk y x
def mv1 (x : LockL) : MoveL := ⟨1, x⟩
def mv2 (x : LockL) : MoveL := ⟨2, x⟩
def mv3 (x : LockL) : MoveL := ⟨3, x⟩
theorem packG_in : ∀ (i : Nat) (us : List UnitP) (zs : List Int), ∀ n ∈ packG i us zs, ∃ u ∈ us, u.name = n
  | _, [], _ => fun n h => by simp [packG] at h
  | _, _ :: _, [] => fun n h => by simp [packG] at h
  | i, y :: us, z :: zs => fun n h => by
    rw [packG, List.mem_append] at h
    rcases h with h | h
    · split at h
      · exact ⟨y, List.mem_cons_self, (List.mem_singleton.1 h).symm⟩
      · cases h
    · obtain ⟨u, hu, e⟩ := packG_in (i + 1) us zs n h
      exact ⟨u, List.mem_cons_of_mem _ hu, e⟩
theorem bts_back (x : ByteArray) : (⟨(bts x).toArray⟩ : ByteArray) = x := by
  rw [bts, bts_data]
theorem sortB_in {o : List ByteArray} {s : ByteArray} (h : s ∈ sortB o) : s ∈ o := by
  unfold sortB at h
  obtain ⟨l, hl, rfl⟩ := List.mem_map.1 h
  obtain ⟨x, hx, rfl⟩ := List.mem_map.1 (List.mem_mergeSort.1 hl)
  rw [bts_back]
  exact hx
theorem nameX_len (names : List ByteArray) (R : Nat → Nat → Bool) (k : Nat) : ∀ l : List Nat, (l.flatMap (nameX names R k)).length ≤ l.length
  | [] => Nat.le_refl _
  | j :: l => by
    rw [List.flatMap_cons, List.length_append, List.length_cons]
    have := nameX_len names R k l
    have h : (nameX names R k j).length ≤ 1 := by unfold nameX; split <;> simp
    omega
theorem groupsL_len (names : List ByteArray) (n : Nat) (R : Nat → Nat → Bool) : ∀ (f : Nat) (o : Nat → Bool), ((groupsL names n R f o).flatMap id).length ≤ f * n
  | 0, _ => by simp [groupsL]
  | f + 1, o => by
    cases h : nextX names n R o with
    | none => rw [groupsL_none h]; simp
    | some k =>
      rw [groupsL_some h, List.flatMap_cons, List.length_append]
      have h1 := groupsL_len names n R f (goneX R k n o)
      have h2 : (id (sortB ((List.range' 0 n).flatMap (nameX names R k)))).length ≤ n := by
        rw [id, sortB_len]
        have := nameX_len names R k (List.range' 0 n)
        rwa [List.length_range'] at this
      rw [Nat.succ_mul]
      omega
theorem groupsL_in (names : List ByteArray) (n : Nat) (R : Nat → Nat → Bool) : ∀ (f : Nat) (o : Nat → Bool), ∀ s ∈ (groupsL names n R f o).flatMap id, s ∈ names ∨ s = ⟨#[]⟩
  | 0, _ => fun s h => by simp [groupsL] at h
  | f + 1, o => fun s h => by
    cases hk : nextX names n R o with
    | none => rw [groupsL_none hk] at h; simp at h
    | some k =>
      rw [groupsL_some hk, List.flatMap_cons, List.mem_append] at h
      rcases h with h | h
      · have h := sortB_in (show s ∈ sortB _ from h)
        obtain ⟨j, -, hj⟩ := List.mem_flatMap.1 h
        unfold nameX at hj
        split at hj
        · rw [List.mem_singleton.1 hj]
          rw [List.getD_eq_getElem?_getD]
          cases e : names[j]? with
          | none => exact .inr rfl
          | some v => exact .inl (List.mem_of_getElem? e)
        · cases hj
      · exact groupsL_in names n R f _ s h
def catP (us : List UnitP) (zs : List Int) : List ByteArray := (groupsP us zs).flatMap id
theorem catP_len (us : List UnitP) (zs : List Int) : (catP us zs).length ≤ 3000 := by
  unfold catP groupsP
  split
  · rename_i h
    unfold holdsC mayCh at h
    have hm : mayWd us = true := by
      simp only [Bool.and_eq_true] at h
      grind
    have h1 := (mayWd_len hm).2
    have h2 := packG_len 0 us zs
    have h3 := groupsL_len (packG 0 us zs) (packG 0 us zs).length (fun a b => reachB (packG 0 us zs).length (needB us zs (packG 0 us zs)) a b) ((packG 0 us zs).length + 1) (fun _ => false)
    have h4 : ((packG 0 us zs).length + 1) * (packG 0 us zs).length ≤ 49 * 48 := Nat.mul_le_mul (by omega) (by omega)
    omega
  · simp
theorem catP_in {us : List UnitP} {zs : List Int} {s : ByteArray} (h : s ∈ catP us zs) : (∃ u ∈ us, u.name = s) ∨ s = ⟨#[]⟩ := by
  unfold catP groupsP at h
  split at h
  · rcases groupsL_in _ _ _ _ _ s h with h | h
    · exact .inl (packG_in _ _ _ _ h)
    · exact .inr h
  · simp at h
def placeP (l : List ByteArray) : (ByteArray → Option Int) × Nat := l.foldl putO (fun _ => none, 0)
theorem placeP_snoc (l : List ByteArray) (x : ByteArray) : placeP (l ++ [x]) = putO (placeP l) x := by unfold placeP; rw [List.foldl_append]; rfl
theorem place_bd : ∀ (l : List ByteArray) (s : (ByteArray → Option Int) × Nat), (∀ n v, s.1 n = some v → 0 ≤ v ∧ v < (s.2 + 1 : Nat)) → ∀ n v, (l.foldl putO s).1 n = some v → 0 ≤ v ∧ v < (s.2 + 1 + l.length : Nat)
  | [], s, h => fun n v e => h n v e
  | x :: l, s, h => fun n v e => by
    have h1 := place_bd l (putO s x) (fun n v e => by
      unfold putO at e ⊢
      dsimp only at e ⊢
      split at e
      · injection e with e
        subst e
        split <;> omega
      · have := h n v e
        split <;> omega) n v e
    have h2 : (putO s x).2 ≤ s.2 + 1 := by unfold putO; dsimp only; split <;> omega
    rw [List.length_cons]
    omega
theorem placeP_bd {l : List ByteArray} (h : l.length ≤ 3000) (n : ByteArray) (v : Int) (e : (placeP l).1 n = some v) : 0 ≤ v ∧ v < 1000000 := by
  have := place_bd l (fun _ => none, 0) (fun n v e => by cases e) n v e
  dsimp only at this
  omega
section
variable {B g D : Nat} {w w8 w9 : World} {S : Nat → Bool} {vo vp v' : Value} {fs : List MP} {ps ps' : List MQ} {A : Option Addr} {row : Option Nat}
theorem putD_cell {w : World} {D : Nat} {o : Obj} {p : Addr} {v : Value} (hD : w.heap[D]? = some (.deferred (some []))) (h : w.cell? p = some v) : (w.putObj D o).cell? p = some v := by
  have hne : p.block ≠ D := fun e => by
    obtain ⟨o2, h1, h2⟩ := cells_of_cell h
    rw [e, hD] at h1
    injection h1 with h1
    rw [← h1] at h2
    cases h2
  exact (World.cell?_of_block (World.putObj_heap_other hne)).trans h
theorem MvS.ended (h : MvS B g w S vo vp fs ps []) (hg : w.grownBy w8 row) (hr : ∀ k, row = some k → vp.ownBlock = some k) (hp : ps'.Perm ps) (h2 : w9.ownsRow B 35 10 v' (fs.length + ps'.length) (fs.flatMap mvC ++ ps'.flatMap mqC)) (h4 : w8.grownBy w9 vo.ownBlock) (hD : w9.heap[D]? = some (.deferred (some []))) : ∃ A' c', v' = .slice A' (fs ++ ps'.map (·.1)).length c' ∧ Moves (w9.putObj D (.deferred none)) A' (fs ++ ps'.map (·.1)) := by
  have hfl : ps'.flatMap mqC = (ps'.map (·.1)).flatMap mvC := by rw [List.flatMap_map]
  have ho : OwnL 35 10 mvC w9 B v' (fs ++ ps'.map (·.1)) := by
    unfold OwnL
    rw [List.length_append, List.length_map, List.flatMap_append, ← hfl]
    exact h2
  obtain ⟨A', c', hv, hl, -, -⟩ := OwnL.lies (fun p : MP => (rfl : (mvC p).length = 10)) ho
  have hm : Mono (maskB w S) (w9.putObj D (.deferred none)) := by
    refine ⟨by rw [maskB_size]; simp only [World.putObj, Array.size_setIfInBounds]; exact Nat.le_trans hg.size h4.size, fun p v e => ?_⟩
    obtain ⟨h5, h6⟩ := maskB_cell.1 e
    have hlt := cell_lt h6
    have h7 : w8.cell? p = some v := (World.cell?_of_block (hg.block p.block hlt fun e => by
      rw [h.sp _ (hr _ e.symm)] at h5; cases h5)).trans h6
    have h8 : w9.cell? p = some v := (World.cell?_of_block (h4.block p.block (cell_lt h7) fun e => by
      rw [h.so _ e.symm] at h5; cases h5)).trans h7
    exact putD_cell hD h8
  refine ⟨A', c', hv, hl.mono ⟨by simp only [World.putObj, Array.size_setIfInBounds]; exact Nat.le_refl _, fun p v e => putD_cell hD e⟩, fun x hx => ?_⟩
  rcases List.mem_append.1 hx with hx | hx
  · exact MvSub.mono _ _ _ hm (h.f x hx)
  · obtain ⟨y, hy, rfl⟩ := List.mem_map.1 hx
    exact MvSub.mono _ _ _ hm (h.p y (hp.mem_iff.1 hy))
end
theorem MapI.obj {w : World} {b n k : Nat} {m : ByteArray → Option Int} (h : MapI w b n m k) : ∃ o : Obj, w.heap[b]? = some o ∧ o.isCells = false := by
  obtain ⟨D, ⟨es, clock, hb, -⟩, -⟩ := h
  exact ⟨_, hb, rfl⟩
def MovesK (w : World) (us : List UnitP) (zs : List Int) (old now : List LockL) (e : Ending) (w' : World) : Prop :=
  ∃ (A : Option Addr) (c : Nat) (fs ds : List MP) (ps : List MQ), e = .returned (.slice A ((fs ++ ds) ++ (insM (placeP (catP us zs)).1 ps).map (·.1)).length c) ∧ Moves w' A ((fs ++ ds) ++ (insM (placeP (catP us zs)).1 ps).map (·.1)) ∧
    fs.map (·.1) = (now.filter fun x => !hasL old x).map mv1 ∧ ds.map (·.1) = (old.reverse.filter fun x => !hasL now x).map mv2 ∧ ps.map (·.1.1) = (now.filter fun x => !hasL old x).map mv3 ∧ KB w.heap.size w w'
theorem back_map (old : List LP) : ((List.finRange old.length).reverse.map fun k => old[k].1) = (old.map (·.1)).reverse := by
  rw [List.map_reverse]
  congr 1
  apply List.ext_getElem
  · simp
  · intro i h1 h2
    simp
end Go.Proofs.YtlmkglgjdmjnkaaGreatDoor
