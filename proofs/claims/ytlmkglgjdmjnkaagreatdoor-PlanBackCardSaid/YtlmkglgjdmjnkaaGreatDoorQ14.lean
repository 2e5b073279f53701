/- Parts 14 of the proofs. -/
import Derived.Test.YtlmkglgjdmjnkaaGreatDoorQ13
import Derived.Maps.OwnSet
import Derived.Maps.OwnOps
import Derived.Sort.KeysCollected
import Derived.Sort.MapsRangeIn
import Derived.StringKeys
import Derived.RangeFuncMany
import Derived.RangeFuncLeaves
import Derived.RangeFuncFrom
import Derived.RangeFuncWrites
import Derived.RangeFuncNested
import Derived.OwnWalkIn
import Derived.TacticsInMore
import Derived.RegionIn
import Derived.LoopNIn
import Derived.LoopIn
import Derived.Shelf.Abstract
import Derived.RangeFuncBox
import Derived.RangeFuncBound
import Derived.RangeFuncCalls
import Derived.Shelf.RegionOpen
import Derived.Test.YtlmkglgjdmjnkaaGreatDoorSort
import Derived.Test.YtlmkglgjdmjnkaaGreatDoorShelf
import Derived.Shelf.SlSortCmp.WholeK
import Derived.Shelf.SlSortCmp.NoneTotal
namespace Go.Proofs.YtlmkglgjdmjnkaaGreatDoor
open Go.RowKit Go.Lib
open Rw
set_option linter.unusedVariables false
set_option linter.unusedSimpArgs false
theorem Tryz.info33 : (Tryz.prog.info? 33).map (fun i => (i.zero, i.size, i.bytes)) = some (some (.agg #[.string ⟨#[]⟩, .int .i64 0, .int .i64 0, .int .i64 0, .string ⟨#[]⟩, .string ⟨#[]⟩, .string ⟨#[]⟩, .int .u64 0, .slice none 0 0]), 9, 120) := by kernel_rfl
theorem EKlocks : EK Tryz.prog 24 33 9 120 := .mk' _ Tryz.underlying24 Tryz.info33 rfl (by omega)
structure RowLk (w0 w : World) (v : Value) (ps : List LP) : Prop where
  own : OwnL 33 9 lkC w w0.heap.size v ps
  sub : ∀ p ∈ ps, LkSub w0 p
theorem RowLk.nil {w0 w : World} : RowLk w0 w (.slice none 0 0) [] := ⟨OwnL.nil, fun _ h => by cases h⟩
theorem RowLk.keep {w0 w w' : World} {v : Value} {ps : List LP} (h : RowLk w0 w v ps) (hk : ∀ k, v.ownBlock = some k → w'.heap[k]? = w.heap[k]?) : RowLk w0 w' v ps := ⟨own_keep h.own hk, h.sub⟩
theorem RowLk.lt {w0 w : World} {v : Value} {ps : List LP} (h : RowLk w0 w v ps) : ∀ k, v.ownBlock = some k → w0.heap.size ≤ k ∧ k < w.heap.size := fun k hk => World.ownsRow.lt h.own k hk
theorem RowLk.kb {w0 w w' : World} {v : Value} {ps : List LP} (h : RowLk w0 w v ps) (hb : KB w.heap.size w w') : RowLk w0 w' v ps := h.keep fun k hk => hb.block k (h.lt k hk).2
theorem RowLk.grown {w0 w w' : World} {v : Value} {ps : List LP} {row : Option Nat} (h : RowLk w0 w v ps) (hg : w.grownBy w' row) (hr : ∀ k, v.ownBlock = some k → row ≠ some k) : RowLk w0 w' v ps := h.keep fun k hk => hg.block k (h.lt k hk).2 (fun e => hr k hk e.symm)
theorem RowLk.locks {w0 w : World} {v : Value} {ps : List LP} (h : RowLk w0 w v ps) (hb : KB w0.heap.size w0 w) : ∃ A c, v = .slice A ps.length c ∧ ps.length ≤ c ∧ Locks w A ps := by
  obtain ⟨A, c, hv, hl, -, hc⟩ := OwnL.lies lk_len h.own
  exact ⟨A, c, hv, hc, hl, fun p hp => LkSub.mono _ _ _ (Mono.kb hb) (h.sub p hp)⟩
theorem lks_one (l : List LP) : ∀ u ∈ l.flatMap lkC, u.oneCell' = true := flat_oneQ lk_one l
theorem own_lowB {w : World} {B B' size n : Nat} {e : TypeId} {v : Value} {xs : List Value} (h : w.ownsRow B e size v n xs) (hb : B' ≤ B) : w.ownsRow B' e size v n xs := by
  obtain ⟨h0, h | ⟨g, cap, cur, h1, h2, h3⟩⟩ := h
  · exact ⟨h0, .inl h⟩
  · exact ⟨h0, .inr ⟨g, cap, cur, h1, Nat.le_trans hb h2, h3⟩⟩
def apartV (v v' : Value) : Prop := ∀ k, v.ownBlock = some k → v'.ownBlock ≠ some k
theorem apartV.symm {v v' : Value} (h : apartV v v') : apartV v' v := fun k h1 h2 => h k h2 h1
def tlL (A : Option Addr) (k c : Nat) : Option Addr := if c = k then A else A.map (·.add (k * 9))
theorem Tryz.elem24 : Tryz.prog.underlying 24 = some (.slice (Tryz.prog.elem 24)) := by kernel_rfl
theorem Tryz.sizeE24 (u : World) : (sizeOf (Tryz.prog.elem 24)).run Tryz.prog u = .ok 9 u := by kernel_rfl
theorem sll_tail (A : Option Addr) (n c k : Nat) (hk : k ≤ n) (u : World) : (Instr.slice 24 (.slice A n c) (some (.int .i64 (k:Int))) none none).run Tryz.prog u = .ok (.slice (tlL A k c) (n - k) (c - k)) u := by
  rw [run_slice_l (h0 := by omega) (h1 := by omega) (ht := Tryz.elem24), Tryz.sizeE24]
  simp only [Result.andThen, sliced, Int.toNat_natCast, tlL]
theorem sll_tailAt (A : Option Addr) (n c k : Nat) (hk : k ≤ n) (u : World) : (Instr.sliceAt 24 (.slice A n c) (some (.int .i64 (k:Int))) none none).run Tryz.prog u = .ok (.slice (tlL A k c) (n - k) (c - k)) u := by
  rw [run_sliceAt_slice (h := Tryz.elem24), sll_tail _ _ _ _ hk]
theorem lies_take {w : World} {A : Option Addr} {l : List LP} (h : Lies 9 lkC w A l) (k : Nat) : Lies 9 lkC w A (l.take k) := by
  rcases h with h | ⟨b, off, h1, h2, h3⟩
  · exact .inl (by rw [h]; simp)
  · refine .inr ⟨b, off, h1, h2, fun i hi j v hv => ?_⟩
    have hi' : i < l.length := by rw [List.length_take] at hi; omega
    rw [List.getElem_take] at hv
    exact h3 i hi' j v hv
theorem lies_drop {w : World} {A : Option Addr} {l : List LP} (h : Lies 9 lkC w A l) (c k : Nat) (hk : k ≤ l.length) (hc : l.length ≤ c) : Lies 9 lkC w (tlL A k c) (l.drop k) := by
  rcases h with h | ⟨b, off, rfl, h2, h3⟩
  · exact .inl (by rw [h]; simp)
  · by_cases hk2 : k = l.length
    · exact .inl (by rw [hk2]; simp)
    · refine .inr ⟨b, off + k * 9, by unfold tlL; rw [if_neg (by omega)]; simp [Addr.add], h2, fun i hi j v hv => ?_⟩
      have hi' : k + i < l.length := by rw [List.length_drop] at hi; omega
      rw [List.getElem_drop] at hv
      have := h3 (k + i) hi' j v hv
      rw [show off + k * 9 + i * 9 + j = off + (k + i) * 9 + j by omega]
      exact this
theorem Locks.take {w : World} {A : Option Addr} {l : List LP} (h : Locks w A l) (k : Nat) : Locks w A (l.take k) := ⟨lies_take h.row k, fun p hp => h.sub p (List.mem_of_mem_take hp)⟩
theorem Locks.drop {w : World} {A : Option Addr} {l : List LP} (h : Locks w A l) (c k : Nat) (hk : k ≤ l.length) (hc : l.length ≤ c) : Locks w (tlL A k c) (l.drop k) := ⟨lies_drop h.row c k hk hc, fun p hp => h.sub p (List.mem_of_mem_drop hp)⟩
theorem src_lk {w : World} {A : Option Addr} {l : List LP} (h : Lies 9 lkC w A l) : SrcOf w A l.length 9 (l.flatMap lkC) := lies_src lk_len (by decide) h
theorem src_drop {w : World} {A : Option Addr} {l : List LP} (h : Lies 9 lkC w A l) {c k : Nat} (hk : k ≤ l.length) (hc : l.length ≤ c) : SrcOf w (tlL A k c) (l.length - k) 9 ((l.drop k).flatMap lkC) := by
  have := src_lk (lies_drop h c k hk hc)
  rwa [List.length_drop] at this
end Go.Proofs.YtlmkglgjdmjnkaaGreatDoor
namespace Go.Proofs.YtlmkglgjdmjnkaaGreatDoor
open Go.RowKit Go.Lib
open Rw
set_option linter.unusedVariables false
set_option linter.unusedSimpArgs false
end Go.Proofs.YtlmkglgjdmjnkaaGreatDoor
namespace Go.Proofs.YtlmkglgjdmjnkaaGreatDoor
open Go.RowKit Go.Lib
open Rw
set_option linter.unusedVariables false
set_option linter.unusedSimpArgs false
def DoK (w : World) (r : Option (List LockL)) (e : Ending) (w' : World) : Prop := match r with
  | none => e = .returned (.tuple #[.slice none 0 0, .bool false]) ∧ KB w.heap.size w w'
  | some l => ∃ A c ps, ps.map (·.1) = l ∧ e = .returned (.tuple #[.slice A ps.length c, .bool true]) ∧ ps.length ≤ c ∧ Locks w' A ps ∧ KB w.heap.size w w'
theorem step1 {s : List LockL × List LockL} {m : MoveL} (h : m.kind = 1) : stepD s m = some (s.1, s.2 ++ [m.line]) := by rw [stepD, if_pos h]
theorem step2 {s : List LockL × List LockL} {m : MoveL} (h : m.kind = 2) (h2 : sameAt m.line s.1 = true) : stepD s m = some (outN m.line.name s.1, s.2) := by
  rw [stepD, if_neg (by omega), if_pos ⟨h, h2⟩]
theorem step3 {s : List LockL × List LockL} {m : MoveL} (h : m.kind = 3) (h2 : (atN m.line.name s.1).isNone = true) (h3 : s.2.any (fun y => eqLk y m.line) = true) : stepD s m = some (s.1 ++ [m.line], s.2) := by
  rw [stepD, if_neg (by omega), if_neg (fun k => by omega), if_pos ⟨h, h2, h3⟩]
theorem step0 {s : List LockL × List LockL} {m : MoveL} (h1 : m.kind ≠ 1) (h2 : ¬ (m.kind = 2 ∧ sameAt m.line s.1 = true)) (h3 : ¬ (m.kind = 3 ∧ (atN m.line.name s.1).isNone = true ∧ s.2.any (fun y => eqLk y m.line) = true)) : stepD s m = none := by
  rw [stepD, if_neg h1, if_neg h2, if_neg h3]
end Go.Proofs.YtlmkglgjdmjnkaaGreatDoor
namespace Go.Proofs.YtlmkglgjdmjnkaaGreatDoor
open Go.RowKit Go.Lib
open Rw
set_option linter.unusedVariables false
set_option linter.unusedSimpArgs false
def lkR (v : Value) : Option (DataW Value × List MemPlace) := some (.held v, [])
theorem keyLaw : Go.Maps.Keyed Tryz.prog 9 := Go.Maps.string_keyed Tryz.underlying9
def kyN (n : ByteArray) : Lit := .string n.data.toList
theorem key_mk {n : ByteArray} (h : n.size ≤ 9223372036854775807) : keyOf Tryz.prog 9 (.string n) = some (kyN n) := Go.WideMaps.keyOf_string_mk Tryz.underlying9 h
theorem kyN_inj {a b : ByteArray} (h : kyN a = kyN b) : a = b := by
  unfold kyN at h
  injection h with h
  cases a; cases b
  exact congrArg _ (Array.toList_inj.1 h)
theorem kyN_is (n : ByteArray) : WideAt.IsKeyLit (kyN n) := trivial
theorem kyN_of (l : List UInt8) : (.string l : Lit) = kyN ⟨l.toArray⟩ := by simp [kyN]
structure Agr (D : DataW Value) (ps : List LP) : Prop where
  mp : Go.Maps.IsMap D
  has : ∀ n : ByteArray, Go.Maps.has D (kyN n) = (ps.map (·.1)).any (nmIs n)
  val : ∀ p ∈ ps, ∀ z, D.atKey (kyN p.1.name) z = .held (p.1.val p.2)
theorem any_none {n : ByteArray} {l : List LockL} : (atN n l).isNone = !l.any (nmIs n) := by
  unfold atN
  induction l with
  | nil => rfl
  | cons x l ih =>
    rw [List.find?_cons, List.any_cons]
    cases nmIs n x
    · simpa using ih
    · rfl
theorem Agr.start : Agr (.map []) [] := ⟨Go.Maps.isMap_empty, fun _ => rfl, fun _ h => by cases h⟩
theorem Agr.put {D : DataW Value} {ps : List LP} (h : Agr D ps) {p : LP} (hn : (atN p.1.name (ps.map (·.1))).isNone = true) : Agr (D.put (kyN p.1.name) (.held (p.1.val p.2))) (ps ++ [p]) := by
  refine ⟨h.mp.put _ _, fun n => ?_, fun q hq z => ?_⟩
  · rw [List.map_append, List.any_append]
    by_cases e : n = p.1.name
    · subst e
      rw [Go.Maps.has_put_same h.mp (kyN_is _)]
      have : nmIs p.1.name p.1 = true := nmIs_iff.2 rfl
      simp [this]
    · have e2 : nmIs n p.1 = false := by
        have : nmIs n p.1 ≠ true := fun k => e (nmIs_iff.1 k).symm
        simpa using this
      rw [Go.Maps.has_put_other (fun k => e (kyN_inj k)), h.has]
      simp [e2]
  · rcases List.mem_append.1 hq with hq | hq
    · have hne : q.1.name ≠ p.1.name := atN_none hn q.1 (List.mem_map_of_mem hq)
      rw [Go.Maps.atKey_put_other (fun k => hne (kyN_inj k))]
      exact h.val q hq z
    · rcases List.mem_singleton.1 hq with rfl
      exact Go.Maps.atKey_put_same h.mp (kyN_is _) _ _
def outP (n : ByteArray) (ps : List LP) : List LP := ps.filter fun p => !nmIs n p.1
theorem map_outP (n : ByteArray) (ps : List LP) : (outP n ps).map (·.1) = outN n (ps.map (·.1)) := by
  unfold outP outN
  rw [List.filter_map]
  rfl
theorem Agr.del {D : DataW Value} {ps : List LP} (h : Agr D ps) (n : ByteArray) : Agr (D.del (kyN n)) (outP n ps) := by
  refine ⟨h.mp.del _, fun m => ?_, fun q hq z => ?_⟩
  · rw [map_outP]
    by_cases e : m = n
    · subst e
      rw [Go.Maps.has_del_same]
      symm
      rw [List.any_eq_false]
      intro x hx hm
      have := (List.mem_filter.1 hx).2
      rw [hm] at this
      cases this
    · rw [Go.Maps.has_del_other (fun k => e (kyN_inj k)), h.has]
      rw [Bool.eq_iff_iff, List.any_eq_true, List.any_eq_true]
      constructor
      · rintro ⟨x, hx, hm⟩
        refine ⟨x, List.mem_filter.2 ⟨hx, ?_⟩, hm⟩
        have : nmIs n x ≠ true := fun k => e ((nmIs_iff.1 hm).symm.trans (nmIs_iff.1 k))
        simpa using this
      · rintro ⟨x, hx, hm⟩
        exact ⟨x, (List.mem_filter.1 hx).1, hm⟩
  · obtain ⟨hq1, hq2⟩ := List.mem_filter.1 hq
    have hne : q.1.name ≠ n := fun k => by
      have : nmIs n q.1 = true := nmIs_iff.2 k
      rw [this] at hq2
      cases hq2
    rw [Go.Maps.atKey_del_other (fun k => hne (kyN_inj k))]
    exact h.val q hq1 z
def MapN (w : World) (b n : Nat) (ps : List LP) : Prop := ∃ D, w.ownsMap Tryz.prog 9 lkR b n D ∧ Agr D ps
theorem MapN.lt {w : World} {b n : Nat} {ps : List LP} (h : MapN w b n ps) : b < w.heap.size := by
  obtain ⟨D, h, -⟩ := h
  exact h.lt
theorem MapN.kept {w w' : World} {b n : Nat} {ps : List LP} {row : Option Nat} (h : MapN w b n ps) (hg : w.grownBy w' row) (hne : some b ≠ row) : MapN w' b n ps := by
  obtain ⟨D, h, k⟩ := h
  exact ⟨D, h.kept hg hne, k⟩
theorem MapN.block {w w' : World} {b n : Nat} {ps : List LP} (h : MapN w b n ps) (hk : w'.heap[b]? = w.heap[b]?) : MapN w' b n ps := by
  obtain ⟨D, ⟨es, clock, hb, F, hs, hD⟩, k⟩ := h
  exact ⟨D, ⟨es, clock, hk.trans hb, F, hs, hD⟩, k⟩
theorem MapN.kb {w w' : World} {b n : Nat} {ps : List LP} (h : MapN w b n ps) (hb : KB w.heap.size w w') : MapN w' b n ps := h.block (hb.block b h.lt)
def zeroLk : Value := .agg #[.string ⟨#[]⟩, .int .i64 0, .int .i64 0, .int .i64 0, .string ⟨#[]⟩, .string ⟨#[]⟩, .string ⟨#[]⟩, .int .u64 0, .slice none 0 0]
theorem zeroLk_run (w : World) : (zeroValue 33).run Tryz.prog w = .ok zeroLk w := by kernel_rfl
set_option maxRecDepth 100000 in
theorem MapN.look {w : World} {b n : Nat} {ps : List LP} (h : MapN w b n ps) {p : LP} (hp : p ∈ ps) (hs : p.1.name.size ≤ 9223372036854775807) : (Instr.lookup 58 (.map (some b)) (.string p.1.name) true).run Tryz.prog w = .ok (.tuple #[p.1.val p.2, .bool true]) w := by
  obtain ⟨D, h, k⟩ := h
  obtain ⟨v, qs, hrun, hR⟩ := h.look_ok keyLaw Tryz.underlying58 (zeroLk_run w) (zd := .held zeroLk) (zp := []) rfl (key_mk hs)
  have hh : Go.Maps.has D (kyN p.1.name) = true := by
    rw [k.has, List.any_eq_true]
    exact ⟨p.1, List.mem_map_of_mem hp, nmIs_iff.2 rfl⟩
  rw [k.val p hp] at hR
  unfold lkR at hR
  injection hR with hR
  injection hR with hR _
  injection hR with hR
  rw [hrun, hh, hR]
set_option maxRecDepth 100000 in
theorem MapN.lookNo {w : World} {b n : Nat} {ps : List LP} (h : MapN w b n ps) {nm : ByteArray} (hn : atN nm (ps.map (·.1)) = none) (hs : nm.size ≤ 9223372036854775807) : (Instr.lookup 58 (.map (some b)) (.string nm) true).run Tryz.prog w = .ok (.tuple #[zeroLk, .bool false]) w := by
  obtain ⟨D, h, k⟩ := h
  obtain ⟨v, qs, hrun, hR⟩ := h.look_ok keyLaw Tryz.underlying58 (zeroLk_run w) (zd := .held zeroLk) (zp := []) rfl (key_mk hs)
  have hh : Go.Maps.has D (kyN nm) = false := by
    have := any_none (n := nm) (l := ps.map (·.1))
    rw [hn] at this
    rw [k.has]
    simpa using this
  rw [Go.Maps.atKey_of_not_has hh] at hR
  unfold lkR at hR
  injection hR with hR
  injection hR with hR _
  injection hR with hR
  rw [hrun, hh, hR]
end Go.Proofs.YtlmkglgjdmjnkaaGreatDoor
namespace Go.Proofs.YtlmkglgjdmjnkaaGreatDoor
open Go.RowKit Go.Lib
open Rw
set_option linter.unusedVariables false
set_option linter.unusedSimpArgs false
abbrev nmL (p : LP) : List UInt8 := p.1.name.data.toList
theorem nmL_ky (p : LP) : (.string (nmL p) : Lit) = kyN p.1.name := rfl
theorem agr_of {D : DataW Value} {ps : List LP} (h : Agr D ps) {x : List UInt8} {v : Value} (hat : ∀ z, D.atKey (.string x) z = .held v) : ∃ p ∈ ps, nmL p = x ∧ v = p.1.val p.2 := by
  have hh := Go.Maps.has_true_of_atKey hat
  rw [kyN_of, h.has, List.any_eq_true] at hh
  obtain ⟨y, hy, hn⟩ := hh
  obtain ⟨p, hp, rfl⟩ := List.mem_map.1 hy
  have hn := nmIs_iff.1 hn
  refine ⟨p, hp, by rw [nmL, hn], ?_⟩
  have h1 := h.val p hp (.held v)
  have h2 := hat (.held v)
  rw [kyN_of, ← hn, h1] at h2
  injection h2 with h2
  exact h2.symm
theorem un_inj {ps : List LP} (hu : UnN (ps.map (·.1))) {p q : LP} (hp : p ∈ ps) (hq : q ∈ ps) (h : p.1.name = q.1.name) : p = q := by
  obtain ⟨i, hi, rfl⟩ := List.mem_iff_getElem.1 hp
  obtain ⟨j, hj, rfl⟩ := List.mem_iff_getElem.1 hq
  have hu := List.pairwise_map.1 hu
  rcases Nat.lt_trichotomy i j with k | k | k
  · exact absurd h (List.pairwise_iff_getElem.1 hu i j hi hj k)
  · subst k; rfl
  · exact absurd h.symm (List.pairwise_iff_getElem.1 hu j i hj hi k)
theorem nodup_of {l : List LP} (h : (l.map nmL).Nodup) : l.Nodup := (List.pairwise_map.1 h).imp fun {a b} hab e => hab (by rw [e])
theorem perm_of {D : DataW Value} {ps xs : List LP} (h : Agr D ps) (hu : UnN (ps.map (·.1))) (h1 : (xs.map nmL).Nodup) (h2 : ∀ x, x ∈ xs.map nmL ↔ Go.Maps.has D (.string x) = true) (h3 : ∀ p ∈ xs, p ∈ ps) : xs.Perm ps := by
  have hun : (ps.map nmL).Nodup := by
    rw [List.Nodup, List.pairwise_map]
    have := List.pairwise_map.1 hu
    refine this.imp fun {a b} hab e => hab ?_
    exact kyN_inj (show kyN a.1.name = kyN b.1.name from by unfold kyN; rw [show a.1.name.data.toList = b.1.name.data.toList from e])
  have n1 : xs.Nodup := nodup_of h1
  have n2 : ps.Nodup := nodup_of hun
  refine (List.perm_ext_iff_of_nodup n1 n2).2 fun p => ⟨h3 p, fun hp => ?_⟩
  have hk : nmL p ∈ xs.map nmL := (h2 _).2 (by
    rw [nmL_ky, h.has, List.any_eq_true]
    exact ⟨p.1, List.mem_map_of_mem hp, nmIs_iff.2 rfl⟩)
  obtain ⟨q, hq, he⟩ := List.mem_map.1 hk
  have : q = p := un_inj hu (h3 q hq) hp (kyN_inj (show kyN q.1.name = kyN p.1.name from by unfold kyN; rw [show q.1.name.data.toList = p.1.name.data.toList from he]))
  rwa [← this]
set_option maxRecDepth 100000 in
set_option maxHeartbeats 2000000 in
theorem pvalues1_in (F : Fence) (n : Nat) (h8 : F.fn 58) (hro : F.round = none) (hn : 1 ≤ n) (l Bm b nn : Nat) (ps : List LP) (D0 : DataW Value) (J Jx : List LP → World → Prop)
    (hY : ∀ pre x W, J pre W → pre.length < Go.Maps.size D0 → YieldAt F (n - 1) Tryz.prog l #[x.1.val x.2] W fun e W' =>
      (e = .returned (.bool true) ∧ J (pre ++ [x]) W' ∧ KeepsWalks W W') ∨ (e = .returned (.bool false) ∧ Jx (pre ++ [x]) W'))
    (W : World) (hJ : AbidesFrom W.heap.size J) (hm : W.cell? ⟨Bm, 0, none⟩ = some (.map (some b))) (hown : W.ownsMap Tryz.prog 9 lkR b nn D0) (hagr : Agr D0 ps) (hu : UnN (ps.map (·.1))) (h0 : J [] W) :
    CallsIn F n Tryz.prog 58 #[.func (.yield l) #[] #[], .pointer (some ⟨Bm, 0, none⟩)] W fun e W' => (∃ v, e = .returned v) ∧
      ((∃ xs, xs.Perm ps ∧ J xs W') ∨ (∃ pre, True ∧ Jx pre W')) := by
  refine callsIn_of_wp Tryz.func58 rfl h8 ?_ hro
  simp only [Tryz.ntmps58, List.size_toArray, List.length_cons, List.length_nil, Nat.reduceAdd, Nat.reduceSub, Array.replicate_succ, Array.replicate_zero, List.push_toArray, List.append_toArray, List.nil_append, List.cons_append]
  gi_wp2_with (first
    | (gi_at_range; refine wpListIn_range_own _ rfl _ 58 rfl 9 33 keyLaw Tryz.underlying58 _ b nn _ rfl hown ?_; intro w0 hrg0 hg0 hs0)
    | gi_in)
  go_frame
  gi_loopw [4] (fun _ wr => ∃ (left : Lit → Bool) (cnt : Nat) (xs : List LP), wr.ranges Tryz.prog 9 lkR b W.heap.size nn D0 left cnt ∧ xs.length + cnt ≤ Go.Maps.size D0 ∧ Collected D0 left (xs.map nmL) ∧ (∀ p ∈ xs, p ∈ ps) ∧ J xs wr)
    (fun _ wr => wr.rangeLeft b W.heap.size)
  case atStart =>
    exact ⟨_, _, [], hrg0, by simp, Collected.start D0, by simp, hJ [] W w0 none h0 hg0 (fun r e => by cases e)⟩
  case round =>
    obtain ⟨left, cnt, xs, hrg, hcs, hC, hV, hJs⟩ := hrel
    gi_wp2_with (first
      | (gi_at_next; refine wpListIn_next_ranges _ rfl _ rfl 9 keyLaw lkR Go.Proofs.encStr (fun v : Value => v) (fun key kl hk => by obtain ⟨x, hx, _⟩ := Maps.keyOf_str Tryz.underlying9 hk; exact ⟨x, hx⟩) (fun v y hv => ⟨v, rfl⟩) b W.heap.size nn _ _ _ rfl hrg ?_ ?_)
      | gi_in)
    · intro hc0 hl0
      gi_wp2
      go_end0
      exact ⟨⟨_, rfl⟩, .inl ⟨xs, perm_of hagr hu hC.1 (fun x => by rw [hC.2 x, hl0]; simp) hV, hJs⟩⟩
    · intro x c kl yd yp w2 cnt2 hkey hlk hv hat hrg2 hlt hg2 hs2 hen
      obtain ⟨x', ex, rfl, _⟩ := Maps.keyOf_str Tryz.underlying9 hkey
      obtain rfl : x = x' := encStr_inj ex
      obtain rfl : yd = .held c := (Prod.mk.inj (Option.some.inj hv)).1.symm
      obtain ⟨p, hp, rfl, rfl⟩ := agr_of hagr hat
      have hJ2 : J xs w2 := hJ _ wr w2 (some W.heap.size) hJs hg2 (fun r e => by cases e; exact ⟨Nat.le_refl _, hrg.iter_walk⟩)
      have hJ3 : J xs (w2.alloc (.cells (lkC p).toArray 33)) := hJ _ w2 _ none hJ2 (World.grownBy_alloc w2 _ none) (fun r e => by cases e)
      obtain ⟨fn, tmps, assign, body, hy, hR⟩ := hY xs p _ hJ3 (by omega)
      dsimp only [LockL.val, lkC, LockL.cells] at hy hR hen
      have hC2 : Collected D0 (fun z => left z && !z.sameKey (.string (nmL p))) ((xs ++ [p]).map nmL) := by simpa using hC.step hlk hat
      have hV2 : ∀ q ∈ xs ++ [p], q ∈ ps := fun q hq => (List.mem_append.1 hq).elim (hV q) (fun e => by simp at e; subst e; exact hp)
      have HRG := hid (hrg2.alloc (.cells (lkC p).toArray 33))
      clear hs2
      gi_wp2
      refine hR.mono ?_
      rintro e W3 (⟨rfl, hJ3, hk3⟩ | ⟨rfl, hJx3⟩)
      · gi_wp2
        have hrg3 := HRG.out.of_walks hk3
        go_roundw
        case rel => exact ⟨_, cnt2, xs ++ [p], hrg3, by simp; omega, hC2, hV2, hJ3⟩
        case measure => rw [hrg3.left_eq, hrg.left_eq]; exact hlt
      · gi_wp2
        refine bodyPost_ret (results_none rfl _ _ _) rfl ?_
        exact ⟨⟨_, rfl⟩, .inr ⟨xs ++ [p], trivial, hJx3⟩⟩
end Go.Proofs.YtlmkglgjdmjnkaaGreatDoor
namespace Go.Proofs.YtlmkglgjdmjnkaaGreatDoor
open Go.RowKit Go.Lib
open Rw
set_option linter.unusedVariables false
set_option linter.unusedSimpArgs false

attribute [local go_sem] Oper.semAt_some
theorem boxB_at {W : World} {B : Nat} {x : LP} (h : W.heap[B]? = some (.cells (lkC x).toArray 33 (0, 0))) (k : Nat) {v : Value} (e : (lkC x)[k]? = some v) : W.cell? ⟨B, k, none⟩ = some v := by
  simp only [World.cell?, h]
  simpa using e
theorem boxL_new (w : World) (l : List Value) (t : TypeId) : ∀ j u, l[j]? = some u → (w.alloc (.cells l.toArray t)).cell? ((⟨w.heap.size, 0, none⟩ : Addr).add j) = some u := by
  intro j u hj
  have h1 := World.alloc_heap_new w (.cells l.toArray t)
  have h2 : (⟨w.heap.size, 0, none⟩ : Addr).add j = ⟨w.heap.size, j, none⟩ := by cases j <;> simp [Addr.add]
  rw [h2]
  simp only [World.cell?, h1]
  simpa using hj
set_option maxRecDepth 100000 in
set_option maxHeartbeats 4000000 in
theorem pappend_in (F : Fence) (n : Nat) (h11 : F.fn 86) (hro : F.round = none) (hn : 2 ≤ n) (gf : Nat) (lb : Array Value) (hFg : F.fn gf) (eg : ∀ args w, (callFunc gf args).run Tryz.prog w = .ok (.enter gf args) w) (S : List LP → Prop) (N : Nat) (hN : N ≤ 3000) (w0 w : World) (hw : KB w0.heap.size w0 w)
    (hseq : SeqStopsK F (n - 1) Tryz.prog gf lb (fun x : LP => #[x.1.val x.2]) KeepsWalks S (fun _ => True) N w0) :
    CallsIn F n Tryz.prog 86 #[.slice none 0 0, .func (.func gf) #[] lb] w fun e w' => ∃ xs v, S xs ∧ e = .returned v ∧ OwnL 33 9 lkC w' w.heap.size v xs ∧ KB w.heap.size w w' := by
  refine callsIn_of_wp_marks Tryz.func86 rfl h11 ?_ hro
  simp only [Tryz.ntmps86, List.size_toArray, List.length_cons, List.length_nil, Nat.reduceAdd, Nat.reduceSub, Array.replicate_succ, Array.replicate_zero, List.push_toArray, List.append_toArray, List.nil_append, List.cons_append]
  gi_wp2
  refine wpIn_rangeFunc_ownH hro (by omega) (gf := gf) (lb := lb) rfl hFg eg hseq walksK_t walksK_b (Go.RowKit.Below.trans hw (Go.RowKit.Below.mono (kb_new w _) hw.size)) (fun _ => rfl)
    (fun pre W => (∃ v, Boxed W w.heap.size 24 v ∧ W.ownsRow w.heap.size 33 9 v pre.length (pre.flatMap lkC) ∧ True) ∧ Go.RowKit.Below w.heap.size w W)
    (fun _ _ _ => False)
    (OwnFrom.and (Go.Own.from (holdsRow_own _ _ _ _ _ (fun pre : List LP => pre.length) (fun pre => pre.flatMap lkC) (fun _ _ => True)) _) (ownFrom_below (Nat.le_refl _) (by simp)))
    (fun _ _ _ _ _ hs _ _ => hs)
    ⟨⟨_, Boxed.new w 24 _, World.ownsRow_nil _ _ _ _, trivial⟩, kb_new w _⟩
    (fun x a' W => ∃ Bx, w.heap.size < Bx ∧ W.heap[Bx]? = some (.cells (lkC x).toArray 33 (0, 0)) ∧ a' = { tmps := #[.slice none 0 0, .func (.func gf) #[] lb, .pointer (some ⟨w.heap.size, 0, none⟩), undef, .slice none 0 0, .pointer (some ⟨Bx, 0, none⟩), .func (.func gf) #[] lb, x.1.val x.2, undef, undef, undef, undef, undef], defers := [] })
    ?_ ?assign ?body ?done ?stop
  case assign =>
    intro l pre x W K hI hK
    obtain ⟨⟨v, hbx, hrow, -⟩, hB⟩ := hI
    gi_wp2
    refine hK _ _ ((KeepsOthers.alloc _ _).from _) (KeepsWalks.alloc _ _) ⟨⟨v, hbx.alloc _, hrow.alloc _, trivial⟩, Go.RowKit.Below.alloc hB hB.size _⟩ ⟨W.heap.size, ?_, ?_, rfl⟩
    · exact hbx.lt
    · exact World.alloc_heap_new W _
  case body =>
    rintro l pre x a' W hl hr ⟨⟨v, hbx, hrow, -⟩, hB⟩ ⟨Bx, hlt, hcells, rfl⟩ hpre
    have hv1 := hbx.cell
    have hf1 := hbx.frozen
    have c0 := boxB_at hcells 0 rfl
    have c1 := boxB_at hcells 1 rfl
    have c2 := boxB_at hcells 2 rfl
    have c3 := boxB_at hcells 3 rfl
    have c4 := boxB_at hcells 4 rfl
    have c5 := boxB_at hcells 5 rfl
    have c6 := boxB_at hcells 6 rfl
    have c7 := boxB_at hcells 7 rfl
    have c8 := boxB_at hcells 8 rfl
    have hsz := hB.size
    obtain ⟨i0, z0, hi0, hz0, hz1, hz2, hz3⟩ := EKlocks.info
    have hnw : ∀ j u, (lkC x)[j]? = some u → (W.alloc (.cells (lkC x).toArray 33)).cell? ((⟨W.heap.size, 0, none⟩ : Addr).add j) = some u := boxL_new _ _ _
    gi_wp2_with (gi_at_builtin; refine wpListIn_append_own _ rfl _ _ _ rfl w.heap.size 33 i0 z0 9 120 Tryz.underlying24 hi0 hz0 hz1 hz2 hz3 (by decide) v pre.length (pre.flatMap lkC) rfl (hrow.alloc _) ⟨W.heap.size, 0, none⟩ 1 1 (lkC x) rfl rfl hnw (lk_one x) (by unfold maxLen; omega) (by omega) (by simp; omega) ?_; intro v' w1 hown' hgrow _; obtain ⟨g', cap', rfl⟩ := ownsRow_succ hown'; obtain ⟨hv1', hv2, hr2, hk2, hb2⟩ := hbx.appended (by decide) hrow hB.size (Nat.le_refl _) hown' hgrow; have hc1 := hv1'.cell; have hf1 := hv1'.frozen)
    refine ⟨hk2.from _, hk2.walks, ⟨⟨_, hv2, ?_, trivial⟩, Go.RowKit.Below.trans hB hb2⟩⟩
    simpa using hr2
  case done =>
    rintro D ys W hD hS ⟨⟨v, hbx, hrow, -⟩, hB⟩ hK
    have hv1 := hbx.cell
    have hf1 := hbx.frozen
    gi_wp2
    refine ⟨by simp, .inl ⟨_, _, rfl, run_takeDeferred hK, ?_⟩⟩
    refine ⟨_, results_tmp rfl _ _ _, ys, v, hS, rfl, ?_, ?_⟩
    · exact ownsRow_putObj hrow _ hK rfl
    · exact Go.RowKit.Below.trans hB (belowK_b (w := w) (Nat.le_refl _) W D _ _ (by simp at hD; omega) hK rfl rfl)
  case stop =>
    rintro D c pre W hD _ h _
    exact h.elim
  · intro x a' s A B row hs hg hr
    obtain ⟨Bx, h1, h2, h3⟩ := hs
    refine ⟨Bx, h1, ?_, h3⟩
    rw [hg.block Bx (Array.getElem?_eq_some_iff.1 h2).1 (fun e => by
      obtain ⟨o, ho, hc⟩ := (hr Bx e.symm).2
      rw [h2] at ho; cases ho; cases hc)]
    exact h2
end Go.Proofs.YtlmkglgjdmjnkaaGreatDoor
namespace Go.Proofs.YtlmkglgjdmjnkaaGreatDoor
open Go.RowKit Go.Lib Go.Shelf Go.Sort
open Rw
set_option linter.unusedVariables false
set_option linter.unusedSimpArgs false
theorem below_grow {w w' : World} (h : Below w.heap.size w w') : ∃ q os', w' = grow (w.drewN q) os' := by
  refine ⟨w'.drawn - w.drawn, w'.heap.extract w.heap.size w'.heap.size, ?_⟩
  have h1 := h.drawn
  have h2 : w'.heap = w.heap ++ w'.heap.extract w.heap.size w'.heap.size := by
    apply Array.ext_getElem?
    intro k
    have hs := h.size
    rw [Array.getElem?_append]
    by_cases hk : k < w.heap.size
    · rw [if_pos hk]; exact h.block k hk
    · rw [if_neg hk, Array.getElem?_extract]
      by_cases hk2 : k < w'.heap.size
      · rw [if_pos (by omega)]; congr 1; omega
      · rw [if_neg (by omega), Array.getElem?_eq_none (by omega)]
  have h3 := h.os
  have h4 := h.tape
  have h5 := h.output
  cases w
  cases w'
  simp only [grow, World.drewN] at h1 h2 h3 h4 h5 ⊢
  subst h3; subst h4; subst h5
  congr 1
  omega
theorem comp_cmpB : ∀ a b : List UInt8, Go.Lib.compareBytes a b = cmpB a b
  | [], [] => rfl
  | [], _ :: _ => rfl
  | _ :: _, [] => rfl
  | x :: a, y :: b => by
    rw [Go.Lib.compareBytes, comp_cmpB a b]
    unfold cmpB
    simp only [Op.bytesLess]
    by_cases h1 : x < y
    · simp [h1]
    · by_cases h2 : y < x
      · have h3 : (x == y) = false := by
          rw [beq_eq_false_iff_ne]; rintro rfl; exact h1 h2
        simp [h1, h2, h3]
      · have h3 : x = y := by
          rw [UInt8.lt_iff_toNat_lt] at h1 h2
          exact UInt8.toNat_inj.1 (by omega)
        subst h3
        simp [h1]
theorem scompare_any (a b : ByteArray) (w : World) : Calls Tryz.prog 24 #[.string a, .string b] w fun e w' => e = .returned (.int .i64 (cmpB (bts a) (bts b))) ∧ w = w' := by
  have h := Any.strings_Compare Tryz.lays106 a b w
  refine Calls.mono h ?_
  rintro e w' ⟨rfl, rfl⟩
  rw [comp_cmpB, bts, bts, bts_data, bts_data]
  exact ⟨rfl, rfl⟩
instance : Inhabited LP := ⟨⟨⟨⟨#[]⟩, ⟨0, 0, 0, ⟨#[]⟩, ⟨#[]⟩⟩, ⟨#[]⟩, 0, []⟩, ⟨none, 0⟩⟩⟩
abbrev cmpK (x y : LP) : Int := cmpB (bts x.1.name) (bts y.1.name)
theorem pdo1_any (x y : LP) (w : World) : Calls Tryz.prog 23 #[x.1.val x.2, y.1.val y.2] w (IntPost w (cmpK x y)) := by
  obtain ⟨⟨n1, v1, s1, m1, f1⟩, ⟨A1, c1⟩⟩ := x
  obtain ⟨⟨n2, v2, s2, m2, f2⟩, ⟨A2, c2⟩⟩ := y
  have HBN := hid (below_tr (below_new w (.cells #[.string n1, .int .i64 v1.maj, .int .i64 v1.min, .int .i64 v1.pat, .string v1.pre, .string v1.bld, .string s1, .int .u64 m1, .slice A1 f1.length c1] 33)) (below_new _ (.cells #[.string n2, .int .i64 v2.maj, .int .i64 v2.min, .int .i64 v2.pat, .string v2.pre, .string v2.bld, .string s2, .int .u64 m2, .slice A2 f2.length c2] 33)))
  have HC := hid (fun u => scompare_any n1 n2 u)
  dsimp only [LockL.val]
  go_enter Tryz.func23, Tryz.ntmps23
  go_wp2_with fail
  refine (HC.out _).mono ?_
  rintro _ _ ⟨rfl, rfl⟩
  go_wp2_with fail
  go_ret
  exact ⟨rfl, HBN.out⟩
theorem cmpLaysK (blk off size : Nat) (w : World) : CmpLays Tryz.prog 23 #[] lkC 9 (fun x y : LP => cmpK x y) blk off size w :=
  fun _ _ _ _ x y => (pdo1_any x y _).mono fun _ _ ⟨he, hb⟩ => ⟨he, below_grow hb⟩
theorem swoLk : SWO (ltOf fun x y : LP => cmpK x y) where
  irrefl x := by simp [ltOf, cmpK, cmpB, bless_irr]
  trans x y z h1 h2 := by
    simp only [ltOf, decide_eq_true_eq] at *
    exact cmpB_lt.2 (bless_tran _ _ _ (cmpB_lt.1 h1) (cmpB_lt.1 h2))
  ntrans x y z h1 h2 := by
    simp only [ltOf, decide_eq_false_iff_not] at *
    intro h
    have h := cmpB_lt.1 h
    have n1 : Op.bytesLess (bts x.1.name) (bts y.1.name) = false := by rw [Bool.eq_false_iff]; exact fun k => h1 (cmpB_lt.2 k)
    have n2 : Op.bytesLess (bts y.1.name) (bts z.1.name) = false := by rw [Bool.eq_false_iff]; exact fun k => h2 (cmpB_lt.2 k)
    cases k1 : Op.bytesLess (bts y.1.name) (bts x.1.name)
    · rw [bless_tri _ _ n1 k1] at h
      rw [h] at n2; cases n2
    · rw [bless_tran _ _ _ k1 h] at n2; cases n2
theorem isAggK : ∀ w, (isAgg (Tryz.sortLock_ren.t 24)).run Tryz.prog w = .ok true w := Tryz.isAgg33
theorem sizeOfK : ∀ w, (Go.sizeOf (Tryz.sortLock_ren.t 24)).run Tryz.prog w = .ok 9 w := Tryz.sizeOf33
theorem kcell_at (s : LP) (j : Nat) (h : j < 9) : ∃ u, (lkC s)[j]? = some u ∧ (lkC s)[j]! = u := by
  have hl : j < (lkC s).length := by simpa using h
  exact ⟨(lkC s)[j], List.getElem?_eq_getElem hl, getElem!_pos (lkC s) j hl⟩
theorem locksK_of {w : World} {g : Nat} {d : Array LP} (h : HoldsK lkC 9 w g 0 d) (hg : g < w.heap.size) : Lies 9 lkC w (some ⟨g, 0, none⟩) d.toList := by
  refine .inr ⟨g, 0, rfl, hg, fun i hi j u hj => ?_⟩
  have hi' : i < d.size := by simpa using hi
  have hj2 : j < 9 := by
    rcases Nat.lt_or_ge j 9 with h' | h'
    · exact h'
    · rw [List.getElem?_eq_none (by simp; omega)] at hj; cases hj
  have hk := (h (i * 9 + j) (by rw [size_flatK]; omega)).1
  rw [get_flatK lkC 9 d (i * 9 + j) (by omega)] at hk
  have e1 : (i * 9 + j) / 9 = i := by omega
  have e2 : (i * 9 + j) % 9 = j := by omega
  rw [e1, e2, getElem!_pos d i hi'] at hk
  rw [Array.getElem_toList] at hj
  obtain ⟨u', hu1, hu2⟩ := kcell_at d[i] j hj2
  rw [hu1] at hj
  injection hj with hj
  subst hj
  have e4 : 0 + i * 9 + j = 0 + (i * 9 + j) := by omega
  rw [e4, hk, hu2]
  rfl
theorem holdsK_ofL {w : World} {g : Nat} {l : List LP} (h : Lies 9 lkC w (some ⟨g, 0, none⟩) l) (hs : Soft w g) : HoldsK lkC 9 w g 0 l.toArray := by
  intro t ht
  rw [size_flatK] at ht
  have hlen : l.toArray.size = l.length := by simp
  rw [hlen] at ht
  refine ⟨?_, hs _⟩
  rw [get_flatK lkC 9 _ t (by rw [hlen]; exact ht)]
  have hi : t / 9 < l.length := by omega
  rcases h with rfl | ⟨b, off, e, hlt, hc⟩
  · simp at hi
  · injection e with e; injection e with e1 e2 e3; subst e1; subst e2
    obtain ⟨u, hu1, hu2⟩ := kcell_at l[t / 9] (t % 9) (Nat.mod_lt _ (by omega))
    have := hc (t / 9) hi (t % 9) u hu1
    have e4 : 0 + t / 9 * 9 + t % 9 = 0 + t := by omega
    rw [e4] at this
    have e5 : l.toArray[t / 9]! = l[t / 9] := by rw [getElem!_pos l.toArray (t / 9) (by rw [hlen]; exact hi), List.getElem_toArray]
    rw [this, e5, hu2]
    rfl
theorem below_sortLk {w : World} {g n : Nat} {d : Array LP} {os : Array Obj} (hg : g < w.heap.size) : Below g w (sortWorldK lkC 9 w g 0 n d os) := by
  refine ⟨⟨rfl, rfl, rfl, ?_, fun k hk => ?_⟩, Nat.le_add_right _ _⟩
  · exact size_sortWorldK_c lkC 9 w g 0 n d os
  · show ((w.heap.modify g _) ++ os)[k]? = _
    rw [Array.getElem?_append_left (by simp; omega), Array.getElem?_modify, if_neg (by omega)]
def SortedK (w : World) (base : Nat) (v : Value) (l : List LP) (e : Ending) (w' : World) : Prop :=
  e = .returned (.tuple #[]) ∧ ∃ (m : List LP) (A : Option Addr) (c : Nat), v = .slice A m.length c ∧ m.Perm l ∧ m.Pairwise (fun a b => ¬ cmpK b a < 0) ∧ Lies 9 lkC w' A m ∧ KB base w w'
set_option maxHeartbeats 1000000 in
theorem ksort_some (g cap : Nat) (l : List LP) (w : World) (h : Lies 9 lkC w (some ⟨g, 0, none⟩) l) (hs : Soft w g) (hg : g < w.heap.size) (hln : l.length ≤ 4398046511104) :
    Calls Tryz.prog 57 #[.slice (some ⟨g, 0, none⟩) l.length cap, .func (.func 23) #[] #[]] w (SortedK w g (.slice (some ⟨g, 0, none⟩) l.length cap) l) := by
  have eg : ∀ args w, (callFunc 23 args).run Tryz.prog w = .ok (.enter 23 args) w := enters_of Tryz.func23 (by kernel_rfl) rfl
  have hd : l.toArray.size = l.length := by simp
  have hH := holdsK_ofL h hs
  have hv : l.toArray.toList = l := by simp
  generalize l.toArray = d at hd hH hv
  have hcon := AnyQ.slices_SortFunc Tryz.sortLock 9 isAggK sizeOfK lkC (fun _ => rfl) (fun x v hv => lk_one x v hv) (fun x y => cmpK x y) swoLk 23 #[] g 0 cap d w eg (cmpLaysK g 0 d.size w) hH hg (by omega)
  change Calls Tryz.prog 57 _ _ _ at hcon
  rw [hd] at hcon
  refine hcon.mono ?_
  rintro e w' ⟨rfl, d', n, os, hp, hso, rfl⟩
  obtain ⟨p1, _, p3⟩ := hp
  have q1 : d'.extract 0 l.length = d' := by rw [← hd, ← p1]; exact Array.extract_size
  have q2 : d.extract 0 l.length = d := by rw [← hd]; exact Array.extract_size
  rw [q1, q2, hv] at p3
  have hH' := holdsK_sortWorldK lkC 9 w g 0 n d d' os hg hH p1
  refine ⟨rfl, d'.toList, some ⟨g, 0, none⟩, cap, ?_, p3, ?_, (locksK_of hH' (Nat.lt_of_lt_of_le hg (size_sortWorldK_c lkC 9 w g 0 n d' os))), (below_sortLk hg).toBelow⟩
  · rw [p3.length_eq]
  · rw [List.pairwise_iff_getElem]
    intro i j hi hj hij
    have hi' : i < d'.size := by simpa using hi
    have hj' : j < d'.size := by simpa using hj
    have := hso i j (Nat.zero_le _) hij (by rw [← hd, ← p1]; exact hj')
    rw [getElem!_pos d' i hi', getElem!_pos d' j hj'] at this
    simp only [ltOf, decide_eq_false_iff_not] at this
    simpa only [Array.getElem_toList] using this
theorem ksort_none (A : Option Addr) (cap : Nat) (w : World) : Calls Tryz.prog 57 #[.slice A 0 cap, .func (.func 23) #[] #[]] w fun e w' => e = .returned (.tuple #[]) ∧ w' = w := by
  have := AnyF.slices_SortFunc_none (P := Tryz.prog) (ρ := Tryz.sortLock_ren) { Tryz.sortLock with } A cap (.func (.func 23) #[] #[]) w
  exact this
theorem ksorted_is {o m : List LP} (ha : UnN (o.map (·.1))) (hp : m.Perm o) (hs : m.Pairwise fun a b => ¬ cmpK b a < 0) : m.map (·.1) = sortN (o.map (·.1)) := by
  obtain ⟨s1, s2⟩ := sortN_ok ha
  have ha2 : o.Pairwise (fun a b : LP => a.1.name ≠ b.1.name) := by unfold UnN at ha; rwa [List.pairwise_map] at ha
  have hm : m.Pairwise (fun a b : LP => a.1.name ≠ b.1.name) := (hp.symm.pairwise_iff (fun h => Ne.symm h)).1 ha2
  refine riseN_one (List.pairwise_map.2 ((hm.and hs).imp ?_)) s1 fun x => by rw [(hp.map _).mem_iff, s2.mem_iff]
  rintro a b ⟨h1, h2⟩
  unfold lessN
  cases k : Op.bytesLess (bts a.1.name) (bts b.1.name)
  · have : Op.bytesLess (bts b.1.name) (bts a.1.name) = false := by rw [Bool.eq_false_iff]; exact fun q => h2 (cmpB_lt.2 q)
    exact absurd (bts_inj (bless_tri _ _ k this)) h1
  · rfl
theorem ksort_any (base : Nat) (v : Value) (o : List LP) (w : World) (h : OwnL 33 9 lkC w base v o) (hb : base ≤ w.heap.size) (hln : o.length ≤ 400000) (ha : UnN (o.map (·.1))) :
    Calls Tryz.prog 57 #[v, .func (.func 23) #[] #[]] w fun e w' => e = .returned (.tuple #[]) ∧ ∃ (m : List LP) (A : Option Addr) (c : Nat), v = .slice A m.length c ∧ m.Perm o ∧ m.map (·.1) = sortN (o.map (·.1)) ∧ Lies 9 lkC w' A m ∧ KB base w w' := by
  obtain ⟨A, c, hv, hli, hbk, hcap⟩ := OwnL.lies lk_len h
  by_cases h0 : o.length = 0
  · have : o = [] := List.eq_nil_of_length_eq_zero h0
    subst this
    rw [hv]
    exact (ksort_none A c w).mono fun e w' ⟨he, hw⟩ => by subst hw; exact ⟨he, [], A, c, rfl, List.Perm.refl _, rfl, .inl rfl, Go.RowKit.Below.mono (kb_refl _) hb⟩
  · obtain ⟨g, c2, hv2, hg, hlt, hc2, -⟩ := own_form h (by omega)
    have hs : Soft w g := by
      intro j
      rw [hv2] at h
      exact World.ownsRow.frozenAt h j
    rw [hv2] at hv
    injection hv with e1 e2 e3
    rw [← e1] at hli
    rw [hv2]
    refine (ksort_some g c2 o w hli hs hlt (by omega)).mono ?_
    rintro e w' ⟨he, m, A', c', hv', hp, hso, hpi, hb'⟩
    exact ⟨he, m, A', c', hv', hp, ksorted_is ha hp hso, hpi, hb'.mono hg⟩
end Go.Proofs.YtlmkglgjdmjnkaaGreatDoor
namespace Go.Proofs.YtlmkglgjdmjnkaaGreatDoor
open Go.RowKit Go.Lib
open Rw
set_option linter.unusedVariables false
set_option linter.unusedSimpArgs false
theorem pvalues_stops (F : Fence) (n : Nat) (h8 : F.fn 58) (hro : F.round = none) (hn : 1 ≤ n) (Bm b nn : Nat) (ps : List LP) (w : World) (hm : w.cell? ⟨Bm, 0, none⟩ = some (.map (some b))) (hM : MapN w b nn ps) (hu : UnN (ps.map (·.1))) :
    SeqStopsK F n Tryz.prog 58 #[.pointer (some ⟨Bm, 0, none⟩)] (fun x : LP => #[x.1.val x.2]) KeepsWalks (fun xs => xs.Perm ps) (fun _ => True) nn w := by
  intro l J Jx W hW hJ hJx hY h0
  obtain ⟨D, ho, ha⟩ := hM.block (hW.block b hM.lt)
  exact pvalues1_in F n h8 hro hn l Bm b nn ps D J Jx (fun pre x W1 h1 h2 => hY pre x W1 h1 (Nat.lt_of_lt_of_le h2 ho.size_le)) W hJ ((hW.cell (p := ⟨Bm, 0, none⟩) (cell_lt hm)).trans hm) ho ha hu h0
theorem pvalues_any (b : Nat) (w : World) : Calls Tryz.prog 22 #[.map (some b)] w fun e w' => e = .returned (.func (.func 58) #[] #[.pointer (some ⟨w.heap.size, 0, none⟩)]) ∧ w' = w.alloc (.cells #[.map (some b)] 58) := by
  have hmf : ∀ (fn : Fn) (first cap : Array Value) (w : World), (Instr.makeFunc fn first cap).run Tryz.prog w = .ok (.func fn first cap) w := fun _ _ _ _ => rfl
  go_enter Tryz.func22, Tryz.ntmps22
  go_wp2_with fail
  go_ret
  exact ⟨rfl, rfl⟩
set_option maxHeartbeats 1000000 in
theorem pcollect_any (Bm b nn : Nat) (ps : List LP) (w : World) (hm : w.cell? ⟨Bm, 0, none⟩ = some (.map (some b))) (hM : MapN w b nn ps) (hu : UnN (ps.map (·.1))) (hnn : nn ≤ 3000) :
    Calls Tryz.prog 56 #[.func (.func 58) #[] #[.pointer (some ⟨Bm, 0, none⟩)]] w fun e w' => ∃ xs v, xs.Perm ps ∧ e = .returned v ∧ OwnL 33 9 lkC w' w.heap.size v xs ∧ KB w.heap.size w w' := by
  have eg : ∀ args w, (callFunc 58 args).run Tryz.prog w = .ok (.enter 58 args) w := enters_of Tryz.func58 (by kernel_rfl) rfl
  have HA := hid (callsIn_wide.1 (pappend_in Fence.wide 2 trivial rfl (Nat.le_refl _) 58 #[.pointer (some ⟨Bm, 0, none⟩)] trivial eg (fun xs => xs.Perm ps) nn hnn w w (kb_refl w) (pvalues_stops Fence.wide 1 trivial rfl (Nat.le_refl _) Bm b nn ps w hm hM hu)))
  clear eg hm hM
  go_enter Tryz.func56, Tryz.ntmps56
  go_wp2_with fail
  refine HA.out.mono ?_
  rintro _ w1 ⟨xs, v, hp, rfl, hO, hb⟩
  go_wp2_with fail
  go_ret
  exact ⟨xs, v, hp, rfl, hO, hb⟩
theorem sortN_perm {l m : List LockL} (hl : UnN l) (hm : UnN m) (h : l.Perm m) : sortN l = sortN m := by
  obtain ⟨a1, a2⟩ := sortN_ok hl
  obtain ⟨b1, b2⟩ := sortN_ok hm
  exact riseN_one a1 b1 fun x => by rw [a2.mem_iff, b2.mem_iff, h.mem_iff]
def SortedDo (w : World) (ps : List LP) (e : Ending) (w' : World) : Prop := ∃ (m : List LP) (A : Option Addr) (c : Nat), e = .returned (.slice A m.length c) ∧ m.Perm ps ∧ m.map (·.1) = sortN (ps.map (·.1)) ∧ Lies 9 lkC w' A m ∧ KB w.heap.size w w'
set_option maxHeartbeats 1000000 in
theorem psorted_any (Bm b nn : Nat) (ps : List LP) (w : World) (hm : w.cell? ⟨Bm, 0, none⟩ = some (.map (some b))) (hM : MapN w b nn ps) (hu : UnN (ps.map (·.1))) (hnn : nn ≤ 3000) (hl : ps.length ≤ 3000) :
    Calls Tryz.prog 21 #[.func (.func 58) #[] #[.pointer (some ⟨Bm, 0, none⟩)], .func (.func 23) #[] #[]] w (SortedDo w ps) := by
  have HC := hid (pcollect_any Bm b nn ps w hm hM hu hnn)
  have HU := hid hu
  have HS := hid (fun (base : Nat) (v : Value) (o : List LP) (u : World) (h : OwnL 33 9 lkC u base v o) (hb : base ≤ u.heap.size) (hln : o.length ≤ 400000) (ha : UnN (o.map (·.1))) => ksort_any base v o u h hb hln ha)
  clear hm hM hu
  go_enter Tryz.func21, Tryz.ntmps21
  go_wp2_with fail
  refine HC.out.mono ?_
  rintro _ w1 ⟨xs, v, hp, rfl, hO, hb⟩
  have HP := hid hp
  have HB := hid hb
  have hux : UnN (xs.map (·.1)) := by
    refine List.pairwise_map.2 ?_
    have := HU.out
    unfold UnN at this
    rw [List.pairwise_map] at this
    exact (hp.symm.pairwise_iff (fun h => Ne.symm h)).1 this
  have HS2 := hid (HS.out w.heap.size v xs w1 hO hb.size (by rw [hp.length_eq]; omega) hux)
  clear hp hb hO HS HC
  go_wp2_with fail
  refine HS2.out.mono ?_
  rintro _ w2 ⟨rfl, m, A, c, rfl, hpm, hs, hli, hb2⟩
  go_wp2_with fail
  go_ret
  refine ⟨m, A, c, rfl, hpm.trans HP.out, hs.trans ?_, hli, Go.RowKit.Below.trans HB.out hb2⟩
  exact sortN_perm hux HU.out (HP.out.map _)
end Go.Proofs.YtlmkglgjdmjnkaaGreatDoor
