/- Parts 13 of the proofs. -/
import Derived.Test.YtlmkglgjdmjnkaaGreatDoorQ11
import Derived.Test.YtlmkglgjdmjnkaaGreatDoorQ12
namespace Go.Proofs.YtlmkglgjdmjnkaaGreatDoor
open Go.RowKit Go.Lib
set_option linter.unusedVariables false
set_option linter.unusedSimpArgs false
def backOk (md : Region.Mode) (ops : Array Oper) : Bool := (List.range ops.size).all fun i => match ops[i]? with
  | some o => o.after.all fun e => !Region.binds md e || decide (e.on < i)
  | none => true
section
variable {P : Program} {ops : Array Oper} {Q : Exit → Act → World → Prop} {md : Region.Mode}
theorem back_spec (hb : backOk md ops = true) {i : Nat} {o : Oper} (ho : ops[i]? = some o) {e : Edge} (he : e ∈ o.after) (hbd : Region.binds md e = true) : e.on < i := by
  unfold backOk at hb
  rw [List.all_eq_true] at hb
  have h := hb i (List.mem_range.2 (Array.getElem?_eq_some_iff.1 ho).1)
  rw [ho] at h
  dsimp only at h
  rw [Array.all_eq_true_iff_forall_mem] at h
  have := h e he
  rw [hbd] at this
  simpa using this
theorem getD_size {l : Array Bool} {i : Nat} (h : i < l.size) : l.getD i true = l.getD i false := by
  simp [Array.getD, h]
theorem all_done (hb : backOk md ops = true) {l : Array Bool} (hs : l.size = ops.size) (hr : Region.ready md ops l = []) : ∀ i, i < ops.size → l.getD i false = true := by
  intro i
  induction i using Nat.strongRecOn with
  | _ i ih =>
    intro h
    cases hd : l.getD i false
    · exfalso
      have hm : i ∈ Region.ready md ops l := mem_ready.2 ⟨by rw [getD_size (by omega)]; exact hd, ops[i], Array.getElem?_eq_getElem h, fun e he hbd => ih e.on (back_spec hb (Array.getElem?_eq_getElem h) he hbd) (Nat.lt_trans (back_spec hb (Array.getElem?_eq_getElem h) he hbd) h)⟩
      rw [hr] at hm
      cases hm
    · rfl
def more (d : Nat → Bool) (i : Nat) : Nat → Bool := fun j => if j = i then true else d j
theorem getD_more {l : Array Bool} {i : Nat} (h : i < l.size) : (fun j => (l.setIfInBounds i true).getD j false) = more (fun j => l.getD j false) i := by
  funext j
  unfold more
  by_cases hj : j = i
  · subst hj
    simp [Array.getD, h]
  · rw [if_neg hj]
    unfold Array.getD
    simp only [Array.size_setIfInBounds]
    split
    · rw [Array.getInternal_eq_getElem, Array.getInternal_eq_getElem, Array.getElem_setIfInBounds_ne (by assumption) (fun e => hj e.symm)]
    · rfl
def shutD (md : Region.Mode) (ops : Array Oper) (d : Nat → Bool) : Prop := ∀ j o, ops[j]? = some o → d j = true → ∀ e ∈ o.after, Region.binds md e = true → d e.on = true
theorem anyH_inv (hb : backOk md ops = true) (Inv : (Nat → Bool) → Act → World → Prop)
    (step : ∀ d a w i o, ops[i]? = some o → d i = false → (∀ e ∈ o.after, Region.binds md e = true → d e.on = true) → shutD md ops d → Inv d a w → wpOp P ops Q i (fun a' w' => Inv (more d i) a' w') a w)
    (done : ∀ d a w, (∀ i, i < ops.size → d i = true) → Inv d a w → Q .normal a w) :
    ∀ (fuel : Nat) (l : Array Bool) (a : Act) (w : World), l.size = ops.size → l.toList.countP (fun b => !b) ≤ fuel → shutD md ops (fun j => l.getD j false) → Inv (fun j => l.getD j false) a w → wpAnyH P md ops Q (fun _ => True) fuel l a w
  | 0, l, a, w, hs, hf, _, hi => by
    have hr : Region.ready md ops l = [] := by
      rw [List.eq_nil_iff_forall_not_mem]
      intro i hm
      obtain ⟨h1, o, ho, -⟩ := mem_ready.1 hm
      have hl : i < l.size := by rw [hs]; exact (Array.getElem?_eq_some_iff.1 ho).1
      have : l.toList.countP (fun b => !b) = 0 := by omega
      rw [List.countP_eq_zero] at this
      have h2 := this l[i] (by simp)
      simp [Array.getD, hl] at h1
      simp [h1] at h2
    exact ⟨hr, done _ _ _ (all_done hb hs hr) hi⟩
  | fuel + 1, l, a, w, hs, hf, hc, hi => by
    refine ⟨fun hr => done _ _ _ (all_done hb hs hr) hi, fun i hm => ?_⟩
    obtain ⟨h1, o, ho, h2⟩ := mem_ready.1 hm
    have hl : i < l.size := by rw [hs]; exact (Array.getElem?_eq_some_iff.1 ho).1
    rw [getD_size hl] at h1
    refine wpOp_mono (fun a' w' h => ⟨trivial, ?_⟩) (step _ a w i o ho h1 h2 hc hi)
    refine anyH_inv hb Inv step done fuel _ a' w' (by simpa using hs) ?_ ?_ (by rw [getD_more hl]; exact h)
    · have h3 : l[i] = false := by simpa [Array.getD, hl] using h1
      have h4 : 0 < l.toList.countP (fun b => !b) := List.countP_pos_iff.2 ⟨l[i], by simp, by simp [h3]⟩
      have h5 : (l.setIfInBounds i true).toList.countP (fun b => !b) = l.toList.countP (fun b => !b) - 1 := by
        rw [Array.toList_setIfInBounds, List.countP_set (by simpa using hl)]
        simp only [Array.getElem_toList, h3, Bool.not_false, if_true, Bool.not_true, Bool.false_eq_true, if_false, Nat.add_zero]
      omega
    · rw [getD_more hl]
      intro j oj hoj hdj e he hbd
      unfold more at hdj ⊢
      by_cases hj : j = i
      · subst hj
        obtain rfl : o = oj := by rw [ho] at hoj; injection hoj
        have := h2 e he hbd
        split
        · rfl
        · exact this
      · rw [if_neg hj] at hdj
        split
        · rfl
        · exact hc j oj hoj hdj e he hbd
theorem wp_region_inv (Inv : (Nat → Bool) → Act → World → Prop) {id : Nat} {a : Act} {w : World} (hm : P.follows .mixedOrders = true) (hb : backOk .any ops = true) (h0 : Inv (fun _ => false) a w.drew)
    (step : ∀ d a w i o, ops[i]? = some o → d i = false → (∀ e ∈ o.after, Region.binds .any e = true → d e.on = true) → shutD .any ops d → Inv d a w → wpOp P ops Q i (fun a' w' => Inv (more d i) a' w') a w)
    (done : ∀ d a w, (∀ i, i < ops.size → d i = true) → Inv d a w → Q .normal a w) : (Code.region id ops true).wp P Q a w := by
  have hz : (fun j => (Array.replicate ops.size false).getD j false) = fun _ => false := by
    funext j
    unfold Array.getD
    split <;> simp
  refine wp_region_held (S := fun _ => True) hm (anyH_inv hb Inv step done ops.size _ a _ (by simp) ?_ ?_ ?_)
  · exact Nat.le_trans List.countP_le_length (by simp)
  · rw [hz]
    intro j o _ h
    cases h
  · rw [hz]
    exact h0
end
end Go.Proofs.YtlmkglgjdmjnkaaGreatDoor
namespace Go.Proofs.YtlmkglgjdmjnkaaGreatDoor
open Go.RowKit Go.Lib
open Rw
set_option linter.unusedVariables false
set_option linter.unusedSimpArgs false
theorem two_boxes (w : World) (cs ds : List Value) (t s : TypeId) : Box ((w.alloc (.cells cs.toArray t)).alloc (.cells ds.toArray s)) w.heap.size cs ∧ Box ((w.alloc (.cells cs.toArray t)).alloc (.cells ds.toArray s)) (w.heap.size + 1) ds ∧ KB w.heap.size w ((w.alloc (.cells cs.toArray t)).alloc (.cells ds.toArray s)) := by
  refine ⟨(Box.new w cs t).kb (kb_new _ _), ?_, kb_tr (kb_new _ _) (kb_new _ _)⟩
  have := Box.new (w.alloc (.cells cs.toArray t)) ds s
  rwa [World.size_alloc] at this
structure LockL where
  name : ByteArray
  v : Ver
  shelf : ByteArray
  sum : Int
  feats : List ByteArray
structure LockH where
  A : Option Addr
  c : Nat
abbrev LockL.cells (x : LockL) (h : LockH) : List Value := [.string x.name, .int .i64 x.v.maj, .int .i64 x.v.min, .int .i64 x.v.pat, .string x.v.pre, .string x.v.bld, .string x.shelf, .int .u64 x.sum, .slice h.A x.feats.length h.c]
abbrev LockL.val (x : LockL) (h : LockH) : Value := .agg #[.string x.name, .int .i64 x.v.maj, .int .i64 x.v.min, .int .i64 x.v.pat, .string x.v.pre, .string x.v.bld, .string x.shelf, .int .u64 x.sum, .slice h.A x.feats.length h.c]
structure LockIs (w : World) (x : LockL) (h : LockH) : Prop where
  tx : Texts w h.A x.feats
  ln : x.feats.length ≤ 1000000
  cp : x.feats.length ≤ h.c
  fit : x.name.size ≤ 9223372036854775807
theorem LockIs.kb {w w' : World} {x : LockL} {h : LockH} (k : LockIs w x h) (hb : KB w.heap.size w w') : LockIs w' x h := ⟨k.tx.kb hb, k.ln, k.cp, k.fit⟩
structure LockC (w : World) (b o : Nat) (x : LockL) (h : LockH) : Prop where
  lt : b < w.heap.size
  c0 : w.cell? ⟨b, o, none⟩ = some (.string x.name)
  c1 : w.cell? ⟨b, o + 1, none⟩ = some (.int .i64 x.v.maj)
  c2 : w.cell? ⟨b, o + 2, none⟩ = some (.int .i64 x.v.min)
  c3 : w.cell? ⟨b, o + 3, none⟩ = some (.int .i64 x.v.pat)
  c4 : w.cell? ⟨b, o + 4, none⟩ = some (.string x.v.pre)
  c5 : w.cell? ⟨b, o + 5, none⟩ = some (.string x.v.bld)
  c6 : w.cell? ⟨b, o + 6, none⟩ = some (.string x.shelf)
  c7 : w.cell? ⟨b, o + 7, none⟩ = some (.int .u64 x.sum)
  c8 : w.cell? ⟨b, o + 8, none⟩ = some (.slice h.A x.feats.length h.c)
theorem LockC.kb {w w' : World} {b o : Nat} {x : LockL} {h : LockH} (k : LockC w b o x h) (hb : KB w.heap.size w w') : LockC w' b o x h :=
  ⟨Nat.lt_of_lt_of_le k.lt hb.size, cell_kb k.lt hb k.c0, cell_kb k.lt hb k.c1, cell_kb k.lt hb k.c2, cell_kb k.lt hb k.c3, cell_kb k.lt hb k.c4, cell_kb k.lt hb k.c5, cell_kb k.lt hb k.c6, cell_kb k.lt hb k.c7, cell_kb k.lt hb k.c8⟩
abbrev LP := LockL × LockH
abbrev lkC (p : LP) : List Value := p.1.cells p.2
def LkSub (w : World) (p : LP) : Prop := LockIs w p.1 p.2
theorem LkSub.mono (w w' : World) (p : LP) (m : Mono w w') (h : LkSub w p) : LkSub w' p := ⟨RowOf.mono TextAt.mono h.tx m, h.ln, h.cp, h.fit⟩
theorem lk_len (p : LP) : (lkC p).length = 9 := rfl
theorem lk_one (p : LP) : ∀ u ∈ lkC p, u.oneCell' = true := by
  intro u hu
  simp only [lkC, LockL.cells, List.mem_cons, List.not_mem_nil, or_false] at hu
  rcases hu with rfl | rfl | rfl | rfl | rfl | rfl | rfl | rfl | rfl <;> rfl
structure Locks (w : World) (A : Option Addr) (l : List LP) : Prop where
  row : Lies 9 lkC w A l
  sub : ∀ p ∈ l, LkSub w p
theorem Locks.mono {w w' : World} {A : Option Addr} {l : List LP} (h : Locks w A l) (m : Mono w w') : Locks w' A l := ⟨h.row.mono m, fun p hp => LkSub.mono _ _ _ m (h.sub p hp)⟩
theorem Locks.kb {w w' : World} {A : Option Addr} {l : List LP} (h : Locks w A l) (hb : KB w.heap.size w w') : Locks w' A l := h.mono (Mono.kb hb)
theorem Locks.nil {w : World} {A : Option Addr} : Locks w A [] := ⟨.inl rfl, fun _ h => by cases h⟩
theorem lock_at {w : World} {A : Option Addr} {l : List LP} {k : Nat} (h : Locks w A l) (hk : k < l.length) : ∃ b off, A = some ⟨b, off, none⟩ ∧ LockIs w l[k].1 l[k].2 ∧ LockC w b (off + k * 9) l[k].1 l[k].2 := by
  obtain ⟨b, off, hA, hl, h2⟩ := h.row.at_ hk
  exact ⟨b, off, hA, h.sub _ (List.getElem_mem hk), ⟨hl, h2 0 _ rfl, h2 1 _ rfl, h2 2 _ rfl, h2 3 _ rfl, h2 4 _ rfl, h2 5 _ rfl, h2 6 _ rfl, h2 7 _ rfl, h2 8 _ rfl⟩⟩
structure MoveL where
  kind : Int
  line : LockL
abbrev MP := MoveL × LockH
abbrev mvC (m : MP) : List Value := [.int .i64 m.1.kind, .string m.1.line.name, .int .i64 m.1.line.v.maj, .int .i64 m.1.line.v.min, .int .i64 m.1.line.v.pat, .string m.1.line.v.pre, .string m.1.line.v.bld, .string m.1.line.shelf, .int .u64 m.1.line.sum, .slice m.2.A m.1.line.feats.length m.2.c]
def MvSub (w : World) (m : MP) : Prop := LockIs w m.1.line m.2
theorem MvSub.mono (w w' : World) (p : MP) (m : Mono w w') (h : MvSub w p) : MvSub w' p := ⟨RowOf.mono TextAt.mono h.tx m, h.ln, h.cp, h.fit⟩
theorem mv_one (p : MP) : ∀ u ∈ mvC p, u.oneCell' = true := by
  intro u hu
  simp only [mvC, List.mem_cons, List.not_mem_nil, or_false] at hu
  rcases hu with rfl | rfl | rfl | rfl | rfl | rfl | rfl | rfl | rfl | rfl <;> rfl
structure Moves (w : World) (A : Option Addr) (l : List MP) : Prop where
  row : Lies 10 mvC w A l
  sub : ∀ p ∈ l, MvSub w p
theorem Moves.mono {w w' : World} {A : Option Addr} {l : List MP} (h : Moves w A l) (m : Mono w w') : Moves w' A l := ⟨h.row.mono m, fun p hp => MvSub.mono _ _ _ m (h.sub p hp)⟩
theorem Moves.kb {w w' : World} {A : Option Addr} {l : List MP} (h : Moves w A l) (hb : KB w.heap.size w w') : Moves w' A l := h.mono (Mono.kb hb)
theorem Moves.nil {w : World} {A : Option Addr} : Moves w A [] := ⟨.inl rfl, fun _ h => by cases h⟩
theorem move_at {w : World} {A : Option Addr} {l : List MP} {k : Nat} (h : Moves w A l) (hk : k < l.length) : ∃ b off, A = some ⟨b, off, none⟩ ∧ LockIs w l[k].1.line l[k].2 ∧ w.cell? ⟨b, off + k * 10, none⟩ = some (.int .i64 l[k].1.kind) ∧ LockC w b (off + k * 10 + 1) l[k].1.line l[k].2 := by
  obtain ⟨b, off, hA, hl, h2⟩ := h.row.at_ hk
  exact ⟨b, off, hA, h.sub _ (List.getElem_mem hk), h2 0 _ rfl, ⟨hl, h2 1 _ rfl, h2 2 _ rfl, h2 3 _ rfl, h2 4 _ rfl, h2 5 _ rfl, h2 6 _ rfl, h2 7 _ rfl, h2 8 _ rfl, h2 9 _ rfl⟩⟩
def UnN (l : List LockL) : Prop := l.Pairwise fun a b => a.name ≠ b.name
def eqLk (a b : LockL) : Bool := sameB a.name b.name && (eqVer a.v b.v && (sameB a.shelf b.shelf && ((a.sum == b.sum) && eqL sameB a.feats b.feats)))
theorem eqL_iffB : ∀ {a b : List ByteArray}, eqL sameB a b = true ↔ a = b
  | [], [] => by simp [eqL]
  | [], _ :: _ => by simp [eqL]
  | _ :: _, [] => by simp [eqL]
  | x :: a, y :: b => by simp only [eqL, Bool.and_eq_true, same_iff, eqL_iffB, List.cons.injEq]
theorem eqLk_iff {a b : LockL} : eqLk a b = true ↔ a = b := by
  obtain ⟨n, v, s, m, f⟩ := a
  obtain ⟨n', v', s', m', f'⟩ := b
  simp only [eqLk, Bool.and_eq_true, same_iff, eqVer_iff, eqL_iffB, beq_iff_eq, LockL.mk.injEq]
def nmIs (n : ByteArray) (x : LockL) : Bool := sameB x.name n
def atN (n : ByteArray) (l : List LockL) : Option LockL := l.find? (nmIs n)
def outN (n : ByteArray) (l : List LockL) : List LockL := l.filter fun x => !nmIs n x
theorem nmIs_iff {n : ByteArray} {x : LockL} : nmIs n x = true ↔ x.name = n := same_iff
def sameAt (x : LockL) (l : List LockL) : Bool := match atN x.name l with
  | some y => eqLk y x
  | none => false
def stepD (s : List LockL × List LockL) (m : MoveL) : Option (List LockL × List LockL) :=
  if m.kind = 1 then some (s.1, s.2 ++ [m.line])
  else if m.kind = 2 ∧ sameAt m.line s.1 = true then some (outN m.line.name s.1, s.2)
  else if m.kind = 3 ∧ (atN m.line.name s.1).isNone = true ∧ s.2.any (fun y => eqLk y m.line) = true then some (s.1 ++ [m.line], s.2)
  else none
def insN (p : LockL) : List LockL → List LockL
  | [] => [p]
  | x :: r => if Op.bytesLess (bts x.name) (bts p.name) then x :: insN p r else p :: x :: r
def sortN (l : List LockL) : List LockL := l.foldl (fun o p => insN p o) []
def doL : List LockL × List LockL → List MoveL → Option (List LockL)
  | s, [] => some (sortN s.1)
  | s, m :: r => match stepD s m with
    | some t => doL t r
    | none => none
theorem do_drop {s : List LockL × List LockL} {l : List MoveL} {k : Nat} (h : k < l.length) : doL s (l.drop k) = match stepD s l[k] with
    | some t => doL t (l.drop (k + 1))
    | none => none := by
  rw [List.drop_eq_getElem_cons h, doL]
theorem do_end {s : List LockL × List LockL} {l : List MoveL} {k : Nat} (h : l.length ≤ k) : doL s (l.drop k) = some (sortN s.1) := by
  rw [List.drop_eq_nil_of_le h, doL]
theorem UnN.out {l : List LockL} (h : UnN l) (n : ByteArray) : UnN (outN n l) := List.Pairwise.filter _ h
theorem atN_none {n : ByteArray} {l : List LockL} (h : (atN n l).isNone = true) : ∀ x ∈ l, x.name ≠ n := fun x hx e => by
  have := List.find?_eq_none.1 (Option.isNone_iff_eq_none.1 h) x hx
  exact this (nmIs_iff.2 e)
theorem UnN.put {l : List LockL} (h : UnN l) {x : LockL} (hn : (atN x.name l).isNone = true) : UnN (l ++ [x]) :=
  List.pairwise_append.2 ⟨h, List.pairwise_singleton _ _, fun y hy z hz => by rcases List.mem_singleton.1 hz with rfl; exact atN_none hn y hy⟩
theorem UnN.step {s t : List LockL × List LockL} {m : MoveL} (h : UnN s.1) (e : stepD s m = some t) : UnN t.1 := by
  unfold stepD at e
  split at e
  · injection e with e; subst e; exact h
  · split at e
    · injection e with e; subst e; exact h.out _
    · split at e
      · rename_i hp
        injection e with e; subst e; exact h.put hp.2.1
      · cases e
def lessN (a b : LockL) : Prop := Op.bytesLess (bts a.name) (bts b.name) = true
theorem insN_perm (p : LockL) : ∀ l, (insN p l).Perm (p :: l)
  | [] => List.Perm.refl _
  | x :: r => by
    rw [insN]
    split
    · exact ((insN_perm p r).cons x).trans (List.Perm.swap p x r)
    · exact List.Perm.refl _
theorem insN_rise {p : LockL} : ∀ {l : List LockL}, l.Pairwise lessN → (∀ x ∈ l, x.name ≠ p.name) → (insN p l).Pairwise lessN
  | [], _, _ => by rw [insN]; exact List.pairwise_singleton _ _
  | x :: r, h, hn => by
    rw [insN]
    rw [List.pairwise_cons] at h
    split
    · rename_i hx
      rw [List.pairwise_cons]
      refine ⟨fun a ha => ?_, insN_rise h.2 fun y hy => hn y (List.mem_cons_of_mem _ hy)⟩
      rcases List.mem_cons.1 ((insN_perm p r).mem_iff.1 ha) with rfl | ha
      · exact hx
      · exact h.1 a ha
    · rename_i hx
      have hpx : lessN p x := by
        have h1 : Op.bytesLess (bts x.name) (bts p.name) = false := Bool.not_eq_true _ |>.mp hx
        unfold lessN
        cases h2 : Op.bytesLess (bts p.name) (bts x.name)
        · exact absurd (bts_inj (bless_tri _ _ h1 h2)) (hn x (List.mem_cons_self ..))
        · rfl
      rw [List.pairwise_cons, List.pairwise_cons]
      refine ⟨fun a ha => ?_, h⟩
      rcases List.mem_cons.1 ha with rfl | ha
      · exact hpx
      · exact bless_tran _ _ _ hpx (h.1 a ha)
theorem sortN_go : ∀ (l o : List LockL), o.Pairwise lessN → UnN l → (∀ x ∈ o, ∀ y ∈ l, x.name ≠ y.name) → (l.foldl (fun o p => insN p o) o).Pairwise lessN ∧ (l.foldl (fun o p => insN p o) o).Perm (o ++ l)
  | [], o, h, _, _ => ⟨h, by rw [List.append_nil]; exact List.Perm.refl _⟩
  | p :: l, o, h, ha, hx => by
    have hp := List.pairwise_cons.1 ha
    rw [List.foldl_cons]
    obtain ⟨h1, h2⟩ := sortN_go l (insN p o) (insN_rise h fun x hx' => hx x hx' p (List.mem_cons_self ..)) hp.2 fun x hx' y hy => by
      rcases List.mem_cons.1 ((insN_perm p o).mem_iff.1 hx') with rfl | k
      · exact hp.1 y hy
      · exact hx x k y (List.mem_cons_of_mem _ hy)
    exact ⟨h1, h2.trans (((insN_perm p o).append_right l).trans List.perm_middle.symm)⟩
theorem sortN_ok {l : List LockL} (h : UnN l) : (sortN l).Pairwise lessN ∧ (sortN l).Perm l := by
  have := sortN_go l [] List.Pairwise.nil h (fun x hx => by cases hx)
  rwa [List.nil_append] at this
theorem lessN_anti {a b : LockL} (h1 : lessN a b) (h2 : lessN b a) : False := by
  have := bless_asym _ _ h1
  rw [lessN, this] at h2
  cases h2
theorem riseN_one : ∀ {l m : List LockL}, l.Pairwise lessN → m.Pairwise lessN → (∀ x, x ∈ l ↔ x ∈ m) → l = m
  | [], [], _, _, _ => rfl
  | [], b :: m, _, _, h => by have := (h b).2 (List.mem_cons_self ..); cases this
  | a :: l, [], _, _, h => by have := (h a).1 (List.mem_cons_self ..); cases this
  | a :: l, b :: m, h1, h2, h => by
    rw [List.pairwise_cons] at h1 h2
    have e : a = b := by
      rcases List.mem_cons.1 ((h a).1 (List.mem_cons_self ..)) with e | ha
      · exact e
      · rcases List.mem_cons.1 ((h b).2 (List.mem_cons_self ..)) with e | hb
        · exact e.symm
        · exact (lessN_anti (h1.1 b hb) (h2.1 a ha)).elim
    subst e
    rw [riseN_one h1.2 h2.2 fun x => ?_]
    constructor
    · intro hx
      rcases List.mem_cons.1 ((h x).1 (List.mem_cons_of_mem _ hx)) with rfl | k
      · exact (lessN_anti (h1.1 _ hx) (h1.1 _ hx)).elim
      · exact k
    · intro hx
      rcases List.mem_cons.1 ((h x).2 (List.mem_cons_of_mem _ hx)) with rfl | k
      · exact (lessN_anti (h2.1 _ hx) (h2.1 _ hx)).elim
      · exact k
end Go.Proofs.YtlmkglgjdmjnkaaGreatDoor
namespace Go.Proofs.YtlmkglgjdmjnkaaGreatDoor
open Go.RowKit Go.Lib
open Rw
set_option linter.unusedVariables false
set_option linter.unusedSimpArgs false
set_option maxHeartbeats 1000000 in
theorem gplace_any (v n : Int) (w : World) (hn : 0 < n) (hn2 : n ≤ 2000000000) : Calls Tryz.prog 8 #[.int .i64 v, .int .i64 n] w fun e w' => e = .returned (.int .i64 (placeI v n)) ∧ w = w' := by
  have hb := tmod_bd v n hn
  have hz : (n == 0) = false := by simp; omega
  have h1 : ¬ n < 1 := by omega
  obtain ⟨hb1, hb2⟩ := hb
  cases hlt : decide (v.tmod n < 0)
  · have HP := hid (show placeI v n = v.tmod n by rw [placeI, if_neg (by simpa using hlt)])
    go_enter Tryz.func8, Tryz.ntmps8
    go_wp2_with fail
    go_ret
    exact ⟨ret_i HP.out.symm, rfl⟩
  · have HP := hid (show placeI v n = v.tmod n + n by rw [placeI, if_pos (by simpa using hlt)])
    go_enter Tryz.func8, Tryz.ntmps8
    go_wp2_with fail
    go_ret
    exact ⟨ret_i HP.out.symm, rfl⟩
def atG (zs : List Int) (i : Int) : Int := if i < 0 ∨ (zs.length : Int) ≤ i then i.tmod 3 else zs.getD i.toNat 0
set_option maxHeartbeats 1000000 in
theorem gat_any (A : Option Addr) (cap : Nat) (zs : List Int) (i : Int) (w : World) (h : IntsAt w A zs) (hi : 0 ≤ i) (hi2 : i ≤ 1000000000) (hln : zs.length ≤ 9223372036854775807) : Calls Tryz.prog 67 #[.slice A zs.length cap, .int .i64 i] w fun e w' => e = .returned (.int .i64 (atG zs i)) ∧ w = w' := by
  obtain ⟨k, rfl⟩ := Int.eq_ofNat_of_zero_le hi
  by_cases hlt : k < zs.length
  · rcases h with h | ⟨b, off, rfl, hb, hc⟩
    · subst h; simp at hlt
    · have HP := hid (show atG zs (k : Int) = zs.getD k 0 by rw [atG, if_neg (by omega), Int.toNat_natCast])
      have hcell := hc k hlt
      have h1 : (k : Int) < (zs.length : Int) := by omega
      clear hc
      generalize zs.length = n at *
      generalize zs.getD k 0 = z at *
      go_enter Tryz.func67, Tryz.ntmps67
      go_wp2_with fail
      go_ret
      exact ⟨ret_i HP.out.symm, rfl⟩
  · have HP := hid (show atG zs (k : Int) = (k : Int).tmod 3 by rw [atG, if_pos (by omega)])
    have h1 : (zs.length : Int) ≤ (k : Int) := by omega
    clear h
    generalize zs.length = n at *
    go_enter Tryz.func67, Tryz.ntmps67
    go_wp2_with fail
    go_ret
    exact ⟨ret_i HP.out.symm, rfl⟩
def nextG (zs : List Int) (i n : Int) : Int := placeI (atG zs i) n
theorem nextG_bd (zs : List Int) (i n : Int) (hn : 0 < n) : 0 ≤ nextG zs i n ∧ nextG zs i n < n := placeI_bd _ _ hn
theorem ints_set {w : World} {A : Option Addr} {zs : List Int} {g j : Nat} {v : Value} {w0 : World} (h : IntsAt w0 A zs) (hk : KB w0.heap.size w0 w) (hg : w0.heap.size ≤ g) : IntsAt (w.setCell ⟨g, j, none⟩ v) A zs :=
  h.kb (Go.RowKit.Below.setCell hk (p := ⟨g, j, none⟩) hg v)
set_option maxRecDepth 100000 in
set_option maxHeartbeats 1000000 in
theorem gnext_any (w0 : World) (B g : Nat) (A : Option Addr) (c : Nat) (zs : List Int) (i : Nat) (n : Int) (w : World) (hz : IntsAt w0 A zs) (hzn : zs.length ≤ 9223372036854775807) (hk : KB w0.heap.size w0 w) (hg : w0.heap.size ≤ g) (hO : Own B w g [.slice A zs.length c, .int .i64 (i : Int)]) (hi : i ≤ 100000) (hn : 0 < n) (hn2 : n ≤ 2000000000) :
    Calls Tryz.prog 33 #[.pointer (some ⟨g, 0, none⟩), .int .i64 n] w fun e w' => e = .returned (.int .i64 (nextG zs (i : Int) n)) ∧ w' = (w.setCell ⟨g, 1, none⟩ (.int .i64 ((i : Int) + 1))).drew := by
  have CA := hid (fun u (h : IntsAt u A zs) => gat_any A c zs (i : Int) u h (by omega) (by omega) hzn)
  have HZ := hid (show IntsAt (w.setCell ⟨g, 1, none⟩ (.int .i64 ((i : Int) + 1))) A zs from ints_set hz hk hg)
  have CP := hid (fun u => gplace_any (atG zs (i : Int)) n u hn hn2)
  have HV := hid (show nextG zs (i : Int) n = placeI (atG zs (i : Int)) n from rfl)
  have c0 := hO.box.2 0 _ rfl
  have c1 := hO.box.2 1 _ rfl
  have f1 := hO.soft 1
  have gl := hO.box.1
  have i1 : (0 : Int) ≤ (i : Int) := by omega
  have i2 : (i : Int) + 1 - 1 = (i : Int) := by omega
  have i3 : IntKind.i64.wrap ((i : Int) + 1) = (i : Int) + 1 := IntWalk.i64_in _ (by omega)
  have i4 : IntKind.i64.wrap (i : Int) = (i : Int) := IntWalk.i64_in _ (by omega)
  have HO := hid (hO.put (j := 1) (by simp) (.int .i64 ((i : Int) + 1)))
  clear hz hk hO
  generalize atG zs (i : Int) = q at *
  generalize zs.length = m at *
  go_enter Tryz.func33, Tryz.ntmps33
  go_upto_region 2 with fail
  refine wp_name ?_
  intro w1 hw1
  have HW := hid hw1
  have HO1 := hid (show Own B w1 g [.slice A m c, .int .i64 ((i : Int) + 1)] from by rw [hw1]; exact HO.out)
  have HZ1 := hid (show IntsAt w1.drew A zs from by rw [hw1]; exact HZ.out.kb (kb_drewJ (kb_refl _)))
  clear hw1 HO c0 c1 f1 gl
  have hS : KB w1.heap.size w1 w1.drew := kb_drewJ (kb_refl _)
  refine wp_planS (fun u => KB w1.heap.size w1 u) (.call [0, 1, 2, 3, 4, 5, 6, 7, 8, 10] 9 (.call [] 11 (.last [12]))) (by first | assumption | skip) (by kernel_rfl) (by intro _ _ d _ _ h; cases d <;> exact h) (by kernel_rfl) ?_
  have iS : Nonempty (SW fun u => KB w1.heap.size w1 u) := ⟨⟨_, hS⟩⟩
  have d0 := fun (z : SW fun u => KB w1.heap.size w1 u) => (HO1.out.kb z.ok).box.2 0 _ rfl
  have d1 := fun (z : SW fun u => KB w1.heap.size w1 u) => (HO1.out.kb z.ok).box.2 1 _ rfl
  have dl := fun (z : SW fun u => KB w1.heap.size w1 u) => (HO1.out.kb z.ok).box.1
  with_reducible refine plan_call ?_
  simp only [pickOps, List.map_cons, List.map_nil, List.getElem?_toArray, List.getElem?_cons_zero, List.getElem?_cons_succ, Option.getD_some]
  repeat go_big_quiet_step (fail)
  refine wpQuiet_nil ?_
  go_wp2_with fail
  refine (CA.out _ HZ1.out).mono ?_
  rintro _ _ ⟨rfl, rfl⟩
  go_wp2_with fail
  refine plan_onS (hS) ?_
  with_reducible refine plan_call ?_
  simp only [pickOps, List.map_cons, List.map_nil, List.getElem?_toArray, List.getElem?_cons_zero, List.getElem?_cons_succ, Option.getD_some]
  repeat go_big_quiet_step (fail)
  refine wpQuiet_nil ?_
  go_wp2_with fail
  refine (CP.out _).mono ?_
  rintro _ _ ⟨rfl, rfl⟩
  go_wp2_with fail
  refine plan_onS (hS) ?_
  with_reducible refine plan_last ?_
  simp only [pickOps, List.map_cons, List.map_nil, List.getElem?_toArray, List.getElem?_cons_zero, List.getElem?_cons_succ, Option.getD_some]
  repeat go_big_quiet_step (fail)
  refine wpQuiet_nil ?_
  clear d0 d1 dl iS
  go_wp2_with fail
  try rw [Exit.noGoto_ret]
  try go_ret
  exact ⟨ret_i HV.out.symm, by rw [HW.out]⟩
end Go.Proofs.YtlmkglgjdmjnkaaGreatDoor
namespace Go.Proofs.YtlmkglgjdmjnkaaGreatDoor
open Go.RowKit Go.Lib
open Rw
set_option linter.unusedVariables false
set_option linter.unusedSimpArgs false
set_option maxRecDepth 100000 in
set_option maxHeartbeats 2000000 in
theorem sameline_any (x y : LockL) (hx hy : LockH) (w : World) (h1 : LockIs w x hx) (h2 : LockIs w y hy) : Calls Tryz.prog 27 #[x.val hx, y.val hy] w (BoolK w (eqLk x y)) := by
  have HX := hid h1.tx
  have HY := hid h2.tx
  have hxl := h1.ln
  have HV := hid (show eqLk x y = (sameB x.name y.name && (eqVer x.v y.v && (sameB x.shelf y.shelf && ((x.sum == y.sum) && eqL sameB x.feats y.feats)))) from rfl)
  have HL := hid (fun h => eqL_len (f := sameB) (a := x.feats) (b := y.feats) h)
  have hnv := fun u => neqVv x.v y.v u
  have hgv := fun op a b u => eqgV op a b x.v y.v u
  have H2 := hid (two_boxes w (x.cells hx) (y.cells hy) 33 33)
  clear h1 h2
  obtain ⟨xn, xv, xs, xm, xf⟩ := x
  obtain ⟨yn, yv, ys, ym, yf⟩ := y
  dsimp only [LockL.cells, LockL.val, Ver.val] at HX HY hxl HV HL hnv hgv H2 ⊢
  generalize eqLk _ _ = res at *
  obtain ⟨q1, e1⟩ : ∃ q, (xn.toList == yn.toList) = q := ⟨_, rfl⟩
  have e1n : (xn.toList != yn.toList) = !q1 := by rw [bne, e1]
  obtain ⟨q3, e3⟩ : ∃ q, (xs.toList == ys.toList) = q := ⟨_, rfl⟩
  have e3n : (xs.toList != ys.toList) = !q3 := by rw [bne, e3]
  obtain ⟨q4, e4⟩ : ∃ q, (xm == ym) = q := ⟨_, rfl⟩
  have e4n : (xm != ym) = !q4 := by rw [bne, e4]
  replace HV := hid (show res = (q1 && (eqVer xv yv && (q3 && (q4 && eqL sameB xf yf)))) from by rw [HV.out, sameB, sameB, e1, e3, e4])
  generalize eqVer xv yv = q2 at *
  generalize hna : xf.length = n at *
  generalize hnb : yf.length = m at *
  have HN := hid hna
  have HM := hid hnb
  clear hna hnb
  go_enter Tryz.func27, Tryz.ntmps27
  go_upto_region 1 with fail
  refine wp_name ?_
  intro u1 hu
  have HG := hid (show Box u1 w.heap.size _ ∧ Box u1 (w.heap.size + 1) _ ∧ KB w.heap.size w u1 from by rw [hu]; exact H2.out)
  have G1 := hid HG.out.1
  have G2 := hid HG.out.2.1
  have HB1 := hid HG.out.2.2
  clear hu H2 HG
  generalize w.heap.size + 1 = g2 at *
  have x0 := G1.out.2 0 _ rfl
  have x1 := G1.out.2 1 _ rfl
  have x2 := G1.out.2 2 _ rfl
  have x3 := G1.out.2 3 _ rfl
  have x4 := G1.out.2 4 _ rfl
  have x5 := G1.out.2 5 _ rfl
  have x6 := G1.out.2 6 _ rfl
  have x7 := G1.out.2 7 _ rfl
  have x8 := G1.out.2 8 _ rfl
  have xl := G1.out.1
  have y0 := G2.out.2 0 _ rfl
  have y1 := G2.out.2 1 _ rfl
  have y2 := G2.out.2 2 _ rfl
  have y3 := G2.out.2 3 _ rfl
  have y4 := G2.out.2 4 _ rfl
  have y5 := G2.out.2 5 _ rfl
  have y6 := G2.out.2 6 _ rfl
  have y7 := G2.out.2 7 _ rfl
  have y8 := G2.out.2 8 _ rfl
  have yl := G2.out.1
  cases q1
  · go_wp2_with fail
    try rw [Exit.noGoto_ret]
    try go_ret
    exact ⟨by rw [HV.out] <;> rfl, HB1.out⟩
  cases q2
  · go_wp2_with fail
    try rw [Exit.noGoto_ret]
    try go_ret
    exact ⟨by rw [HV.out] <;> rfl, HB1.out⟩
  cases q3
  · go_wp2_with fail
    try rw [Exit.noGoto_ret]
    try go_ret
    exact ⟨by rw [HV.out] <;> rfl, HB1.out⟩
  cases q4
  · go_wp2_with fail
    try rw [Exit.noGoto_ret]
    try go_ret
    exact ⟨by rw [HV.out] <;> rfl, HB1.out⟩
  by_cases hnm : n = m
  · subst hnm
    have e9 : ((n : Int) != (n : Int)) = false := by simp
    replace HV := hid (show res = eqL sameB xf yf from by rw [HV.out]; rfl)
    go_upto_block 0 with fail
    go_wp2_with fail
    clear x0 x1 x2 x3 x4 x5 x6 x7 x8 xl y0 y1 y2 y3 y4 y5 y6 y7 y8 yl e1 e1n e3 e3n e4 e4n hnv hgv e9
    go_loopw [5] (fun i wr => ∃ k : Nat, i = .int .i64 (k : Int) ∧ k ≤ n ∧ Hid (res = eqL sameB (xf.drop k) (yf.drop k)) ∧ Hid (KB u1.heap.size u1 wr)) (fun i _ => n - (intOf i).toNat)
    case atStart => exact ⟨0, rfl, Nat.zero_le _, hid HV.out, hid (kb_refl _)⟩
    case round =>
      rename World => wr
      obtain ⟨k, rfl, hk, HD, HK⟩ := hrel
      have k0 : (0 : Int) ≤ (k : Int) := by omega
      have x8 := (G1.out.kb HK.out).2 8 _ rfl
      have xl := (G1.out.kb HK.out).1
      have y8 := (G2.out.kb HK.out).2 8 _ rfl
      have yl := (G2.out.kb HK.out).1
      by_cases hlt : k < n
      · have h1 : k < xf.length := by rw [HN.out]; exact hlt
        have h2 : k < yf.length := by rw [HM.out]; exact hlt
        obtain ⟨p, off, hA, hpl, cx⟩ := RowOf.at_ (HX.out.kb (kb_tr HB1.out HK.out)) h1
        obtain ⟨q, of2, hB, hql, cy⟩ := RowOf.at_ (HY.out.kb (kb_tr HB1.out HK.out)) h2
        rw [hA] at x8
        rw [hB] at y8
        have HS := hid (eqL_drop (f := sameB) h1 h2)
        have k1 : (k : Int) < (n : Int) := by omega
        unfold TextAt at cx cy
        rw [Nat.mul_one] at cx cy
        generalize xf[k] = a at *
        generalize yf[k] = b at *
        obtain ⟨q0, hq0⟩ : ∃ q0, (a.toList == b.toList) = q0 := ⟨_, rfl⟩
        have hq1 : (a.toList != b.toList) = !q0 := by rw [bne, hq0]
        have HQ0 := hid (show sameB a b = q0 from hq0)
        have HC := hid (And.intro cx cy)
        have HL2 := hid (And.intro hpl hql)
        have HX8 := hid (And.intro x8 y8)
        have HXL := hid (And.intro xl yl)
        go_upto_region 6 with fail
        clear cx cy hpl hql x8 y8 xl yl
        have hS : KB wr.heap.size wr wr.drew := kb_drewJ (kb_refl _)
        refine wp_planS (fun u => KB wr.heap.size wr u) (.last [0, 1, 2, 3, 4, 5, 6, 7, 8, 9, 10]) (by first | assumption | skip) (by kernel_rfl) (by intro _ _ d _ _ h; cases d <;> exact h) (by kernel_rfl) ?_
        have iS : Nonempty (SW fun u => KB wr.heap.size wr u) := ⟨⟨_, hS⟩⟩
        have cx := fun (z : SW fun u => KB wr.heap.size wr u) => cell_kb HL2.out.1 z.ok HC.out.1
        have cy := fun (z : SW fun u => KB wr.heap.size wr u) => cell_kb HL2.out.2 z.ok HC.out.2
        have pl := fun (z : SW fun u => KB wr.heap.size wr u) => Nat.lt_of_lt_of_le HL2.out.1 z.ok.size
        have ql := fun (z : SW fun u => KB wr.heap.size wr u) => Nat.lt_of_lt_of_le HL2.out.2 z.ok.size
        have x8 := fun (z : SW fun u => KB wr.heap.size wr u) => cell_kb HXL.out.1 z.ok HX8.out.1
        have y8 := fun (z : SW fun u => KB wr.heap.size wr u) => cell_kb HXL.out.2 z.ok HX8.out.2
        have xl := fun (z : SW fun u => KB wr.heap.size wr u) => Nat.lt_of_lt_of_le HXL.out.1 z.ok.size
        have yl := fun (z : SW fun u => KB wr.heap.size wr u) => Nat.lt_of_lt_of_le HXL.out.2 z.ok.size
        with_reducible refine plan_last ?_
        simp only [pickOps, List.map_cons, List.map_nil, List.getElem?_toArray, List.getElem?_cons_zero, List.getElem?_cons_succ, Option.getD_some]
        repeat go_big_quiet_step (fail)
        refine wpQuiet_nil ?_
        clear cx cy pl ql x8 y8 xl yl iS
        clear hq0 hq1
        cases q0
        · have HW := hid (HD.out.trans (HS.out.trans (by rw [HQ0.out, Bool.false_and])))
          go_wp2_with fail
          try rw [Exit.noGoto_ret]
          try go_ret
          exact ⟨by rw [HW.out] <;> rfl, kb_tr HB1.out (kb_tr HK.out hS)⟩
        · have HW := hid (HS.out.trans (by rw [HQ0.out, Bool.true_and]))
          go_wp2_with fail
          go_roundw
          case rel => exact ⟨k + 1, by go_num, by omega, hid (HD.out.trans HW.out), hid (kb_tr HK.out hS)⟩
          case measure => simp [intOf] <;> omega
      · obtain rfl : k = n := by omega
        have k1 : ¬ (k : Int) < (k : Int) := by omega
        have HW := hid (HD.out.trans (eqL_end (by rw [HN.out]; exact Nat.le_refl _) (by rw [HM.out]; exact Nat.le_refl _)))
        go_wp2_with fail
        try rw [Exit.noGoto_ret]
        try go_ret
        exact ⟨by rw [HW.out] <;> rfl, kb_tr HB1.out HK.out⟩
  · have e9 : ((n : Int) != (m : Int)) = true := by rw [bne_iff_ne]; omega
    have HW := hid (HL.out hnm)
    go_wp2_with fail
    try rw [Exit.noGoto_ret]
    try go_ret
    exact ⟨by rw [HV.out, HW.out] <;> rfl, HB1.out⟩
def eqLks (a b : List LP) : Bool := eqL eqLk (a.map (·.1)) (b.map (·.1))
set_option maxRecDepth 100000 in
set_option maxHeartbeats 2000000 in
theorem samelines_any (A B : Option Addr) (c d : Nat) (a b : List LP) (w : World) (ha : Locks w A a) (hb : Locks w B b) (hn : a.length ≤ 9223372036854775807) : Calls Tryz.prog 11 #[.slice A a.length c, .slice B b.length d] w (BoolK w (eqLks a b)) := by
  have HA := hid ha
  have HB := hid hb
  have HL := hid (fun h => eqL_len (f := eqLk) (a := a.map (·.1)) (b := b.map (·.1)) h)
  have HV := hid (show eqLks a b = eqL eqLk (a.map (·.1)) (b.map (·.1)) from rfl)
  clear ha hb
  generalize eqLks a b = res at *
  generalize hna : a.length = n at *
  generalize hnb : b.length = m at *
  have HN := hid hna
  have HM := hid hnb
  clear hna hnb
  by_cases hnm : n = m
  · subst hnm
    have e1 : ((n : Int) != (n : Int)) = false := by simp
    go_enter Tryz.func11, Tryz.ntmps11
    go_upto_block 0 with fail
    go_wp2_with fail
    go_loopw [5] (fun i ww => ∃ k : Nat, i = .int .i64 (k : Int) ∧ k ≤ n ∧ Hid (res = eqL eqLk ((a.map (·.1)).drop k) ((b.map (·.1)).drop k)) ∧ Hid (KB w.heap.size w ww)) (fun i _ => n - (intOf i).toNat)
    case atStart => exact ⟨0, rfl, Nat.zero_le _, HV, hid (kb_refl _)⟩
    case round =>
      rename World => wr
      obtain ⟨k, rfl, hk, HD, HK⟩ := hrel
      have k0 : (0 : Int) ≤ (k : Int) := by omega
      by_cases hlt : k < n
      · have h1 : k < a.length := by rw [HN.out]; exact hlt
        have h2 : k < b.length := by rw [HM.out]; exact hlt
        obtain ⟨p, off, hA, hix, hcx⟩ := lock_at (HA.out.kb HK.out) h1
        obtain ⟨q, of2, hB, hiy, hcy⟩ := lock_at (HB.out.kb HK.out) h2
        subst hA
        subst hB
        have HS := hid (eqL_drop (f := eqLk) (a := a.map (·.1)) (b := b.map (·.1)) (k := k) (by simpa using h1) (by simpa using h2))
        have k1 : (k : Int) < (n : Int) := by omega
        have HCX := hid hcx
        have HCY := hid hcy
        simp only [List.getElem_map] at HS
        have HC := hid (fun (u : World) (hb : KB wr.heap.size wr u) => sameline_any a[k].1 b[k].1 a[k].2 b[k].2 u (hix.kb hb) (hiy.kb hb))
        clear hix hiy hcx hcy
        generalize a[k] = x at *
        generalize b[k] = y at *
        obtain ⟨⟨xn, xv, xs, xm, xf⟩, hx⟩ := x
        obtain ⟨⟨yn, yv, ys, ym, yf⟩, hy⟩ := y
        dsimp only [LockL.val] at HCX HCY HC HS
        generalize eqLk _ _ = q0 at *
        go_upto_region 6 with fail
        have hS : KB wr.heap.size wr wr.drew := kb_drewJ (kb_refl _)
        refine wp_planS (fun u => KB wr.heap.size wr u) (.call [0, 1, 2, 3, 4, 5, 6, 7] 8 (.last [9])) (by first | assumption | skip) (by kernel_rfl) (by intro _ _ d _ _ h; cases d <;> exact h) (by kernel_rfl) ?_
        have iS : Nonempty (SW fun u => KB wr.heap.size wr u) := ⟨⟨_, hS⟩⟩
        have x0 := fun (z : SW fun u => KB wr.heap.size wr u) => (HCX.out.kb z.ok).c0
        have x1 := fun (z : SW fun u => KB wr.heap.size wr u) => (HCX.out.kb z.ok).c1
        have x2 := fun (z : SW fun u => KB wr.heap.size wr u) => (HCX.out.kb z.ok).c2
        have x3 := fun (z : SW fun u => KB wr.heap.size wr u) => (HCX.out.kb z.ok).c3
        have x4 := fun (z : SW fun u => KB wr.heap.size wr u) => (HCX.out.kb z.ok).c4
        have x5 := fun (z : SW fun u => KB wr.heap.size wr u) => (HCX.out.kb z.ok).c5
        have x6 := fun (z : SW fun u => KB wr.heap.size wr u) => (HCX.out.kb z.ok).c6
        have x7 := fun (z : SW fun u => KB wr.heap.size wr u) => (HCX.out.kb z.ok).c7
        have x8 := fun (z : SW fun u => KB wr.heap.size wr u) => (HCX.out.kb z.ok).c8
        have xl := fun (z : SW fun u => KB wr.heap.size wr u) => (HCX.out.kb z.ok).lt
        have y0 := fun (z : SW fun u => KB wr.heap.size wr u) => (HCY.out.kb z.ok).c0
        have y1 := fun (z : SW fun u => KB wr.heap.size wr u) => (HCY.out.kb z.ok).c1
        have y2 := fun (z : SW fun u => KB wr.heap.size wr u) => (HCY.out.kb z.ok).c2
        have y3 := fun (z : SW fun u => KB wr.heap.size wr u) => (HCY.out.kb z.ok).c3
        have y4 := fun (z : SW fun u => KB wr.heap.size wr u) => (HCY.out.kb z.ok).c4
        have y5 := fun (z : SW fun u => KB wr.heap.size wr u) => (HCY.out.kb z.ok).c5
        have y6 := fun (z : SW fun u => KB wr.heap.size wr u) => (HCY.out.kb z.ok).c6
        have y7 := fun (z : SW fun u => KB wr.heap.size wr u) => (HCY.out.kb z.ok).c7
        have y8 := fun (z : SW fun u => KB wr.heap.size wr u) => (HCY.out.kb z.ok).c8
        have yl := fun (z : SW fun u => KB wr.heap.size wr u) => (HCY.out.kb z.ok).lt
        dsimp only at x0 x1 x2 x3 x4 x5 x6 x7 x8 y0 y1 y2 y3 y4 y5 y6 y7 y8
        generalize xf.length = xfn at *
        generalize yf.length = yfn at *
        with_reducible refine plan_call ?_
        simp only [pickOps, List.map_cons, List.map_nil, List.getElem?_toArray, List.getElem?_cons_zero, List.getElem?_cons_succ, Option.getD_some]
        repeat go_big_quiet_step (fail)
        refine wpQuiet_nil ?_
        go_wp2_with fail
        refine (HC.out _ hS).mono ?_
        rintro _ u2 ⟨rfl, hb2⟩
        have HB2 := hid (kb_tr hS hb2)
        clear hb2
        go_wp2_with fail
        refine plan_onS (HB2.out) ?_
        with_reducible refine plan_last ?_
        simp only [pickOps, List.map_cons, List.map_nil, List.getElem?_toArray, List.getElem?_cons_zero, List.getElem?_cons_succ, Option.getD_some]
        repeat go_big_quiet_step (fail)
        refine wpQuiet_nil ?_
        clear x0 x1 x2 x3 x4 x5 x6 x7 x8 xl y0 y1 y2 y3 y4 y5 y6 y7 y8 yl iS hS
        cases q0
        · have HW := hid (HD.out.trans (HS.out.trans (Bool.false_and _)))
          go_wp2_with fail
          try rw [Exit.noGoto_ret]
          try go_ret
          exact ⟨by rw [HW.out] <;> rfl, kb_tr HK.out HB2.out⟩
        · have HW := hid (HD.out.trans (HS.out.trans (Bool.true_and _)))
          go_wp2_with fail
          go_roundw
          case rel => exact ⟨k + 1, by go_num, by omega, HW, hid (kb_tr HK.out HB2.out)⟩
          case measure => simp [intOf] <;> omega
      · obtain rfl : k = n := by omega
        have k1 : ¬ (k : Int) < (k : Int) := by omega
        have HW := hid (HD.out.trans (eqL_end (by rw [List.length_map, HN.out]; exact Nat.le_refl _) (by rw [List.length_map, HM.out]; exact Nat.le_refl _)))
        go_wp2_with fail
        try rw [Exit.noGoto_ret]
        try go_ret
        exact ⟨by rw [HW.out] <;> rfl, HK.out⟩
  · have e1 : ((n : Int) != (m : Int)) = true := by rw [bne_iff_ne]; omega
    have HW := hid (HL.out (by rw [List.length_map, List.length_map, HN.out, HM.out]; exact hnm))
    go_enter Tryz.func11, Tryz.ntmps11
    go_wp2_with fail
    try rw [Exit.noGoto_ret]
    try go_ret
    exact ⟨by rw [HV.out, HW.out] <;> rfl, kb_refl _⟩
end Go.Proofs.YtlmkglgjdmjnkaaGreatDoor
