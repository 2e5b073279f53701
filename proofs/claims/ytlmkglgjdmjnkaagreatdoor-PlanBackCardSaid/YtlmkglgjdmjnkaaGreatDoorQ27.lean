/- Parts 27 of the proofs. -/
import Derived.Test.YtlmkglgjdmjnkaaGreatDoorQ26
import Derived.Test.YtlmkglgjdmjnkaaGreatDoorSort2
import Derived.Shelf.SlSortCmp.WholeK
namespace Go.Proofs.YtlmkglgjdmjnkaaGreatDoor
open Go.RowKit Go.Lib
open Rw
set_option linter.unusedVariables false
set_option linter.unusedSimpArgs false
structure AgrI (D : DataW Value) (m : ByteArray → Option Int) (k : Nat) : Prop where
  mp : Go.Maps.Tidy D
  has : ∀ n : ByteArray, Go.Maps.has D (kyN n) = (m n).isSome
  val : ∀ n x, m n = some x → ∀ z, D.atKey (kyN n) z = .held (.int .i64 x)
  sz : Go.Maps.size D = k
def putO (s : (ByteArray → Option Int) × Nat) (n : ByteArray) : (ByteArray → Option Int) × Nat := (fun x => if x = n then some (s.2 : Int) else s.1 x, if (s.1 n).isSome then s.2 else s.2 + 1)
theorem AgrI.start : AgrI (.map []) (fun _ => none) 0 := ⟨Go.Maps.tidy_empty, fun _ => rfl, fun _ _ h => (by cases h), rfl⟩
theorem AgrI.put {D : DataW Value} {m : ByteArray → Option Int} {k : Nat} (h : AgrI D m k) (n : ByteArray) : AgrI (D.put (kyN n) (.held (.int .i64 (k : Int)))) (putO (m, k) n).1 (putO (m, k) n).2 := by
  refine ⟨h.mp.put (kyN_is _) _, fun x => ?_, fun x v hx z => ?_, ?_⟩
  · unfold putO
    dsimp only
    by_cases e : x = n
    · subst e
      rw [Go.Maps.has_put_same h.mp.isMap (kyN_is _), if_pos rfl]
      rfl
    · rw [Go.Maps.has_put_other (fun k => e (kyN_inj k)), h.has, if_neg e]
  · unfold putO at hx
    dsimp only at hx
    by_cases e : x = n
    · subst e
      rw [if_pos rfl] at hx
      injection hx with hx
      subst hx
      exact Go.Maps.atKey_put_same h.mp.isMap (kyN_is _) _ _
    · rw [if_neg e] at hx
      rw [Go.Maps.atKey_put_other (fun k => e (kyN_inj k))]
      exact h.val x v hx z
  · rw [Go.Maps.size_put h.mp, h.has, h.sz]
    rfl
def MapI (w : World) (b n : Nat) (m : ByteArray → Option Int) (k : Nat) : Prop := ∃ D, w.ownsMap Tryz.prog 9 lkR b n D ∧ AgrI D m k
theorem MapI.lt {w : World} {b n k : Nat} {m : ByteArray → Option Int} (h : MapI w b n m k) : b < w.heap.size := by
  obtain ⟨D, h, -⟩ := h
  exact h.lt
theorem MapI.block {w w' : World} {b n k : Nat} {m : ByteArray → Option Int} (h : MapI w b n m k) (hk : w'.heap[b]? = w.heap[b]?) : MapI w' b n m k := by
  obtain ⟨D, ⟨es, clock, hb, F, hs, hD⟩, k⟩ := h
  exact ⟨D, ⟨es, clock, hk.trans hb, F, hs, hD⟩, k⟩
theorem MapI.kb {w w' : World} {b n k : Nat} {m : ByteArray → Option Int} (h : MapI w b n m k) (hb : KB w.heap.size w w') : MapI w' b n m k := h.block (hb.block b h.lt)
theorem zeroI_run (w : World) : (zeroValue 3).run Tryz.prog w = .ok (.int .i64 0) w := by kernel_rfl
set_option maxRecDepth 100000 in
theorem MapI.look {w : World} {b n k : Nat} {m : ByteArray → Option Int} (h : MapI w b n m k) (s : ByteArray) (hs : s.size ≤ 9223372036854775807) : (Instr.lookup 103 (.map (some b)) (.string s) true).run Tryz.prog w = .ok (.tuple #[.int .i64 ((m s).getD 0), .bool (m s).isSome]) w := by
  obtain ⟨D, h, hk⟩ := h
  obtain ⟨v, qs, hrun, hR⟩ := h.look_ok keyLaw Tryz.underlying103 (zeroI_run w) (zd := .held (.int .i64 0)) (zp := []) rfl (key_mk hs)
  have hh := hk.has s
  cases hm : m s with
  | some x =>
    rw [hm] at hh
    rw [hk.val s x hm] at hR
    unfold lkR at hR
    injection hR with hR
    injection hR with hR _
    injection hR with hR
    rw [hrun, hh, hR]
    rfl
  | none =>
    rw [hm] at hh
    rw [Go.Maps.atKey_of_not_has hh] at hR
    unfold lkR at hR
    injection hR with hR
    injection hR with hR _
    injection hR with hR
    rw [hrun, hh, hR]
    rfl
def cmpX : Option Int → Option Int → Int
  | some x, some y => x - y
  | some _, none => -1
  | none, some _ => 1
  | none, none => 0
def cmpO (m : ByteArray → Option Int) (a b : ByteArray) : Int := cmpX (m a) (m b)
set_option maxRecDepth 100000 in
set_option maxHeartbeats 1000000 in
theorem pmoves1_any (x y : MP) (g b n k : Nat) (m : ByteArray → Option Int) (w : World) (hg : Box w g [.map (some b)]) (hm : MapI w b n m k) (hb : ∀ s v, m s = some v → 0 ≤ v ∧ v < 1000000) (hx : x.1.line.name.size ≤ 9223372036854775807) (hy : y.1.line.name.size ≤ 9223372036854775807) : Calls Tryz.prog 42 #[.agg (mvC x).toArray, .agg (mvC y).toArray, .pointer (some ⟨g, 0, none⟩)] w fun e w' => e = .returned (.int .i64 (cmpO m x.1.line.name y.1.line.name)) ∧ w' = (w.alloc (.cells (mvC x).toArray 35)).alloc (.cells (mvC y).toArray 35) := by
  obtain ⟨HB1, HB2, HK⟩ := two_boxes w (mvC x) (mvC y) 35 35
  have HB1 := hid HB1
  have HB2 := hid HB2
  have HK := hid HK
  have HG := hid (hg.kb HK.out)
  have HL := hid (fun s hs => (hm.kb HK.out).look s hs)
  have HO := hid (show cmpO m x.1.line.name y.1.line.name = cmpX (m x.1.line.name) (m y.1.line.name) from rfl)
  have HBX := hid (hb x.1.line.name)
  have HBY := hid (hb y.1.line.name)
  have HLX := hid (HL.out x.1.line.name hx)
  have HLY := hid (HL.out y.1.line.name hy)
  clear hg hm hb hx hy HL
  generalize cmpO m x.1.line.name y.1.line.name = res at *
  generalize m x.1.line.name = mx at *
  generalize m y.1.line.name = my at *
  obtain ⟨⟨xk, ⟨xn, xv, xs, xm, xf⟩⟩, xh⟩ := x
  obtain ⟨⟨yk, ⟨yn, yv, ys, ym, yf⟩⟩, yh⟩ := y
  dsimp only [mvC] at HB1 HB2 HLX HLY HK HG ⊢
  generalize xf.length = lx at *
  generalize yf.length = ly at *
  go_enter Tryz.func42, Tryz.ntmps42
  go_upto_region 1 with fail
  refine wp_name ?_
  intro u hu
  rw [← hu] at HB1 HB2 HK HG HLX HLY
  have HU := hid hu
  clear hu
  have g0 := HG.out.2 0 _ rfl
  have gl := HG.out.1
  have x1 := HB1.out.2 1 _ rfl
  have xl := HB1.out.1
  have y1 := HB2.out.2 1 _ rfl
  have yl := HB2.out.1
  have hlx := HLX.out
  have hly := HLY.out
  cases mx with
  | none =>
    cases my with
    | none =>
      have HRS := hid (show res = 0 from HO.out)
      go_wp2_with fail
      go_ret
      exact ⟨by rw [HRS.out]; rfl, HU.out⟩
    | some vy =>
      have HRS := hid (show res = 1 from HO.out)
      go_wp2_with fail
      go_ret
      exact ⟨by rw [HRS.out]; rfl, HU.out⟩
  | some vx =>
    obtain ⟨b0, b1⟩ := HBX.out vx rfl
    cases my with
    | none =>
      have HRS := hid (show res = -1 from HO.out)
      go_wp2_with fail
      go_ret
      exact ⟨by rw [HRS.out]; rfl, HU.out⟩
    | some vy =>
      obtain ⟨c0, c1⟩ := HBY.out vy rfl
      have HRS := hid (show res = vx - vy from HO.out)
      go_wp2_with fail
      go_ret
      exact ⟨by rw [HRS.out]; rfl, HU.out⟩
end Go.Proofs.YtlmkglgjdmjnkaaGreatDoor
namespace Go.Proofs.YtlmkglgjdmjnkaaGreatDoor
open Go.RowKit Go.Lib Go.Shelf Go.Sort
open Rw
set_option linter.unusedVariables false
set_option linter.unusedSimpArgs false
abbrev MQ := {p : MP // p.1.line.name.size ≤ 9223372036854775807}
instance : Inhabited MQ := ⟨⟨(⟨0, zLk⟩, ⟨none, 0⟩), by decide⟩⟩
abbrev mqC (p : MQ) : List Value := mvC p.1
theorem mq_len (p : MQ) : (mqC p).length = 10 := rfl
abbrev cmpM (m : ByteArray → Option Int) (x y : MQ) : Int := cmpO m x.1.1.line.name y.1.1.line.name
theorem mcell_at (s : MQ) (j : Nat) (h : j < 10) : ∃ u, (mqC s)[j]? = some u ∧ (mqC s)[j]! = u := by
  have hl : j < (mqC s).length := by simpa using h
  exact ⟨(mqC s)[j], List.getElem?_eq_getElem hl, getElem!_pos (mqC s) j hl⟩
theorem movesK_of {w : World} {g : Nat} {d : Array MQ} (h : HoldsK mqC 10 w g 0 d) (hg : g < w.heap.size) : Lies 10 mqC w (some ⟨g, 0, none⟩) d.toList := by
  refine .inr ⟨g, 0, rfl, hg, fun i hi j u hj => ?_⟩
  have hi' : i < d.size := by simpa using hi
  have hj2 : j < 10 := by
    rcases Nat.lt_or_ge j 10 with h' | h'
    · exact h'
    · rw [List.getElem?_eq_none (by simp; omega)] at hj; cases hj
  have hk := (h (i * 10 + j) (by rw [size_flatK]; omega)).1
  rw [get_flatK mqC 10 d (i * 10 + j) (by omega)] at hk
  have e1 : (i * 10 + j) / 10 = i := by omega
  have e2 : (i * 10 + j) % 10 = j := by omega
  rw [e1, e2, getElem!_pos d i hi'] at hk
  rw [Array.getElem_toList] at hj
  obtain ⟨u', hu1, hu2⟩ := mcell_at d[i] j hj2
  rw [hu1] at hj
  injection hj with hj
  subst hj
  have e4 : 0 + i * 10 + j = 0 + (i * 10 + j) := by omega
  rw [e4, hk, hu2]
  rfl
theorem holdsK_ofM {w : World} {g : Nat} {l : List MQ} (h : Lies 10 mqC w (some ⟨g, 0, none⟩) l) (hs : Soft w g) : HoldsK mqC 10 w g 0 l.toArray := by
  intro t ht
  rw [size_flatK] at ht
  have hlen : l.toArray.size = l.length := by simp
  rw [hlen] at ht
  refine ⟨?_, hs _⟩
  rw [get_flatK mqC 10 _ t (by rw [hlen]; exact ht)]
  have hi : t / 10 < l.length := by omega
  rcases h with rfl | ⟨b, off, e, hlt, hc⟩
  · simp at hi
  · injection e with e; injection e with e1 e2 e3; subst e1; subst e2
    obtain ⟨u, hu1, hu2⟩ := mcell_at l[t / 10] (t % 10) (Nat.mod_lt _ (by omega))
    have := hc (t / 10) hi (t % 10) u hu1
    have e4 : 0 + t / 10 * 10 + t % 10 = 0 + t := by omega
    rw [e4] at this
    have e5 : l.toArray[t / 10]! = l[t / 10] := by rw [getElem!_pos l.toArray (t / 10) (by rw [hlen]; exact hi), List.getElem_toArray]
    rw [this, e5, hu2]
    rfl
theorem grown_sortMv {w : World} {g n : Nat} {d : Array MQ} {os : Array Obj} (hg : g < w.heap.size) : w.grownBy (sortWorldK mqC 10 w g 0 n d os) (some g) := by
  refine ⟨rfl, rfl, rfl, size_sortWorldK_c mqC 10 w g 0 n d os, fun k hk hne => ?_⟩
  have hgk : g ≠ k := fun e => hne (by rw [e])
  show ((w.heap.modify g _) ++ os)[k]? = _
  rw [Array.getElem?_append_left (by simp; omega), Array.getElem?_modify, if_neg hgk]
theorem cx_irr (a : Option Int) : ¬ cmpX a a < 0 := by cases a <;> simp [cmpX]
theorem cx_tr {a b c : Option Int} (h1 : cmpX a b < 0) (h2 : cmpX b c < 0) : cmpX a c < 0 := by cases a <;> cases b <;> cases c <;> simp only [cmpX] at * <;> omega
theorem cx_ntr {a b c : Option Int} (h1 : ¬ cmpX a b < 0) (h2 : ¬ cmpX b c < 0) : ¬ cmpX a c < 0 := by cases a <;> cases b <;> cases c <;> simp only [cmpX] at * <;> omega
theorem swoMv (m : ByteArray → Option Int) : SWO (ltOf fun x y : MQ => cmpM m x y) where
  irrefl x := decide_eq_false (cx_irr _)
  trans x y z h1 h2 := decide_eq_true (cx_tr (of_decide_eq_true h1) (of_decide_eq_true h2))
  ntrans x y z h1 h2 := decide_eq_false (cx_ntr (of_decide_eq_false h1) (of_decide_eq_false h2))
theorem isAggM : ∀ w, (isAgg (Tryz.insMove_ren.t 24)).run Tryz.prog w = .ok true w := fun w => by kernel_rfl
theorem sizeOfM : ∀ w, (Go.sizeOf (Tryz.insMove_ren.t 24)).run Tryz.prog w = .ok 10 w := fun w => by kernel_rfl
def insM (m : ByteArray → Option Int) (l : List MQ) : List MQ := (Go.Sort.insertionSort (ltOf fun x y : MQ => cmpM m x y) l.toArray 0 l.length).toList
theorem insM_perm (m : ByteArray → Option Int) (l : List MQ) : (insM m l).Perm l := by
  have h := (insertionSort_holds (lt := ltOf fun x y : MQ => cmpM m x y) (swoMv m) l.toArray 0 l.length (Nat.zero_le _) (by simp)).1
  obtain ⟨p1, _, p3⟩ := h
  have hd : l.toArray.size = l.length := by simp
  unfold insM
  generalize Go.Sort.insertionSort _ l.toArray 0 l.length = d' at *
  have q1 : d'.extract 0 l.length = d' := by rw [← hd, ← p1]; exact Array.extract_size
  have q2 : l.toArray.extract 0 l.length = l.toArray := by rw [← hd]; exact Array.extract_size
  rw [q1, q2] at p3
  simpa using p3
def InsK (g : Nat) (m : ByteArray → Option Int) (l : List MQ) (w : World) (e : Ending) (w' : World) : Prop := e = .returned (.tuple #[]) ∧ Lies 10 mqC w' (some ⟨g, 0, none⟩) (insM m l) ∧ w.grownBy w' (some g)
theorem insmove_any (g cap gB b nn k : Nat) (l : List MQ) (m : ByteArray → Option Int) (w : World) (h : Lies 10 mqC w (some ⟨g, 0, none⟩) l) (hs : Soft w g) (hg : g < w.heap.size) (hB : Box w gB [.map (some b)]) (hne : gB ≠ g) (hM : MapI w b nn m k) (hbn : b ≠ g) (hbd : ∀ s v, m s = some v → 0 ≤ v ∧ v < 1000000) (hln : l.length ≤ 1000000) :
    Calls Tryz.prog 101 #[.slice (some ⟨g, 0, none⟩) l.length cap, .int .i64 0, .int .i64 (l.length : Int), .func (.func 42) #[] #[.pointer (some ⟨gB, 0, none⟩)]] w (InsK g m l w) := by
  have eg : ∀ args w, (callFunc 42 args).run Tryz.prog w = .ok (.enter 42 args) w := enters_of Tryz.func42 (by kernel_rfl) rfl
  have hcmp : CmpLays Tryz.prog 42 #[.pointer (some ⟨gB, 0, none⟩)] mqC 10 (fun x y : MQ => cmpM m x y) g 0 l.toArray.size w := by
    intro n os dk _ x y
    have hgr := grown_sortMv (d := dk) (n := n) (os := os) hg
    have hc := pmoves1_any x.1 y.1 gB b nn k m (sortWorldK mqC 10 w g 0 n dk os) (box_grown hB hgr hne) (hM.block (hgr.block b hM.lt (fun e => hbn (by injection e)))) hbd x.2 y.2
    refine hc.mono ?_
    rintro e w' ⟨he, rfl⟩
    exact ⟨he, below_grow (below_tr (below_new _ _) (below_new _ _))⟩
  have hd : l.toArray.size = l.length := by simp
  have hcon := AnyQ.insertionSortCmpFunc Tryz.insMove 10 isAggM sizeOfM mqC mq_len (fun x v hv => mv_one x.1 v hv) (fun x y => cmpM m x y) 42 #[.pointer (some ⟨gB, 0, none⟩)] g 0 cap 0 l.length l.toArray w eg hcmp (holdsK_ofM h hs) hg (Nat.zero_le _) (by rw [hd]; exact Nat.le_refl _) (by rw [hd]; omega)
  change Calls Tryz.prog 101 _ _ _ at hcon
  rw [hd] at hcon
  refine hcon.mono ?_
  rintro e w' ⟨rfl, n, os, rfl⟩
  have hsz : (Go.Sort.insertionSort (ltOf fun x y : MQ => cmpM m x y) l.toArray 0 l.length).size = l.toArray.size := (insertionSort_holds (lt := ltOf fun x y : MQ => cmpM m x y) (swoMv m) l.toArray 0 l.length (Nat.zero_le _) (by simp)).1.1
  exact ⟨rfl, movesK_of (holdsK_sortWorldK_c mqC 10 w g 0 l.toArray _ n os (holdsK_ofM h hs) hg hsz) (Nat.lt_of_lt_of_le hg (size_sortWorldK_c mqC 10 w g 0 n _ os)), grown_sortMv hg⟩
end Go.Proofs.YtlmkglgjdmjnkaaGreatDoor
namespace Go.Proofs.YtlmkglgjdmjnkaaGreatDoor
open Go.RowKit Go.Lib
open Rw
set_option linter.unusedVariables false
set_option linter.unusedSimpArgs false
def StabK (v : Value) (m : ByteArray → Option Int) (l : List MQ) (w : World) (e : Ending) (w' : World) : Prop := e = .returned (.tuple #[]) ∧ (∃ A c, v = .slice A l.length c ∧ Lies 10 mqC w' A (insM m l)) ∧ ∃ row, w.grownBy w' row ∧ ∀ k, row = some k → v.ownBlock = some k
theorem insM_nil (m : ByteArray → Option Int) : insM m [] = [] := (insM_perm m []).eq_nil
theorem insnil_any (cb : Array Value) (w : World) : Calls Tryz.prog 101 #[.slice none 0 0, .int .i64 0, .int .i64 0, .func (.func 42) #[] cb] w fun e w' => e = .returned (.tuple #[]) ∧ w' = w := by
  go_enter Tryz.func101, Tryz.ntmps101
  go_upto_block 0 with fail
  go_wp2_with fail
  go_loopw [8] (fun iv wr => iv = .int .i64 1 ∧ wr = w) (fun _ _ => 0)
  case atStart => exact ⟨rfl, rfl⟩
  case round =>
    obtain ⟨rfl, rfl⟩ := hrel
    go_wp2_with fail
    go_end0
    exact ⟨rfl, rfl⟩
theorem pstab_any (base : Nat) (v : Value) (gB b nn k : Nat) (l : List MQ) (m : ByteArray → Option Int) (w : World) (h : OwnL 35 10 mqC w base v l) (hB : Box w gB [.map (some b)]) (hne : v.ownBlock ≠ some gB) (hM : MapI w b nn m k) (hbn : v.ownBlock ≠ some b) (hbd : ∀ s v, m s = some v → 0 ≤ v ∧ v < 1000000) (hln : l.length < 20) :
    Calls Tryz.prog 101 #[v, .int .i64 0, .int .i64 (l.length : Int), .func (.func 42) #[] #[.pointer (some ⟨gB, 0, none⟩)]] w (StabK v m l w) := by
  obtain ⟨A, c, hv, hli, hbk, hcap⟩ := OwnL.lies mq_len h
  by_cases h0 : l.length = 0
  · have : l = [] := List.eq_nil_of_length_eq_zero h0
    subst this
    have hv0 : v = .slice none 0 0 ∨ ∃ g cap, v = .slice (some ⟨g, 0, none⟩) 0 cap := by
      rcases h.2 with ⟨hv, -⟩ | ⟨g, cap, cur, hv, -⟩
      · exact .inl hv
      · exact .inr ⟨g, cap, hv⟩
    rcases hv0 with hv0 | ⟨g, cap, hv0⟩
    · subst hv0
      exact (insnil_any #[.pointer (some ⟨gB, 0, none⟩)] w).mono fun e w' ⟨he, hw⟩ => ⟨he, ⟨none, 0, rfl, by rw [insM_nil]; exact .inl rfl⟩, none, by rw [hw]; exact World.grownBy.refl _ _, fun k hk => by cases hk⟩
    · have hg := World.ownsRow.lt h g (by rw [hv0]; rfl)
      have hs : Soft w g := by
        intro j
        rw [hv0] at h
        exact World.ownsRow.frozenAt h j
      rw [hv0]
      refine (insmove_any g cap gB b nn k [] m w (.inl rfl) hs hg.2 hB (fun e => hne (by rw [hv0, e]; rfl)) hM (fun e => hbn (by rw [hv0, e]; rfl)) hbd (by simp)).mono ?_
      rintro e w' ⟨he, hl', hgr⟩
      exact ⟨he, ⟨_, _, rfl, hl'⟩, some g, hgr, fun k hk => by injection hk with hk; subst hk; rfl⟩
  · obtain ⟨g, c2, hv2, hg, hlt, hc2, -⟩ := own_form h (by omega)
    have hs : Soft w g := by
      intro j
      rw [hv2] at h
      exact World.ownsRow.frozenAt h j
    rw [hv2] at hv
    injection hv with e1 e2 e3
    rw [← e1] at hli
    rw [hv2]
    refine (insmove_any g c2 gB b nn k l m w hli hs hlt hB (fun e => hne (by rw [hv2, e]; rfl)) hM (fun e => hbn (by rw [hv2, e]; rfl)) hbd (by omega)).mono ?_
    rintro e w' ⟨he, hl', hgr⟩
    exact ⟨he, ⟨_, _, rfl, hl'⟩, some g, hgr, fun k hk => by injection hk with hk; subst hk; rfl⟩
set_option maxHeartbeats 1000000 in
theorem pstable_any (base : Nat) (v : Value) (gB b nn k : Nat) (l : List MQ) (m : ByteArray → Option Int) (w : World) (h : OwnL 35 10 mqC w base v l) (hB : Box w gB [.map (some b)]) (hne : v.ownBlock ≠ some gB) (hM : MapI w b nn m k) (hbn : v.ownBlock ≠ some b) (hbd : ∀ s v, m s = some v → 0 ≤ v ∧ v < 1000000) (hln : l.length < 20) :
    Calls Tryz.prog 74 #[v, .int .i64 (l.length : Int), .func (.func 42) #[] #[.pointer (some ⟨gB, 0, none⟩)]] w (StabK v m l w) := by
  have HP := hid (pstab_any base v gB b nn k l m w h hB hne hM hbn hbd hln)
  clear h hB hne hM hbn hbd
  obtain ⟨n, hn⟩ : ∃ n, l.length = n := ⟨_, rfl⟩
  have HN := hid hn
  rw [hn] at hln HP ⊢
  clear hn
  have n0 : (0 : Int) ≤ (n : Int) := by omega
  have n1 : (n : Int) < 20 := by omega
  go_enter Tryz.func74, Tryz.ntmps74
  go_upto_block 0 with fail
  go_wp2_with fail
  go_loopw [7, 8] (fun y z wr => y = .int .i64 0 ∧ z = .int .i64 20 ∧ wr = w) (fun _ _ _ => 0)
  case atStart => exact ⟨rfl, rfl, rfl⟩
  case round =>
    obtain ⟨rfl, rfl, hw⟩ := hrel
    have hw := hw.symm
    subst hw
    go_wp2_with fail
    refine HP.out.mono ?_
    rintro _ w' ⟨rfl, hr⟩
    have HR := hid hr
    clear hr
    go_upto_block 2 with fail
    go_wp2_with fail
    go_loopw [6] (fun x wr => x = .int .i64 20 ∧ wr = w') (fun _ _ => 0)
    case atStart => exact ⟨rfl, rfl⟩
    case round =>
      obtain ⟨rfl, hw⟩ := hrel
      have hw := hw.symm
      subst hw
      go_wp2_with fail
      go_end0
      exact ⟨rfl, HR.out⟩
set_option maxHeartbeats 1000000 in
theorem psortst_any (base : Nat) (v : Value) (gB b nn k : Nat) (l : List MQ) (m : ByteArray → Option Int) (w : World) (h : OwnL 35 10 mqC w base v l) (hB : Box w gB [.map (some b)]) (hne : v.ownBlock ≠ some gB) (hM : MapI w b nn m k) (hbn : v.ownBlock ≠ some b) (hbd : ∀ s v, m s = some v → 0 ≤ v ∧ v < 1000000) (hln : l.length < 20) :
    Calls Tryz.prog 41 #[v, .func (.func 42) #[] #[.pointer (some ⟨gB, 0, none⟩)]] w (StabK v m l w) := by
  have HP := hid (pstable_any base v gB b nn k l m w h hB hne hM hbn hbd hln)
  obtain ⟨A, c, hv, -, -, -⟩ := OwnL.lies mq_len h
  clear h hB hne hM hbn hbd
  subst hv
  obtain ⟨n, hn⟩ : ∃ n, l.length = n := ⟨_, rfl⟩
  rw [hn] at HP ⊢
  have HN := hid hn
  clear hn
  go_enter Tryz.func41, Tryz.ntmps41
  go_wp2_with fail
  refine HP.out.mono ?_
  rintro _ w' ⟨rfl, hr⟩
  have HR := hid hr
  clear hr
  go_wp2_with fail
  go_end0
  exact ⟨rfl, HR.out⟩
end Go.Proofs.YtlmkglgjdmjnkaaGreatDoor
namespace Go.Proofs.YtlmkglgjdmjnkaaGreatDoor
open Go.RowKit Go.Lib
open Rw
set_option linter.unusedVariables false
set_option linter.unusedSimpArgs false
section
variable {P : Program} {w : World} {base size n bytes : Nat} {t e : TypeId} {v : Value} {xs : List Value}
theorem wpList_appz (E : EK P t e size bytes) {ops : Array Oper} {rest : List Oper} {o : Oper} {a : Act} {Q : Exit → Act → World → Prop} (hgd : o.guard = none) (s x : Operand)
    (ho : o.op = .call { callee := .builtin .append, args := #[s, x], argTypes := #[t, t] }) (news : List Value)
    (hown : w.ownsRow base e size v n xs) (hs : a.eval s = v) {ad : Addr} {c : Nat} (hx : a.eval x = .slice (some ad) 1 c) (hl : news.length = size) (hsrc : ∀ j u, news[j]? = some u → w.cell? (ad.add j) = some u) (h1 : ∀ u ∈ news, u.oneCell' = true)
    (hm : n + 1 ≤ maxLen) (hn : (n + 1) * bytes ≤ 140737488355328) (hbase : base ≤ w.heap.size)
    (h : ∀ v' w', w'.ownsRow base e size v' (n + 1) (xs ++ news) → w.grownBy w' v.ownBlock → (∀ k, v'.ownBlock = some k → v.ownBlock = some k ∨ w.heap.size ≤ k) → wpList P ops Q rest (a.put o.dst v') w') :
    wpList P ops Q (o :: rest) a w := by
  refine wpList_plain hgd fun _ hK => ?_
  obtain ⟨v', w', hrun, h2, _, h4, h5⟩ := run_appy (P := P) (w := w) E o.type hown (ad := ad) (m := 1) (c := c) (news := news) (by omega) hsrc h1 (by omega) hm hn hbase
  unfold Oper.wp execOp
  simp only [ho, resolve, invoke, builtin, Sem.run_bind, Sem.run_pure, Result.andThen_ok, List.map_toArray, List.map_cons, List.map_nil, hs, hx, hrun]
  exact hK _ _ (h v' w' h2 h4 fun k hk => (h5 k hk).imp id fun h => by rw [h]; exact Nat.le_refl _)
end
def maskB (w : World) (S : Nat → Bool) : World := { w with heap := w.heap.mapIdx fun k ob => if S k then ob else .cells #[] 9 }
theorem maskB_size (w : World) (S : Nat → Bool) : (maskB w S).heap.size = w.heap.size := by simp [maskB]
theorem maskB_cell {w : World} {S : Nat → Bool} {p : Addr} {v : Value} : (maskB w S).cell? p = some v ↔ S p.block = true ∧ w.cell? p = some v := by
  unfold World.cell? maskB
  dsimp only
  rw [Array.getElem?_mapIdx]
  cases h : w.heap[p.block]? with
  | none => simp
  | some ob =>
    rw [Option.map_some]
    cases h2 : S p.block
    · rw [if_neg (by simp)]
      simp
    · rw [if_pos rfl]
      simp
theorem maskB_mono {w w' : World} {S S' : Nat → Bool} (hs : w.heap.size ≤ w'.heap.size) (h : ∀ k, k < w.heap.size → S k = true → S' k = true ∧ w'.heap[k]? = w.heap[k]?) : Mono (maskB w S) (maskB w' S') := by
  refine ⟨by rw [maskB_size, maskB_size]; exact hs, fun p v e => ?_⟩
  obtain ⟨h1, h2⟩ := maskB_cell.1 e
  obtain ⟨h3, h4⟩ := h p.block (cell_lt h2) h1
  exact maskB_cell.2 ⟨h3, (World.cell?_of_block h4).trans h2⟩
theorem maskB_of {w : World} {B : Nat} {S : Nat → Bool} (h : ∀ k, B ≤ k → k < w.heap.size → S k = true) : Mono (mask w B none) (maskB w S) := by
  refine ⟨by rw [maskB_size, mask_size]; exact Nat.le_refl _, fun p v e => ?_⟩
  obtain ⟨⟨h1, _⟩, h2⟩ := mask_cell.1 e
  exact maskB_cell.2 ⟨h _ h1 (cell_lt h2), h2⟩
theorem Mono.of_maskB (w : World) (S : Nat → Bool) : Mono (maskB w S) w := ⟨by rw [maskB_size]; exact Nat.le_refl _, fun _ _ e => (maskB_cell.1 e).2⟩
structure MvS (B g : Nat) (w : World) (S : Nat → Bool) (vo vp : Value) (fs : List MP) (ps : List MQ) (qs : List MP) : Prop where
  lt : ∀ k, S k = true → k < w.heap.size
  f : ∀ x ∈ fs, MvSub (maskB w S) x
  p : ∀ x ∈ ps, MvSub (maskB w S) x.1
  q : ∀ x ∈ qs, MvSub (maskB w S) x
  so : ∀ k, vo.ownBlock = some k → S k = false
  sp : ∀ k, vp.ownBlock = some k → S k = false
  sg : S g = false
  box : Own B w g [vo]
  ro : OwnL 35 10 mvC w B vo fs
  rp : OwnL 35 10 mqC w B vp ps
  ap : ∀ k, vo.ownBlock = some k → vp.ownBlock ≠ some k
  no : vo.ownBlock ≠ some g
  np : vp.ownBlock ≠ some g
section
variable {B g : Nat} {w w' : World} {S : Nat → Bool} {vo vp v' : Value} {fs qs : List MP} {ps : List MQ}
theorem MvS.copy (h : MvS B g w S vo vp fs ps qs) (hb : KB w.heap.size w w') {a : MP} (ha : MvSub (mask w' w.heap.size none) a) : MvS B g w' (fun k => S k || (decide (w.heap.size ≤ k) && decide (k < w'.heap.size))) vo vp fs ps (a :: qs) := by
  have hm : Mono (maskB w S) (maskB w' (fun k => S k || (decide (w.heap.size ≤ k) && decide (k < w'.heap.size)))) := maskB_mono hb.size fun k hk hs => ⟨by rw [hs]; rfl, hb.block k hk⟩
  have hz : ∀ k, k < w.heap.size → S k = false → (S k || (decide (w.heap.size ≤ k) && decide (k < w'.heap.size))) = false := fun k hk hs => by rw [hs, decide_eq_false (by omega)]; rfl
  refine ⟨fun k hk => ?_, fun x hx => MvSub.mono _ _ x hm (h.f x hx), fun x hx => MvSub.mono _ _ x.1 hm (h.p x hx), fun x hx => ?_, fun k hk => hz k (World.ownsRow.lt h.ro k hk).2 (h.so k hk), fun k hk => hz k (World.ownsRow.lt h.rp k hk).2 (h.sp k hk), hz g h.box.box.1 h.sg, h.box.kb hb, h.ro.kb hb, h.rp.kb hb, h.ap, h.no, h.np⟩
  · rcases Bool.or_eq_true _ _ ▸ hk with h1 | h1
    · exact Nat.lt_of_lt_of_le (h.lt k h1) hb.size
    · simp only [Bool.and_eq_true, decide_eq_true_eq] at h1
      exact h1.2
  · rcases List.mem_cons.1 hx with rfl | hx
    · exact MvSub.mono _ _ x (maskB_of fun k h1 h2 => by rw [decide_eq_true h1, decide_eq_true h2]; simp) ha
    · exact MvSub.mono _ _ x hm (h.q x hx)
theorem MvS.kb (h : MvS B g w S vo vp fs ps qs) (hb : KB w.heap.size w w') : MvS B g w' S vo vp fs ps qs := by
  have hm : Mono (maskB w S) (maskB w' S) := maskB_mono hb.size fun k hk hs => ⟨hs, hb.block k hk⟩
  exact ⟨fun k hk => Nat.lt_of_lt_of_le (h.lt k hk) hb.size, fun x hx => MvSub.mono _ _ x hm (h.f x hx), fun x hx => MvSub.mono _ _ x.1 hm (h.p x hx), fun x hx => MvSub.mono _ _ x hm (h.q x hx), h.so, h.sp, h.sg, h.box.kb hb, h.ro.kb hb, h.rp.kb hb, h.ap, h.no, h.np⟩
theorem own_row {B0 k : Nat} {w0 : World} {cs : List Value} {row : Option Nat} (h : Own B0 w0 k cs) (hg : w0.grownBy w' row) (hj : row ≠ some k) : Own B0 w' k cs :=
  ⟨h.box.grown hg (fun e => hj e.symm), fun q => (World.frozen?_of_block (hg.block k h.box.1 (fun e => hj e.symm))).trans (h.soft q), h.low⟩
theorem MvS.out {a : MP} {w1 : World} (h : MvS B g w S vo vp fs ps (a :: qs)) (h2 : w1.ownsRow B 35 10 v' (fs.length + 1) (fs.flatMap mvC ++ mvC a)) (h4 : w.grownBy w1 vo.ownBlock) (h5 : ∀ k, v'.ownBlock = some k → vo.ownBlock = some k ∨ w.heap.size ≤ k) : MvS B g (w1.setCell ⟨g, 0, none⟩ v') S v' vp (fs ++ [a]) ps qs := by
  have hne : ∀ k, v'.ownBlock = some k → k ≠ g := fun k hk e => by
    subst e
    rcases h5 _ hk with h6 | h6
    · exact h.no h6
    · have := h.box.box.1; omega
  have hm : Mono (maskB w S) (maskB (w1.setCell ⟨g, 0, none⟩ v') S) := maskB_mono (by rw [World.size_setCell]; exact h4.size) fun k hk hs => ⟨hs, (heap_put (fun e => by rw [e, h.sg] at hs; cases hs)).trans (h4.block k hk (fun e => by rw [h.so k e.symm] at hs; cases hs))⟩
  have hb1 : Own B w1 g [vo] := own_row h.box h4 h.no
  refine ⟨fun k hk => by rw [World.size_setCell]; exact Nat.lt_of_lt_of_le (h.lt k hk) h4.size, fun x hx => ?_, fun x hx => MvSub.mono _ _ x.1 hm (h.p x hx), fun x hx => MvSub.mono _ _ x hm (h.q x (List.mem_cons_of_mem _ hx)), fun k hk => ?_, h.sp, h.sg, hb1.put (j := 0) (by simp) v', ?_, ?_, fun k hk => ?_, fun e => hne g e rfl, h.np⟩
  · rcases List.mem_append.1 hx with hx | hx
    · exact MvSub.mono _ _ x hm (h.f x hx)
    · rcases List.mem_singleton.1 hx with rfl
      exact MvSub.mono _ _ x hm (h.q x (List.mem_cons_self ..))
  · rcases h5 k hk with h6 | h6
    · exact h.so k h6
    · cases hs : S k
      · rfl
      · have := h.lt k hs; omega
  · exact own_other (o := 0) (vs := [v']) (OwnL.snoc h2) (fun e => hne g e rfl)
  · refine own_other (o := 0) (vs := [v']) (?_ : w1.ownsRow B 35 10 vp ps.length (ps.flatMap mqC)) h.np
    exact World.ownsRow.kept h.rp h4 (by
      cases hv : vp.ownBlock with
      | none => exact .inl rfl
      | some k => exact .inr (fun e => h.ap k e.symm hv))
  · intro e
    rcases h5 k hk with h6 | h6
    · exact h.ap k h6 e
    · have := (World.ownsRow.lt h.rp k e).2; omega
theorem MvS.put {a : MQ} {w1 : World} (h : MvS B g w S vo vp fs ps (a.1 :: qs)) (h2 : w1.ownsRow B 35 10 v' (ps.length + 1) (ps.flatMap mqC ++ mqC a)) (h4 : w.grownBy w1 vp.ownBlock) (h5 : ∀ k, v'.ownBlock = some k → vp.ownBlock = some k ∨ w.heap.size ≤ k) : MvS B g w1 S vo v' fs (ps ++ [a]) qs := by
  have hne : ∀ k, v'.ownBlock = some k → k ≠ g := fun k hk e => by
    subst e
    rcases h5 _ hk with h6 | h6
    · exact h.np h6
    · have := h.box.box.1; omega
  have hm : Mono (maskB w S) (maskB w1 S) := maskB_mono h4.size fun k hk hs => ⟨hs, h4.block k hk (fun e => by rw [h.sp k e.symm] at hs; cases hs)⟩
  refine ⟨fun k hk => Nat.lt_of_lt_of_le (h.lt k hk) h4.size, fun x hx => MvSub.mono _ _ x hm (h.f x hx), fun x hx => ?_, fun x hx => MvSub.mono _ _ x hm (h.q x (List.mem_cons_of_mem _ hx)), h.so, fun k hk => ?_, h.sg, own_row h.box h4 h.np, ?_, OwnL.snoc h2, fun k hk e => ?_, h.no, fun e => hne g e rfl⟩
  · rcases List.mem_append.1 hx with hx | hx
    · exact MvSub.mono _ _ x.1 hm (h.p x hx)
    · rcases List.mem_singleton.1 hx with rfl
      exact MvSub.mono _ _ x.1 hm (h.q x.1 (List.mem_cons_self ..))
  · rcases h5 k hk with h6 | h6
    · exact h.sp k h6
    · cases hs : S k
      · rfl
      · have := h.lt k hs; omega
  · exact World.ownsRow.kept h.ro h4 (by
      cases hv : vo.ownBlock with
      | none => exact .inl rfl
      | some k => exact .inr (fun e => h.ap k hv e.symm))
  · rcases h5 k e with h6 | h6
    · exact h.ap k hk h6
    · have := (World.ownsRow.lt h.ro k hk).2; omega
end
end Go.Proofs.YtlmkglgjdmjnkaaGreatDoor
namespace Go.Proofs.YtlmkglgjdmjnkaaGreatDoor
open Go.RowKit Go.Lib
open Rw
set_option linter.unusedVariables false
set_option linter.unusedSimpArgs false

attribute [local go_sem] Oper.semAt_some wide_fn wide_depth
theorem pback_any (A : Option Addr) (n c : Nat) (w : World) : Calls Tryz.prog 39 #[.slice A n c] w fun e w' => e = .returned (.func (.func 72) #[] #[.pointer (some ⟨w.heap.size, 0, none⟩)]) ∧ w' = w.alloc (.cells #[.slice A n c] 24) := by
  have hmf : ∀ (fn : Fn) (first cap : Array Value) (w : World), (Instr.makeFunc fn first cap).run Tryz.prog w = .ok (.func fn first cap) w := fun _ _ _ _ => rfl
  go_enter Tryz.func39, Tryz.ntmps39
  go_wp2_with fail
  go_ret
  exact ⟨rfl, rfl⟩
theorem rev_take {n j : Nat} (h : j < n) : (List.finRange n).reverse.take (j + 1) = (List.finRange n).reverse.take j ++ [⟨n - 1 - j, by omega⟩] := by
  rw [List.take_succ_eq_append_getElem (by simpa using h)]
  congr 2
  rw [List.getElem_reverse]
  simp
def KpB (w0 : World) (Bm : Nat) (X Y : World) : Prop := Y.cell? ⟨Bm, 0, none⟩ = X.cell? ⟨Bm, 0, none⟩ ∧ KB w0.heap.size X Y
set_option maxRecDepth 100000 in
set_option maxHeartbeats 2000000 in
theorem pback_stops (w0 : World) (A : Option Addr) (c Bm : Nat) (ps : List LP) (hL : Locks w0 A ps) (hn : ps.length ≤ 1000000) (w : World) (hw : KB w0.heap.size w0 w) (hm : w.cell? ⟨Bm, 0, none⟩ = some (.slice A ps.length c)) (n : Nat) :
    SeqStopsK Fence.wide n Tryz.prog 72 #[.pointer (some ⟨Bm, 0, none⟩)] (fun x : Fin ps.length => #[.int .i64 (x.val : Int), ps[x].1.val ps[x].2]) (KpB w0 Bm) (fun xs => xs = (List.finRange ps.length).reverse) (fun _ => True) ps.length w := by
  intro l J Jx W hW hJ hJx hY h0
  have hmW : W.cell? ⟨Bm, 0, none⟩ = some (.slice A ps.length c) := (hW.cell (p := ⟨Bm, 0, none⟩) (cell_lt hm)).trans hm
  have HKW := hid (show KB w0.heap.size w0 W from Go.RowKit.Below.trans hw (Go.RowKit.Below.mono hW hw.size))
  have HY := hid hY
  have HL := hid hL
  clear hW hm hw hY hJ hJx hL
  obtain ⟨m, hmm⟩ : ∃ m, ps.length = m := ⟨_, rfl⟩
  have HM := hid hmm
  refine callsIn_of_wp Tryz.func72 rfl trivial ?_ rfl
  simp only [Tryz.ntmps72, List.size_toArray, List.length_cons, List.length_nil, Nat.reduceAdd, Nat.reduceSub, Array.replicate_succ, Array.replicate_zero, List.push_toArray, List.append_toArray, List.nil_append, List.cons_append]
  rw [hmm] at hmW hn
  clear hmm
  have m0 : (0 : Int) ≤ (m : Int) := by omega
  have m1 : (m : Int) ≤ 1000000 := by omega
  gi_wp2
  gi_loopw [3] (fun iv wr => ∃ (j : Nat) (z : Int), iv = .int .i64 z ∧ z + 1 + (j : Int) = (m : Int) ∧ j ≤ m ∧ Hid (J ((List.finRange ps.length).reverse.take j) wr) ∧ Hid (wr.cell? ⟨Bm, 0, none⟩ = some (.slice A m c)) ∧ Hid (KB w0.heap.size w0 wr)) (fun iv _ => (intOf iv + 1).toNat)
  case atStart => exact ⟨0, _, rfl, by omega, Nat.zero_le _, hid h0, hid hmW, HKW⟩
  case round =>
    clear h0 hmW HKW
    rename World => wr
    obtain ⟨j, z, rfl, hz, hj, HJS, HC, HK⟩ := hrel
    by_cases hlt : j < m
    · obtain ⟨i, rfl⟩ := Int.eq_ofNat_of_zero_le (show 0 ≤ z by omega)
      have hi : i < ps.length := by rw [HM.out]; omega
      have i0 : (0 : Int) ≤ (i : Int) := by omega
      have i1 : (i : Int) < (m : Int) := by omega
      obtain ⟨fn, tmps, assign, body, hy, hR⟩ := HY.out _ ⟨i, hi⟩ _ HJS.out (by rw [List.length_take, List.length_reverse, List.length_finRange]; have := HM.out; omega)
      have HPJ := hid (show J ((List.finRange ps.length).reverse.take (j + 1)) = J ((List.finRange ps.length).reverse.take j ++ [⟨i, hi⟩]) from by
        rw [rev_take (by rw [HM.out]; exact hlt)]
        congr 3
        have := HM.out
        simp only [Fin.mk.injEq]
        omega)
      have HR := hid (show RoundIn Fence.wide (n - 1) Tryz.prog l fn tmps assign body wr (fun e W' => ∃ b, e = .returned (.bool b) ∧ (b = true → J ((List.finRange ps.length).reverse.take (j + 1)) W' ∧ (W'.cell? ⟨Bm, 0, none⟩ = some (.slice A m c) ∧ KB w0.heap.size w0 W')) ∧ (b = false → Jx ((List.finRange ps.length).reverse.take j ++ [⟨i, hi⟩]) W')) from hR.mono (by
        rintro e W3 (⟨rfl, hJ3, hk3, hk4⟩ | ⟨rfl, hJx3⟩)
        · exact ⟨true, rfl, fun _ => ⟨by rw [HPJ.out]; exact hJ3, hk3.trans HC.out, Go.RowKit.Below.trans HK.out hk4⟩, fun h => (by cases h)⟩
        · exact ⟨false, rfl, fun h => (by cases h), fun _ => hJx3⟩))
      obtain ⟨b, off, hA, hli, hlc⟩ := lock_at (HL.out.kb HK.out) hi
      subst hA
      have HZ := hid hz
      have HLT := hid hlt
      have HPS := hid (show ps[(⟨i, hi⟩ : Fin ps.length)] = ps[i] from rfl)
      dsimp only at hy
      rw [HPS.out] at hy
      have c0 := hlc.c0
      have c1 := hlc.c1
      have c2 := hlc.c2
      have c3 := hlc.c3
      have c4 := hlc.c4
      have c5 := hlc.c5
      have c6 := hlc.c6
      have c7 := hlc.c7
      have c8 := hlc.c8
      have cl := hlc.lt
      have hcb := HC.out
      clear hR hz hlc hli HPJ HPS hlt hj
      generalize ps[i] = x at *
      gi_wp2
      refine HR.out.mono ?_
      rintro _ W3 ⟨b, rfl, hbt, hbf⟩
      cases b with
      | true =>
        obtain ⟨hJ3, hc3, hk3⟩ := hbt (by trivial)
        have HJ3 := hid hJ3
        have HC3 := hid hc3
        have HK3 := hid hk3
        clear hJ3 hc3 hk3
        gi_wp2
        go_roundw
        case rel => exact ⟨j + 1, _, rfl, by have := HZ.out; omega, by have := HLT.out; omega, HJ3, HC3, HK3⟩
        case measure => simp [intOf] <;> omega
      | false =>
        gi_wp2
        refine bodyPost_ret (results_none rfl _ _ _) rfl ?_
        first
          | exact ⟨⟨_, rfl⟩, .inr ⟨_, trivial, hbf (by trivial)⟩⟩
          | exact ⟨⟨_, rfl⟩, .inr ⟨_, hbf (by trivial)⟩⟩
    · obtain rfl : m = j := by omega
      obtain rfl : z = -1 := by omega
      have HJ2 := hid (show J (List.finRange ps.length).reverse wr from by
        have h := HJS.out
        rwa [List.take_of_length_le (by rw [List.length_reverse, List.length_finRange]; have := HM.out; omega)] at h)
      gi_wp2
      go_end0
      exact ⟨⟨_, rfl⟩, .inl ⟨_, rfl, HJ2.out⟩⟩
end Go.Proofs.YtlmkglgjdmjnkaaGreatDoor
