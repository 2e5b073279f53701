import Derived.Test.YtplmlahpmnjneaaGreatDoorNBf
import Derived.Test.YtplmlahpmnjneaaGreatDoorSort
import Derived.Test.YtplmlahpmnjneaaGreatDoorNBg
import Derived.Shelf.SlSortCmp.WholeK
import Derived.Shelf.SlSortCmp.NoneTotal
import Derived.Test.YtplmlahpmnjneaaGreatDoorNBa
namespace Go.Proofs.YtplmlahpmnjneaaGreatDoor
open Go.RowKit Go.Lib Go.Shelf Go.Sort
set_option linter.unusedVariables false
set_option linter.unusedSimpArgs false
abbrev GoodS := {s : SpanL // s.fit ∧ spanMay s = true}
instance : Inhabited GoodS := ⟨⟨⟨firstC, lastC⟩, ⟨firstC_fit, lastC_fit⟩, Rw.spanMay_iff.2 ⟨first_may, last_may, cmpC_ends⟩⟩⟩
def encS (x : GoodS) : List Value := x.1.cells
theorem clos_any (s t : SpanL) (w : World) (hs : s.fit) (ht : t.fit) : Calls Tryz.prog 204 #[s.val, t.val] w (IntPost w (cmpC s.fr t.fr)) := by
  have hc := hid (fun w' => ccompare_any s.fr t.fr w' hs.1 ht.1)
  have HBN := hid (below_tr (below_new w (.cells s.cells.toArray 100)) (below_new _ (.cells t.cells.toArray 100)))
  go_enter Tryz.func204, Tryz.ntmps204
  go_wp2_with fail
  refine (hc.out _).mono ?_
  rintro _ w1 ⟨rfl, hb1⟩
  go_wp2_with fail
  go_ret
  exact ⟨rfl, below_tr HBN.out hb1⟩
theorem below_grow {w w' : World} (h : Below w.heap.size w w') : ∃ q os', w' = grow (w.drewN q) os' := by
  refine ⟨w'.drawn - w.drawn, w'.heap.extract w.heap.size w'.heap.size, ?_⟩
  have h1 := h.drawn
  have h2 : w'.heap = w.heap ++ w'.heap.extract w.heap.size w'.heap.size := by
    apply Array.ext_getElem?
    intro k
    have hs := h.size
    rw [Array.getElem?_append]
    by_cases hk : k < w.heap.size
    · rw [if_pos hk]; exact h.block k hk
    · rw [if_neg hk, Array.getElem?_extract]
      by_cases hk2 : k < w'.heap.size
      · rw [if_pos (by omega)]; congr 1; omega
      · rw [if_neg (by omega), Array.getElem?_eq_none (by omega)]
  have h3 := h.os
  have h4 := h.tape
  have h5 := h.output
  cases w
  cases w'
  simp only [grow, World.drewN] at h1 h2 h3 h4 h5 ⊢
  subst h3; subst h4; subst h5
  congr 1
  omega
theorem cmpLays (blk off size : Nat) (w : World) : CmpLays Tryz.prog 204 #[] encS 14 (fun x y : GoodS => cmpC x.1.fr y.1.fr) blk off size w :=
  fun _ _ _ _ x y => (clos_any x.1 y.1 _ x.2.1 y.2.1).mono fun _ _ ⟨he, hb⟩ => ⟨he, below_grow hb⟩
theorem good_may (x : GoodS) : mayC x.1.fr = true := (Rw.spanMay_iff.1 x.2.2).okl
theorem swoS : SWO (ltOf fun x y : GoodS => cmpC x.1.fr y.1.fr) where
  irrefl x := by simp [ltOf, cmpC_self _ (good_may x)]
  trans x y z h1 h2 := by
    simp only [ltOf, decide_eq_true_eq] at *
    exact cmpC_tran _ _ _ (good_may x) (good_may y) (good_may z) h1 h2
  ntrans x y z h1 h2 := by
    simp only [ltOf, decide_eq_false_iff_not] at *
    have a := (Rw.ge_iff (good_may x) (good_may y)).1 (by omega)
    have b := (Rw.ge_iff (good_may y) (good_may z)).1 (by omega)
    have := (Rw.ge_iff (good_may x) (good_may z)).2 (b.tr a)
    omega
theorem isAggS : ∀ w, (isAgg (Tryz.sortSpan_ren.t 24)).run Tryz.prog w = .ok true w := Tryz.isAgg100
theorem sizeOfS : ∀ w, (Go.sizeOf (Tryz.sortSpan_ren.t 24)).run Tryz.prog w = .ok 14 w := Tryz.sizeOf100
def SortPost (w : World) (g : Nat) (l : List SpanL) (e : Ending) (w' : World) : Prop :=
  e = .returned (.tuple #[]) ∧ ∃ m : List SpanL, (∀ s, s ∈ m ↔ s ∈ l) ∧ m.length = l.length ∧ m.Pairwise (fun a b => cmpC a.fr b.fr ≤ 0) ∧ Spans w' (some ⟨g, 0, none⟩) m ∧ Below g w w'
theorem pmap_val (l : List SpanL) (hl : ∀ s, s ∈ l → s.fit ∧ spanMay s = true) : (l.pmap Subtype.mk hl).map (fun x : GoodS => x.1) = l := by
  rw [List.map_pmap]; simp
theorem cells_at (s : SpanL) (j : Nat) (h : j < 14) : ∃ u, s.cells[j]? = some u ∧ s.cells[j]! = u := by
  have hl : j < s.cells.length := by simpa using h
  exact ⟨s.cells[j], List.getElem?_eq_getElem hl, getElem!_pos s.cells j hl⟩
theorem spansK {w : World} {g : Nat} {d : Array GoodS} (h : HoldsK encS 14 w g 0 d) (hg : g < w.heap.size) : Spans w (some ⟨g, 0, none⟩) (d.toList.map (fun x => x.1)) := by
  refine .inr ⟨g, 0, rfl, hg, fun i hi j u hj => ?_⟩
  have hi' : i < d.size := by simpa using hi
  have hj14 : j < 14 := by
    rcases Nat.lt_or_ge j 14 with h' | h'
    · exact h'
    · rw [List.getElem?_eq_none (by simp; omega)] at hj; cases hj
  have hk := (h (i * 14 + j) (by rw [size_flatK]; omega)).1
  rw [get_flatK encS 14 d (i * 14 + j) (by omega)] at hk
  have e1 : (i * 14 + j) / 14 = i := by omega
  have e2 : (i * 14 + j) % 14 = j := by omega
  rw [e1, e2] at hk
  have e3 : nth (d.toList.map (fun x => x.1)) i = d[i]!.1 := by
    rw [nth_lt hi]; simp [hi']
  rw [e3] at hj
  obtain ⟨u', hu1, hu2⟩ := cells_at d[i]!.1 j hj14
  rw [hu1] at hj
  injection hj with hj
  subst hj
  have e4 : 0 + i * 14 + j = 0 + (i * 14 + j) := by omega
  rw [e4, hk]
  show some (encS d[i]!)[j]! = _
  rw [encS, hu2]
theorem holdsS_of {w : World} {g : Nat} {l : List SpanL} (hl : ∀ s, s ∈ l → s.fit ∧ spanMay s = true) (h : Spans w (some ⟨g, 0, none⟩) l) (hs : Soft w g) : HoldsK encS 14 w g 0 (l.pmap Subtype.mk hl).toArray := by
  intro t ht
  rw [size_flatK] at ht
  have hlen : (l.pmap Subtype.mk hl).toArray.size = l.length := by simp
  rw [hlen] at ht
  refine ⟨?_, hs _⟩
  rw [get_flatK encS 14 _ t (by rw [hlen]; exact ht)]
  have hi : t / 14 < l.length := by omega
  rcases h with rfl | ⟨b, off, e, hlt, hc⟩
  · simp at hi
  · injection e with e; injection e with e1 e2 e3; subst e1; subst e2
    obtain ⟨u, hu1, hu2⟩ := cells_at (nth l (t / 14)) (t % 14) (Nat.mod_lt _ (by omega))
    have := hc (t / 14) hi (t % 14) u hu1
    have e4 : 0 + t / 14 * 14 + t % 14 = 0 + t := by omega
    rw [e4] at this
    rw [this]
    have e5 : ((l.pmap Subtype.mk hl).toArray[t / 14]!) = ⟨nth l (t / 14), hl _ (by rw [nth_lt hi]; exact List.getElem_mem _)⟩ := by
      rw [getElem!_pos _ _ (by rw [hlen]; exact hi)]
      apply Subtype.ext
      simp [nth_lt hi]
    rw [e5]
    show some u = some (encS _)[t % 14]!
    rw [encS, hu2]
theorem below_sort {w : World} {g n : Nat} {d : Array GoodS} {os : Array Obj} (hg : g < w.heap.size) : Below g w (sortWorldK encS 14 w g 0 n d os) := by
  refine ⟨⟨rfl, rfl, rfl, ?_, fun k hk => ?_⟩, Nat.le_add_right _ _⟩
  · exact size_sortWorldK_c encS 14 w g 0 n d os
  · show ((w.heap.modify g _) ++ os)[k]? = _
    rw [Array.getElem?_append_left (by simp; omega), Array.getElem?_modify, if_neg (by omega)]
set_option maxHeartbeats 1000000 in
theorem sort_some (g cap : Nat) (l : List SpanL) (w : World) (hl : ∀ s, s ∈ l → s.fit ∧ spanMay s = true) (h : Spans w (some ⟨g, 0, none⟩) l) (hs : Soft w g) (hg : g < w.heap.size) (hln : l.length ≤ 4398046511104) :
    Calls Tryz.prog 203 #[.slice (some ⟨g, 0, none⟩) l.length cap, .func (.func 204) #[] #[]] w (SortPost w g l) := by
  have eg : ∀ args w, (callFunc 204 args).run Tryz.prog w = .ok (.enter 204 args) w := enters_of Tryz.func204 (by kernel_rfl) rfl
  have hd : (l.pmap Subtype.mk hl).toArray.size = l.length := by simp
  have hH := holdsS_of hl h hs
  have hv : (l.pmap Subtype.mk hl).toArray.toList.map (fun x : GoodS => x.1) = l := by rw [List.toList_toArray]; exact pmap_val l hl
  generalize (l.pmap Subtype.mk hl).toArray = d at hd hH hv
  have hcon := AnyQ.slices_SortFunc Tryz.sortSpan 14 isAggS sizeOfS encS (fun _ => rfl) (fun x v hv => oneS1 x.1 v hv) (fun x y => cmpC x.1.fr y.1.fr) swoS 204 #[] g 0 cap d w eg (cmpLays g 0 d.size w) hH hg (by omega)
  change Calls Tryz.prog 203 _ _ _ at hcon
  rw [hd] at hcon
  refine hcon.mono ?_
  rintro e w' ⟨rfl, d', n, os, hp, hso, rfl⟩
  obtain ⟨p1, _, p3⟩ := hp
  have q1 : d'.extract 0 l.length = d' := by rw [← hd, ← p1]; exact Array.extract_size
  have q2 : d.extract 0 l.length = d := by rw [← hd]; exact Array.extract_size
  rw [q1, q2] at p3
  have hp := p3.map (fun x : GoodS => x.1)
  rw [hv] at hp
  have hH' := holdsK_sortWorldK encS 14 w g 0 n d d' os hg hH p1
  refine ⟨rfl, d'.toList.map (fun x => x.1), fun s => hp.mem_iff, hp.length_eq, ?_, spansK hH' (Nat.lt_of_lt_of_le hg (size_sortWorldK_c encS 14 w g 0 n d' os)), below_sort hg⟩
  rw [List.pairwise_iff_getElem]
  intro i j hi hj hij
  have hi' : i < d'.size := by simpa using hi
  have hj' : j < d'.size := by simpa using hj
  have := hso i j (Nat.zero_le _) hij (by rw [← hd, ← p1]; exact hj')
  rw [getElem!_pos d' i hi', getElem!_pos d' j hj'] at this
  simp only [ltOf, decide_eq_false_iff_not] at this
  simp only [List.getElem_map, Array.getElem_toList]
  exact ((Rw.ge_iff (good_may _) (good_may _)).1 (by omega)).2.2
theorem sort_none (A : Option Addr) (cap : Nat) (w : World) : Calls Tryz.prog 203 #[.slice A 0 cap, .func (.func 204) #[] #[]] w fun e w' => e = .returned (.tuple #[]) ∧ w' = w := by
  have := AnyF.slices_SortFunc_none (P := Tryz.prog) (ρ := Tryz.sortSpan_ren) { Tryz.sortSpan with } A cap (.func (.func 204) #[] #[]) w
  exact this
end Go.Proofs.YtplmlahpmnjneaaGreatDoor
namespace Go.Proofs.YtplmlahpmnjneaaGreatDoor
open Go.RowKit Go.Lib
set_option linter.unusedVariables false
set_option linter.unusedSimpArgs false
theorem own_empty (w : World) (base : Nat) (hb : base ≤ w.heap.size) : (w.alloc (.cells #[] 100)).ownsRow base 100 14 (.slice (some ⟨w.heap.size, 0, none⟩) 0 0) 0 [] := by
  refine ⟨rfl, .inr ⟨w.heap.size, 0, #[], rfl, hb, ?_, Nat.le_refl _, Nat.zero_le _, rfl, rfl⟩⟩
  show (w.heap.push _)[w.heap.size]? = _
  simp
set_option maxRecDepth 100000 in
theorem clone_nil (cap : Nat) (w : World) : Calls Tryz.prog 166 #[.slice none 0 cap] w fun e w' => e = .returned (.slice none 0 0) ∧ w = w' := by
  have hq : ∀ w', (binOp .eql 22 (.slice none 0 cap) (.slice none 0 0)).run Tryz.prog w' = .ok (.bool true) w' := fun w' => Lib.run_eql_slice_nil w' _ _ _ _ _ _ _ Tryz.underlying22
  go_enter Tryz.func166, Tryz.ntmps166
  go_wp2_with fail
  go_ret
  exact ⟨rfl, rfl⟩
set_option maxRecDepth 100000 in
set_option maxHeartbeats 1000000 in
theorem clone_some (base : Nat) (ad : Addr) (cap : Nat) (l : List SpanL) (w : World) (h : Spans w (some ad) l) (hln : l.length ≤ 400000) (hb : base ≤ w.heap.size) : Calls Tryz.prog 166 #[.slice (some ad) l.length cap] w (RowPost w base l) := by
  have hq : ∀ w', (binOp .eql 22 (.slice (some ad) l.length cap) (.slice none 0 0)).run Tryz.prog w' = .ok (.bool false) w' := fun w' => Lib.run_eql_slice_nil w' _ _ _ _ _ _ _ Tryz.underlying22
  have HBN := hid (below_new w (.cells #[] 100))
  have HSR := hid (h.below HBN.out).src
  have HOE := hid (own_empty w base hb)
  have hM : maxLen = 9223372036854775807 := rfl
  clear h
  generalize hn : l.length = n at *
  have HN := hid hn
  clear hn
  go_enter Tryz.func166, Tryz.ntmps166
  go_wp2_with (first | (at_builtin; refine wpList_appx EKspans rfl (.tmp 5) (.tmp 6) rfl rfl HOE.out rfl HSR.out (oneS l) (by omega) (by omega) (by simp; omega) ?_; intro v' w' h2 h3 _; clear hq))
  go_ret
  have h4 := (HBN.out.mono hb).trans h3
  refine ⟨v', rfl, ?_, h4, h4.size⟩
  rw [OwnS, HN.out]
  simpa using h2
theorem clone_any (base : Nat) (A : Option Addr) (cap : Nat) (l : List SpanL) (w : World) (h : Spans w A l) (hln : l.length ≤ 400000) (hb : base ≤ w.heap.size) : Calls Tryz.prog 166 #[.slice A l.length cap] w (RowPost w base l) := by
  cases A with
  | none =>
    have h0 : l = [] := by
      rcases h with h | ⟨b, off, e, _⟩
      · exact h
      · cases e
    subst h0
    exact (clone_nil cap w).mono fun e w' ⟨he, hw⟩ => by subst hw; exact ⟨_, he, OwnS.nil _ _, Below.refl _ _, Nat.le_refl _⟩
  | some ad => exact clone_some base ad cap l w h hln hb
def SortedPost (w : World) (base : Nat) (v : Value) (l : List SpanL) (e : Ending) (w' : World) : Prop :=
  e = .returned (.tuple #[]) ∧ ∃ (m : List SpanL) (A : Option Addr) (c : Nat), v = .slice A m.length c ∧ (∀ s, s ∈ m ↔ s ∈ l) ∧ m.length = l.length ∧ m.Pairwise (fun a b => cmpC a.fr b.fr ≤ 0) ∧ Spans w' A m ∧ Below base w w'
theorem sort_any (base : Nat) (v : Value) (l : List SpanL) (w : World) (hl : ∀ s, s ∈ l → s.fit ∧ spanMay s = true) (h : OwnS w base v l) (hln : l.length ≤ 400000) :
    Calls Tryz.prog 203 #[v, .func (.func 204) #[] #[]] w (SortedPost w base v l) := by
  rcases h.form with ⟨rfl, rfl⟩ | ⟨g, cap, rfl, hg, hlt, hle⟩
  · exact (sort_none none 0 w).mono fun e w' ⟨he, hw⟩ => by subst hw; exact ⟨he, [], none, 0, rfl, fun s => Iff.rfl, rfl, List.Pairwise.nil, Spans.nil, Below.refl _ _⟩
  · have hs : Soft w g := fun j => World.ownsRow.frozenAt h j
    obtain ⟨A, c, e, hsp⟩ := h.spans
    injection e with e1 e2 e3
    subst e1
    exact (sort_some g cap l w hl hsp hs hlt (by omega)).mono fun e w' ⟨he, m, h1, h2, h3, h4, h5⟩ => ⟨he, m, _, _, by rw [h2], h1, h2, h3, h4, h5.mono hg⟩
theorem mergeTo_succ {m : List SpanL} {k : Nat} (h : k < m.length) : (m.take (k + 1)).foldl Rw.mergeStep [] = Rw.mergeStep ((m.take k).foldl Rw.mergeStep []) (nth m k) := by
  rw [Rw.take_nth h, List.foldl_append]; rfl
theorem merge_nil (s : SpanL) : Rw.mergeStep [] s = [s] := rfl
theorem merge_app {q s : SpanL} {r : List SpanL} (h : cmpC q.til s.fr < 0) : Rw.mergeStep (q :: r) s = s :: q :: r := by simp [Rw.mergeStep, h]
theorem merge_set {q s : SpanL} {r : List SpanL} (h : ¬ cmpC q.til s.fr < 0) (k : cmpC q.til s.til < 0) : Rw.mergeStep (q :: r) s = ⟨q.fr, s.til⟩ :: r := by simp [Rw.mergeStep, h, k]
theorem merge_keep {q s : SpanL} {r : List SpanL} (h : ¬ cmpC q.til s.fr < 0) (k : ¬ cmpC q.til s.til < 0) : Rw.mergeStep (q :: r) s = q :: r := by simp [Rw.mergeStep, h, k]
set_option maxRecDepth 100000 in
set_option maxHeartbeats 4000000 in
theorem make_any (base : Nat) (A : Option Addr) (cap : Nat) (l : List SpanL) (w : World) (hl : Spans w A l) (hf : fitL l) (hln : l.length ≤ 40000) (hb : base ≤ w.heap.size) : Calls Tryz.prog 164 #[.slice A l.length cap] w (RowOk w base (rmakeL l)) := by
  have HF := hid hf
  have HL := hid hl
  have hM : maxLen = 9223372036854775807 := rfl
  clear hl hf
  generalize hn : l.length = n at *
  have HN := hid hn
  clear hn
  go_enter Tryz.func164, Tryz.ntmps164
  go_wp2_with fail
  go_loopw [6, 13] (fun _ i wr => ∃ k : Nat, i = .int .i64 k ∧ k ≤ n ∧ Hid (Spans wr A l) ∧ Hid (okTo l k) ∧ Below w.heap.size w wr) (fun _ i _ => n - (intOf i).toNat)
  case atStart => exact ⟨0, rfl, Nat.zero_le _, HL, fun j hj => by omega, Below.refl _ _⟩
  case round =>
    obtain ⟨k, rfl, hk, HS, HM, hbr⟩ := hrel
    by_cases hlt : k < n
    · have hlt' : k < l.length := by rw [HN.out]; exact hlt
      obtain ⟨b, off, rfl, hbl, ⟨x0, x1, x2, x3, x4, x5, x6⟩, z0, z1, z2, z3, z4, z5, z6⟩ := HS.out.at_ (k := k) hlt'
      have i0 : (0 : Int) ≤ (k : Int) := by omega
      have i1 : (k : Int) < (n : Int) := by omega
      have hfk := HF.out k hlt'
      generalize hsk : nth l k = s at *
      have HK := hid hsk
      clear hsk
      have hbn := hid (below_new wr (.cells s.cells.toArray 100))
      cases hsm : spanMay s
      · have HE := hid (okTo_no hlt' (by rw [HK.out]; exact hsm))
        go_wp2_with (go_at_call 131; refine (spanmay_any s _ hfk).mono ?_; rintro _ w1 ⟨rfl, hb1⟩; rw [hsm])
        refine bodyPost_ret (v := .tuple #[.slice none 0 0, .bool false]) (by simp [results, Tryz.results164, go_sem]) rfl ?_
        rw [HE.out]
        have hbb := below_tr hbr (below_tr hbn.out hb1)
        exact ⟨_, rfl, OwnS.nil _ _, hbb.mono hb, hbb.size⟩
      · go_wp2_with (go_at_call 131; refine (spanmay_any s _ hfk).mono ?_; rintro _ w1 ⟨rfl, hb1⟩; rw [hsm])
        go_roundw
        case rel => exact ⟨k + 1, by go_num, by omega, HS.out.below (below_tr hbn.out hb1), okTo_step HM.out (by rw [HK.out]; exact hsm), below_tr hbr (below_tr hbn.out hb1)⟩
        case measure => simp [intOf]; omega
    · obtain rfl : k = n := by omega
      have HOK : Hid (∀ s, s ∈ l → s.fit ∧ spanMay s = true) := hid fun s hs => by
        obtain ⟨i, hi, rfl⟩ := List.getElem_of_mem hs
        have h1 := HM.out i (by rw [← HN.out]; exact hi)
        have h2 := HF.out i hi
        rw [nth_lt hi] at h1 h2
        exact ⟨h2, h1⟩
      have hcl := hid (HN.out ▸ clone_any wr.heap.size A cap l wr HS.out (by rw [HN.out]; omega) (Nat.le_refl _) : Calls Tryz.prog 166 #[.slice A k cap] wr (RowPost wr wr.heap.size l))
      go_wp2_with fail
      refine hcl.out.mono ?_
      rintro _ w1 ⟨v1, rfl, ho1, hb1, hz1⟩
      have HSO := hid (sort_any wr.heap.size v1 l w1 HOK.out ho1 (by rw [HN.out]; omega))
      clear ho1
      go_wp2_with fail
      refine HSO.out.mono ?_
      rintro _ w2 ⟨rfl, m, A2, c2, rfl, hm1, hm2, hm3, hm4, hm5⟩
      have HRM := hid (Rw.merge_is hm1 (fun s hs => Rw.spanMay_iff.1 (HOK.out s hs).2) hm3)
      have HRE := hid (okTo_end (by rw [HN.out]; exact HM.out))
      have HMF : Hid (fitL m) := hid fun i hi => by
        have := hm1 (nth m i)
        rw [nth_lt hi] at this ⊢
        exact (HOK.out _ (this.1 (List.getElem_mem _))).1
      rw [HN.out] at hm2
      have HS2 := hid hm4
      have HB2 := hid (below_tr hbr (hb1.trans hm5))
      clear hm1 hm3 hm4 hm5 hb1 hz1 hcl HSO HS HM hbr
      generalize hmn : m.length = n2 at *
      subst hm2
      have HMN := hid hmn
      clear hmn
      go_wp2_with fail
      go_loopw [9, 10, 27, 4] (fun _ _ i o wr => ∃ (q : Nat) (v : Value) (acc : List SpanL), i = .int .i64 q ∧ v = o ∧ q ≤ n2 ∧ Hid ((m.take q).foldl Rw.mergeStep [] = acc) ∧ Hid (HasRow wr w2.heap.size v acc.reverse q) ∧ Below w2.heap.size w2 wr) (fun _ _ i _ _ => n2 - (intOf i).toNat)
      case atStart => exact ⟨0, _, [], rfl, rfl, Nat.zero_le _, rfl, ⟨OwnS.nil _ _, (fun s h => by cases h), by simp⟩, Below.refl _ _⟩
      case round =>
        obtain ⟨q, v, acc, rfl, rfl, hq, HACC, HR, hbr⟩ := hrel
        have HBR := hid hbr
        have HLN := HR.out.len
        by_cases hlt : q < n2
        · have hlt' : q < m.length := by rw [HMN.out]; exact hlt
          obtain ⟨b, off, rfl, hbl, ⟨x0, x1, x2, x3, x4, x5, x6⟩, z0, z1, z2, z3, z4, z5, z6⟩ := (HS2.out.below hbr).at_ (k := q) hlt'
          have i0 : (0 : Int) ≤ (q : Int) := by omega
          have i1 : (q : Int) < (n2 : Int) := by omega
          have hfk := hid (HMF.out q hlt')
          have HST := hid (mergeTo_succ hlt')
          rw [HACC.out] at HST
          generalize nth m q = s at *
          have HBN := hid (below_new wr (.cells s.cells.toArray 100))
          have HX0 := hid (Box.new wr s.cells 100)
          have HOW := hid HR.out.own
          have HOB := hid (own_bound HR.out.own)
          have hgw := hid hbr.size
          cases acc with
          | nil =>
            rw [merge_nil] at HST
            obtain ⟨A3, c3, rfl⟩ : ∃ A3 c3, v = .slice A3 0 c3 := by
              rcases HOW.out.form with ⟨rfl, _⟩ | ⟨g, c, rfl, _⟩
              · exact ⟨_, _, rfl⟩
              · exact ⟨_, _, rfl⟩
            clear hbr
            go_wp2_with fail
            have hbw := bw_cell
            refine wp_region_below (by kernel_rfl) (by kernel_rfl) ?_
            repeat (go_big_quiet_step (fail))
            refine wpQuiet_nil ?_
            rintro _ ⟨z, rfl⟩
            have hbz := z.ok
            generalize z.v = w5 at hbz ⊢
            clear z hbw x0 x1 x2 x3 x4 x5 x6 z0 z1 z2 z3 z4 z5 z6
            have HX := hid (HX0.out.below hbz)
            have HBW := hid (below_tr HBN.out hbz)
            have HO5 : Hid (w5.ownsRow w2.heap.size 100 14 (.slice A3 0 c3) 0 []) := hid (own_below HOW.out HBW.out)
            have hz5 := hid HBW.out.size
            obtain ⟨⟨x0, x1, x2, x3, x4, x5, x6⟩, z0, z1, z2, z3, z4, z5, z6⟩ := HX.out.get14
            have hgx := HX.out.1
            go_wp2_with (first | (at_builtin; refine wpList_app1g EKspans rfl (.tmp 47) (.tmp 49) rfl s.cells HO5.out rfl rfl rfl (oneS1 _) (by omega) (by omega) (by have := hz5.out; have := hgw.out; omega) ?_; intro v' w7 h2 h3 h4; clear x0 x1 x2 x3 x4 x5 x6 z0 z1 z2 z3 z4 z5 z6 hgx))
            go_roundw
            case rel => exact ⟨q + 1, v', [s], by go_num, rfl, by omega, HST.out, ⟨OwnS.app (l := []) h2, (fun t ht => by rw [List.reverse_singleton, List.mem_singleton] at ht; subst ht; exact hfk.out), by simp⟩, (HBR.out.trans (HBW.out.mono hgw.out)).trans h3⟩
            case measure => simp [intOf]; omega
          | cons p r =>
            have HFP : Hid p.fit := hid (HR.out.fit p (by simp))
            have HRF := hid HR.out.fit
            rw [List.reverse_cons] at HRF
            have HOW' := HOW.out
            rw [List.reverse_cons] at HOW' HLN
            generalize hrv : r.reverse = o at *
            have HRV := hid hrv
            clear hrv
            obtain ⟨g, cap3, rfl, hgb, hgl⟩ : ∃ g cap3, v = .slice (some ⟨g, 0, none⟩) (o.length + 1) cap3 ∧ w2.heap.size ≤ g ∧ g < wr.heap.size := by
              rcases HOW'.form with ⟨_, h0⟩ | ⟨g, c, h1, h2, h3, h4⟩
              · simp at h0
              · exact ⟨g, c, by rw [h1]; simp, h2, h3⟩
            have HZ : Hid (Row7 wr g (o.length * 14 + 7) p.til) := hid (by
              obtain ⟨A, c, e, hS⟩ := HOW'.spans
              injection e with e1 e2 e3
              subst e1
              have := (hS.lay (k := o.length) (by simp)).2.2
              simpa [nth] using this)
            have HFR : Hid (Soft wr g) := hid (fun j => by
              have h' := HOW'
              simp only [OwnS, List.length_append, List.length_singleton] at h'
              exact h'.frozenAt j)
            rw [List.length_append, List.length_singleton] at HLN
            have HO0 := hid HOW'
            clear HOW'
            generalize hN : o.length = N at *
            have HNN := hid hN
            clear hN
            obtain ⟨t0, t1, t2, t3, t4, t5, t6⟩ := HZ.out
            have j0 : (0 : Int) ≤ (N : Int) := by omega
            have j1 : (N : Int) < ((N + 1 : Nat) : Int) := by omega
            have j2 : (N : Int) < (N : Int) + 1 := by omega
            have hgl1 : g < wr.heap.size + 1 := by omega
            have hdn : decide ((N : Int) < 0) = false := by rw [decide_eq_false_iff_not]; omega
            have hc1 := hid (fun w' => ccompare_any p.til s.fr w' HFP.out.2 hfk.out.1)
            have hc2 := hid (fun w' => ccompare_any p.til s.til w' HFP.out.2 hfk.out.2)
            have HSZ := hid hgl
            have HGB := hid hgb
            clear hbr
            cases hd1 : decide (cmpC p.til s.fr < 0)
            · go_wp2_with fail
              have hbw := bw_cell
              refine wp_region_below (by kernel_rfl) (by kernel_rfl) ?_
              repeat (go_big_quiet_step ((go_at_call 132; exact bw_int (hc1.out _))))
              refine wpQuiet_nil ?_
              rintro _ ⟨z, rfl⟩
              have hbz := z.ok
              generalize z.v = w5 at hbz ⊢
              clear z hbw x0 x1 x2 x3 x4 x5 x6 z0 z1 z2 z3 z4 z5 z6 t0 t1 t2 t3 t4 t5 t6
              have HX := hid (HX0.out.below hbz)
              have HBW := hid (below_tr HBN.out hbz)
              have HO5 := hid (HO0.out.below HBW.out)
              have HZ5 := hid (HZ.out.below HSZ.out HBW.out)
              have HF5 := hid (HFR.out.below HSZ.out HBW.out)
              have HSZ5 := hid (Nat.lt_of_lt_of_le HSZ.out HBW.out.size)
              obtain ⟨⟨x0, x1, x2, x3, x4, x5, x6⟩, z0, z1, z2, z3, z4, z5, z6⟩ := HX.out.get14
              obtain ⟨t0, t1, t2, t3, t4, t5, t6⟩ := HZ5.out
              have hgx := HX.out.1
              have hgx2 := HSZ5.out
              clear hbz HX0 HBN HO0 HZ HFR hgl1 hgl
              cases hd2 : decide (cmpC p.til s.til < 0)
              · rw [merge_keep (by simpa using hd1) (by simpa using hd2)] at HST
                go_wp2_with fail
                have hbw := bw_cell
                refine wp_region_below (by kernel_rfl) (by kernel_rfl) ?_
                repeat (go_big_quiet_step ((go_at_call 132; exact bw_int (hc2.out _))))
                refine wpQuiet_nil ?_
                rintro _ ⟨z, rfl⟩
                have hbz := z.ok
                generalize z.v = w6 at hbz ⊢
                clear z hbw x0 x1 x2 x3 x4 x5 x6 z0 z1 z2 z3 z4 z5 z6 t0 t1 t2 t3 t4 t5 t6
                have HB6 := hid (HBW.out.trans (hbz.mono (by have := HBW.out.size; omega)))
                have HO6 := hid (HO5.out.below hbz)
                clear hbz hgx hgx2
                go_wp2_with fail
                go_roundw
                case rel => exact ⟨q + 1, _, p :: r, by go_num, rfl, by omega, HST.out, ⟨by rw [List.reverse_cons, HRV.out]; exact HO6.out, (by rw [List.reverse_cons, HRV.out]; exact HRF.out), by rw [List.reverse_cons, HRV.out, List.length_append, HNN.out]; simp; omega⟩, HBR.out.trans (HB6.out.mono hgw.out)⟩
                case measure => simp [intOf]; omega
              · rw [merge_set (by simpa using hd1) (by simpa using hd2)] at HST
                go_wp2_with fail
                have hbw := bw_cell
                refine wp_region_below (by kernel_rfl) (by kernel_rfl) ?_
                repeat (go_big_quiet_step ((go_at_call 132; exact bw_int (hc2.out _))))
                refine wpQuiet_nil ?_
                rintro _ ⟨z, rfl⟩
                have hbz := z.ok
                generalize z.v = w6 at hbz ⊢
                clear z hbw x0 x1 x2 x3 x4 x5 x6 z0 z1 z2 z3 z4 z5 z6 t0 t1 t2 t3 t4 t5 t6
                have HB6 := hid (HBW.out.trans (hbz.mono (by have := HBW.out.size; omega)))
                have HO6 := hid (HO5.out.below hbz)
                have HX6 := hid (HX.out.below hbz)
                have HZ6 := hid (HZ5.out.below HSZ5.out hbz)
                have HF6 := hid (HF5.out.below HSZ5.out hbz)
                have HSZ6 := hid (Nat.lt_of_lt_of_le HSZ5.out hbz.size)
                obtain ⟨⟨x0, x1, x2, x3, x4, x5, x6⟩, z0, z1, z2, z3, z4, z5, z6⟩ := HX6.out.get14
                obtain ⟨t0, t1, t2, t3, t4, t5, t6⟩ := HZ6.out
                have hf6 : ∀ j, w6.frozen? ⟨g, j, none⟩ = false := HF6.out
                clear hbz hgx hgx2
                go_wp2_with fail
                go_roundw
                case rel =>
                  obtain ⟨q1, q2, q3⟩ := OwnS.set7 s.til HNN.out HO6.out HGB.out HSZ6.out
                  exact ⟨q + 1, _, ⟨p.fr, s.til⟩ :: r, by go_num, rfl, by omega, HST.out, ⟨by rw [List.reverse_cons, HRV.out]; exact q1, (fun t ht => by rw [List.reverse_cons, HRV.out, List.mem_append, List.mem_singleton] at ht; rcases ht with ht | rfl; exact HRF.out t (List.mem_append_left _ ht); exact ⟨HFP.out.1, hfk.out.2⟩), by rw [List.reverse_cons, HRV.out, List.length_append, HNN.out]; simp; omega⟩, (HBR.out.trans (HB6.out.mono hgw.out)).trans q2⟩
                case measure => simp [intOf]; omega
            · rw [merge_app (by simpa using hd1)] at HST
              go_wp2_with fail
              have hbw := bw_cell
              refine wp_region_below (by kernel_rfl) (by kernel_rfl) ?_
              repeat (go_big_quiet_step ((go_at_call 132; exact bw_int (hc1.out _))))
              refine wpQuiet_nil ?_
              rintro _ ⟨z, rfl⟩
              have hbz := z.ok
              generalize z.v = w5 at hbz ⊢
              clear z hbw x0 x1 x2 x3 x4 x5 x6 z0 z1 z2 z3 z4 z5 z6 t0 t1 t2 t3 t4 t5 t6
              have HX := hid (HX0.out.below hbz)
              have HBW := hid (below_tr HBN.out hbz)
              have HO5 : Hid (w5.ownsRow w2.heap.size 100 14 (.slice (some ⟨g, 0, none⟩) (N + 1) cap3) (N + 1) (cellsL (o ++ [p]))) := hid (by
                have h := HO0.out.below HBW.out
                rw [OwnS, List.length_append, List.length_singleton, HNN.out] at h
                exact h)
              have hz5 := hid HBW.out.size
              obtain ⟨⟨x0, x1, x2, x3, x4, x5, x6⟩, z0, z1, z2, z3, z4, z5, z6⟩ := HX.out.get14
              have hgx := HX.out.1
              clear hbz HX0 HBN HO0 HZ HFR hgl1 hgl
              go_wp2_with (first | (at_builtin; refine wpList_app1g EKspans rfl (.tmp 47) (.tmp 49) rfl s.cells HO5.out rfl rfl rfl (oneS1 _) (by omega) (by omega) (by have := hz5.out; have := hgw.out; omega) ?_; intro v' w7 h2 h3 h4; clear x0 x1 x2 x3 x4 x5 x6 z0 z1 z2 z3 z4 z5 z6 hgx))
              go_roundw
              case rel =>
                have e : (s :: p :: r).reverse = o ++ [p] ++ [s] := by rw [List.reverse_cons, List.reverse_cons, HRV.out]
                have h2' : OwnS w7 w2.heap.size v' (o ++ [p] ++ [s]) := by
                  refine OwnS.app ?_
                  rw [List.length_append, List.length_singleton, HNN.out]
                  exact h2
                exact ⟨q + 1, v', s :: p :: r, by go_num, rfl, by omega, HST.out, ⟨by rw [e]; exact h2', (fun t ht => by rw [e, List.mem_append, List.mem_singleton] at ht; rcases ht with ht | rfl; exact HRF.out t ht; exact hfk.out), by rw [e, List.length_append, List.length_append, HNN.out]; simp; omega⟩, (HBR.out.trans (HBW.out.mono hgw.out)).trans h3⟩
              case measure => simp [intOf]; omega
        · obtain rfl : q = n2 := by omega
          have HE : Hid (acc.reverse = (rmakeL l).1) := hid (by
            have := HRM.out
            rw [← this, Rw.merge, ← HACC.out, ← HMN.out, List.take_length])
          have HRE2 : Hid ((rmakeL l).2 = true) := hid (by rw [HRE.out])
          have HOW := hid HR.out.own
          have HBB := hid ((HB2.out.mono hb).trans (hbr.mono (Nat.le_trans hb HB2.out.size)))
          go_wp2_with fail
          refine bodyPost_ret (v := .tuple #[v, .bool true]) (by simp [results, Tryz.results164, go_sem]) rfl ?_
          exact ⟨v, by rw [HRE2.out], by rw [← HE.out]; exact OwnS.low HOW.out (Nat.le_trans hb HB2.out.size), HBB.out, HBB.out.size⟩
end Go.Proofs.YtplmlahpmnjneaaGreatDoor
namespace Go.Proofs.YtplmlahpmnjneaaGreatDoor
open Go.RowKit Go.Lib
set_option linter.unusedVariables false
set_option linter.unusedSimpArgs false
set_option maxRecDepth 100000 in
set_option maxHeartbeats 1000000 in
theorem or_no (base : Nat) (A B : Option Addr) (cap cap2 : Nat) (a b : List SpanL) (w : World) (ha : Spans w A a) (hb : Spans w B b) (hfa : fitL a) (hfb : fitL b) (hln : a.length + b.length ≤ 40000) (hbase : base ≤ w.heap.size) (hno : (mayR a && mayR b) = false) : Calls Tryz.prog 109 #[.slice A a.length cap, .slice B b.length cap2] w (RowPost w base []) := by
  have hma := hid (rowmay_any A cap a w ha hfa (by omega))
  have HB := hid hb
  have hmb := hid (fun w' (h : Spans w' B b) => rowmay_any B cap2 b w' h hfb (by omega))
  clear ha hb hfa hfb
  cases hmay : mayR a
  · rw [hmay] at hma
    generalize a.length = n at *
    generalize b.length = p at *
    clear hno
    go_enter Tryz.func109, Tryz.ntmps109
    go_wp2_with fail
    refine hma.out.mono ?_
    rintro _ w1 ⟨rfl, hb1⟩
    go_wp2_with fail
    go_ret
    exact ⟨_, rfl, OwnS.nil _ _, hb1.mono hbase, hb1.size⟩
  · rw [hmay] at hma hno
    have hbm : mayR b = false := by simpa using hno
    rw [hbm] at hmb
    generalize a.length = n at *
    generalize b.length = p at *
    clear hno hbm
    go_enter Tryz.func109, Tryz.ntmps109
    go_wp2_with fail
    refine hma.out.mono ?_
    rintro _ w1 ⟨rfl, hb1⟩
    go_wp2_with fail
    refine (hmb.out _ (HB.out.below hb1)).mono ?_
    rintro _ w2 ⟨rfl, hb2⟩
    have hb02 := below_tr hb1 hb2
    go_wp2_with fail
    go_ret
    exact ⟨_, rfl, OwnS.nil _ _, hb02.mono hbase, hb02.size⟩
set_option maxRecDepth 100000 in
set_option maxHeartbeats 1000000 in
theorem or_yes (base : Nat) (A B : Option Addr) (cap cap2 : Nat) (a b : List SpanL) (w : World) (ha : Spans w A a) (hb : Spans w B b) (hfa : fitL a) (hfb : fitL b) (hln : a.length + b.length ≤ 40000) (hbase : base ≤ w.heap.size) (hmay : mayR a = true ∧ mayR b = true) : Calls Tryz.prog 109 #[.slice A a.length cap, .slice B b.length cap2] w (RowPost w base (rmakeL (a ++ b)).1) := by
  have HA := hid ha
  have HB := hid hb
  have HFA := hid hfa
  have HFB := hid hfb
  have hma := hid (rowmay_any A cap a w ha hfa (by omega))
  have hmb := hid (fun w' (h : Spans w' B b) => rowmay_any B cap2 b w' h hfb (by omega))
  rw [hmay.1] at hma
  rw [hmay.2] at hmb
  have HSA := hid (fun w' (h : Spans w' A a) => h.src)
  have HSB2 := hid (fun w' (h : Spans w' B b) => h.src)
  have HCAT := hid (fun (w' : World) (base : Nat) (v : Value) (h : w'.ownsRow base 100 14 v (a.length + b.length) (cellsL a ++ cellsL b)) => (OwnS.cat h).spans)
  have hmk := hid (fun w' A' c' (h : Spans w' A' (a ++ b)) (hw : base ≤ w'.heap.size) => make_any base A' c' (a ++ b) w' h (fitL_app hfa hfb) (by rw [List.length_append]; exact hln) hw)
  generalize rmakeL (a ++ b) = r at *
  clear ha hb hfa hfb hmay
  generalize hn : a.length = n at *
  generalize hp : b.length = p at *
  have HN := hid hn
  have HP := hid hp
  clear hn hp
  have hM : maxLen = 9223372036854775807 := rfl
  go_enter Tryz.func109, Tryz.ntmps109
  go_wp2_with fail
  refine hma.out.mono ?_
  rintro _ w1 ⟨rfl, hb1⟩
  go_wp2_with fail
  refine (hmb.out _ (HB.out.below hb1)).mono ?_
  rintro _ w2 ⟨rfl, hb2⟩
  have hb02 := below_tr hb1 hb2
  clear hma hmb hb1 hb2
  go_wp2_with (first
    | (at_builtin; refine wpList_appx EKspans rfl (.tmp 16) (.tmp 17) rfl rfl (World.ownsRow_nil w2 w2.heap.size _ _) rfl (HSA.out _ (HA.out.below hb02)) (oneS a) (by omega) (by omega) (Nat.le_refl _) ?_; intro v3 w3 h3 hb3 _; have hb03 := below_tr hb02 hb3; have hz3 := hb3.size; simp only [Nat.zero_add, List.nil_append] at h3)
    | (at_builtin; refine wpList_appx EKspans rfl (.tmp 19) (.tmp 20) rfl rfl h3 rfl (HSB2.out _ (HB.out.below hb03)) (oneS b) (by omega) (by omega) hz3 ?_; intro v4 w4 h4 hb4 _))
  have hb24 := hb3.trans hb4
  obtain ⟨A4, c4, rfl, h5⟩ := HCAT.out _ _ _ h4
  have hb04 := below_tr hb02 hb24
  clear h3 h4 hb3 hb4 hb24 hb03 hb02 hz3 HCAT HSA HSB2
  go_wp2_with fail
  refine (hmk.out _ _ _ h5 (Nat.le_trans hbase hb04.size)).mono ?_
  rintro _ w5 ⟨v5, rfl, h6, h7, h8⟩
  have hb05 := (hb04.mono hbase).trans h7
  go_wp2_with fail
  go_ret
  exact ⟨_, rfl, h6, hb05, hb05.size⟩
theorem por_any (base : Nat) (A B : Option Addr) (cap cap2 : Nat) (a b : List SpanL) (w : World) (ha : Spans w A a) (hb : Spans w B b) (hfa : fitL a) (hfb : fitL b) (hln : a.length + b.length ≤ 40000) (hbase : base ≤ w.heap.size) : Calls Tryz.prog 109 #[.slice A a.length cap, .slice B b.length cap2] w (RowPost w base (rorL a b)) := by
  cases hmay : (mayR a && mayR b)
  · rw [show rorL a b = [] by rw [rorL, hmay]; rfl]; exact or_no base A B cap cap2 a b w ha hb hfa hfb hln hbase hmay
  · rw [show rorL a b = (rmakeL (a ++ b)).1 by rw [rorL, hmay]; rfl]
    rw [Bool.and_eq_true] at hmay; exact or_yes base A B cap cap2 a b w ha hb hfa hfb hln hbase hmay
theorem growAll_len {l : List SpanL} (p : CutL → CutL → Bool) (hf : fitL l) : (growAll (cutsL l) p).length ≤ 1 + 2 * l.length := by
  have h1 := growTo_len (cutsL l) p ((cutsL l).length - 1)
  have h2 := (cutsL_good hf).2
  rw [growAll]; omega
theorem growAll_fit {l : List SpanL} (p : CutL → CutL → Bool) (hf : fitL l) : fitAll (growAll (cutsL l) p) := by
  have h2 := cutsL_good hf
  exact growTo_fit h2.1 _ (by omega)
theorem fitAll.toL {l : List SpanL} (h : fitAll l) : fitL l := fun i hi => by rw [nth_lt hi]; exact h _ (List.getElem_mem _)
theorem randL_good {a b : List SpanL} (ha : fitL a) (hb : fitL b) : fitL (randL a b) ∧ (randL a b).length ≤ 1 + 2 * (a.length + b.length) := by
  rw [randL]
  split
  · have := growAll_len (bothIn a b) (fitL_app ha hb)
    rw [List.length_append] at this
    exact ⟨(growAll_fit _ (fitL_app ha hb)).toL, this⟩
  · exact ⟨fun i hi => by simp at hi, by simp⟩
theorem rmakeL_good {a : List SpanL} (ha : fitL a) : fitL (rmakeL a).1 ∧ (rmakeL a).1.length ≤ 1 + 2 * a.length := by
  rw [rmakeL]
  split
  · exact ⟨(growAll_fit _ ha).toL, growAll_len _ ha⟩
  · exact ⟨fun i hi => by simp at hi, by simp⟩
theorem rorL_good {a b : List SpanL} (ha : fitL a) (hb : fitL b) : fitL (rorL a b) ∧ (rorL a b).length ≤ 1 + 2 * (a.length + b.length) := by
  rw [rorL]
  split
  · have := rmakeL_good (fitL_app ha hb)
    rw [List.length_append] at this
    exact this
  · exact ⟨fun i hi => by simp at hi, by simp⟩
theorem rnotL_good {a : List SpanL} (ha : fitL a) : fitL (rnotL a) ∧ (rnotL a).length ≤ 1 + 2 * a.length := by
  rw [rnotL]
  split
  · exact ⟨(growAll_fit _ ha).toL, growAll_len _ ha⟩
  · exact ⟨fun i hi => by simp at hi, by simp⟩
end Go.Proofs.YtplmlahpmnjneaaGreatDoor
namespace Go.Proofs.YtplmlahpmnjneaaGreatDoor
open Go.RowKit Go.Lib
set_option linter.unusedVariables false
set_option linter.unusedSimpArgs false
theorem Spans.one {w : World} {g : Nat} {s : SpanL} (h : Box w g s.cells) : Spans w (some ⟨g, 0, none⟩) [s] := by
  refine .inr ⟨g, 0, rfl, h.1, fun i hi j u hj => ?_⟩
  have : i = 0 := by simpa using hi
  subst this
  have := h.2 j u hj
  simpa using this
end Go.Proofs.YtplmlahpmnjneaaGreatDoor
namespace Go.Proofs.YtplmlahpmnjneaaGreatDoor
open Go.RowKit Go.Lib
set_option linter.unusedVariables false
set_option linter.unusedSimpArgs false
theorem wp_name {P : Program} {c : Code} {Q : Exit → Act → World → Prop} {a : Act} {w : World} (h : ∀ w', w' = w → c.wp P Q a w') : c.wp P Q a w := h w rfl
end Go.Proofs.YtplmlahpmnjneaaGreatDoor
namespace Go.Proofs.YtplmlahpmnjneaaGreatDoor
open Go.RowKit Go.Lib
set_option linter.unusedVariables false
set_option linter.unusedSimpArgs false
def zeroC : CutL := ⟨0, zeroV, false⟩
end Go.Proofs.YtplmlahpmnjneaaGreatDoor
namespace Go.Proofs.YtplmlahpmnjneaaGreatDoor
open Go.RowKit Go.Lib
set_option linter.unusedVariables false
set_option linter.unusedSimpArgs false
end Go.Proofs.YtplmlahpmnjneaaGreatDoor
