/- slices.SortFunc at spans, ordered by From: what it leaves is a rising permutation. -/
import Derived.Test.YtodicnjoimoiiaaRowMath
import Derived.Test.YtodicnjoimoiiaaBx
import Derived.Test.YtodicnjoimoiiaaSort
import Derived.Shelf.SlSortCmp.WholeK
import Derived.Shelf.SlSortCmp.NoneTotal
namespace Go.Proofs.Ytodicnjoimoiiaa
open Go.RowKit Go.Lib Go.Shelf Go.Sort
set_option linter.unusedVariables false
set_option linter.unusedSimpArgs false

abbrev GoodS := {s : SpanL // s.fit ∧ spanMay s = true}
instance : Inhabited GoodS := ⟨⟨⟨firstC, lastC⟩, ⟨firstC_fit, lastC_fit⟩, Rw.spanMay_iff.2 ⟨first_may, last_may, cmpC_ends⟩⟩⟩
def encS (x : GoodS) : List Value := x.1.cells

theorem clos_any (s t : SpanL) (w : World) (hs : s.fit) (ht : t.fit) : Calls Try.prog 37 #[s.val, t.val] w (IntPost w (cmpC s.fr t.fr)) := by
  have hc := hid (fun w' => ccompare_any s.fr t.fr w' hs.1 ht.1)
  have HBN := hid (below_tr (below_new w (.cells s.cells.toArray 37)) (below_new _ (.cells t.cells.toArray 37)))
  go_enter Try.func37, Try.ntmps37
  go_wp2_with fail
  refine (hc.out _).mono ?_
  rintro _ w1 ⟨rfl, hb1⟩
  go_wp2_with fail
  go_ret
  exact ⟨rfl, below_tr HBN.out hb1⟩
theorem below_grow {w w' : World} (h : Below w.heap.size w w') : ∃ q os', w' = grow (w.drewN q) os' := by
  refine ⟨w'.drawn - w.drawn, w'.heap.extract w.heap.size w'.heap.size, ?_⟩
  have h1 := h.drawn
  have h2 : w'.heap = w.heap ++ w'.heap.extract w.heap.size w'.heap.size := by
    apply Array.ext_getElem?
    intro k
    have hs := h.size
    rw [Array.getElem?_append]
    by_cases hk : k < w.heap.size
    · rw [if_pos hk]; exact h.block k hk
    · rw [if_neg hk, Array.getElem?_extract]
      by_cases hk2 : k < w'.heap.size
      · rw [if_pos (by omega)]; congr 1; omega
      · rw [if_neg (by omega), Array.getElem?_eq_none (by omega)]
  have h3 := h.os
  have h4 := h.tape
  have h5 := h.output
  cases w
  cases w'
  simp only [grow, World.drewN] at h1 h2 h3 h4 h5 ⊢
  subst h3; subst h4; subst h5
  congr 1
  omega
theorem cmpLays (blk off size : Nat) (w : World) : CmpLays Try.prog 37 #[] encS 14 (fun x y : GoodS => cmpC x.1.fr y.1.fr) blk off size w :=
  fun _ _ _ _ x y => (clos_any x.1 y.1 _ x.2.1 y.2.1).mono fun _ _ ⟨he, hb⟩ => ⟨he, below_grow hb⟩
theorem good_may (x : GoodS) : mayC x.1.fr = true := (Rw.spanMay_iff.1 x.2.2).okl
theorem swoS : SWO (ltOf fun x y : GoodS => cmpC x.1.fr y.1.fr) where
  irrefl x := by simp [ltOf, cmpC_self _ (good_may x)]
  trans x y z h1 h2 := by
    simp only [ltOf, decide_eq_true_eq] at *
    exact cmpC_tran _ _ _ (good_may x) (good_may y) (good_may z) h1 h2
  ntrans x y z h1 h2 := by
    simp only [ltOf, decide_eq_false_iff_not] at *
    have a := (Rw.ge_iff (good_may x) (good_may y)).1 (by omega)
    have b := (Rw.ge_iff (good_may y) (good_may z)).1 (by omega)
    have := (Rw.ge_iff (good_may x) (good_may z)).2 (b.tr a)
    omega
theorem isAggS : ∀ w, (isAgg (Try.sortSpan_ren.t 24)).run Try.prog w = .ok true w := Try.isAgg37
theorem sizeOfS : ∀ w, (Go.sizeOf (Try.sortSpan_ren.t 24)).run Try.prog w = .ok 14 w := Try.sizeOf37

/-- what the sort leaves -/
def SortPost (w : World) (g : Nat) (l : List SpanL) (e : Ending) (w' : World) : Prop :=
  e = .returned (.tuple #[]) ∧ ∃ m : List SpanL, (∀ s, s ∈ m ↔ s ∈ l) ∧ m.length = l.length ∧ m.Pairwise (fun a b => cmpC a.fr b.fr ≤ 0) ∧ Spans w' (some ⟨g, 0, none⟩) m ∧ Below g w w'
theorem pmap_val (l : List SpanL) (hl : ∀ s, s ∈ l → s.fit ∧ spanMay s = true) : (l.pmap Subtype.mk hl).map (fun x : GoodS => x.1) = l := by
  rw [List.map_pmap]; simp
theorem cells_at (s : SpanL) (j : Nat) (h : j < 14) : ∃ u, s.cells[j]? = some u ∧ s.cells[j]! = u := by
  have hl : j < s.cells.length := by simpa using h
  exact ⟨s.cells[j], List.getElem?_eq_getElem hl, getElem!_pos s.cells j hl⟩
theorem spansK {w : World} {g : Nat} {d : Array GoodS} (h : HoldsK encS 14 w g 0 d) (hg : g < w.heap.size) : Spans w (some ⟨g, 0, none⟩) (d.toList.map (fun x => x.1)) := by
  refine .inr ⟨g, 0, rfl, hg, fun i hi j u hj => ?_⟩
  have hi' : i < d.size := by simpa using hi
  have hj14 : j < 14 := by
    rcases Nat.lt_or_ge j 14 with h' | h'
    · exact h'
    · rw [List.getElem?_eq_none (by simp; omega)] at hj; cases hj
  have hk := (h (i * 14 + j) (by rw [size_flatK]; omega)).1
  rw [get_flatK encS 14 d (i * 14 + j) (by omega)] at hk
  have e1 : (i * 14 + j) / 14 = i := by omega
  have e2 : (i * 14 + j) % 14 = j := by omega
  rw [e1, e2] at hk
  have e3 : nth (d.toList.map (fun x => x.1)) i = d[i]!.1 := by
    rw [nth_lt hi]; simp [hi']
  rw [e3] at hj
  obtain ⟨u', hu1, hu2⟩ := cells_at d[i]!.1 j hj14
  rw [hu1] at hj
  injection hj with hj
  subst hj
  have e4 : 0 + i * 14 + j = 0 + (i * 14 + j) := by omega
  rw [e4, hk]
  show some (encS d[i]!)[j]! = _
  rw [encS, hu2]
theorem holdsS_of {w : World} {g : Nat} {l : List SpanL} (hl : ∀ s, s ∈ l → s.fit ∧ spanMay s = true) (h : Spans w (some ⟨g, 0, none⟩) l) (hs : Soft w g) : HoldsK encS 14 w g 0 (l.pmap Subtype.mk hl).toArray := by
  intro t ht
  rw [size_flatK] at ht
  have hlen : (l.pmap Subtype.mk hl).toArray.size = l.length := by simp
  rw [hlen] at ht
  refine ⟨?_, hs _⟩
  rw [get_flatK encS 14 _ t (by rw [hlen]; exact ht)]
  have hi : t / 14 < l.length := by omega
  rcases h with rfl | ⟨b, off, e, hlt, hc⟩
  · simp at hi
  · injection e with e; injection e with e1 e2 e3; subst e1; subst e2
    obtain ⟨u, hu1, hu2⟩ := cells_at (nth l (t / 14)) (t % 14) (Nat.mod_lt _ (by omega))
    have := hc (t / 14) hi (t % 14) u hu1
    have e4 : 0 + t / 14 * 14 + t % 14 = 0 + t := by omega
    rw [e4] at this
    rw [this]
    have e5 : ((l.pmap Subtype.mk hl).toArray[t / 14]!) = ⟨nth l (t / 14), hl _ (by rw [nth_lt hi]; exact List.getElem_mem _)⟩ := by
      rw [getElem!_pos _ _ (by rw [hlen]; exact hi)]
      apply Subtype.ext
      simp [nth_lt hi]
    rw [e5]
    show some u = some (encS _)[t % 14]!
    rw [encS, hu2]
theorem below_sort {w : World} {g n : Nat} {d : Array GoodS} {os : Array Obj} (hg : g < w.heap.size) : Below g w (sortWorldK encS 14 w g 0 n d os) := by
  refine ⟨⟨rfl, rfl, rfl, ?_, fun k hk => ?_⟩, Nat.le_add_right _ _⟩
  · exact size_sortWorldK_c encS 14 w g 0 n d os
  · show ((w.heap.modify g _) ++ os)[k]? = _
    rw [Array.getElem?_append_left (by simp; omega), Array.getElem?_modify, if_neg (by omega)]

set_option maxHeartbeats 1000000 in
theorem sort_some (g cap : Nat) (l : List SpanL) (w : World) (hl : ∀ s, s ∈ l → s.fit ∧ spanMay s = true) (h : Spans w (some ⟨g, 0, none⟩) l) (hs : Soft w g) (hg : g < w.heap.size) (hln : l.length ≤ 4398046511104) :
    Calls Try.prog 36 #[.slice (some ⟨g, 0, none⟩) l.length cap, .func (.func 37) #[] #[]] w (SortPost w g l) := by
  have eg : ∀ args w, (callFunc 37 args).run Try.prog w = .ok (.enter 37 args) w := enters_of Try.func37 (by kernel_rfl) rfl
  have hd : (l.pmap Subtype.mk hl).toArray.size = l.length := by simp
  have hH := holdsS_of hl h hs
  have hv : (l.pmap Subtype.mk hl).toArray.toList.map (fun x : GoodS => x.1) = l := by rw [List.toList_toArray]; exact pmap_val l hl
  generalize (l.pmap Subtype.mk hl).toArray = d at hd hH hv
  have hcon := AnyQ.slices_SortFunc Try.sortSpan 14 isAggS sizeOfS encS (fun _ => rfl) (fun x v hv => oneS1 x.1 v hv) (fun x y => cmpC x.1.fr y.1.fr) swoS 37 #[] g 0 cap d w eg (cmpLays g 0 d.size w) hH hg (by omega)
  change Calls Try.prog 36 _ _ _ at hcon
  rw [hd] at hcon
  refine hcon.mono ?_
  rintro e w' ⟨rfl, d', n, os, hp, hso, rfl⟩
  obtain ⟨p1, _, p3⟩ := hp
  have q1 : d'.extract 0 l.length = d' := by rw [← hd, ← p1]; exact Array.extract_size
  have q2 : d.extract 0 l.length = d := by rw [← hd]; exact Array.extract_size
  rw [q1, q2] at p3
  have hp := p3.map (fun x : GoodS => x.1)
  rw [hv] at hp
  have hH' := holdsK_sortWorldK encS 14 w g 0 n d d' os hg hH p1
  refine ⟨rfl, d'.toList.map (fun x => x.1), fun s => hp.mem_iff, hp.length_eq, ?_, spansK hH' (Nat.lt_of_lt_of_le hg (size_sortWorldK_c encS 14 w g 0 n d' os)), below_sort hg⟩
  rw [List.pairwise_iff_getElem]
  intro i j hi hj hij
  have hi' : i < d'.size := by simpa using hi
  have hj' : j < d'.size := by simpa using hj
  have := hso i j (Nat.zero_le _) hij (by rw [← hd, ← p1]; exact hj')
  rw [getElem!_pos d' i hi', getElem!_pos d' j hj'] at this
  simp only [ltOf, decide_eq_false_iff_not] at this
  simp only [List.getElem_map, Array.getElem_toList]
  exact ((Rw.ge_iff (good_may _) (good_may _)).1 (by omega)).2.2
theorem sort_none (A : Option Addr) (cap : Nat) (w : World) : Calls Try.prog 36 #[.slice A 0 cap, .func (.func 37) #[] #[]] w fun e w' => e = .returned (.tuple #[]) ∧ w' = w := by
  have := AnyF.slices_SortFunc_none (P := Try.prog) (ρ := Try.sortSpan_ren) { Try.sortSpan with } A cap (.func (.func 37) #[] #[]) w
  exact this
end Go.Proofs.Ytodicnjoimoiiaa
