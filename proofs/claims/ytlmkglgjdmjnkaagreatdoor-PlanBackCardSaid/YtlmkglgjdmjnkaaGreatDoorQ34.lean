/- Parts 34 of the proofs. -/
import Derived.Test.YtlmkglgjdmjnkaaGreatDoorQ33
namespace Go.Proofs.YtlmkglgjdmjnkaaGreatDoor
open Go.RowKit Go.Lib
open Rw
set_option linter.unusedVariables false
set_option linter.unusedSimpArgs false
def CIs (n : Nat) (w : World) (y : CandP) : Prop := CandIs w y ∧ (∀ r ∈ y.needs, ∀ t ∈ r.l, inU n t) ∧ ∀ t ∈ y.bars, inU n t
theorem CIs.mono (n : Nat) : ∀ (w w' : World) (y : CandP), Mono w w' → CIs n w y → CIs n w' y := fun _ _ _ m h => ⟨h.1.mono m, h.2⟩
def bareC (v : Ver) (sh : Int) : CandP := ⟨v, sh, [], [], none, 0, none, 0⟩
theorem bareC_is (n : Nat) (w : World) {v : Ver} (sh : Int) (hv : v.fit) : CIs n w (bareC v sh) :=
  ⟨⟨hv, ⟨.inl rfl, (fun _ h => by cases h), Nat.zero_le _⟩, ⟨.inl rfl, (fun _ h => by cases h), Nat.zero_le _⟩⟩, (fun _ h => by cases h), fun _ h => by cases h⟩
structure WH (B : Nat) (w : World) (U : Option Addr) (us : List UnitP) : Prop where
  row : Lies 3 utC w U us
  low : ∀ k, blkA U = some k → B ≤ k
  cd : ∀ x ∈ us, RowG B 8 cdC w x.A x.cands
  au : ∀ x ∈ us, x.cands ≠ [] → blkA x.A ≠ blkA U
  ap : us.Pairwise fun x y => x.cands ≠ [] → y.cands ≠ [] → blkA x.A ≠ blkA y.A
  fit : ∀ x ∈ us, x.name.size ≤ 1000000 ∧ x.feature.size ≤ 1000000 ∧ x.cands.length ≤ 4 ∧ ∀ y ∈ x.cands, y.v.fit
def Keep2 (a b : Nat) (w w' : World) : Prop := w.heap.size ≤ w'.heap.size ∧ ∀ k, k < w.heap.size → k ≠ a → k ≠ b → w'.heap[k]? = w.heap[k]?
theorem Keep2.refl (a b : Nat) (w : World) : Keep2 a b w w := ⟨Nat.le_refl _, fun _ _ _ _ => rfl⟩
theorem Keep2.keep {a b : Nat} {w u v : World} (h : Keep2 a b w u) (k : Keep (some a) u v) : Keep2 a b w v := ⟨Nat.le_trans h.1 k.1, fun q hq h1 h2 => (k.2 q (Nat.lt_of_lt_of_le hq h.1) (fun e => by injection e with e; exact h1 e.symm)).trans (h.2 q hq h1 h2)⟩
theorem Keep2.kb {a b : Nat} {w u v : World} (h : Keep2 a b w u) (k : KB u.heap.size u v) : Keep2 a b w v := h.keep (Keep.kb k)
theorem Keep2.put {a b g j : Nat} {w u : World} (h : Keep2 a b w u) (x : Value) (hg : g = b ∨ w.heap.size ≤ g) : Keep2 a b w (u.setCell ⟨g, j, none⟩ x) := ⟨by rw [World.size_setCell]; exact h.1, fun q hq h1 h2 => (heap_put (fun e => by subst e; omega)).trans (h.2 q hq h1 h2)⟩
theorem Keep2.grown {a b : Nat} {w u v : World} {o : Option Nat} (h : Keep2 a b w u) (hg : u.grownBy v o) (ho : ∀ k, o = some k → w.heap.size ≤ k) : Keep2 a b w v := ⟨Nat.le_trans h.1 hg.size, fun q hq h1 h2 => (hg.block q (Nat.lt_of_lt_of_le hq h.1) (fun e => by have := ho q e.symm; omega)).trans (h.2 q hq h1 h2)⟩
section
variable {α : Type} {n B a b : Nat} {f : α → List Value} {w w' : World} {A : Option Addr} {l : List α}
theorem lies_at_block (h : Lies n f w A l) (hb : ∀ k, blkA A = some k → k < w.heap.size → w'.heap[k]? = w.heap[k]?) (hs : w.heap.size ≤ w'.heap.size) : Lies n f w' A l := by
  rcases h with h | ⟨b, off, rfl, h2, h3⟩
  · exact .inl h
  · exact .inr ⟨b, off, rfl, Nat.lt_of_lt_of_le h2 hs, fun i hi j u hj => (World.cell?_of_block (hb b rfl h2)).trans (h3 i hi j u hj)⟩
theorem RowG.keep2 (h : RowG B n f w A l) (k : Keep2 a b w w') (ha : a < B) (hb : l ≠ [] → blkA A ≠ some b) : RowG B n f w' A l := by
  by_cases hl : l = []
  · exact ⟨.inl hl, (fun hn => absurd hl hn), h.low⟩
  · have hb := hb hl
    obtain ⟨g, rfl, hB, hs⟩ := h.own hl
    have hgb : g ≠ b := fun e => hb (by rw [e]; rfl)
    rcases h.lies with h2 | ⟨b', off, h1, h2, h3⟩
    · exact absurd h2 hl
    · injection h1 with h1
      injection h1 with e1 e2 e3
      subst e1; subst e2
      have e := k.2 g h2 (by omega) hgb
      exact ⟨.inr ⟨g, 0, rfl, Nat.lt_of_lt_of_le h2 k.1, fun i hi j u hj => (World.cell?_of_block e).trans (h3 i hi j u hj)⟩, (fun _ => ⟨g, rfl, hB, fun j => (World.frozen?_of_block (a := ⟨g, j, none⟩) e).trans (hs j)⟩), h.low⟩
end
theorem WH.keep {B g : Nat} {w w' : World} {U : Option Addr} {us : List UnitP} (h : WH B w U us) (k : Keep (some g) w w') (hg : g < B) : WH B w' U us :=
  ⟨lies_at_block h.row (fun q hq hl => k.2 q hl (fun e => by injection e with e; have := h.low q hq; omega)) k.1, h.low, fun x hx => (h.cd x hx).keep k (fun q hq e => by injection e with e; have := (h.cd x hx).low q hq; omega), h.au, h.ap, h.fit⟩
def putU (u : UnitP) (cs : List CandP) : UnitP := { u with cands := cs }
theorem WH.step {B g gb : Nat} {w w' : World} {U : Option Addr} {xs ys : List UnitP} {u : UnitP} {cs : List CandP} (h : WH B w U (xs ++ u :: ys)) (k : Keep2 g gb w w') (hg : g < B) (hu : blkA u.A = some gb) (hne : u.cands ≠ []) (hr : RowG B 8 cdC w' u.A cs) (hl : cs.length = u.cands.length) (hf : ∀ y ∈ cs, y.v.fit) : WH B w' U (xs ++ putU u cs :: ys) := by
  have hum : u ∈ xs ++ u :: ys := by simp
  have hcs : cs ≠ [] := fun e => hne (List.eq_nil_of_length_eq_zero (by rw [← hl, e]; rfl))
  have hp := List.pairwise_append.1 h.ap
  have hp2 := List.pairwise_cons.1 hp.2.1
  have hgU : blkA U ≠ some gb := fun e => h.au u hum hne (by rw [hu, e])
  have hrow : Lies 3 utC w' U (xs ++ u :: ys) := lies_at_block h.row (fun q hq hl => k.2 q hl (by have := h.low q hq; omega) (fun e => hgU (by rw [← e]; exact hq))) k.1
  refine ⟨?_, h.low, ?_, ?_, ?_, ?_⟩
  · rcases hrow with e | ⟨b, off, rfl, h2, h3⟩
    · simp at e
    · refine .inr ⟨b, off, rfl, h2, fun i hi j v hj => h3 i (by simpa using hi) j v ?_⟩
      rw [← hj]
      rcases Nat.lt_trichotomy i xs.length with hi1 | hi1 | hi1
      · rw [List.getElem_append_left hi1, List.getElem_append_left hi1]
      · subst hi1
        simp only [List.getElem_append_right (Nat.le_refl _), Nat.sub_self, List.getElem_cons_zero]
        show [Value.string u.name, .string u.feature, .slice u.A u.cands.length u.c][j]? = [Value.string u.name, .string u.feature, .slice u.A cs.length u.c][j]?
        rw [hl]
      · obtain ⟨q, hq⟩ : ∃ q, i - xs.length = q + 1 := ⟨i - xs.length - 1, by omega⟩
        simp only [List.getElem_append_right (Nat.le_of_lt hi1), hq, List.getElem_cons_succ]
  · intro x hx
    rcases List.mem_append.1 hx with hx | hx
    · exact (h.cd x (by simp [hx])).keep2 k hg fun hn => by rw [← hu]; exact hp.2.2 x hx u (by simp) hn hne
    · rcases List.mem_cons.1 hx with rfl | hx
      · exact hr
      · exact (h.cd x (by simp [hx])).keep2 k hg fun hn => by rw [← hu]; exact (hp2.1 x hx hne hn).symm
  · intro x hx hn
    rcases List.mem_append.1 hx with hx | hx
    · exact h.au x (by simp [hx]) hn
    · rcases List.mem_cons.1 hx with rfl | hx
      · exact h.au u hum hne
      · exact h.au x (by simp [hx]) hn
  · refine List.pairwise_append.2 ⟨hp.1, List.pairwise_cons.2 ⟨fun y hy _ hn => hp2.1 y hy hne hn, hp2.2⟩, fun x hx y hy h1 h2 => ?_⟩
    rcases List.mem_cons.1 hy with rfl | hy
    · exact hp.2.2 x hx u (by simp) h1 hne
    · exact hp.2.2 x hx y (by simp [hy]) h1 h2
  · intro x hx
    rcases List.mem_append.1 hx with hx | hx
    · exact h.fit x (by simp [hx])
    · rcases List.mem_cons.1 hx with rfl | hx
      · have := h.fit u hum
        exact ⟨this.1, this.2.1, by show cs.length ≤ 4; rw [hl]; exact this.2.2.1, hf⟩
      · exact h.fit x (by simp [hx])
theorem WH.heads {B g : Nat} {w : World} {U : Option Addr} {us : List UnitP} (h : WH B w U us) (hg : g < B) : UHd (maskB w (noB g)) U us := by
  have hm : ∀ {α : Type} {n : Nat} {f : α → List Value} {A : Option Addr} {l : List α}, Lies n f w A l → (∀ k, blkA A = some k → B ≤ k) → Lies n f (maskB w (noB g)) A l := by
    intro α n f A l h1 h2
    rcases h1 with e | ⟨b, off, rfl, h3, h4⟩
    · exact .inl e
    · refine .inr ⟨b, off, rfl, by rw [maskB_size]; exact h3, fun i hi j v hj => maskB_cell.2 ⟨?_, h4 i hi j v hj⟩⟩
      have := h2 b rfl
      show decide (b ≠ g) = true
      rw [decide_eq_true_eq]
      omega
  exact ⟨hm h.row h.low, fun x hx => ⟨hm (h.cd x hx).lies (h.cd x hx).low, (h.fit x hx).2.2⟩⟩
def visU (B : Nat) (us : List UnitP) : Nat → Bool := fun k => decide (B ≤ k) && us.all fun x => x.cands.isEmpty || decide (blkA x.A ≠ some k)
theorem visU_iff {B : Nat} {us : List UnitP} {k : Nat} : visU B us k = true ↔ B ≤ k ∧ ∀ x ∈ us, x.cands ≠ [] → blkA x.A ≠ some k := by
  unfold visU
  rw [Bool.and_eq_true, decide_eq_true_eq, List.all_eq_true]
  refine and_congr Iff.rfl (forall_congr' fun x => forall_congr' fun _ => ?_)
  rw [Bool.or_eq_true, List.isEmpty_iff, decide_eq_true_eq]
  by_cases hx : x.cands = [] <;> simp [hx]
def WB (n B : Nat) (w : World) (U : Option Addr) (us : List UnitP) : Prop := WH B w U us ∧ ∀ x ∈ us, ∀ y ∈ x.cands, CIs n (maskB w (visU B us)) y
theorem WB.keep {n B g : Nat} {w w' : World} {U : Option Addr} {us : List UnitP} (h : WB n B w U us) (k : Keep (some g) w w') (hg : g < B) : WB n B w' U us :=
  ⟨h.1.keep k hg, fun x hx y hy => CIs.mono n _ _ _ (maskB_mono k.1 fun q hq hs => ⟨hs, k.2 q hq (fun e => by injection e with e; have := (visU_iff.1 hs).1; omega)⟩) (h.2 x hx y hy)⟩
theorem WB.step {n B g gb : Nat} {w w' : World} {U : Option Addr} {xs ys : List UnitP} {u : UnitP} {ds os : List CandP} {y y' : CandP} (h : WB n B w U (xs ++ u :: ys)) (k : Keep2 g gb w w') (hg : g < B) (hB : B ≤ w.heap.size) (hu : blkA u.A = some gb) (hc : u.cands = ds ++ y :: os) (hr : RowG B 8 cdC w' u.A (ds ++ y' :: os)) (hy : CIs n (mask w' w.heap.size none) y') : WB n B w' U (xs ++ putU u (ds ++ y' :: os) :: ys) := by
  have hum : u ∈ xs ++ u :: ys := by simp
  have hne : u.cands ≠ [] := by rw [hc]; simp
  have hfu := (h.1.fit u hum).2.2.2
  have h1 : WH B w' U (xs ++ putU u (ds ++ y' :: os) :: ys) := h.1.step k hg hu hne hr (by rw [hc]; simp) fun z hz => by
    rcases List.mem_append.1 hz with hz | hz
    · exact hfu z (by rw [hc]; simp [hz])
    · rcases List.mem_cons.1 hz with rfl | hz
      · exact hy.1.v
      · exact hfu z (by rw [hc]; simp [hz])
  have hmem : ∀ x ∈ xs ++ u :: ys, x.cands ≠ [] → ∃ x' ∈ xs ++ putU u (ds ++ y' :: os) :: ys, x'.cands ≠ [] ∧ blkA x'.A = blkA x.A := by
    intro x hx hn
    rcases List.mem_append.1 hx with hx | hx
    · exact ⟨x, by simp [hx], hn, rfl⟩
    · rcases List.mem_cons.1 hx with rfl | hx
      · exact ⟨putU x (ds ++ y' :: os), by simp, by show ds ++ y' :: os ≠ []; simp, rfl⟩
      · exact ⟨x, by simp [hx], hn, rfl⟩
  have hmem2 : ∀ x' ∈ xs ++ putU u (ds ++ y' :: os) :: ys, x'.cands ≠ [] → ∃ x ∈ xs ++ u :: ys, x.cands ≠ [] ∧ blkA x'.A = blkA x.A := by
    intro x hx hn
    rcases List.mem_append.1 hx with hx | hx
    · exact ⟨x, by simp [hx], hn, rfl⟩
    · rcases List.mem_cons.1 hx with rfl | hx
      · exact ⟨u, by simp, hne, rfl⟩
      · exact ⟨x, by simp [hx], hn, rfl⟩
  have hM : Mono (maskB w (visU B (xs ++ u :: ys))) (maskB w' (visU B (xs ++ putU u (ds ++ y' :: os) :: ys))) := maskB_mono k.1 fun q hq hs => by
    obtain ⟨e1, e2⟩ := visU_iff.1 hs
    refine ⟨visU_iff.2 ⟨e1, fun x' hx' hn => ?_⟩, k.2 q hq (by omega) (fun e => e2 u hum hne (by rw [hu, e]))⟩
    obtain ⟨x, hx, hn2, he⟩ := hmem2 x' hx' hn
    rw [he]
    exact e2 x hx hn2
  refine ⟨h1, fun x hx z hz => ?_⟩
  rcases List.mem_append.1 hx with hx | hx
  · exact CIs.mono n _ _ _ hM (h.2 x (by simp [hx]) z hz)
  · rcases List.mem_cons.1 hx with rfl | hx
    · have hz : z ∈ ds ++ y' :: os := hz
      rcases List.mem_append.1 hz with hz | hz
      · exact CIs.mono n _ _ _ hM (h.2 u hum z (by rw [hc]; simp [hz]))
      · rcases List.mem_cons.1 hz with rfl | hz
        · refine CIs.mono n _ _ _ ⟨by rw [mask_size, maskB_size]; exact Nat.le_refl _, fun p v e => ?_⟩ hy
          obtain ⟨⟨e1, -⟩, e2⟩ := mask_cell.1 e
          refine maskB_cell.2 ⟨visU_iff.2 ⟨Nat.le_trans hB e1, fun x' hx' hn e3 => ?_⟩, e2⟩
          obtain ⟨x, hx, hn2, he⟩ := hmem2 x' hx' hn
          rw [he] at e3
          obtain ⟨gx, hgx, -, -⟩ := (h.1.cd x hx).own hn2
          rcases (h.1.cd x hx).lies with e4 | ⟨b, off, e4, e5, -⟩
          · exact hn2 e4
          · rw [e4] at e3
            injection e3 with e3
            have e3 : b = p.block := e3
            omega
        · exact CIs.mono n _ _ _ hM (h.2 u hum z (by rw [hc]; simp [hz]))
    · exact CIs.mono n _ _ _ hM (h.2 x (by simp [hx]) z hz)
theorem WB.done {n B : Nat} {w : World} {U : Option Addr} {us : List UnitP} (h : WB n B w U us) (hn : us.length ≤ 1000000) : UnitsAt w U us :=
  ⟨h.1.row, fun x hx => ⟨⟨(h.1.cd x hx).lies, fun y hy => (h.2 x hx y hy).1.mono (Mono.of_maskB _ _), by have := (h.1.fit x hx).2.2.1; omega⟩, (h.1.fit x hx).1, (h.1.fit x hx).2.1⟩, hn⟩
def Wants (us : List UnitP) : Prop := ∀ x ∈ us, ∀ y ∈ x.cands, (∀ r ∈ y.needs, ∀ t ∈ r.l, inU us.length t) ∧ ∀ t ∈ y.bars, inU us.length t
end Go.Proofs.YtlmkglgjdmjnkaaGreatDoor
namespace Go.Proofs.YtlmkglgjdmjnkaaGreatDoor
open Go.RowKit Go.Lib
open Rw
set_option linter.unusedVariables false
set_option linter.unusedSimpArgs false
theorem EKcandsG : EK Tryz.prog 80 79 8 112 := .mk' (.agg #[.int .i64 0, .int .i64 0, .int .i64 0, .string ⟨#[]⟩, .string ⟨#[]⟩, .int .i64 0, .slice none 0 0, .slice none 0 0]) Tryz.underlying80 (by kernel_rfl) rfl (by omega)
theorem EKunitsG : EK Tryz.prog 40 82 3 56 := .mk' (.agg #[.string ⟨#[]⟩, .string ⟨#[]⟩, .slice none 0 0]) Tryz.underlying40 (by kernel_rfl) rfl (by omega)
theorem rowG_lit {α : Type} {B n : Nat} {f : α → List Value} {w : World} {l : List α} {T : TypeId} (hf : ∀ a, (f a).length = n) (hB : B ≤ w.heap.size) : RowG B n f (w.alloc (.cells (l.flatMap f).toArray T)) (some ⟨w.heap.size, 0, none⟩) l := by
  have hb := Box.new w (l.flatMap f) T
  refine ⟨.inr ⟨w.heap.size, 0, rfl, hb.1, fun i hi j u hj => ?_⟩, fun _ => ⟨_, rfl, hB, Soft.new w _ T⟩, fun k e => by injection e with e; rw [← e]; exact hB⟩
  have hjn : j < n := by
    have := (List.getElem?_eq_some_iff.1 hj).1
    rwa [hf] at this
  rw [Nat.zero_add]
  exact hb.2 _ _ ((flat_get hf l i j hi hjn).trans hj)
def Bare (cs : List CandP) : Prop := ∀ y ∈ cs, ∃ v sh, y = bareC v sh ∧ v.fit
theorem Bare.nil : Bare [] := fun y h => by cases h
theorem Bare.snoc {cs : List CandP} {v : Ver} (h : Bare cs) (hv : v.fit) : Bare (cs ++ [bareC v 0]) := fun y hy => by
  rcases List.mem_append.1 hy with hy | hy
  · exact h y hy
  · rcases List.mem_singleton.1 hy with rfl
    exact ⟨v, 0, rfl, hv⟩
structure UL (B : Nat) (w : World) (v : Value) (us : List UnitP) : Prop where
  row : OwnL 82 3 utC w B v us
  cd : ∀ x ∈ us, RowG B 8 cdC w x.A x.cands
  au : ∀ x ∈ us, x.cands ≠ [] → blkA x.A ≠ v.ownBlock
  ap : us.Pairwise fun x y => x.cands ≠ [] → y.cands ≠ [] → blkA x.A ≠ blkA y.A
  fit : ∀ x ∈ us, x.name.size ≤ 1000000 ∧ x.feature.size ≤ 1000000 ∧ x.cands.length ≤ 4
  bare : ∀ x ∈ us, Bare x.cands
theorem UL.keep {B g : Nat} {w w' : World} {v : Value} {us : List UnitP} (h : UL B w v us) (k : Keep (some g) w w') (hg : g < B) : UL B w' v us :=
  ⟨own_keep h.row fun q hq => k.2 q (World.ownsRow.lt h.row q hq).2 (fun e => by injection e with e; have := (World.ownsRow.lt h.row q hq).1; omega), fun x hx => (h.cd x hx).keep k (fun q hq e => by injection e with e; have := (h.cd x hx).low q hq; omega), h.au, h.ap, h.fit, h.bare⟩
theorem UL.kb {B : Nat} {w w' : World} {v : Value} {us : List UnitP} (h : UL B w v us) (k : KB w.heap.size w w') : UL B w' v us :=
  ⟨h.row.kb k, fun x hx => (h.cd x hx).keep (Keep.kb (o := none) k) (fun q hq e => by cases e), h.au, h.ap, h.fit, h.bare⟩
theorem UL.lt {B : Nat} {w : World} {v : Value} {us : List UnitP} (h : UL B w v us) : ∀ x ∈ us, x.cands ≠ [] → ∀ k, blkA x.A = some k → k < w.heap.size := by
  intro x hx hn k hk
  rcases (h.cd x hx).lies with e | ⟨b, off, e, h2, -⟩
  · exact absurd e hn
  · rw [e] at hk
    injection hk with hk
    have hk : b = k := hk
    omega
theorem UL.grow {B C : Nat} {w w' : World} {v v' : Value} {us : List UnitP} {u : UnitP} (h : UL B w v us) (hlt : ∀ x ∈ us, x.cands ≠ [] → ∀ k, blkA x.A = some k → k < C) (hr : RowG C 8 cdC w u.A u.cands) (hvC : ∀ k, v.ownBlock = some k → k < C) (hBC : B ≤ C) (hul : ∀ k, blkA u.A = some k → u.cands ≠ [] → k < w.heap.size)
    (h2 : w'.ownsRow B 82 3 v' (us.length + 1) (us.flatMap utC ++ utC u)) (hg : w.grownBy w' v.ownBlock) (hv : ∀ k, v'.ownBlock = some k → v.ownBlock = some k ∨ w.heap.size ≤ k) (hf : u.name.size ≤ 1000000 ∧ u.feature.size ≤ 1000000 ∧ u.cands.length ≤ 4) (hb : Bare u.cands) : UL B w' v' (us ++ [u]) := by
  have hk : Keep v.ownBlock w w' := ⟨hg.size, fun q hq ho => hg.block q hq (fun e => ho e.symm)⟩
  have hgo : ∀ (x : UnitP), RowG B 8 cdC w x.A x.cands → (x.cands ≠ [] → blkA x.A ≠ v.ownBlock) → RowG B 8 cdC w' x.A x.cands := by
    intro x hx ha
    by_cases hn : x.cands = []
    · rw [hn] at hx ⊢
      exact ⟨.inl rfl, (fun e => absurd rfl e), hx.low⟩
    · exact hx.keep hk fun q hq e => ha hn (by rw [hq, e])
  have hru : RowG B 8 cdC w u.A u.cands := ⟨hr.lies, fun hn => by obtain ⟨g, e1, e2, e3⟩ := hr.own hn; exact ⟨g, e1, Nat.le_trans hBC e2, e3⟩, fun k e => Nat.le_trans hBC (hr.low k e)⟩
  have hua : u.cands ≠ [] → ∃ g, blkA u.A = some g ∧ C ≤ g := fun hn => by
    obtain ⟨g, e1, e2, e3⟩ := hr.own hn
    exact ⟨g, by rw [e1]; rfl, e2⟩
  have huv : u.cands ≠ [] → blkA u.A ≠ v.ownBlock := fun hn e => by
    obtain ⟨g, e1, e2⟩ := hua hn
    have := hvC g (by rw [← e, e1])
    omega
  have hnv : ∀ x : UnitP, RowG B 8 cdC w x.A x.cands → (x.cands ≠ [] → blkA x.A ≠ v.ownBlock) → (x.cands ≠ [] → ∀ k, blkA x.A = some k → k < w.heap.size) → x.cands ≠ [] → blkA x.A ≠ v'.ownBlock := by
    intro x hx ha hl hn e
    obtain ⟨g, e1, -, -⟩ := hx.own hn
    have e2 : blkA x.A = some g := by rw [e1]; rfl
    rcases hv g (by rw [← e, e2]) with h3 | h3
    · exact ha hn (by rw [e2, h3])
    · have := hl hn g e2
      omega
  refine ⟨OwnL.snoc h2, ?_, ?_, ?_, ?_, ?_⟩
  · intro x hx
    rcases List.mem_append.1 hx with hx | hx
    · exact hgo x (h.cd x hx) (h.au x hx)
    · rcases List.mem_singleton.1 hx with rfl
      exact hgo x hru huv
  · intro x hx
    rcases List.mem_append.1 hx with hx | hx
    · exact hnv x (h.cd x hx) (h.au x hx) (h.lt x hx)
    · rcases List.mem_singleton.1 hx with rfl
      exact hnv x hru huv (fun hn k e => hul k e hn)
  · refine List.pairwise_append.2 ⟨h.ap, List.pairwise_singleton _ _, fun x hx y hy h3 h4 e => ?_⟩
    rcases List.mem_singleton.1 hy with rfl
    obtain ⟨g, e1, e2⟩ := hua h4
    have := hlt x hx h3 g (by rw [e, e1])
    omega
  · intro x hx
    rcases List.mem_append.1 hx with hx | hx
    · exact h.fit x hx
    · rcases List.mem_singleton.1 hx with rfl
      exact hf
  · intro x hx
    rcases List.mem_append.1 hx with hx | hx
    · exact h.bare x hx
    · rcases List.mem_singleton.1 hx with rfl
      exact hb
theorem UL.done {B C n : Nat} {w : World} {v : Value} {us : List UnitP} (h : UL B w v us) (hC : C ≤ B) : ∃ U c, v = .slice U us.length c ∧ WB n C w U us := by
  obtain ⟨U, c, hv, hl, hb, -⟩ := OwnL.lies (f := utC) (n := 3) (fun _ => rfl) h.row
  have hbl : ∀ k, blkA U = some k → C ≤ k ∧ v.ownBlock = some k := fun k e => by
    cases U with
    | none => cases e
    | some ad =>
      injection e with e
      obtain ⟨h1, h2⟩ := hb ad rfl
      have e : ad.block = k := e
      subst e
      exact ⟨by omega, h2⟩
  refine ⟨U, c, hv, ⟨hl, fun k e => (hbl k e).1, fun x hx => ⟨(h.cd x hx).lies, fun hn => by obtain ⟨g, e1, e2, e3⟩ := (h.cd x hx).own hn; exact ⟨g, e1, Nat.le_trans hC e2, e3⟩, fun k e => Nat.le_trans hC ((h.cd x hx).low k e)⟩, fun x hx hn e => ?_, h.ap, fun x hx => ⟨(h.fit x hx).1, (h.fit x hx).2.1, (h.fit x hx).2.2, fun y hy => ?_⟩⟩, fun x hx y hy => ?_⟩
  · obtain ⟨g, e1, -, -⟩ := (h.cd x hx).own hn
    have e2 : blkA x.A = some g := by rw [e1]; rfl
    exact h.au x hx hn (by rw [e2, (hbl g (by rw [← e, e2])).2])
  · obtain ⟨a, sh, rfl, ha⟩ := h.bare x hx y hy
    exact ha
  · obtain ⟨a, sh, rfl, ha⟩ := h.bare x hx y hy
    exact bareC_is n _ sh ha
def nm5 : List ByteArray := [⟨#[97, 110, 116]⟩, ⟨#[98, 101, 101]⟩, ⟨#[99, 111, 119]⟩, ⟨#[100, 111, 103]⟩, ⟨#[101, 108, 107]⟩]
theorem nm5_at {k : Nat} (h : k < 5) : (nm5.map Value.string)[k]? = some (.string (nm5.getD k ⟨#[]⟩)) ∧ (nm5.getD k ⟨#[]⟩).size ≤ 1000000 := by
  rcases k with _ | _ | _ | _ | _ | k
  · exact ⟨rfl, by decide⟩
  · exact ⟨rfl, by decide⟩
  · exact ⟨rfl, by decide⟩
  · exact ⟨rfl, by decide⟩
  · exact ⟨rfl, by decide⟩
  · omega
theorem vr_fit {q : Nat} (h : q < 4) : ∃ v : Ver, v.fit ∧ ∀ j u, v.cells[j]? = some u → (vrsL.flatMap Ver.cells)[q * 5 + j]? = some u := by
  refine ⟨vrsL.getD q ⟨0, 0, 0, ⟨#[]⟩, ⟨#[]⟩⟩, ?_, fun j u hj => ?_⟩
  · rcases q with _ | _ | _ | _ | q
    · simp only [Ver.fit, vrsL, List.getD_cons_zero]; decide
    · simp only [Ver.fit, vrsL, List.getD_cons_zero, List.getD_cons_succ]; decide
    · simp only [Ver.fit, vrsL, List.getD_cons_zero, List.getD_cons_succ]; decide
    · simp only [Ver.fit, vrsL, List.getD_cons_zero, List.getD_cons_succ]; decide
    · omega
  · have hj5 : j < 5 := by
      have := (List.getElem?_eq_some_iff.1 hj).1
      simpa using this
    rw [← hj]
    rcases q with _ | _ | _ | _ | q
    all_goals first | omega | skip
    all_goals (rcases j with _ | _ | _ | _ | _ | j)
    all_goals first | rfl | omega
def UnitsK (w0 w : World) (gG : Nat) (z : Value) (i : Nat) (e : Ending) (w' : World) : Prop := (∃ (us : List UnitP) (U : Option Addr) (uc : Nat), e = .returned (.slice U us.length uc) ∧ (∀ n, WB n w.heap.size w' U us) ∧ 2 ≤ us.length ∧ us.length ≤ 11 ∧ (∃ u0 y0 tl, us = u0 :: tl ∧ u0.cands = [y0]) ∧ ∀ x ∈ us, Bare x.cands) ∧ ∃ j, j ≤ i + 200 ∧ RR w0 w gG z j w'
end Go.Proofs.YtlmkglgjdmjnkaaGreatDoor
