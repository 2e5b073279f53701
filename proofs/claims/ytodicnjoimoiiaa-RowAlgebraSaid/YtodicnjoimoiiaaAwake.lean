/- The walk of linchpinlaw4.awake. -/
import Derived.Test.YtodicnjoimoiiaaOrW
namespace Go.Proofs.Ytodicnjoimoiiaa
open Go.RowKit Go.Lib
set_option linter.unusedVariables false
set_option linter.unusedSimpArgs false

def awV : Ver := ⟨1, 0, 0, ⟨#[]⟩, ⟨#[]⟩⟩
def awS : SpanL := ⟨⟨0, awV, false⟩, ⟨0, awV, true⟩⟩
theorem awV_may : mayV awV = true := by
  simp only [mayV, awV, bts_e, preOk, bldOk, fitsI]; decide
theorem awV_fit : awV.fit := by simp [Ver.fit, awV]; decide
theorem awC_may (b : Bool) : mayC ⟨0, awV, b⟩ = true := by rw [mayC_zero rfl, awV_may, show bts awV.bld = [] from bts_e]; rfl
theorem awS_lt : Rw.lt awS.fr awS.til := ⟨awC_may _, awC_may _, by
  rw [show awS.fr = ⟨0, awV, false⟩ from rfl, show awS.til = ⟨0, awV, true⟩ from rfl, cmpC_in (awC_may _) (awC_may _) rfl rfl, cmpA_lt]
  exact .inr ⟨cmpV_self awV_may, rfl, rfl⟩⟩
theorem awS_fit : awS.fit := ⟨awV_fit, awV_fit⟩
def awL : List SpanL := (rmakeL [awS]).1
theorem aw_all : ∀ s, s ∈ [awS] → Rw.lt s.fr s.til := fun s hs => by rw [List.mem_singleton] at hs; subst hs; exact awS_lt
theorem awL_spec : (rmakeL [awS]).2 = true ∧ Rw.VF awL (Rw.mem [awS]) := Rw.make_spec aw_all
theorem aw_fitL : fitL [awS] := fun i hi => by
  have : i = 0 := by simpa using hi
  subst this; exact awS_fit
theorem awL_good : fitL awL ∧ awL.length ≤ 3 := by
  have := rmakeL_good aw_fitL
  exact this
theorem aw_bef : befC awV = awS.fr := rfl
theorem aw_mem : Rw.mem awL (befC awV) := by
  rw [awL_spec.2.2, aw_bef]
  exact ⟨awS, by simp, Rw.le.rfl' awS_lt.okl, awS_lt⟩
theorem aw_has : hasR awL awV = true := (Rw.has_iff awL_spec.2.1 awV_may).2 aw_mem
theorem aw_not : hasR (rnotL awL) awV = false := by
  rw [Bool.eq_false_iff]
  intro h
  have h2 := Rw.not_spec awL_spec.2.1
  exact ((h2.2 _).1 ((Rw.has_iff h2.1 awV_may).1 h)).2 aw_mem
theorem aw_within : withinR awL (rnotL []) = true := by
  have h2 := Rw.not_spec (l := []) True.intro
  exact (Rw.within_iff awL_spec.2.1 h2.1).2 fun x hx => (h2.2 x).2 ⟨hx.inU, Rw.mem_nil⟩
theorem aw_and : randL awL (rnotL awL) = [] := by
  have h2 := Rw.not_spec awL_spec.2.1
  have h3 := Rw.and_spec awL_spec.2.1 h2.1
  exact (Rw.nil_iff h3.1).2 fun x hx => ((h2.2 x).1 ((h3.2 x).1 hx).2).2 ((h3.2 x).1 hx).1
theorem aw_lens : (rnotL awL).length ≤ 7 ∧ (rnotL []).length ≤ 1 ∧ fitL (rnotL awL) ∧ fitL (rnotL []) := by
  have h1 := rnotL_good awL_good.1
  have h2 := rnotL_good (a := []) (fun i hi => by simp at hi)
  have := awL_good.2
  simp only [List.length_nil] at h2
  exact ⟨by omega, by omega, h1.1, h2.1⟩
/-- a slice of no spans -/
theorem own_nil {w : World} {base : Nat} {v : Value} (h : OwnS w base v []) : ∃ A c, v = .slice A 0 c := by
  rcases h.form with ⟨rfl, _⟩ | ⟨g, c, rfl, _⟩
  · exact ⟨_, _, rfl⟩
  · exact ⟨_, _, rfl⟩
theorem Spans.one {w : World} {g : Nat} {s : SpanL} (h : Box w g s.cells) : Spans w (some ⟨g, 0, none⟩) [s] := by
  refine .inr ⟨g, 0, rfl, h.1, fun i hi j u hj => ?_⟩
  have : i = 0 := by simpa using hi
  subst this
  have := h.2 j u hj
  simpa using this

/-- a row of n spans has come back -/
def RowB (w : World) (l : List SpanL) (n : Nat) (e : Ending) (w' : World) : Prop := ∃ A c, e = .returned (.slice A n c) ∧ Spans w' A l ∧ Below w.heap.size w w'
theorem rowB {w w' : World} {l : List SpanL} {n : Nat} {e : Ending} (hn : l.length = n) (h : RowPost w w.heap.size l e w') : RowB w l n e w' := by
  obtain ⟨v, rfl, h1, h2, _⟩ := h
  obtain ⟨A, c, rfl, h3⟩ := h1.spans
  exact ⟨A, c, by rw [hn], h3, h2⟩
theorem callB {P : Program} {f : FuncId} {args : Array Value} {w : World} {l : List SpanL} {n : Nat} (hn : l.length = n) (h : Calls P f args w (RowPost w w.heap.size l)) : Calls P f args w (RowB w l n) := h.mono fun _ _ h => rowB hn h
theorem aw_nil {w : World} : Calls Try.prog 29 #[.slice none 0 0] w (RowPost w w.heap.size (rnotL [])) := not_any w.heap.size none 0 [] w Spans.nil (fun i hi => by simp at hi) (by simp) (Nat.le_refl _)

set_option maxRecDepth 100000 in
set_option maxHeartbeats 400000 in
theorem awake_any (w : World) : Calls Try.prog 12 #[] w (BoolPost w true) := by
  have HB0 := hid (below_tr (below_new w (.cells awV.cells.toArray 24)) (below_new _ (.cells awS.cells.toArray 37)))
  have HV := hid ((Box.new w awV.cells 24).below (below_new _ (.cells awS.cells.toArray 37)))
  have HS := hid (Spans.one (Box.new (w.alloc (.cells awV.cells.toArray 24)) awS.cells 37))
  simp only [World.size_alloc] at HS
  have HMK := hid (make_any _ _ 1 [awS] _ HS.out aw_fitL (by decide) (Nat.le_refl _))
  have HE : Hid (rmakeL [awS] = (awL, true)) := hid (Prod.ext rfl awL_spec.1)
  rw [HE.out] at HMK
  have HAS := hid aw_has
  have HNO := hid aw_not
  have HWI := hid aw_within
  have HAN := hid aw_and
  have HLN := hid aw_lens
  have HLG := hid awL_good
  generalize awL = L at *
  generalize hEN : rnotL L = N at *
  generalize hEN0 : rnotL [] = N0 at *
  have HEN := hid hEN
  have HEN0 := hid hEN0
  clear hEN hEN0
  go_enter Try.func12, Try.ntmps12
  go_wp2_with fail
  refine HMK.out.mono ?_
  rintro _ w1 ⟨v1, rfl, o1, k1, _⟩
  obtain ⟨A1, c1, rfl, HL⟩ := o1.spans
  have HB1 := hid (below_tr HB0.out k1)
  have HV1 := hid (HV.out.below k1)
  clear k1 HMK HS HB0 HV o1
  generalize hLl : L.length = nl at *
  generalize hNl : N.length = nn at *
  generalize hNl0 : N0.length = n0 at *
  have hhas : ∀ w' : World, Below w1.heap.size w1 w' → Calls Try.prog 17 #[.slice A1 nl c1, awV.val] w' (BoolPost w' true) := fun w' h => by
    have := rowhas_any A1 c1 L awV w' (HL.below h) HLG.out.1 (by have := HLG.out.2; omega) awV_fit
    rwa [HAS.out, hLl] at this
  have hnot : ∀ w' : World, Below w1.heap.size w1 w' → Calls Try.prog 29 #[.slice A1 nl c1] w' (RowB w' N nn) := fun w' h => by
    have := not_any w'.heap.size A1 c1 L w' (HL.below h) HLG.out.1 (by have := HLG.out.2; omega) (Nat.le_refl _)
    rw [hLl, HEN.out] at this
    exact callB hNl this
  have hnil : ∀ w' : World, Calls Try.prog 29 #[.slice none 0 0] w' (RowB w' N0 n0) := fun w' => by
    have := aw_nil (w := w')
    rw [HEN0.out] at this
    exact callB hNl0 this
  have hnhas : ∀ (w' : World) (C : Option Addr) (c : Nat), Spans w' C N → Calls Try.prog 17 #[.slice C nn c, awV.val] w' (BoolPost w' false) := fun w' C c h => by
    have := rowhas_any C c N awV w' h HLN.out.2.2.1 (by have := HLN.out.1; omega) awV_fit
    rwa [HNO.out, hNl] at this
  have hwth : ∀ (w' : World) (C : Option Addr) (c : Nat), Below w1.heap.size w1 w' → Spans w' C N0 → Calls Try.prog 30 #[.slice A1 nl c1, .slice C n0 c] w' (BoolPost w' true) := fun w' C c hb h => by
    have := within_any A1 C c1 c L N0 w' (HL.below hb) h HLG.out.1 HLN.out.2.2.2 (by have := HLN.out.2.1; have := HLG.out.2; omega)
    rwa [HWI.out, hLl, hNl0] at this
  have hand : ∀ (w' : World) (C : Option Addr) (c : Nat), Below w1.heap.size w1 w' → Spans w' C N → Calls Try.prog 28 #[.slice A1 nl c1, .slice C nn c] w' (RowB w' [] 0) := fun w' C c hb h => by
    have := and_any w'.heap.size A1 C c1 c L N w' (HL.below hb) h HLG.out.1 HLN.out.2.2.1 (by have := HLN.out.1; have := HLG.out.2; omega) (Nat.le_refl _)
    rw [HAN.out, hLl, hNl] at this
    exact callB rfl this
  have hsb := fun (w' : World) (h : Below w1.heap.size w1 w') => (HV1.out.below h).get5
  have HHAS := hid hhas
  have HNOT := hid hnot
  have HNIL := hid hnil
  have HNHAS := hid hnhas
  have HWTH := hid hwth
  have HAND := hid hand
  have HSB := hid hsb
  clear HL hhas hnot hnil hnhas hwth hand hsb hLl hNl hNl0 HV1
  generalize awV = V at *
  go_wp2_with fail
  go_region_held3 (fun w' => w'.cell? ⟨w.heap.size, 0, none⟩ = some (.int .i64 V.maj) ∧ w'.cell? ⟨w.heap.size, 1, none⟩ = some (.int .i64 V.min) ∧ w'.cell? ⟨w.heap.size, 2, none⟩ = some (.int .i64 V.pat) ∧ w'.cell? ⟨w.heap.size, 3, none⟩ = some (.string V.pre) ∧ w'.cell? ⟨w.heap.size, 4, none⟩ = some (.string V.bld))
    (first | (exact HSB.out _ (by first | assumption | exact (Below.refl _ _).drew)) | go_keep)
    (first
      | (go_at_call_of 17 A1; (with_reducible refine (HHAS.out _ (by first | assumption | exact (Below.refl _ _).drew)).mono ?_); rintro _ w3 ⟨rfl, k3⟩; have hb3 : Below w1.heap.size w1 w3 := below_tr (by first | assumption | exact (Below.refl _ _).drew) k3)
      | (go_at_call_of 29 A1; (with_reducible refine (HNOT.out _ (by first | assumption | exact (Below.refl _ _).drew)).mono ?_); rintro _ w4 ⟨A4, c4, rfl, s4, k4⟩; have hb4 : Below w1.heap.size w1 w4 := below_tr (by first | assumption | exact (Below.refl _ _).drew) k4)
      | (go_at_call 29; (with_reducible refine (HNIL.out _).mono ?_); rintro _ w6 ⟨A6, c6, rfl, s6, k6⟩; have hb6 : Below w1.heap.size w1 w6 := below_tr (by first | assumption | exact (Below.refl _ _).drew) k6)
      | (go_at_call 17; (with_reducible refine (HNHAS.out _ A4 c4 s4).mono ?_); rintro _ w5 ⟨rfl, k5⟩; have hb5 : Below w1.heap.size w1 w5 := below_tr (by first | assumption | exact (Below.refl _ _).drew) k5)
      | (go_at_call 30; (with_reducible refine (HWTH.out _ A6 c6 (by first | assumption | exact (Below.refl _ _).drew) s6).mono ?_); rintro _ w7 ⟨rfl, k7⟩; have hb7 : Below w1.heap.size w1 w7 := below_tr (by first | assumption | exact (Below.refl _ _).drew) k7)
      | (go_at_call 28; (with_reducible refine (HAND.out _ A4 c4 (by first | assumption | exact (Below.refl _ _).drew) s4).mono ?_); rintro _ w8 ⟨A8, c8, rfl, s8, k8⟩; have hb8 : Below w1.heap.size w1 w8 := below_tr (by first | assumption | exact (Below.refl _ _).drew) k8))
  go_wp2_with fail
  go_ret
  exact ⟨rfl, below_tr HB1.out hb8⟩
end Go.Proofs.Ytodicnjoimoiiaa
