import Derived.Test.YtplmlahpmnjneaaGreatDoorNCs
import Derived.Test.YtplmlahpmnjneaaGreatDoorNCo
import Derived.Test.YtplmlahpmnjneaaGreatDoorNSb
import Derived.Shelf.Strings.OnBuilder
import Derived.Test.YtplmlahpmnjneaaGreatDoorNCa
import Derived.Test.YtplmlahpmnjneaaGreatDoorNTg
namespace Go.Proofs.YtplmlahpmnjneaaGreatDoor
open Go.RowKit Go.Lib
open Rw
set_option linter.unusedVariables false
set_option linter.unusedSimpArgs false
end Go.Proofs.YtplmlahpmnjneaaGreatDoor
namespace Go.Proofs.YtplmlahpmnjneaaGreatDoor
open Go.RowKit Go.Lib
open Rw
set_option linter.unusedVariables false
set_option linter.unusedSimpArgs false
abbrev KB (B : Nat) (w w' : World) : Prop := Go.RowKit.Below B w w'
def und (w : World) : World := { w with drawn := 0 }
theorem kb_lift {B : Nat} {w w' : World} (h : KB B w w') : Below B (und w) w' := ⟨⟨h.os, h.tape, h.output, h.size, h.block⟩, Nat.zero_le _⟩
theorem Below.kb {B : Nat} {w w' : World} (h : Below B w w') : KB B w w' := h.toBelow
theorem kb_tr {w0 w1 w2 : World} (h : KB w0.heap.size w0 w1) (k : KB w1.heap.size w1 w2) : KB w0.heap.size w0 w2 := Go.RowKit.Below.trans h (Go.RowKit.Below.mono k h.size)
theorem kb_refl (w : World) : KB w.heap.size w w := Go.RowKit.Below.refl _ _
theorem kb_new (w : World) (o : Obj) : KB w.heap.size w (w.alloc o) := (below_new w o).kb
theorem Box.kb {w w' : World} {g : Nat} {cs : List Value} (h : Box w g cs) (hb : KB w.heap.size w w') : Box w' g cs := Box.below (w := und w) h (kb_lift hb)
theorem Own.kb {B : Nat} {w w' : World} {g : Nat} {cs : List Value} (h : Own B w g cs) (hb : KB w.heap.size w w') : Own B w' g cs := Own.below (w := und w) ⟨h.box, h.soft, h.low⟩ (kb_lift hb)
theorem Spans.kb {w w' : World} {A : Option Addr} {l : List SpanL} (h : Spans w A l) (hb : KB w.heap.size w w') : Spans w' A l := Spans.below (w := und w) h (kb_lift hb)
theorem SpanB.kb {w w' : World} {base : Nat} {A : Option Addr} {l : List SpanL} (h : SpanB w base A l) (hb : KB w.heap.size w w') : SpanB w' base A l := ⟨h.1.kb hb, h.2⟩
theorem First.kb {w w' : World} (h : First w) (hb : KB w.heap.size w w') : First w' := First.below (w := und w) h (kb_lift hb)
theorem Laid.kb {w w' : World} (h : Laid w) (hb : KB w.heap.size w w') : Laid w' := Laid.below (w := und w) ⟨h.first, h.pow, h.maxl⟩ (kb_lift hb)
theorem SetAt.kb {n : Nat} {w w' : World} {A B : Option Addr} {l m : List SpanL} (h : SetAt n w A l B m) (hb : KB w.heap.size w w') : SetAt n w' A l B m := ⟨h.rel.kb hb, h.pre.kb hb, h.frel, h.fpre, h.nrel, h.npre, h.val⟩
theorem IntsAt.kb {w w' : World} {A : Option Addr} {zs : List Int} (h : IntsAt w A zs) (hb : KB w.heap.size w w') : IntsAt w' A zs := IntsAt.below (w := und w) h (kb_lift hb)
theorem row_kb {w w' : World} {base size n : Nat} {e : TypeId} {v : Value} {xs : List Value} (h : w.ownsRow base e size v n xs) (hb : KB w.heap.size w w') : w'.ownsRow base e size v n xs := own_below (w1 := und w) h (kb_lift hb)
def BoolK (w : World) (b : Bool) (e : Ending) (w' : World) : Prop := e = .returned (.bool b) ∧ KB w.heap.size w w'
def StrK (w : World) (l : List UInt8) (e : Ending) (w' : World) : Prop := ∃ s : ByteArray, e = .returned (.string s) ∧ bts s = l ∧ KB w.heap.size w w'
def Lies {α : Type} (n : Nat) (f : α → List Value) (w : World) (A : Option Addr) (l : List α) : Prop :=
  l = [] ∨ ∃ b off, A = some ⟨b, off, none⟩ ∧ b < w.heap.size ∧ ∀ i (h : i < l.length) (j : Nat) (u : Value), (f l[i])[j]? = some u → w.cell? ⟨b, off + i * n + j, none⟩ = some u
section
variable {α : Type} {n : Nat} {f : α → List Value} {w w' : World} {A : Option Addr} {l : List α}
theorem Lies.nil : Lies n f w A [] := .inl rfl
theorem Lies.below (h : Lies n f w A l) (hb : Below w.heap.size w w') : Lies n f w' A l := by
  rcases h with h | ⟨b, off, rfl, hlt, hc⟩
  · exact .inl h
  · exact .inr ⟨b, off, rfl, Nat.lt_of_lt_of_le hlt hb.size, fun i hi j u hj => (hb.cell (p := ⟨b, _, none⟩) hlt).trans (hc i hi j u hj)⟩
theorem Lies.kb (h : Lies n f w A l) (hb : KB w.heap.size w w') : Lies n f w' A l := Lies.below (w := und w) h (kb_lift hb)
theorem Lies.at_ {k : Nat} (h : Lies n f w A l) (hk : k < l.length) : ∃ b off, A = some ⟨b, off, none⟩ ∧ b < w.heap.size ∧ ∀ (j : Nat) (u : Value), (f l[k])[j]? = some u → w.cell? ⟨b, off + k * n + j, none⟩ = some u := by
  rcases h with h | ⟨b, off, rfl, hlt, hc⟩
  · subst h; simp at hk
  · exact ⟨b, off, rfl, hlt, hc k hk⟩
theorem Lies.lay {b off k : Nat} (h : Lies n f w (some ⟨b, off, none⟩) l) (hk : k < l.length) : b < w.heap.size ∧ ∀ (j : Nat) (u : Value), (f l[k])[j]? = some u → w.cell? ⟨b, off + k * n + j, none⟩ = some u := by
  obtain ⟨b', off', e, h1, h2⟩ := h.at_ hk
  injection e with e
  injection e with e1 e2 e3
  subst e1; subst e2
  exact ⟨h1, h2⟩
end
abbrev Comps (w : World) (A : Option Addr) (l : List CompL) : Prop := Lies 7 CompL.cells w A l
def Alts (w : World) (A : Option Addr) (r : List (List CompL)) : Prop :=
  r = [] ∨ ∃ b off, A = some ⟨b, off, none⟩ ∧ b < w.heap.size ∧ ∀ i (h : i < r.length), ∃ Ai ci, w.cell? ⟨b, off + i, none⟩ = some (.slice Ai r[i].length ci) ∧ Comps w Ai r[i]
theorem Alts.below {w w' : World} {A : Option Addr} {r : List (List CompL)} (h : Alts w A r) (hb : Below w.heap.size w w') : Alts w' A r := by
  rcases h with h | ⟨b, off, rfl, hlt, hc⟩
  · exact .inl h
  · refine .inr ⟨b, off, rfl, Nat.lt_of_lt_of_le hlt hb.size, fun i hi => ?_⟩
    obtain ⟨Ai, ci, h1, h2⟩ := hc i hi
    exact ⟨Ai, ci, (hb.cell (p := ⟨b, _, none⟩) hlt).trans h1, h2.below hb⟩
theorem Alts.kb {w w' : World} {A : Option Addr} {r : List (List CompL)} (h : Alts w A r) (hb : KB w.heap.size w w') : Alts w' A r := Alts.below (w := und w) h (kb_lift hb)
theorem Alts.nil {w : World} {A : Option Addr} : Alts w A [] := .inl rfl
theorem Alts.at_ {w : World} {A : Option Addr} {r : List (List CompL)} {k : Nat} (h : Alts w A r) (hk : k < r.length) :
    ∃ b off Ai ci, A = some ⟨b, off, none⟩ ∧ b < w.heap.size ∧ w.cell? ⟨b, off + k, none⟩ = some (.slice Ai r[k].length ci) ∧ Comps w Ai r[k] := by
  rcases h with h | ⟨b, off, rfl, hlt, hc⟩
  · subst h; simp at hk
  · obtain ⟨Ai, ci, h1, h2⟩ := hc k hk
    exact ⟨b, off, Ai, ci, rfl, hlt, h1, h2⟩
abbrev rangeV (A : Option Addr) (n c : Nat) : Value := .agg #[.slice A n c]
def fitG (r : List (List CompL)) : Prop := ∀ a ∈ r, ∀ c ∈ a, CompL.fit c
theorem joinS_lib (sep : List UInt8) : ∀ (ps : List (List UInt8)), Lib.join ps sep = joinS sep ps
  | [] => rfl
  | [p] => Lib.join_one p sep
  | p :: q :: r => by
    have ih := joinS_lib sep (q :: r)
    rw [Lib.join_cons] at ih ⊢
    rw [joinS, ← ih]
    simp [Lib.joinTail, Lib.join_cons]
theorem Tryz.extraJoin : Builder.Extra Tryz.prog Tryz.lays156_ren where
  sizeBuilder := by kernel_rfl
  liesBuilder := by kernel_rfl
  t5 := Tryz.underlying5
  a5 := Tryz.isAgg5
  z5 := Tryz.sizeOf5
  v5 := Tryz.zeroValue5
  infoByte := by kernel_rfl
  cellsByte := by kernel_rfl
  sizeByte := by kernel_rfl
  neB5 := by decide
theorem sjoin_any (g c : Nat) (ds : List ByteArray) (sep : ByteArray) (w : World) (hb : Box w g (ds.map Value.string)) (hc : ds.length ≤ c) (hn : ds.length ≤ 1000000)
    (hlen : (joinS (bts sep) (ds.map bts)).length ≤ 140737488355328) : Calls Tryz.prog 101 #[.slice (some ⟨g, 0, none⟩) ds.length c, .string sep] w (StrK w (joinS (bts sep) (ds.map bts))) := by
  have e2 : (bts : ByteArray → List UInt8) = fun x => x.data.toList := funext fun x => by rw [bts, bts_data]
  have he : Lib.join (ds.map (·.data.toList)) sep.data.toList = joinS (bts sep) (ds.map bts) := by rw [joinS_lib, e2]
  refine (Any.strings_Join Tryz.lays156 Tryz.extraJoin g 0 c ds sep w (fun j x hj => ?_) hb.1 (by omega) hc (by rw [he]; exact hlen)).mono ?_
  · rw [Nat.zero_add]
    exact hb.2 j (.string x) (by rw [List.getElem?_map, hj]; rfl)
  · rintro e w' ⟨rfl, h⟩
    rw [he]
    exact ⟨_, rfl, bts_strB _, h⟩
end Go.Proofs.YtplmlahpmnjneaaGreatDoor
namespace Go.Proofs.YtplmlahpmnjneaaGreatDoor
open Go.RowKit Go.Lib
open Rw
set_option linter.unusedVariables false
set_option linter.unusedSimpArgs false
theorem joinS_most (sep : List UInt8) (B : Nat) : ∀ (ps : List (List UInt8)), (∀ p ∈ ps, p.length ≤ B) → (joinS sep ps).length ≤ (B + sep.length) * ps.length
  | [], _ => by simp [joinS]
  | [p], h => by
    have := h p (by simp)
    simp only [joinS, List.length_cons, List.length_nil, Nat.zero_add, Nat.mul_one]; omega
  | p :: q :: r, h => by
    have h1 := h p (by simp)
    have h2 := joinS_most sep B (q :: r) (fun x hx => h x (List.mem_cons_of_mem _ hx))
    have e : (B + sep.length) * (p :: q :: r).length = (B + sep.length) * (q :: r).length + (B + sep.length) := by rw [List.length_cons, Nat.mul_succ]
    rw [e]
    simp only [joinS, List.length_append]
    omega
theorem preT_len {v : Ver} (hm : mayV v = true) : (preT v).length ≤ 37 := by
  obtain ⟨-, -, -, hp, -⟩ := mayV_parts hm
  unfold preT
  split
  · simp
  · rw [preOk, Bool.or_eq_true] at hp
    rcases hp with hp | hp
    · exact absurd hp (by assumption)
    · rw [preL, Bool.and_eq_true] at hp
      have := tags_len hp.1
      simp only [List.length_cons]; omega
theorem told_each {c : CompL} (h : MayX c) : ∀ w ∈ toldX c, w.length ≤ 4 := by
  obtain ⟨f1, f2, f3, -, -⟩ := mayV_parts h.v
  intro w hw
  have := List.mem_of_mem_take hw
  simp only [List.mem_cons, List.not_mem_nil, or_false] at this
  rcases this with e | e | e <;> rw [e] <;> exact numT_len (by assumption)
theorem told_most (c : CompL) : (toldX c).length ≤ 3 := by unfold toldX; rw [List.length_take]; simp; omega
theorem signT_len (op : Int) : (signT op).length ≤ 2 := by unfold signT; repeat' split
                                                           all_goals simp
theorem printX_len (c : CompL) : (printX c).length ≤ 60 := by
  unfold printX
  split
  · rename_i hm
    have M := mayX_iff.1 hm
    have h1 := told_each M
    have h2 := told_most c
    have h3 := preT_len M.v
    have h4 := signT_len c.op
    unfold textX
    split
    · have := joinS_most [46] 4 (toldX c ++ [[42]]) (fun p hp => by
        rcases List.mem_append.1 hp with h | h
        · exact h1 p h
        · simp only [List.mem_singleton] at h; rw [h]; decide)
      rw [List.length_append] at this
      simp only [List.length_cons, List.length_nil] at this
      omega
    · have := joinS_most [46] 4 (toldX c) h1
      simp only [List.length_append, List.length_cons, List.length_nil] at this ⊢
      omega
  · simp
theorem altT_len (a : List CompL) : (altT a).length ≤ 62 * a.length := by
  have := joinS_most [44, 32] 60 (a.map printX) (fun p hp => by
    obtain ⟨c, -, rfl⟩ := List.mem_map.1 hp
    exact printX_len c)
  rw [List.length_map] at this
  exact this
theorem rangeT_len {r : List (List CompL)} (h : ∀ a ∈ r, a.length ≤ 6) : (rangeT r).length ≤ 376 * r.length := by
  have := joinS_most [32, 124, 124, 32] 372 (r.map altT) (fun p hp => by
    obtain ⟨a, ha, rfl⟩ := List.mem_map.1 hp
    have := altT_len a
    have := h a ha
    omega)
  rw [List.length_map] at this
  exact this
end Go.Proofs.YtplmlahpmnjneaaGreatDoor
