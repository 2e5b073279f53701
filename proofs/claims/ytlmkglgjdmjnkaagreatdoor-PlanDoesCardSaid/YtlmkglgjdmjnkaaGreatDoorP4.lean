/- Rows of lines of the call's own; lines by name, plain; slices of such rows. -/
import Derived.Test.YtlmkglgjdmjnkaaGreatDoorP3
namespace Go.Proofs.YtlmkglgjdmjnkaaGreatDoor
open Go.RowKit Go.Lib
open Rw
set_option linter.unusedVariables false
set_option linter.unusedSimpArgs false

theorem Tryz.info33 : (Tryz.prog.info? 33).map (fun i => (i.zero, i.size, i.bytes)) = some (some (.agg #[.string ⟨#[]⟩, .int .i64 0, .int .i64 0, .int .i64 0, .string ⟨#[]⟩, .string ⟨#[]⟩, .string ⟨#[]⟩, .int .u64 0, .slice none 0 0]), 9, 120) := by kernel_rfl
theorem EKlocks : EK Tryz.prog 24 33 9 120 := .mk' _ Tryz.underlying24 Tryz.info33 rfl (by omega)
/-- a row of the call's own (it began at w0), of lines that were there -/
structure RowLk (w0 w : World) (v : Value) (ps : List LP) : Prop where
  own : OwnL 33 9 lkC w w0.heap.size v ps
  sub : ∀ p ∈ ps, LkSub w0 p
theorem RowLk.nil {w0 w : World} : RowLk w0 w (.slice none 0 0) [] := ⟨OwnL.nil, fun _ h => by cases h⟩
theorem RowLk.keep {w0 w w' : World} {v : Value} {ps : List LP} (h : RowLk w0 w v ps) (hk : ∀ k, v.ownBlock = some k → w'.heap[k]? = w.heap[k]?) : RowLk w0 w' v ps := ⟨own_keep h.own hk, h.sub⟩
theorem RowLk.lt {w0 w : World} {v : Value} {ps : List LP} (h : RowLk w0 w v ps) : ∀ k, v.ownBlock = some k → w0.heap.size ≤ k ∧ k < w.heap.size := fun k hk => World.ownsRow.lt h.own k hk
theorem RowLk.kb {w0 w w' : World} {v : Value} {ps : List LP} (h : RowLk w0 w v ps) (hb : KB w.heap.size w w') : RowLk w0 w' v ps := h.keep fun k hk => hb.block k (h.lt k hk).2
theorem RowLk.grown {w0 w w' : World} {v : Value} {ps : List LP} {row : Option Nat} (h : RowLk w0 w v ps) (hg : w.grownBy w' row) (hr : ∀ k, v.ownBlock = some k → row ≠ some k) : RowLk w0 w' v ps := h.keep fun k hk => hg.block k (h.lt k hk).2 (fun e => hr k hk e.symm)
theorem RowLk.locks {w0 w : World} {v : Value} {ps : List LP} (h : RowLk w0 w v ps) (hb : KB w0.heap.size w0 w) : ∃ A c, v = .slice A ps.length c ∧ ps.length ≤ c ∧ Locks w A ps := by
  obtain ⟨A, c, hv, hl, -, hc⟩ := OwnL.lies lk_len h.own
  exact ⟨A, c, hv, hc, hl, fun p hp => LkSub.mono _ _ _ (Mono.kb hb) (h.sub p hp)⟩
theorem lks_one (l : List LP) : ∀ u ∈ l.flatMap lkC, u.oneCell' = true := flat_oneQ lk_one l
theorem own_len (A : Option Addr) (n c m d : Nat) : (Value.slice A n c).ownBlock = (Value.slice A m d).ownBlock := by
  cases A <;> rfl
theorem own_lowB {w : World} {B B' size n : Nat} {e : TypeId} {v : Value} {xs : List Value} (h : w.ownsRow B e size v n xs) (hb : B' ≤ B) : w.ownsRow B' e size v n xs := by
  obtain ⟨h0, h | ⟨g, cap, cur, h1, h2, h3⟩⟩ := h
  · exact ⟨h0, .inl h⟩
  · exact ⟨h0, .inr ⟨g, cap, cur, h1, Nat.le_trans hb h2, h3⟩⟩
/-- rows in different blocks -/
def apartV (v v' : Value) : Prop := ∀ k, v.ownBlock = some k → v'.ownBlock ≠ some k
theorem apartV.symm {v v' : Value} (h : apartV v v') : apartV v' v := fun k h1 h2 => h k h2 h1
/-! ### Plain -/
theorem map_take_drop (ps : List LP) (k : Nat) : (ps.take k ++ ps.drop (k + 1)).map (·.1) = (ps.map (·.1)).take k ++ (ps.map (·.1)).drop (k + 1) := by simp [List.map_take, List.map_drop]
theorem filter_un {n : ByteArray} : ∀ {l : List LockL} {k : Nat} (hk : k < l.length), UnN l → l[k].name = n → outN n l = l.take k ++ l.drop (k + 1)
  | x :: l, 0, hk, hu, hn => by
    have hu := List.pairwise_cons.1 hu
    have h1 : nmIs n x = true := nmIs_iff.2 hn
    have h2 : l.filter (fun x => !nmIs n x) = l := List.filter_eq_self.2 fun y hy => by
      have : nmIs n y ≠ true := fun e => hu.1 y hy ((show x.name = n from hn).trans (nmIs_iff.1 e).symm)
      simpa using this
    simp only [outN, List.filter_cons, h1, Bool.not_true, Bool.false_eq_true, if_false, h2, List.take_zero, List.nil_append, List.drop_succ_cons, List.drop_zero]
  | x :: l, k + 1, hk, hu, hn => by
    have hu := List.pairwise_cons.1 hu
    have hk' : k < l.length := by simpa using hk
    have h1 : nmIs n x = false := by
      have : nmIs n x ≠ true := fun e => hu.1 l[k] (List.getElem_mem hk') ((nmIs_iff.1 e).trans (show n = l[k].name from hn.symm))
      simpa using this
    have ih := filter_un hk' hu.2 hn
    simp only [outN] at ih ⊢
    simp only [List.filter_cons, h1, Bool.not_false, if_true, ih, List.take_succ_cons, List.cons_append, List.drop_succ_cons]
theorem atN_some {n : ByteArray} {ps : List LP} {k : Nat} (h : placeN n 0 ps = (k : Int)) : ∃ hk : k < ps.length, atN n (ps.map (·.1)) = some ps[k].1 ∧ ps[k].1.name = n := by
  have go : ∀ (l : List LP) (i k : Nat), findP (fun p : LP => nmIs n p.1) i l = ((i + k : Nat) : Int) → ∃ hk : k < l.length, (l.map (·.1)).find? (nmIs n) = some l[k].1 ∧ l[k].1.name = n := by
    intro l
    induction l with
    | nil => intro i k h; rw [findP] at h; omega
    | cons x l ih =>
      intro i k h
      rw [findP] at h
      cases hx : nmIs n x.1
      · rw [hx, if_neg (by simp)] at h
        rcases k with _ | k
        · rcases find_range (q := fun p : LP => nmIs n p.1) l (i + 1) with e | ⟨e, -⟩
          · rw [e] at h; omega
          · omega
        · obtain ⟨h1, h2, h3⟩ := ih (i + 1) k (by rw [h]; congr 1; omega)
          exact ⟨by simp; omega, by rw [List.map_cons, List.find?_cons, hx]; simpa using h2, by simpa using h3⟩
      · rw [hx, if_pos rfl] at h
        obtain rfl : k = 0 := by omega
        exact ⟨by simp, by rw [List.map_cons, List.find?_cons, hx]; rfl, nmIs_iff.1 hx⟩
  exact go ps 0 k (by rw [Nat.zero_add]; exact h)
theorem atN_no {n : ByteArray} {ps : List LP} (h : placeN n 0 ps < 0) : atN n (ps.map (·.1)) = none := by
  rw [atN, List.find?_eq_none]
  intro x hx
  obtain ⟨p, hp, rfl⟩ := List.mem_map.1 hx
  obtain ⟨k, hk, rfl⟩ := List.mem_iff_getElem.1 hp
  intro e
  have := (find_le (q := fun p : LP => nmIs n p.1) hk e 0).1
  unfold placeN at h
  omega
theorem placeN_nat {n : ByteArray} {ps : List LP} (h : ¬ placeN n 0 ps < 0) : ∃ k : Nat, placeN n 0 ps = (k : Int) := ⟨(placeN n 0 ps).toNat, by omega⟩
/-! ### By name -/
def insQ (p : LP) : List LP → List LP
  | [] => [p]
  | x :: r => if Op.bytesLess (bts x.1.name) (bts p.1.name) then x :: insQ p r else p :: x :: r
def sortQ (l : List LP) : List LP := l.foldl (fun o p => insQ p o) []
theorem map_insQ (p : LP) : ∀ l : List LP, (insQ p l).map (·.1) = insN p.1 (l.map (·.1))
  | [] => rfl
  | x :: r => by
    rw [insQ, List.map_cons, insN]
    split
    · rw [List.map_cons, map_insQ p r]
    · rfl
theorem map_sortQ (l : List LP) : (sortQ l).map (·.1) = sortN (l.map (·.1)) := by
  have go : ∀ (l o : List LP), (l.foldl (fun o p => insQ p o) o).map (·.1) = (l.map (·.1)).foldl (fun o p => insN p o) (o.map (·.1)) := by
    intro l
    induction l with
    | nil => intro o; rfl
    | cons x l ih => intro o; rw [List.foldl_cons, ih, map_insQ, List.map_cons, List.foldl_cons]
  exact go l []
theorem sortQ_take {l : List LP} {i : Nat} (h : i < l.length) : sortQ (l.take (i + 1)) = insQ l[i] (sortQ (l.take i)) := by
  unfold sortQ
  rw [List.take_succ_eq_append_getElem h, List.foldl_append]
  rfl
theorem insQ_mem {p x : LP} : ∀ {l : List LP}, x ∈ insQ p l → x = p ∨ x ∈ l
  | [], h => by rw [insQ] at h; exact .inl (List.mem_singleton.1 h)
  | y :: r, h => by
    rw [insQ] at h
    split at h
    · rcases List.mem_cons.1 h with h | h
      · exact .inr (h ▸ List.mem_cons_self ..)
      · rcases insQ_mem h with h | h
        · exact .inl h
        · exact .inr (List.mem_cons_of_mem _ h)
    · exact List.mem_cons.1 h
theorem insQ_len (p : LP) : ∀ l : List LP, (insQ p l).length = l.length + 1
  | [] => rfl
  | x :: r => by
    rw [insQ]
    split
    · rw [List.length_cons, insQ_len p r, List.length_cons]
    · rfl
theorem insQ_lt {p : LP} {acc : List LP} {j : Nat} (hj : j < acc.length) (hc : Op.bytesLess (bts acc[j].1.name) (bts p.1.name) = true) : acc.take j ++ insQ p (acc.drop j) = acc.take (j + 1) ++ insQ p (acc.drop (j + 1)) := by
  rw [List.drop_eq_getElem_cons hj, insQ, if_pos hc, ← List.take_append_getElem hj, List.append_assoc]
  rfl
theorem insQ_ge {p : LP} {acc : List LP} {j : Nat} (hj : j < acc.length) (hc : Op.bytesLess (bts acc[j].1.name) (bts p.1.name) = false) : acc.take j ++ insQ p (acc.drop j) = acc.take j ++ p :: acc.drop j := by
  rw [List.drop_eq_getElem_cons hj, insQ, if_neg (by rw [hc]; simp)]
theorem insQ_end {p : LP} {acc : List LP} {j : Nat} (h : acc.length ≤ j) : acc.take j ++ insQ p (acc.drop j) = acc.take j ++ p :: acc.drop j := by
  rw [List.drop_eq_nil_of_le h, insQ]
/-! ### Slices of rows -/
theorem map_add0 (A : Option Addr) : A.map (·.add (0 * 9)) = A := by
  cases A with
  | none => rfl
  | some a => simp [Addr.add]
def tlL (A : Option Addr) (k c : Nat) : Option Addr := if c = k then A else A.map (·.add (k * 9))
theorem Tryz.elem24 : Tryz.prog.underlying 24 = some (.slice (Tryz.prog.elem 24)) := by kernel_rfl
theorem Tryz.sizeE24 (u : World) : (sizeOf (Tryz.prog.elem 24)).run Tryz.prog u = .ok 9 u := by kernel_rfl
theorem sll_head (A : Option Addr) (n c k : Nat) (hk : k ≤ c) (u : World) : (Instr.slice 24 (.slice A n c) none (some (.int .i64 (k:Int))) none).run Tryz.prog u = .ok (.slice A k c) u := by
  rw [run_slice_h (h0 := by omega) (h2 := by omega) (ht := Tryz.elem24), Tryz.sizeE24]
  simp only [Result.andThen, sliced, Int.toNat_natCast, Nat.sub_zero, map_add0, ite_self]
theorem sll_tail (A : Option Addr) (n c k : Nat) (hk : k ≤ n) (u : World) : (Instr.slice 24 (.slice A n c) (some (.int .i64 (k:Int))) none none).run Tryz.prog u = .ok (.slice (tlL A k c) (n - k) (c - k)) u := by
  rw [run_slice_l (h0 := by omega) (h1 := by omega) (ht := Tryz.elem24), Tryz.sizeE24]
  simp only [Result.andThen, sliced, Int.toNat_natCast, tlL]
theorem sll_headAt (A : Option Addr) (n c k : Nat) (hk : k ≤ c) (u : World) : (Instr.sliceAt 24 (.slice A n c) none (some (.int .i64 (k:Int))) none).run Tryz.prog u = .ok (.slice A k c) u := by
  rw [run_sliceAt_slice (h := Tryz.elem24), sll_head _ _ _ _ hk]
theorem sll_tailAt (A : Option Addr) (n c k : Nat) (hk : k ≤ n) (u : World) : (Instr.sliceAt 24 (.slice A n c) (some (.int .i64 (k:Int))) none none).run Tryz.prog u = .ok (.slice (tlL A k c) (n - k) (c - k)) u := by
  rw [run_sliceAt_slice (h := Tryz.elem24), sll_tail _ _ _ _ hk]
theorem lies_take {w : World} {A : Option Addr} {l : List LP} (h : Lies 9 lkC w A l) (k : Nat) : Lies 9 lkC w A (l.take k) := by
  rcases h with h | ⟨b, off, h1, h2, h3⟩
  · exact .inl (by rw [h]; simp)
  · refine .inr ⟨b, off, h1, h2, fun i hi j v hv => ?_⟩
    have hi' : i < l.length := by rw [List.length_take] at hi; omega
    rw [List.getElem_take] at hv
    exact h3 i hi' j v hv
theorem lies_drop {w : World} {A : Option Addr} {l : List LP} (h : Lies 9 lkC w A l) (c k : Nat) (hk : k ≤ l.length) (hc : l.length ≤ c) : Lies 9 lkC w (tlL A k c) (l.drop k) := by
  rcases h with h | ⟨b, off, rfl, h2, h3⟩
  · exact .inl (by rw [h]; simp)
  · by_cases hk2 : k = l.length
    · exact .inl (by rw [hk2]; simp)
    · refine .inr ⟨b, off + k * 9, by unfold tlL; rw [if_neg (by omega)]; simp [Addr.add], h2, fun i hi j v hv => ?_⟩
      have hi' : k + i < l.length := by rw [List.length_drop] at hi; omega
      rw [List.getElem_drop] at hv
      have := h3 (k + i) hi' j v hv
      rw [show off + k * 9 + i * 9 + j = off + (k + i) * 9 + j by omega]
      exact this
theorem Locks.take {w : World} {A : Option Addr} {l : List LP} (h : Locks w A l) (k : Nat) : Locks w A (l.take k) := ⟨lies_take h.row k, fun p hp => h.sub p (List.mem_of_mem_take hp)⟩
theorem Locks.drop {w : World} {A : Option Addr} {l : List LP} (h : Locks w A l) (c k : Nat) (hk : k ≤ l.length) (hc : l.length ≤ c) : Locks w (tlL A k c) (l.drop k) := ⟨lies_drop h.row c k hk hc, fun p hp => h.sub p (List.mem_of_mem_drop hp)⟩
theorem src_lk {w : World} {A : Option Addr} {l : List LP} (h : Lies 9 lkC w A l) : SrcOf w A l.length 9 (l.flatMap lkC) := lies_src lk_len (by decide) h
theorem src_take {w : World} {A : Option Addr} {l : List LP} (h : Lies 9 lkC w A l) {k : Nat} (hk : k ≤ l.length) : SrcOf w A k 9 ((l.take k).flatMap lkC) := by
  have := src_lk (lies_take h k)
  rwa [List.length_take, Nat.min_eq_left hk] at this
theorem src_drop {w : World} {A : Option Addr} {l : List LP} (h : Lies 9 lkC w A l) {c k : Nat} (hk : k ≤ l.length) (hc : l.length ≤ c) : SrcOf w (tlL A k c) (l.length - k) 9 ((l.drop k).flatMap lkC) := by
  have := src_lk (lies_drop h c k hk hc)
  rwa [List.length_drop] at this
theorem flat_take (l : List LP) : ∀ k, (l.flatMap lkC).take (k * 9) = (l.take k).flatMap lkC := by
  induction l with
  | nil => intro k; simp
  | cons x l ih =>
    intro k
    rcases k with _ | k
    · simp
    · rw [List.flatMap_cons, List.take_succ_cons, List.flatMap_cons, List.take_append, ← ih k]
      have : (lkC x).length = 9 := rfl
      rw [List.take_of_length_le (by rw [this]; omega), this, show (k + 1) * 9 - 9 = k * 9 by omega]
theorem own_take {w : World} {base : Nat} {A : Option Addr} {n c : Nat} {l : List LP} (h : w.ownsRow base 33 9 (.slice A n c) n (l.flatMap lkC)) (hn : n = l.length) {k : Nat} (hk : k ≤ n) : w.ownsRow base 33 9 (.slice A k c) k ((l.take k).flatMap lkC) := by
  obtain ⟨hl, h⟩ := h
  refine ⟨by rw [← flat_take, List.length_take, hl]; omega, ?_⟩
  rcases h with ⟨h1, h2⟩ | ⟨g, cap, cur, hv, hb, hg, h1, h2, h3, h4⟩
  · subst h2
    obtain rfl : k = 0 := by omega
    exact .inl ⟨h1, rfl⟩
  · injection hv with e1 e2 e3
    subst e1 e3
    exact .inr ⟨g, _, cur, rfl, hb, hg, by omega, h2, h3, by rw [← flat_take, ← h4, List.take_take]; congr 1; omega⟩
theorem src_row {w : World} {base : Nat} {A : Option Addr} {n c : Nat} {l : List LP} (h : w.ownsRow base 33 9 (.slice A n c) n (l.flatMap lkC)) (hn : n = l.length) : SrcOf w A n 9 (l.flatMap lkC) := by
  subst hn
  obtain ⟨A', c', hv, hl, -, -⟩ := OwnL.lies lk_len (show OwnL 33 9 lkC w base (.slice A l.length c) l from h)
  injection hv with e1 e2 e3
  subst e1
  exact src_lk hl
end Go.Proofs.YtlmkglgjdmjnkaaGreatDoor
namespace Go.Proofs.YtlmkglgjdmjnkaaGreatDoor
open Go.RowKit Go.Lib
open Rw
set_option linter.unusedVariables false
set_option linter.unusedSimpArgs false

/-- a row of lines has come back -/
def LinesK (w : World) (l : List LockL) (e : Ending) (w' : World) : Prop := ∃ A c ps, ps.map (·.1) = l ∧ e = .returned (.slice A ps.length c) ∧ ps.length ≤ c ∧ Locks w' A ps ∧ KB w.heap.size w w'
set_option maxRecDepth 100000 in
set_option maxHeartbeats 4000000 in
theorem rbyname_any (A : Option Addr) (c : Nat) (l : List LP) (w : World) (hA : Locks w A l) (hn : l.length ≤ 4000) : Calls Tryz.prog 29 #[.slice A l.length c] w (LinesK w (sortN (l.map (·.1)))) := by
  have HA := hid hA
  have HS := hid (show (sortQ l).map (·.1) = sortN (l.map (·.1)) from map_sortQ l)
  clear hA
  generalize hnn : l.length = n at *
  have HN := hid hnn
  clear hnn
  go_enter Tryz.func29, Tryz.ntmps29
  go_upto_block 0 with fail
  go_wp2_with fail
  go_loopw [3, 4] (fun ov iv wr => ∃ (i : Nat) (v : Value) (acc : List LP), ov = v ∧ iv = .int .i64 (i : Int) ∧ i ≤ n ∧ Hid (acc.length = i) ∧ Hid (acc = sortQ (l.take i)) ∧ Hid (RowLk w wr v acc) ∧ Hid (KB w.heap.size w wr)) (fun _ iv _ => n - (intOf iv).toNat)
  case atStart => exact ⟨0, _, [], rfl, rfl, Nat.zero_le _, hid rfl, hid (by simp [sortQ]), hid RowLk.nil, hid (kb_refl _)⟩
  case round =>
    rename World => wr
    obtain ⟨i, v, acc, rfl, rfl, hi, HAL, HACC, HR, HK⟩ := hrel
    have i0 : (0 : Int) ≤ (i : Int) := by omega
    obtain ⟨Ao, co, rfl, hco, hlo⟩ := HR.out.locks HK.out
    rw [HAL.out] at HR hco ⊢
    have HL := hid hlo
    have HCO := hid hco
    clear hlo hco
    by_cases hlt : i < n
    · have h1 : i < l.length := by rw [HN.out]; exact hlt
      have i1 : (i : Int) < (n : Int) := by omega
      obtain ⟨p, off, hA, hix, hcx⟩ := lock_at HA.out h1
      subst hA
      have HCW := hid hcx
      have HIX := hid hix
      have HQ := hid (sortQ_take h1)
      clear hix hcx
      generalize l[i] = x at *
      go_upto_block 2 with fail
      go_cut [5] from 13 to 31 (fun v wx => ∃ j : Nat, v = .int .i64 (j : Int) ∧ j ≤ i ∧ Hid (insQ x acc = acc.take j ++ x :: acc.drop j) ∧ Hid (KB wr.heap.size wr wx))
      case first =>
        go_wp2_with fail
        go_loopw [5] (fun v wx => ∃ j : Nat, v = .int .i64 (j : Int) ∧ j ≤ i ∧ Hid (insQ x acc = acc.take j ++ insQ x (acc.drop j)) ∧ Hid (KB wr.heap.size wr wx)) (fun v _ => i - (intOf v).toNat)
        case atStart => exact ⟨0, rfl, Nat.zero_le _, hid (by simp), hid (kb_refl _)⟩
        case round =>
          rename World => wi
          obtain ⟨j, rfl, hj, HI, HBI⟩ := hrel
          have j0 : (0 : Int) ≤ (j : Int) := by omega
          have hS : KB wi.heap.size wi wi.drew := kb_drewJ (kb_refl _)
          by_cases hjl : j < i
          · have j1 : (j : Int) < (i : Int) := by omega
            have hja : j < acc.length := by rw [HAL.out]; exact hjl
            obtain ⟨q, of2, hB, -, hcy⟩ := lock_at (HL.out.kb HBI.out) hja
            subst hB
            have HCY := hid hcy
            have HCX := hid (HCW.out.kb (kb_tr HK.out HBI.out))
            have HILT := hid (fun h => HI.out.trans (insQ_lt (p := x) hja h))
            have HIGE := hid (fun h => HI.out.trans (insQ_ge (p := x) hja h))
            clear hcy HI
            generalize acc[j] = y at *
            obtain ⟨b, hb⟩ : ∃ b, Op.bytesLess (bts y.1.name) (bts x.1.name) = b := ⟨_, rfl⟩
            rw [hb] at HILT HIGE
            go_upto_region 6 with fail
            refine wp_planS (fun u => KB wi.heap.size wi u) (.last [0, 1, 2, 3, 4, 5, 6, 7, 8, 9, 10, 11, 12, 13, 14, 15, 16]) (by first | assumption | skip) (by kernel_rfl) (by intro _ _ d _ _ h; cases d <;> exact h) (by kernel_rfl) ?_
            have iS : Nonempty (SW fun u => KB wi.heap.size wi u) := ⟨⟨_, hS⟩⟩
            have y0 := fun (z : SW fun u => KB wi.heap.size wi u) => (HCY.out.kb z.ok).c0
            have yl := fun (z : SW fun u => KB wi.heap.size wi u) => (HCY.out.kb z.ok).lt
            have x0 := fun (z : SW fun u => KB wi.heap.size wi u) => (HCX.out.kb z.ok).c0
            have xl := fun (z : SW fun u => KB wi.heap.size wi u) => (HCX.out.kb z.ok).lt
            cases b
            · have HE2 := hid (HIGE.out rfl)
              with_reducible refine plan_last ?_
              simp only [pickOps, List.map_cons, List.map_nil, List.getElem?_toArray, List.getElem?_cons_zero, List.getElem?_cons_succ, Option.getD_some]
              repeat go_big_quiet_step (fail)
              refine wpQuiet_nil ?_
              clear y0 yl x0 xl iS hb
              go_wp2_with fail
              go_meet
              case rel => exact ⟨j, rfl, hj, HE2, hid (kb_tr HBI.out hS)⟩
            · have HE2 := hid (HILT.out rfl)
              with_reducible refine plan_last ?_
              simp only [pickOps, List.map_cons, List.map_nil, List.getElem?_toArray, List.getElem?_cons_zero, List.getElem?_cons_succ, Option.getD_some]
              repeat go_big_quiet_step (fail)
              refine wpQuiet_nil ?_
              clear y0 yl x0 xl iS hb
              go_wp2_with fail
              go_roundw
              case rel => exact ⟨j + 1, by go_num, by omega, HE2, hid (kb_tr HBI.out hS)⟩
              case measure => simp [intOf] <;> omega
          · obtain rfl : j = i := by omega
            have j1 : ¬ (j : Int) < (j : Int) := by omega
            have HE2 := hid (HI.out.trans (insQ_end (by rw [HAL.out]; exact Nat.le_refl _)))
            go_upto_region 6 with fail
            refine wp_planS (fun u => KB wi.heap.size wi u) (.last [0, 1, 2, 3, 4, 5, 6, 7, 8, 9, 10, 11, 12, 13, 14, 15, 16]) (by first | assumption | skip) (by kernel_rfl) (by intro _ _ d _ _ h; cases d <;> exact h) (by kernel_rfl) ?_
            have iS : Nonempty (SW fun u => KB wi.heap.size wi u) := ⟨⟨_, hS⟩⟩
            with_reducible refine plan_last ?_
            simp only [pickOps, List.map_cons, List.map_nil, List.getElem?_toArray, List.getElem?_cons_zero, List.getElem?_cons_succ, Option.getD_some]
            repeat go_big_quiet_step (fail)
            refine wpQuiet_nil ?_
            clear iS
            go_wp2_with fail
            go_meet
            case rel => exact ⟨j, rfl, Nat.le_refl _, HE2, hid (kb_tr HBI.out hS)⟩
      case rest =>
        obtain ⟨j, rfl, hj, HI, HBI⟩ := hcut
        have HLI := hid (HL.out.kb HBI.out)
        have HRC := hid (HR.out.kb HBI.out)
        have HKC := hid (kb_tr HK.out HBI.out)
        have s1 := fun u => sll_head Ao i co j (by have := HCO.out; omega) u
        have s2 := fun u => sll_tail Ao i co j hj u
        have s3 := fun u => sll_headAt Ao i co j (by have := HCO.out; omega) u
        have s4 := fun u => sll_tailAt Ao i co j hj u
        have HSD := hid (show SrcOf wc (tlL Ao j co) (i - j) 9 ((acc.drop j).flatMap lkC) from by have := src_drop HLI.out.row (c := co) (k := j) (by rw [HAL.out]; exact hj) (by rw [HAL.out]; exact HCO.out); rwa [HAL.out] at this)
        go_wp2_with (at_builtin; refine wpList_appx EKlocks rfl (.const (.slice none 0 0)) (.tmp 34) rfl rfl (World.ownsRow_nil _ wc.heap.size _ _) rfl HSD.out (lks_one _) (by unfold maxLen; omega) (by omega) (Nat.le_refl _) ?_; intro v1 w3 h2 h3 h4)
        have hld : (acc.drop j).length = i - j := by rw [List.length_drop, HAL.out]
        have hr1 : OwnL 33 9 lkC w3 wc.heap.size v1 (acc.drop j) := by
          show w3.ownsRow wc.heap.size 33 9 v1 (acc.drop j).length ((acc.drop j).flatMap lkC)
          rw [hld, show i - j = 0 + (i - j) by omega]
          exact h2
        obtain ⟨Ar, cr, rfl, -, -, -⟩ := OwnL.lies lk_len hr1
        have HR1 := hid (show w3.ownsRow wc.heap.size 33 9 (.slice Ar (i - j) cr) (i - j) ((acc.drop j).flatMap lkC) from by have := hr1; unfold OwnL at this; rwa [hld] at this)
        have HB3 := hid (show KB wc.heap.size wc w3 from h3.kb)
        rw [hld]
        have HLD := hid hld
        clear h2 h3 h4 hr1 hld s2 s4 HSD
        have HRC3 := hid (HRC.out.kb HB3.out)
        have HK3 := hid (kb_tr HKC.out HB3.out)
        go_upto_region 9 with fail
        have hS : KB w.heap.size w w3.drew := kb_drewJ HK3.out
        refine wp_planS (fun u => KB w.heap.size w u) (.call [0, 1, 2, 3, 4, 5, 6, 9] 7 (.call [] 8 (.call [] 10 (.last [11])))) (by first | assumption | skip) (by kernel_rfl) (by intro _ _ d _ _ h; cases d <;> exact h) (by kernel_rfl) ?_
        have iS : Nonempty (SW fun u => KB w.heap.size w u) := ⟨⟨_, hS⟩⟩
        have x0 := fun (z : SW fun u => KB w.heap.size w u) => (HCW.out.kb z.ok).c0
        have x1 := fun (z : SW fun u => KB w.heap.size w u) => (HCW.out.kb z.ok).c1
        have x2 := fun (z : SW fun u => KB w.heap.size w u) => (HCW.out.kb z.ok).c2
        have x3 := fun (z : SW fun u => KB w.heap.size w u) => (HCW.out.kb z.ok).c3
        have x4 := fun (z : SW fun u => KB w.heap.size w u) => (HCW.out.kb z.ok).c4
        have x5 := fun (z : SW fun u => KB w.heap.size w u) => (HCW.out.kb z.ok).c5
        have x6 := fun (z : SW fun u => KB w.heap.size w u) => (HCW.out.kb z.ok).c6
        have x7 := fun (z : SW fun u => KB w.heap.size w u) => (HCW.out.kb z.ok).c7
        have x8 := fun (z : SW fun u => KB w.heap.size w u) => (HCW.out.kb z.ok).c8
        have xl := fun (z : SW fun u => KB w.heap.size w u) => (HCW.out.kb z.ok).lt
        with_reducible refine plan_call ?_
        simp only [pickOps, List.map_cons, List.map_nil, List.getElem?_toArray, List.getElem?_cons_zero, List.getElem?_cons_succ, Option.getD_some]
        repeat go_big_quiet_step (fail)
        refine wpQuiet_nil ?_
        go_wp2_with fail
        have HB4 := hid (show KB w.heap.size w ((w3.alloc (.cells (lkC x).toArray 33)).drew) from kb_drewJ (kb_tr HK3.out (kb_new _ _)))
        have HBX := hid (show Box ((w3.alloc (.cells (lkC x).toArray 33)).drew) w3.heap.size (lkC x) from (Box.new w3 (lkC x) 33).kb (kb_drewJ (kb_refl _)))
        have HK34 := hid (show KB w3.heap.size w3 ((w3.alloc (.cells (lkC x).toArray 33)).drew) from kb_drewJ (kb_new _ _))
        have HRX := hid (HRC3.out.kb HK34.out)
        have HR4 := hid (row_kb HR1.out HK34.out)
        have hcs : (lkC x).toArray = #[.string x.1.name, .int .i64 x.1.v.maj, .int .i64 x.1.v.min, .int .i64 x.1.v.pat, .string x.1.v.pre, .string x.1.v.bld, .string x.1.shelf, .int .u64 x.1.sum, .slice x.2.A x.1.feats.length x.2.c] := rfl
        rw [hcs] at HB4 HBX HK34 HRX HR4
        clear hcs
        generalize ((w3.alloc (.cells #[.string x.1.name, .int .i64 x.1.v.maj, .int .i64 x.1.v.min, .int .i64 x.1.v.pat, .string x.1.v.pre, .string x.1.v.bld, .string x.1.shelf, .int .u64 x.1.sum, .slice x.2.A x.1.feats.length x.2.c] 33)).drew) = w4 at *
        refine plan_onS HB4.out ?_
        with_reducible refine plan_call ?_
        simp only [pickOps, List.map_cons, List.map_nil, List.getElem?_toArray, List.getElem?_cons_zero, List.getElem?_cons_succ, Option.getD_some]
        repeat go_big_quiet_step (fail)
        refine wpQuiet_nil ?_
        have HT4 := hid (show w4.ownsRow w.heap.size 33 9 (.slice Ao j co) j ((acc.take j).flatMap lkC) from by
          have h := HRX.out.own
          unfold OwnL at h
          rw [HAL.out] at h
          exact own_take h HAL.out.symm hj)
        go_wp2_with (at_builtin; refine wpList_appx EKlocks rfl (.tmp 38) (.tmp 43) rfl rfl HT4.out rfl (src_boxQ HBX.out (show (lkC x).length = 1 * 9 from rfl)) (lk_one x) (by unfold maxLen; omega) (by omega) HB4.out.size ?_; intro v2 w5 h5 h6 h7)
        have HB5 := hid (show KB w.heap.size w w5 from Go.RowKit.Below.trans HB4.out h6.kb)
        have h7 : w4.grownBy w5 (Value.slice Ao j co).ownBlock := h7
        have HR5 := hid (show w5.ownsRow wc.heap.size 33 9 (.slice Ar (i - j) cr) (i - j) ((acc.drop j).flatMap lkC) from own_keep HR4.out fun k hk => h7.block k (World.ownsRow.lt HR4.out k hk).2 (fun e => by
          have h8 := (World.ownsRow.lt HR4.out k hk).1
          have h9 := (HRC.out.lt k ((own_len Ao i co j co).trans e.symm)).2
          omega))
        have HO5 := hid h5
        clear h5 h6 h7
        refine plan_onS HB5.out ?_
        with_reducible refine plan_call ?_
        simp only [pickOps, List.map_cons, List.map_nil, List.getElem?_toArray, List.getElem?_cons_zero, List.getElem?_cons_succ, Option.getD_some]
        repeat go_big_quiet_step (fail)
        refine wpQuiet_nil ?_
        go_wp2_with (at_builtin; refine wpList_appx EKlocks rfl (.tmp 44) (.tmp 45) rfl rfl HO5.out rfl (src_row HR5.out HLD.out.symm) (lks_one _) (by unfold maxLen; omega) (by omega) HB5.out.size ?_; intro v3 w6 h5 h6 h7)
        have HB6 := hid (show KB w.heap.size w w6 from Go.RowKit.Below.trans HB5.out h6.kb)
        have HO6 := hid h5
        clear h5 h6 h7
        refine plan_onS HB6.out ?_
        with_reducible refine plan_last ?_
        simp only [pickOps, List.map_cons, List.map_nil, List.getElem?_toArray, List.getElem?_cons_zero, List.getElem?_cons_succ, Option.getD_some]
        repeat go_big_quiet_step (fail)
        refine wpQuiet_nil ?_
        clear x0 x1 x2 x3 x4 x5 x6 x7 x8 xl iS s1 s3 hS
        go_wp2_with fail
        go_roundw
        case rel => exact ⟨i + 1, _, insQ x acc, rfl, by go_num, by omega, hid (by rw [insQ_len, HAL.out]), hid (by rw [HQ.out, ← HACC.out]), hid ⟨by
            show w6.ownsRow w.heap.size 33 9 v3 (insQ x acc).length ((insQ x acc).flatMap lkC)
            rw [insQ_len, HAL.out, HI.out, List.flatMap_append, List.flatMap_cons, ← List.append_assoc, show i + 1 = j + 1 + (i - j) by omega]
            exact HO6.out, fun y hy => by
            rcases insQ_mem hy with rfl | hy
            · exact HIX.out
            · exact HR.out.sub y hy⟩, HB6⟩
        case measure => simp [intOf] <;> omega
    · obtain rfl : i = n := by omega
      have i1 : ¬ (i : Int) < (i : Int) := by omega
      have HW := hid (show acc.map (·.1) = sortN (l.map (·.1)) from by rw [HACC.out, List.take_of_length_le (by rw [HN.out]; exact Nat.le_refl _)]; exact HS.out)
      go_wp2_with fail
      try rw [Exit.noGoto_ret]
      try go_ret
      exact ⟨Ao, co, acc, HW.out, by rw [HAL.out] <;> rfl, by rw [HAL.out]; exact HCO.out, HL.out, HK.out⟩
end Go.Proofs.YtlmkglgjdmjnkaaGreatDoor
