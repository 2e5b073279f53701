/- Parts 7 of the proofs. -/
import Derived.Test.YtlmkglgjdmjnkaaGreatDoorQ6
import Derived.Deep.RegionHeld3
import Derived.IntWalk
namespace Go.Proofs.YtlmkglgjdmjnkaaGreatDoor
open Go.RowKit Go.Lib
set_option linter.unusedVariables false
set_option linter.unusedSimpArgs false
instance : Inhabited CutL := ⟨firstC⟩
def nthC (l : List CutL) (i : Nat) : CutL := l.getD i default
theorem nthC_lt {l : List CutL} {i : Nat} (h : i < l.length) : nthC l i = l[i] := by simp [nthC, h]
def cellsK (l : List CutL) : List Value := l.flatMap fun s => s.cells
theorem cellsK_len (l : List CutL) : (cellsK l).length = l.length * 7 := by
  induction l with
  | nil => rfl
  | cons s l ih => simp only [cellsK, List.flatMap_cons, List.length_append] at ih ⊢; rw [ih]; simp only [List.length_cons, List.length_nil]; omega
theorem cellsK_get : ∀ (l : List CutL) (i j : Nat), i < l.length → j < 7 → (cellsK l)[i * 7 + j]? = (nthC l i).cells[j]?
  | [], i, j, h, _ => by simp at h
  | s :: l, 0, j, _, hj => by
    rw [cellsK, List.flatMap_cons, List.getElem?_append_left (by simp; omega)]
    simp [nthC]
  | s :: l, i + 1, j, h, hj => by
    have ih := cellsK_get l i j (by simpa using h) hj
    rw [cellsK, List.flatMap_cons, List.getElem?_append_right (by simp; omega)]
    have e : (i + 1) * 7 + j - s.cells.length = i * 7 + j := by simp; omega
    rw [e]
    exact ih.trans (by simp [nthC])
theorem Tryz.info130 : (Tryz.prog.info? 130).map (fun i => (i.zero, i.size, i.bytes)) = some (some (CutL.val ⟨0, zeroV, false⟩), 7, 72) := by kernel_rfl
theorem EKcuts : EK Tryz.prog 223 130 7 72 := .mk' _ Tryz.underlying223 Tryz.info130 rfl (by omega)
theorem row7_get {w : World} {b o j : Nat} {c : CutL} {u : Value} (h : Row7 w b o c) (hj : c.cells[j]? = some u) : w.cell? ⟨b, o + j, none⟩ = some u := by
  obtain ⟨h0, h1, h2, h3, h4, h5, h6⟩ := h
  match j, hj with
  | 0, hj => rw [← hj]; exact h0
  | 1, hj => rw [← hj]; exact h1
  | 2, hj => rw [← hj]; exact h2
  | 3, hj => rw [← hj]; exact h3
  | 4, hj => rw [← hj]; exact h4
  | 5, hj => rw [← hj]; exact h5
  | 6, hj => rw [← hj]; exact h6
  | _ + 7, hj => simp at hj
def CutsAt (w : World) (A : Option Addr) (l : List CutL) : Prop :=
  l = [] ∨ ∃ b off, A = some ⟨b, off, none⟩ ∧ b < w.heap.size ∧ ∀ i, i < l.length → Row7 w b (off + i * 7) (nthC l i)
theorem CutsAt.below {w w' : World} {A : Option Addr} {l : List CutL} (h : CutsAt w A l) (hb : Below w.heap.size w w') : CutsAt w' A l := by
  rcases h with h | ⟨b, off, rfl, hlt, hc⟩
  · exact .inl h
  · exact .inr ⟨b, off, rfl, Nat.lt_of_lt_of_le hlt hb.size, fun i hi => (hc i hi).below hlt hb⟩
theorem CutsAt.at_ {w : World} {A : Option Addr} {l : List CutL} {k : Nat} (h : CutsAt w A l) (hk : k < l.length) :
    ∃ b off, A = some ⟨b, off, none⟩ ∧ b < w.heap.size ∧ Row7 w b (off + k * 7) (nthC l k) := by
  rcases h with h | ⟨b, off, rfl, hlt, hc⟩
  · subst h; simp at hk
  · exact ⟨b, off, rfl, hlt, hc k hk⟩
theorem CutsAt.lay {w : World} {b off : Nat} {l : List CutL} {k : Nat} (h : CutsAt w (some ⟨b, off, none⟩) l) (hk : k < l.length) : b < w.heap.size ∧ Row7 w b (off + k * 7) (nthC l k) := by
  obtain ⟨b', off', e, h1, h2⟩ := h.at_ hk
  injection e with e
  injection e with e1 e2 e3
  subst e1; subst e2
  exact ⟨h1, h2⟩
theorem CutsAt.own {w : World} {base : Nat} {v : Value} {l : List CutL} (h : w.ownsRow base 130 7 v l.length (cellsK l)) (h0 : l ≠ []) : ∃ A cap, v = .slice A l.length cap ∧ l.length ≤ cap ∧ CutsAt w A l := by
  have hpos : 0 < l.length := List.length_pos_iff.2 h0
  obtain ⟨g, cap, rfl, hg, hlt, hle, hc⟩ := own_form h hpos
  refine ⟨_, cap, rfl, hle, .inr ⟨g, 0, rfl, hlt, fun i hi => ?_⟩⟩
  have e : ∀ j u, j < 7 → (nthC l i).cells[j]? = some u → w.cell? ⟨g, 0 + i * 7 + j, none⟩ = some u := fun j u hj hu => by
    rw [Nat.zero_add, hc _ (by omega), cellsK_get l i j hi hj]; exact hu
  exact ⟨e 0 _ (by omega) rfl, e 1 _ (by omega) rfl, e 2 _ (by omega) rfl, e 3 _ (by omega) rfl, e 4 _ (by omega) rfl, e 5 _ (by omega) rfl, e 6 _ (by omega) rfl⟩
theorem CutsAt.src {w : World} {b off : Nat} {l : List CutL} {k m : Nat} (h : CutsAt w (some ⟨b, off, none⟩) l) (hkm : k + m ≤ l.length) : SrcOf w (some ⟨b, off + k * 7, none⟩) m 7 (cellsK ((l.drop k).take m)) := by
  have hlen : ((l.drop k).take m).length = m := by rw [List.length_take, List.length_drop]; omega
  refine ⟨by rw [cellsK_len, hlen], (fun e => by cases e), fun ad e j u hj => ?_⟩
  injection e with e; subst e
  have hj7 : j < m * 7 := by
    rcases Nat.lt_or_ge j (m * 7) with h' | h'
    · exact h'
    · rw [List.getElem?_eq_none (by rw [cellsK_len, hlen]; exact h')] at hj; cases hj
  have ej : j / 7 * 7 + j % 7 = j := by omega
  have hi : j / 7 < m := by omega
  rw [← ej, cellsK_get _ _ _ (by omega) (Nat.mod_lt _ (by omega))] at hj
  have en : nthC ((l.drop k).take m) (j / 7) = nthC l (k + j / 7) := by simp [nthC, hi]
  rw [en] at hj
  have := row7_get (h.lay (k := k + j / 7) (by omega)).2 hj
  have e2 : off + (k + j / 7) * 7 + j % 7 = off + k * 7 + j := by omega
  rw [e2] at this
  unfold Addr.add
  split <;> simp_all
theorem oneK (l : List CutL) : ∀ u ∈ cellsK l, u.oneCell' = true := by
  intro u hu
  simp only [cellsK, List.mem_flatMap] at hu
  obtain ⟨s, _, hu⟩ := hu
  simp at hu
  rcases hu with rfl | rfl | rfl | rfl | rfl | rfl | rfl <;> rfl
def putL : List CutL → CutL → List CutL
  | [], c => [c]
  | x :: l, c => if cmpC x c < 0 then x :: putL l c else if cmpC x c = 0 then x :: l else c :: x :: l
theorem putL_low : ∀ (l : List CutL) (c : CutL) (k : Nat), k ≤ l.length → (∀ j, j < k → cmpC (nthC l j) c < 0) → putL l c = l.take k ++ putL (l.drop k) c
  | l, c, 0, _, _ => by simp
  | [], c, k + 1, h, _ => by simp at h
  | x :: l, c, k + 1, h, hl => by
    have h0 : cmpC x c < 0 := hl 0 (by omega)
    have ih := putL_low l c k (by simpa using h) (fun j hj => hl (j + 1) (by omega))
    rw [putL, if_pos h0, ih]; rfl
theorem putL_end {l : List CutL} {c : CutL} (h : ∀ j, j < l.length → cmpC (nthC l j) c < 0) : putL l c = l ++ [c] := by
  rw [putL_low l c l.length (Nat.le_refl _) h]; simp [putL]
theorem drop_nthC {l : List CutL} {k : Nat} (h : k < l.length) : l.drop k = nthC l k :: l.drop (k + 1) := by
  rw [nthC_lt h]; exact List.drop_eq_getElem_cons h
theorem putL_eq {l : List CutL} {c : CutL} {k : Nat} (hk : k < l.length) (h : ∀ j, j < k → cmpC (nthC l j) c < 0) (h0 : cmpC (nthC l k) c = 0) : putL l c = l := by
  rw [putL_low l c k (by omega) h, drop_nthC hk, putL, if_neg (by omega), if_pos h0, ← drop_nthC hk, List.take_append_drop]
theorem putL_mid {l : List CutL} {c : CutL} {k : Nat} (hk : k < l.length) (h : ∀ j, j < k → cmpC (nthC l j) c < 0) (h0 : 0 < cmpC (nthC l k) c) : putL l c = l.take k ++ c :: l.drop k := by
  rw [putL_low l c k (by omega) h, drop_nthC hk, putL, if_neg (by omega), if_neg (by omega)]
def PutPost (w : World) (l : List CutL) (e : Ending) (w' : World) : Prop := ∃ A c, e = .returned (.slice A l.length c) ∧ l.length ≤ c ∧ CutsAt w' A l ∧ Below w.heap.size w w'
def fitK (l : List CutL) : Prop := ∀ i, i < l.length → (nthC l i).fit
def lowTo (l : List CutL) (c : CutL) (k : Nat) : Prop := ∀ j, j < k → cmpC (nthC l j) c < 0
theorem lowTo_step {l : List CutL} {c : CutL} {k : Nat} (h : lowTo l c k) (h1 : cmpC (nthC l k) c < 0) : lowTo l c (k + 1) := by
  intro j hj
  rcases Nat.lt_or_ge j k with h' | h'
  · exact h j h'
  · obtain rfl : j = k := by omega
    exact h1
theorem below_alloc {w w' : World} (h : Below w.heap.size w w') (o : Obj) : Below w.heap.size w (w'.alloc o) := h.alloc h.size o
theorem oneK1 (c : CutL) : ∀ u ∈ c.cells, u.oneCell' = true := by
  have := oneK [c]
  simpa [cellsK] using this
theorem addr_add (b o j : Nat) : (Addr.mk b o none).add j = ⟨b, o + j, none⟩ := by
  unfold Addr.add
  split <;> simp_all
theorem src_of_box {w : World} {g : Nat} {cs : List Value} {size : Nat} (h : Box w g cs) (hl : cs.length = size) : SrcOf w (some ⟨g, 0, none⟩) 1 size cs := by
  refine ⟨by omega, (fun e => by cases e), fun ad e j u hj => ?_⟩
  injection e with e; subst e
  rw [addr_add, Nat.zero_add]; exact h.2 j u hj
theorem src_box (w : World) (c : CutL) : SrcOf (w.alloc (.cells c.cells.toArray 130)) (some ⟨w.heap.size, 0, none⟩) 1 7 c.cells := src_of_box (Box.new w c.cells _) rfl
theorem put_end {w w2 w5 : World} {base k m : Nat} {v3 : Value} {l l' : List CutL} {c : CutL} (h : w5.ownsRow base 130 7 v3 (0 + k + 1 + m) ([] ++ cellsK (l.take k) ++ c.cells ++ cellsK (l.drop k)))
    (hE : l' = l.take k ++ c :: l.drop k) (hk : k ≤ l.length) (hm : m = l.length - k) (hb : Below w.heap.size w w2) (hb5 : Below w2.heap.size w2 w5) : PutPost w l' (.returned v3) w5 := by
  subst hE
  have e : [] ++ cellsK (l.take k) ++ c.cells ++ cellsK (l.drop k) = cellsK (l.take k ++ c :: l.drop k) := by simp [cellsK]
  have el : 0 + k + 1 + m = (l.take k ++ c :: l.drop k).length := by
    rw [List.length_append, List.length_cons, List.length_take, List.length_drop]; omega
  rw [e, el] at h
  obtain ⟨A, cap, hv, hc, hA⟩ := CutsAt.own h (by simp)
  exact ⟨A, cap, by rw [hv], hc, hA, below_tr hb hb5⟩
theorem src_cut {w : World} {b off n cap k : Nat} {l : List CutL} (h : CutsAt w (some ⟨b, off, none⟩) l) (hn : l.length = n) (hk : k ≤ n) (hc : n ≤ cap) :
    SrcOf w (if cap = k then some ⟨b, off, none⟩ else some ⟨b, off + k * 7, none⟩) (n - k) 7 (cellsK (l.drop k)) := by
  have h2 := h.src (k := k) (m := n - k) (by omega)
  rw [List.take_of_length_le (by rw [List.length_drop]; omega)] at h2
  split
  · have e : l.drop k = [] := List.drop_eq_nil_of_le (by omega)
    rw [e]
    refine ⟨by simp [cellsK]; omega, (fun e => by cases e), fun ad _ j u hj => by simp [cellsK] at hj⟩
  · exact h2
theorem src_cut0 {w : World} {b off n cap k : Nat} {l : List CutL} (h : CutsAt w (some ⟨b, off, none⟩) l) (hn : l.length = n) (hk : k = n) (hc : n ≤ cap) :
    SrcOf w (if cap = k then some ⟨b, off, none⟩ else some ⟨b, off + k * 7, none⟩) 0 7 (cellsK (l.drop k)) := by
  subst hk
  have := src_cut h hn (Nat.le_refl _) hc
  rwa [Nat.sub_self] at this
theorem src_box2 {w w1 : World} {c : CutL} (h : Below (w.alloc (.cells c.cells.toArray 130)).heap.size (w.alloc (.cells c.cells.toArray 130)) w1) : SrcOf w1 (some ⟨w.heap.size, 0, none⟩) 1 7 c.cells := src_of_box ((Box.new w c.cells _).below h) rfl
set_option maxRecDepth 100000 in
set_option maxHeartbeats 4000000 in
theorem put_any (A : Option Addr) (cap : Nat) (l : List CutL) (c : CutL) (w : World) (hl : CutsAt w A l) (hne : 0 < l.length) (hf : fitK l) (hcap : l.length ≤ cap) (hln : l.length ≤ 100000) (hcf : c.fit) : Calls Tryz.prog 184 #[.slice A l.length cap, c.val] w (PutPost w (putL l c)) := by
  obtain ⟨b, off, rfl, _⟩ := hl.at_ hne
  have HF := hid hf
  have HL := hid (hl.below (below_new w (.cells c.cells.toArray 130)))
  have HB0 := hid (Box.new w c.cells 130)
  have hbn := hid (below_new w (.cells c.cells.toArray 130))
  have HP := hid hl
  clear hl hf
  generalize hn : l.length = n at *
  have HN := hid hn
  clear hn
  go_enter Tryz.func184, Tryz.ntmps184
  go_wp2_with fail
  go_loopw [5] (fun i wr => ∃ k : Nat, i = .int .i64 k ∧ k ≤ n ∧ Hid (CutsAt wr (some ⟨b, off, none⟩) l) ∧ Hid (Box wr w.heap.size c.cells) ∧ Hid (lowTo l c k) ∧ Below w.heap.size w wr) (fun i _ => n - (intOf i).toNat)
  case atStart => exact ⟨0, rfl, Nat.zero_le _, HL, HB0, fun j hj => by omega, hbn.out⟩
  case round =>
    obtain ⟨k, rfl, hk, HS, HB, HM, hbr⟩ := hrel
    have hgb := HB.out.1
    have i0 : (0 : Int) ≤ (k : Int) := by omega
    by_cases hlt : k < n
    · have hlt' : k < l.length := by rw [HN.out]; exact hlt
      obtain ⟨hbl, x0, x1, x2, x3, x4, x5, x6⟩ := HS.out.lay (k := k) hlt'
      have i1 : (k : Int) < (n : Int) := by omega
      have hfk := HF.out k hlt'
      generalize hsk : nthC l k = s at *
      have HK := hid hsk
      clear hsk
      obtain ⟨f0, f1, f2, f3, f4, f5, f6⟩ := HB.out.get7
      cases hd1 : decide (cmpC s c < 0)
      · have hbw := bw_cell
        go_wp2_with fail
        refine wp_region_below (by kernel_rfl) (by kernel_rfl) ?_
        repeat (go_big_quiet_step ((go_at_call 183; exact bw_int (rccompare_any s c _ hfk hcf))))
        refine wpQuiet_nil ?_
        rintro _ ⟨z, rfl⟩
        clear hbw x0 x1 x2 x3 x4 x5 x6 f0 f1 f2 f3 f4 f5 f6
        go_wp2_with fail
        have HS1 := hid (HS.out.below z.ok)
        have HB1 := hid (HB.out.below z.ok)
        have hb1 := below_tr hbr z.ok
        clear HS HB hbr HB0 HL hbn hgb
        generalize z.v = w1 at *
        clear z
        obtain ⟨hbl, x0, x1, x2, x3, x4, x5, x6⟩ := HS1.out.lay (k := k) hlt'
        simp only [HK.out] at x0 x1 x2 x3 x4 x5 x6
        obtain ⟨f0, f1, f2, f3, f4, f5, f6⟩ := HB1.out.get7
        have hgb := HB1.out.1
        have hbw := bw_cell
        cases hd2 : (cmpC s c == 0)
        · have HE := hid (show putL l c = l.take k ++ c :: l.drop k from putL_mid hlt' HM.out (by rw [HK.out]; simp at hd1 hd2; omega))
          refine wp_region_below (by kernel_rfl) (by kernel_rfl) ?_
          repeat (go_big_quiet_step ((go_at_call 183; exact bw_int (rccompare_any s c _ hfk hcf))))
          refine wpQuiet_nil ?_
          rintro _ ⟨z, rfl⟩
          clear hbw x0 x1 x2 x3 x4 x5 x6 f0 f1 f2 f3 f4 f5 f6 hd1 hd2 hgb
          go_wp2_with fail
          have HS2 := hid (HS1.out.below z.ok)
          have HB2 := hid (HB1.out.below z.ok)
          have hb2 := below_tr hb1 z.ok
          clear HS1 HB1 hb1
          generalize z.v = w2 at *
          clear z
          go_wp2_with fail
          obtain ⟨f0, f1, f2, f3, f4, f5, f6⟩ := HB2.out.get7
          have hgb := HB2.out.1
          have hM : maxLen = 9223372036854775807 := rfl
          have hcc : (k : Int) ≤ (cap : Int) := by omega
          have hck : (k : Int) ≤ (n : Int) := by omega
          have hcn : (n : Int) ≤ (cap : Int) := by omega
          have i00 : (0 : Int) ≤ (0 : Int) := by omega
          have HA1 := hid (fun w' (h : Below w2.heap.size w2 w') => (((HS2.out.below h).src (k := 0) (m := k) (by have := HN.out; omega))))
          have HA2 := hid (fun w' (h : Below w2.heap.size w2 w') => src_cut (cap := cap) (HS2.out.below h) (k := k) (n := n) (by have := HN.out; omega) (by omega) (by omega))
          have HBX := hid (fun w' (h : Below w2.heap.size w2 w') => (HB2.out.below h).get7)
          have hsz := hid (fun w' (h : Below w2.heap.size w2 w') => h.size)
          simp only [Nat.zero_mul, Nat.add_zero, List.drop_zero] at HA1
          go_region_held3 (fun w' => w'.cell? ⟨w.heap.size, 0, none⟩ = some (.int .i64 c.en) ∧ w'.cell? ⟨w.heap.size, 1, none⟩ = some (.int .i64 c.v.maj) ∧ w'.cell? ⟨w.heap.size, 2, none⟩ = some (.int .i64 c.v.min) ∧ w'.cell? ⟨w.heap.size, 3, none⟩ = some (.int .i64 c.v.pat) ∧ w'.cell? ⟨w.heap.size, 4, none⟩ = some (.string c.v.pre) ∧ w'.cell? ⟨w.heap.size, 5, none⟩ = some (.string c.v.bld) ∧ w'.cell? ⟨w.heap.size, 6, none⟩ = some (.bool c.aft))
            (first | (exact HBX.out _ (by first | assumption | exact (Below.refl _ _).drew | exact below_alloc (by assumption) _ | exact below_alloc ((Below.refl _ _).drew) _)) | go_keep)
            (first
              | (refine step_appx EKcuts (by rfl) (.const (.slice none 0 0)) (.tmp 37) (by rfl) (by rfl) (World.ownsRow_nil _ _ _ _) (by rfl) (HA1.out _ (by first | assumption | exact (Below.refl _ _).drew | exact below_alloc (by assumption) _ | exact below_alloc ((Below.refl _ _).drew) _)) (oneK _) (by omega) (by omega) (Nat.le_refl _) ?_; intro v1 w3 h2 h3 h4; have hb3 : Below w2.heap.size w2 w3 := below_tr (by first | assumption | exact (Below.refl _ _).drew | exact below_alloc (by assumption) _ | exact below_alloc ((Below.refl _ _).drew) _) h3)
              | (refine step_appx EKcuts (by rfl) (.tmp 38) (.tmp 40) (by rfl) (by rfl) (h2.alloc _) (by rfl) (src_box _ _) (oneK1 c) (by omega) (by omega) (Nat.le_trans h3.size (by simp)) ?_; intro v2 w4 h5 h6 h7; have hb4 : Below w2.heap.size w2 w4 := Below.trans ((below_alloc hb3 _)) (h6.mono (hsz.out _ (by first | assumption | exact (Below.refl _ _).drew | exact below_alloc (by assumption) _ | exact below_alloc ((Below.refl _ _).drew) _))))
              | (refine step_appx EKcuts (by rfl) (.tmp 38) (.tmp 40) (by rfl) (by rfl) h2 (by rfl) (src_box2 (w := w2.drew) (c := c) h3) (oneK1 c) (by omega) (by omega) h3.size ?_; intro v2 w4 h5 h6 h7; have hb4 : Below w2.heap.size w2 w4 := Below.trans hb3 (h6.mono (hsz.out _ (by first | assumption | exact (Below.refl _ _).drew | exact below_alloc (by assumption) _ | exact below_alloc ((Below.refl _ _).drew) _))))
              | (refine step_appx EKcuts (by rfl) (.tmp 41) (.tmp 44) (by rfl) (by rfl) h5 (by rfl) (HA2.out _ (by first | assumption | exact (Below.refl _ _).drew | exact below_alloc (by assumption) _ | exact below_alloc ((Below.refl _ _).drew) _)) (oneK _) (by omega) (by omega) (by first | exact Nat.le_trans h3.size (Nat.le_trans (by simp) h6.size) | exact Nat.le_trans h3.size h6.size) ?_; intro v3 w5 h8 h9 h10; have hb5 : Below w2.heap.size w2 w5 := Below.trans hb4 (h9.mono (hsz.out _ (by first | assumption | exact (Below.refl _ _).drew | exact below_alloc (by assumption) _ | exact below_alloc ((Below.refl _ _).drew) _)))))
          all_goals
            clear f0 f1 f2 f3 f4 f5 f6
            go_wp2_with fail
          all_goals
            go_ret
            exact put_end h8 HE.out (by have := HN.out; omega) (by have := HN.out; omega) hb2 hb5
        · have HE := hid (show putL l c = l from putL_eq hlt' HM.out (by rw [HK.out]; simpa using hd2))
          refine wp_region_below (by kernel_rfl) (by kernel_rfl) ?_
          repeat (go_big_quiet_step ((go_at_call 183; exact bw_int (rccompare_any s c _ hfk hcf))))
          refine wpQuiet_nil ?_
          rintro _ ⟨z, rfl⟩
          clear hbw x0 x1 x2 x3 x4 x5 x6 f0 f1 f2 f3 f4 f5 f6 hd1 hd2 hgb
          go_wp2_with fail
          go_ret
          rw [HE.out]
          exact ⟨some ⟨b, off, none⟩, cap, by rw [HN.out]; rfl, by rw [HN.out]; exact hcap, HS1.out.below z.ok, below_tr hb1 z.ok⟩
      · have hp := hid (show cmpC s c < 0 by simpa using hd1)
        go_wp2_with fail
        have hbw := bw_cell
        refine wp_region_below (by kernel_rfl) (by kernel_rfl) ?_
        repeat (go_big_quiet_step ((go_at_call 183; exact bw_int (rccompare_any s c _ hfk hcf))))
        refine wpQuiet_nil ?_
        rintro _ ⟨z, rfl⟩
        clear hbw x0 x1 x2 x3 x4 x5 x6 f0 f1 f2 f3 f4 f5 f6
        go_wp2_with fail
        go_roundw
        case rel => exact ⟨k + 1, by go_num, by omega, HS.out.below z.ok, HB.out.below z.ok, lowTo_step HM.out (by rw [HK.out]; exact hp.out), below_tr hbr z.ok⟩
        case measure => simp [intOf]; omega
    · obtain rfl : k = n := by omega
      have i2 : ((k : Int) < (k : Int)) = False := by simp
      have HE := hid (show putL l c = l.take k ++ c :: l.drop k by rw [putL_end (by rw [HN.out]; exact HM.out), ← HN.out]; simp)
      go_wp2_with fail
      have hbw := bw_cell
      refine wp_region_below (by kernel_rfl) (by kernel_rfl) ?_
      repeat (go_big_quiet_step (fail))
      refine wpQuiet_nil ?_
      rintro _ ⟨z, rfl⟩
      clear hbw
      go_wp2_with fail
      have HS1 := hid (HS.out.below z.ok)
      have HB1 := hid (HB.out.below z.ok)
      have hb1 := below_tr hbr z.ok
      clear HS HB hbr HB0 HL hbn hgb
      generalize z.v = w1 at *
      clear z
      have hbw := bw_cell
      refine wp_region_below (by kernel_rfl) (by kernel_rfl) ?_
      repeat (go_big_quiet_step (fail))
      refine wpQuiet_nil ?_
      rintro _ ⟨z, rfl⟩
      clear hbw
      go_wp2_with fail
      have HS2 := hid (HS1.out.below z.ok)
      have HB2 := hid (HB1.out.below z.ok)
      have hb2 := below_tr hb1 z.ok
      clear HS1 HB1 hb1
      generalize z.v = w2 at *
      clear z
      obtain ⟨f0, f1, f2, f3, f4, f5, f6⟩ := HB2.out.get7
      have hgb := HB2.out.1
      have hM : maxLen = 9223372036854775807 := rfl
      have hcc : (k : Int) ≤ (cap : Int) := by omega
      have hck : (k : Int) ≤ (k : Int) := by omega
      have hcn : (k : Int) ≤ (cap : Int) := by omega
      have i00 : (0 : Int) ≤ (0 : Int) := by omega
      have HA1 := hid (fun w' (h : Below w2.heap.size w2 w') => (((HS2.out.below h).src (k := 0) (m := k) (by have := HN.out; omega))))
      have HA2 := hid (fun w' (h : Below w2.heap.size w2 w') => src_cut0 (cap := cap) (HS2.out.below h) (k := k) (n := k) (by have := HN.out; omega) (by omega) (by omega))
      have HBX := hid (fun w' (h : Below w2.heap.size w2 w') => (HB2.out.below h).get7)
      have hsz := hid (fun w' (h : Below w2.heap.size w2 w') => h.size)
      simp only [Nat.zero_mul, Nat.add_zero, List.drop_zero] at HA1
      go_region_held3 (fun w' => w'.cell? ⟨w.heap.size, 0, none⟩ = some (.int .i64 c.en) ∧ w'.cell? ⟨w.heap.size, 1, none⟩ = some (.int .i64 c.v.maj) ∧ w'.cell? ⟨w.heap.size, 2, none⟩ = some (.int .i64 c.v.min) ∧ w'.cell? ⟨w.heap.size, 3, none⟩ = some (.int .i64 c.v.pat) ∧ w'.cell? ⟨w.heap.size, 4, none⟩ = some (.string c.v.pre) ∧ w'.cell? ⟨w.heap.size, 5, none⟩ = some (.string c.v.bld) ∧ w'.cell? ⟨w.heap.size, 6, none⟩ = some (.bool c.aft))
        (first | (exact HBX.out _ (by first | assumption | exact (Below.refl _ _).drew | exact below_alloc (by assumption) _ | exact below_alloc ((Below.refl _ _).drew) _)) | go_keep)
        (first
          | (refine step_appx EKcuts (by rfl) (.const (.slice none 0 0)) (.tmp 37) (by rfl) (by rfl) (World.ownsRow_nil _ _ _ _) (by rfl) (HA1.out _ (by first | assumption | exact (Below.refl _ _).drew | exact below_alloc (by assumption) _ | exact below_alloc ((Below.refl _ _).drew) _)) (oneK _) (by omega) (by omega) (Nat.le_refl _) ?_; intro v1 w3 h2 h3 h4; have hb3 : Below w2.heap.size w2 w3 := below_tr (by first | assumption | exact (Below.refl _ _).drew | exact below_alloc (by assumption) _ | exact below_alloc ((Below.refl _ _).drew) _) h3)
          | (refine step_appx EKcuts (by rfl) (.tmp 38) (.tmp 40) (by rfl) (by rfl) (h2.alloc _) (by rfl) (src_box _ _) (oneK1 c) (by omega) (by omega) (Nat.le_trans h3.size (by simp)) ?_; intro v2 w4 h5 h6 h7; have hb4 : Below w2.heap.size w2 w4 := Below.trans ((below_alloc hb3 _)) (h6.mono (hsz.out _ (by first | assumption | exact (Below.refl _ _).drew | exact below_alloc (by assumption) _ | exact below_alloc ((Below.refl _ _).drew) _))))
          | (refine step_appx EKcuts (by rfl) (.tmp 38) (.tmp 40) (by rfl) (by rfl) h2 (by rfl) (src_box2 (w := w2.drew) (c := c) h3) (oneK1 c) (by omega) (by omega) h3.size ?_; intro v2 w4 h5 h6 h7; have hb4 : Below w2.heap.size w2 w4 := Below.trans hb3 (h6.mono (hsz.out _ (by first | assumption | exact (Below.refl _ _).drew | exact below_alloc (by assumption) _ | exact below_alloc ((Below.refl _ _).drew) _))))
          | (refine step_appx EKcuts (by rfl) (.tmp 41) (.tmp 44) (by rfl) (by rfl) h5 (by rfl) (HA2.out _ (by first | assumption | exact (Below.refl _ _).drew | exact below_alloc (by assumption) _ | exact below_alloc ((Below.refl _ _).drew) _)) (oneK _) (by omega) (by omega) (by first | exact Nat.le_trans h3.size (Nat.le_trans (by simp) h6.size) | exact Nat.le_trans h3.size h6.size) ?_; intro v3 w5 h8 h9 h10; have hb5 : Below w2.heap.size w2 w5 := Below.trans hb4 (h9.mono (hsz.out _ (by first | assumption | exact (Below.refl _ _).drew | exact below_alloc (by assumption) _ | exact below_alloc ((Below.refl _ _).drew) _)))))
      all_goals
        clear f0 f1 f2 f3 f4 f5 f6
        go_wp2_with fail
      all_goals
        go_ret
        exact put_end h8 HE.out (by have := HN.out; omega) (by have := HN.out; omega) hb2 hb5
end Go.Proofs.YtlmkglgjdmjnkaaGreatDoor
namespace Go.Proofs.YtlmkglgjdmjnkaaGreatDoor
open Go.RowKit Go.Lib
set_option linter.unusedVariables false
set_option linter.unusedSimpArgs false
theorem putL_mem : ∀ (l : List CutL) (c x : CutL), x ∈ putL l c → x = c ∨ x ∈ l
  | [], c, x, h => by simp [putL] at h; exact .inl h
  | y :: l, c, x, h => by
    unfold putL at h
    split at h
    · rcases List.mem_cons.1 h with rfl | h
      · exact .inr (List.mem_cons_self ..)
      · rcases putL_mem l c x h with rfl | h
        · exact .inl rfl
        · exact .inr (List.mem_cons_of_mem _ h)
    · split at h
      · exact .inr h
      · rcases List.mem_cons.1 h with rfl | h
        · exact .inl rfl
        · exact .inr h
theorem putL_len : ∀ (l : List CutL) (c : CutL), l.length ≤ (putL l c).length ∧ (putL l c).length ≤ l.length + 1 ∧ 0 < (putL l c).length
  | [], c => by simp [putL]
  | y :: l, c => by
    have ih := putL_len l c
    unfold putL
    split
    · simp only [List.length_cons]; omega
    · split <;> simp only [List.length_cons] <;> omega
def allFit (l : List CutL) : Prop := ∀ c, c ∈ l → c.fit
theorem allFit.at_ {l : List CutL} (h : allFit l) : fitK l := fun i hi => by rw [nthC_lt hi]; exact h _ (List.getElem_mem _)
theorem allFit.put {l : List CutL} {c : CutL} (h : allFit l) (hc : c.fit) : allFit (putL l c) := fun x hx => by
  rcases putL_mem l c x hx with rfl | hx
  · exact hc
  · exact h x hx
def cutStep (o : List CutL) (s : SpanL) : List CutL := putL (putL o s.fr) s.til
def cutsL (l : List SpanL) : List CutL := l.foldl cutStep [firstC, lastC]
def cutsTo (l : List SpanL) (k : Nat) : List CutL := (l.take k).foldl cutStep [firstC, lastC]
theorem cutsTo_succ {l : List SpanL} {k : Nat} (h : k < l.length) : cutsTo l (k + 1) = cutStep (cutsTo l k) (nth l k) := by
  rw [cutsTo, cutsTo, List.take_succ_eq_append_getElem h, List.foldl_append, nth_lt h]; rfl
theorem cutsTo_all (l : List SpanL) : cutsTo l l.length = cutsL l := by rw [cutsTo, List.take_length]; rfl
theorem firstC_fit : firstC.fit := by simp [CutL.fit, Ver.fit, firstC, zeroV]; decide
theorem lastC_fit : lastC.fit := by simp [CutL.fit, Ver.fit, lastC, zeroV]; decide
theorem cutsTo_good {l : List SpanL} (hf : fitL l) : ∀ (k : Nat), k ≤ l.length → allFit (cutsTo l k) ∧ (cutsTo l k).length ≤ 2 + 2 * k ∧ 0 < (cutsTo l k).length
  | 0, _ => by
    refine ⟨fun c hc => ?_, by simp [cutsTo], by simp [cutsTo]⟩
    simp [cutsTo] at hc
    rcases hc with rfl | rfl
    · exact firstC_fit
    · exact lastC_fit
  | k + 1, h => by
    obtain ⟨h1, h2, h3⟩ := cutsTo_good hf k (by omega)
    rw [cutsTo_succ (by omega), cutStep]
    have hk := hf k (by omega)
    have l1 := putL_len (cutsTo l k) (nth l k).fr
    have l2 := putL_len (putL (cutsTo l k) (nth l k).fr) (nth l k).til
    exact ⟨(h1.put hk.1).put hk.2, by omega, by omega⟩
theorem cuts_new {w : World} : CutsAt (w.alloc (.cells (firstC.cells ++ lastC.cells).toArray 130)) (some ⟨w.heap.size, 0, none⟩) [firstC, lastC] := by
  have h := Box.new w (firstC.cells ++ lastC.cells) 130
  refine .inr ⟨w.heap.size, 0, rfl, h.1, fun i hi => ?_⟩
  match i, hi with
  | 0, _ => exact ⟨h.2 0 _ rfl, h.2 1 _ rfl, h.2 2 _ rfl, h.2 3 _ rfl, h.2 4 _ rfl, h.2 5 _ rfl, h.2 6 _ rfl⟩
  | 1, _ => exact ⟨h.2 7 _ rfl, h.2 8 _ rfl, h.2 9 _ rfl, h.2 10 _ rfl, h.2 11 _ rfl, h.2 12 _ rfl, h.2 13 _ rfl⟩
  | i + 2, hi => simp at hi; omega
set_option maxRecDepth 100000 in
set_option maxHeartbeats 4000000 in
theorem cuts_any (A : Option Addr) (cap : Nat) (l : List SpanL) (w : World) (hl : Spans w A l) (hf : fitL l) (hln : l.length ≤ 40000) : Calls Tryz.prog 162 #[.slice A l.length cap] w (PutPost w (cutsL l)) := by
  have HF := hid hf
  have HL := hid hl
  have HG := hid (fun k hk => cutsTo_good hf k hk)
  clear hl hf
  generalize hn : l.length = n at *
  have HN := hid hn
  clear hn
  go_enter Tryz.func162, Tryz.ntmps162
  go_wp2_with (first | (go_at_call 93; refine (first_any _).mono ?_; rintro _ w1 ⟨rfl, hb1⟩) | (go_at_call 95; refine (last_any _).mono ?_; rintro _ w2 ⟨rfl, hb2⟩))
  have hb12 := below_tr hb1 hb2
  have hb0 := hid (below_tr hb12 (below_new w2 (.cells (firstC.cells ++ lastC.cells).toArray 130)))
  have HL0 := hid (HL.out.below hb0.out)
  have HC0 := hid (cuts_new (w := w2))
  clear HL
  go_loopw [4, 3] (fun i o wr => ∃ (k : Nat) (A1 : Option Addr) (c1 : Nat), i = .int .i64 k ∧ k ≤ n ∧ o = .slice A1 (cutsTo l k).length c1 ∧ (cutsTo l k).length ≤ c1 ∧ Hid (Spans wr A l) ∧ Hid (CutsAt wr A1 (cutsTo l k)) ∧ Below w.heap.size w wr) (fun i _ _ => n - (intOf i).toNat)
  case atStart => exact ⟨0, _, _, rfl, Nat.zero_le _, rfl, Nat.le_refl _, HL0, HC0, hb0.out⟩
  case round =>
    obtain ⟨k, A1, c1, rfl, hk, rfl, hc1, HS, HC, hbr⟩ := hrel
    by_cases hlt : k < n
    · have hlt' : k < l.length := by rw [HN.out]; exact hlt
      obtain ⟨g1, g2, g3⟩ := HG.out k hk
      obtain ⟨b, off, rfl, hbl, hx, hz⟩ := HS.out.at_ (k := k) hlt'
      have i0 : (0 : Int) ≤ (k : Int) := by omega
      have i1 : (k : Int) < (n : Int) := by omega
      have hfk := HF.out k hlt'
      have HNX := hid (cutsTo_succ hlt')
      generalize nth l k = s at *
      generalize cutsTo l k = o at *
      have HGF := hid g1
      have HFR := hid hfk.1
      have HTI := hid hfk.2
      have HPL := hid (putL_len o s.fr)
      have HSB : Hid (∀ w', Below wr.heap.size wr w' → w'.cell? ⟨b, off + k * 14, none⟩ = some (.int .i64 s.fr.en) ∧ w'.cell? ⟨b, off + k * 14 + 1, none⟩ = some (.int .i64 s.fr.v.maj) ∧ w'.cell? ⟨b, off + k * 14 + 2, none⟩ = some (.int .i64 s.fr.v.min) ∧ w'.cell? ⟨b, off + k * 14 + 3, none⟩ = some (.int .i64 s.fr.v.pat) ∧ w'.cell? ⟨b, off + k * 14 + 4, none⟩ = some (.string s.fr.v.pre) ∧ w'.cell? ⟨b, off + k * 14 + 5, none⟩ = some (.string s.fr.v.bld) ∧ w'.cell? ⟨b, off + k * 14 + 6, none⟩ = some (.bool s.fr.aft) ∧ w'.cell? ⟨b, off + k * 14 + 7, none⟩ = some (.int .i64 s.til.en) ∧ w'.cell? ⟨b, off + k * 14 + 7 + 1, none⟩ = some (.int .i64 s.til.v.maj) ∧ w'.cell? ⟨b, off + k * 14 + 7 + 2, none⟩ = some (.int .i64 s.til.v.min) ∧ w'.cell? ⟨b, off + k * 14 + 7 + 3, none⟩ = some (.int .i64 s.til.v.pat) ∧ w'.cell? ⟨b, off + k * 14 + 7 + 4, none⟩ = some (.string s.til.v.pre) ∧ w'.cell? ⟨b, off + k * 14 + 7 + 5, none⟩ = some (.string s.til.v.bld) ∧ w'.cell? ⟨b, off + k * 14 + 7 + 6, none⟩ = some (.bool s.til.aft)) := hid (fun w' h => by
        obtain ⟨a0, a1, a2, a3, a4, a5, a6⟩ := hx.below hbl h
        obtain ⟨c0, c1, c2, c3, c4, c5, c6⟩ := hz.below hbl h
        exact ⟨a0, a1, a2, a3, a4, a5, a6, c0, c1, c2, c3, c4, c5, c6⟩)
      clear hx hz g1 hfk
      go_wp2_with fail
      go_region_held3 (fun w' => w'.cell? ⟨b, off + k * 14, none⟩ = some (.int .i64 s.fr.en) ∧ w'.cell? ⟨b, off + k * 14 + 1, none⟩ = some (.int .i64 s.fr.v.maj) ∧ w'.cell? ⟨b, off + k * 14 + 2, none⟩ = some (.int .i64 s.fr.v.min) ∧ w'.cell? ⟨b, off + k * 14 + 3, none⟩ = some (.int .i64 s.fr.v.pat) ∧ w'.cell? ⟨b, off + k * 14 + 4, none⟩ = some (.string s.fr.v.pre) ∧ w'.cell? ⟨b, off + k * 14 + 5, none⟩ = some (.string s.fr.v.bld) ∧ w'.cell? ⟨b, off + k * 14 + 6, none⟩ = some (.bool s.fr.aft) ∧ w'.cell? ⟨b, off + k * 14 + 7, none⟩ = some (.int .i64 s.til.en) ∧ w'.cell? ⟨b, off + k * 14 + 7 + 1, none⟩ = some (.int .i64 s.til.v.maj) ∧ w'.cell? ⟨b, off + k * 14 + 7 + 2, none⟩ = some (.int .i64 s.til.v.min) ∧ w'.cell? ⟨b, off + k * 14 + 7 + 3, none⟩ = some (.int .i64 s.til.v.pat) ∧ w'.cell? ⟨b, off + k * 14 + 7 + 4, none⟩ = some (.string s.til.v.pre) ∧ w'.cell? ⟨b, off + k * 14 + 7 + 5, none⟩ = some (.string s.til.v.bld) ∧ w'.cell? ⟨b, off + k * 14 + 7 + 6, none⟩ = some (.bool s.til.aft))
        (first | (exact HSB.out _ (by first | assumption | exact (Below.refl _ _).drew)) | go_keep)
        (first
          | (go_at_call_of 184 s.fr.en; refine (put_any A1 c1 o s.fr _ (HC.out.below (by first | assumption | exact (Below.refl _ _).drew)) g3 HGF.out.at_ hc1 (by omega) HFR.out).mono ?_; rintro _ w3 ⟨A2, c2, rfl, e2, h2, h3⟩; have hb3 : Below wr.heap.size wr w3 := below_tr (by first | assumption | exact (Below.refl _ _).drew) h3)
          | (go_at_call_of 184 s.til.en; refine (put_any A2 c2 (putL o s.fr) s.til _ h2 (HPL.out.2.2) (HGF.out.put HFR.out).at_ e2 (by have := HPL.out; omega) HTI.out).mono ?_; rintro _ w4 ⟨A3, c3, rfl, e3, h4, h5⟩; have hb4 : Below wr.heap.size wr w4 := below_tr hb3 h5))
      go_wp2_with fail
      go_roundw
      case rel => exact ⟨k + 1, A3, c3, by go_num, by omega, by rw [HNX.out]; rfl, by rw [HNX.out]; exact e3, HS.out.below hb4, by rw [HNX.out]; exact h4, below_tr hbr hb4⟩
      case measure => simp [intOf]; omega
    · obtain rfl : k = n := by omega
      have e : cutsL l = cutsTo l k := by rw [← cutsTo_all, HN.out]
      have HE := hid e
      clear e
      go_wp2_with fail
      go_ret
      rw [HE.out]
      exact ⟨A1, c1, rfl, hc1, HC.out, hbr⟩
end Go.Proofs.YtlmkglgjdmjnkaaGreatDoor
namespace Go.Proofs.YtlmkglgjdmjnkaaGreatDoor
open Go.RowKit Go.Lib
set_option linter.unusedVariables false
set_option linter.unusedSimpArgs false
def growTo (c : List CutL) (p : CutL → CutL → Bool) : Nat → List SpanL
  | 0 => []
  | k + 1 => if p (nthC c k) (nthC c (k + 1)) then growR (growTo c p k) (nthC c k) (nthC c (k + 1)) else growTo c p k
def growAll (c : List CutL) (p : CutL → CutL → Bool) : List SpanL := growTo c p (c.length - 1)
def rmakeL (l : List SpanL) : List SpanL × Bool := if l.all spanMay then (growAll (cutsL l) (inR l), true) else ([], false)
theorem growR_len (l : List SpanL) (f t : CutL) : (growR l f t).length ≤ l.length + 1 := by
  unfold growR
  split
  · split
    · simp
    · simp
  · simp
theorem growTo_len (c : List CutL) (p : CutL → CutL → Bool) : ∀ k, (growTo c p k).length ≤ k
  | 0 => by simp [growTo]
  | k + 1 => by
    have ih := growTo_len c p k
    unfold growTo
    split
    · have := growR_len (growTo c p k) (nthC c k) (nthC c (k + 1)); omega
    · omega
theorem growR_fit {l : List SpanL} {f t : CutL} (hl : ∀ s, s ∈ l → s.fit) (hf : f.fit) (ht : t.fit) : ∀ s, s ∈ growR l f t → s.fit := by
  intro s hs
  rcases List.eq_nil_or_concat l with rfl | ⟨m, q, rfl⟩
  · simp [growR] at hs; subst hs; exact ⟨hf, ht⟩
  · simp only [List.concat_eq_append] at hl hs
    by_cases hc : cmpC q.til f = 0
    · rw [growR_eq hc] at hs
      rcases List.mem_append.1 hs with hs | hs
      · exact hl s (List.mem_append_left _ hs)
      · rw [List.mem_singleton] at hs; subst hs; exact ⟨(hl q (by simp)).1, ht⟩
    · rw [growR_ne hc] at hs
      rcases List.mem_append.1 hs with hs | hs
      · exact hl s hs
      · rw [List.mem_singleton] at hs; subst hs; exact ⟨hf, ht⟩
theorem growTo_fit {c : List CutL} {p : CutL → CutL → Bool} (hc : allFit c) : ∀ k, k < c.length → ∀ s, s ∈ growTo c p k → s.fit
  | 0, _ => by simp [growTo]
  | k + 1, h => by
    have ih := growTo_fit (p := p) hc k (by omega)
    unfold growTo
    split
    · exact growR_fit ih (hc.at_ k (by omega)) (hc.at_ (k + 1) h)
    · exact ih
theorem cutsL_good {l : List SpanL} (hf : fitL l) : allFit (cutsL l) ∧ (cutsL l).length ≤ 2 + 2 * l.length ∧ 0 < (cutsL l).length := by
  rw [← cutsTo_all]; exact cutsTo_good hf _ (Nat.le_refl _)
def RowOk (w : World) (base : Nat) (r : List SpanL × Bool) (e : Ending) (w' : World) : Prop := ∃ v, e = .returned (.tuple #[v, .bool r.2]) ∧ OwnS w' base v r.1 ∧ Below base w w' ∧ w.heap.size ≤ w'.heap.size
theorem OwnS.low {w : World} {base b1 : Nat} {v : Value} {l : List SpanL} (h : OwnS w b1 v l) (hb : base ≤ b1) : OwnS w base v l := by
  obtain ⟨h1, h2⟩ := h
  refine ⟨h1, ?_⟩
  rcases h2 with h2 | ⟨g, cap, cur, hv, hg, r⟩
  · exact .inl h2
  · exact .inr ⟨g, cap, cur, hv, Nat.le_trans hb hg, r⟩
def okTo (l : List SpanL) (k : Nat) : Prop := ∀ j, j < k → spanMay (nth l j) = true
theorem okTo_step {l : List SpanL} {k : Nat} (h : okTo l k) (h1 : spanMay (nth l k) = true) : okTo l (k + 1) := by
  intro j hj
  rcases Nat.lt_or_ge j k with h' | h'
  · exact h j h'
  · obtain rfl : j = k := by omega
    exact h1
theorem okTo_end {l : List SpanL} (h : okTo l l.length) : rmakeL l = (growAll (cutsL l) (inR l), true) := by
  rw [rmakeL, if_pos]
  rw [List.all_eq_true]
  intro s hs
  obtain ⟨i, hi, rfl⟩ := List.getElem_of_mem hs
  have := h i hi
  rwa [nth_lt hi] at this
theorem okTo_no {l : List SpanL} {k : Nat} (hk : k < l.length) (h : spanMay (nth l k) = false) : rmakeL l = ([], false) := by
  rw [rmakeL, if_neg]
  rw [List.all_eq_true]
  intro e
  have := e _ (List.getElem_mem hk)
  rw [nth_lt hk] at h
  rw [h] at this; cases this
set_option maxRecDepth 100000 in
set_option maxHeartbeats 1000000 in
theorem rmake_any (base : Nat) (A : Option Addr) (cap : Nat) (l : List SpanL) (w : World) (hl : Spans w A l) (hf : fitL l) (hln : l.length ≤ 40000) (hb : base ≤ w.heap.size) : Calls Tryz.prog 161 #[.slice A l.length cap] w (RowOk w base (rmakeL l)) := by
  have HF := hid hf
  have HL := hid hl
  clear hl hf
  generalize hn : l.length = n at *
  have HN := hid hn
  clear hn
  go_enter Tryz.func161, Tryz.ntmps161
  go_wp2_with fail
  go_loopw [4] (fun i wr => ∃ k : Nat, i = .int .i64 k ∧ k ≤ n ∧ Hid (Spans wr A l) ∧ Hid (okTo l k) ∧ Below w.heap.size w wr) (fun i _ => n - (intOf i).toNat)
  case atStart => exact ⟨0, rfl, Nat.zero_le _, HL, fun j hj => by omega, Below.refl _ _⟩
  case round =>
    obtain ⟨k, rfl, hk, HS, HM, hbr⟩ := hrel
    by_cases hlt : k < n
    · have hlt' : k < l.length := by rw [HN.out]; exact hlt
      obtain ⟨b, off, rfl, hbl, ⟨x0, x1, x2, x3, x4, x5, x6⟩, z0, z1, z2, z3, z4, z5, z6⟩ := HS.out.at_ (k := k) hlt'
      have i0 : (0 : Int) ≤ (k : Int) := by omega
      have i1 : (k : Int) < (n : Int) := by omega
      have hfk := HF.out k hlt'
      generalize hsk : nth l k = s at *
      have HK := hid hsk
      clear hsk
      cases hsm : spanMay s
      · have HE := hid (okTo_no hlt' (by rw [HK.out]; exact hsm))
        go_wp2_with (go_at_call 182; refine (rspanmay_any s _ hfk).mono ?_; rintro _ w1 ⟨rfl, hb1⟩; rw [hsm])
        refine bodyPost_ret (v := .tuple #[.slice none 0 0, .bool false]) (by simp [results, Tryz.results161, go_sem]) rfl ?_
        rw [HE.out]
        exact ⟨_, rfl, OwnS.nil _ _, (below_tr hbr hb1).mono hb, (below_tr hbr hb1).size⟩
      · go_wp2_with (go_at_call 182; refine (rspanmay_any s _ hfk).mono ?_; rintro _ w1 ⟨rfl, hb1⟩; rw [hsm])
        go_roundw
        case rel => exact ⟨k + 1, by go_num, by omega, HS.out.below hb1, okTo_step HM.out (by rw [HK.out]; exact hsm), below_tr hbr hb1⟩
        case measure => simp [intOf]; omega
    · obtain rfl : k = n := by omega
      have HE := hid (okTo_end (by rw [HN.out]; exact HM.out))
      have HG := hid (cutsL_good HF.out)
      have hcu := hid (fun w' (h : Spans w' A l) => (HN.out ▸ cuts_any A cap l w' h HF.out (by rw [HN.out]; omega) : Calls Tryz.prog 162 #[.slice A k cap] w' (PutPost w' (cutsL l))))
      generalize cutsL l = c at *
      go_wp2_with (go_at_call 162; refine (hcu.out _ HS.out).mono ?_; rintro _ w1 ⟨Ac, cc, rfl, hcc, hc, hb1⟩)
      have hb01 := below_tr hbr hb1
      have HS1 := hid (HS.out.below hb1)
      have HC1 := hid hc
      clear hc hcu HS hbr hb1
      obtain ⟨g1, g2, g3⟩ := HG.out
      have HGF := hid g1
      clear g1 HG
      rw [HN.out] at g2
      generalize hm : c.length = m at *
      have HMM := hid hm
      clear hm
      go_loopw [7, 5] (fun i o wr => ∃ (q : Nat) (v : Value), i = .int .i64 q ∧ v = o ∧ q + 1 ≤ m ∧ OwnS wr w1.heap.size v (growTo c (inR l) q) ∧ Below w1.heap.size w1 wr) (fun i _ _ => m - (intOf i).toNat)
      case atStart => exact ⟨0, _, rfl, rfl, by omega, OwnS.nil _ _, Below.refl _ _⟩
      case round =>
        obtain ⟨q, v, rfl, rfl, hq, HO, hbr⟩ := hrel
        have HQ := hid hbr
        by_cases hlt2 : q + 1 < m
        · obtain ⟨b, off, rfl, hbl, x0, x1, x2, x3, x4, x5, x6⟩ := (HC1.out.below hbr).at_ (k := q) (by rw [HMM.out]; omega)
          obtain ⟨_, z0, z1, z2, z3, z4, z5, z6⟩ := (HC1.out.below hbr).lay (k := q + 1) (by rw [HMM.out]; omega)
          have i0 : (0 : Int) ≤ (q : Int) := by omega
          have i1 : (q : Int) < (m : Int) := by omega
          have i2 : (q : Int) + 1 < (m : Int) := by omega
          have HCX := hid (fun w' (h : Below w1.heap.size w1 w') => And.intro ((HC1.out.below h).lay (k := q) (by rw [HMM.out]; omega)).2 ((HC1.out.below h).lay (k := q + 1) (by rw [HMM.out]; omega)).2)
          have HRL := hid (growTo_len c (inR l) q)
          have HRF := hid (growTo_fit (p := inR l) HGF.out q (by rw [HMM.out]; omega))
          have HX := hid (show growTo c (inR l) (q + 1) = if inR l (nthC c q) (nthC c (q + 1)) then growR (growTo c (inR l) q) (nthC c q) (nthC c (q + 1)) else growTo c (inR l) q from rfl)
          have HFF := hid (HGF.out.at_ q (by rw [HMM.out]; omega))
          have HFT := hid (HGF.out.at_ (q + 1) (by rw [HMM.out]; omega))
          generalize nthC c q = f at *
          generalize nthC c (q + 1) = t at *
          have hin := fun z : BW wr => (HN.out ▸ in_any A cap l f t z.v ((HS1.out.below HQ.out).below z.ok) HF.out (by rw [HN.out]; omega) HFF.out HFT.out : Calls Tryz.prog 163 #[.slice A k cap, f.val, t.val] z.v (BoolPost z.v (inR l f t)))
          generalize growTo c (inR l) q = r at *
          cases hp : inR l f t
          · rw [hp] at hin
            have hbw := bw_cell
            go_wp2_with fail
            refine wp_region_below (by kernel_rfl) (by kernel_rfl) ?_
            repeat (go_big_quiet_step ((go_at_call 163; exact bw_bool (hin _))))
            refine wpQuiet_nil ?_
            rintro _ ⟨z, rfl⟩
            clear hbw hin x0 x1 x2 x3 x4 x5 x6 z0 z1 z2 z3 z4 z5 z6
            go_wp2_with fail
            go_roundw
            case rel => exact ⟨q + 1, v, by go_num, rfl, by omega, by rw [HX.out, hp]; exact HO.below z.ok, below_tr hbr z.ok⟩
            case measure => simp [intOf]; omega
          · rw [hp] at hin
            have hbw := bw_cell
            go_wp2_with fail
            refine wp_region_below (by kernel_rfl) (by kernel_rfl) ?_
            repeat (go_big_quiet_step ((go_at_call 163; exact bw_bool (hin _))))
            refine wpQuiet_nil ?_
            rintro _ ⟨z, rfl⟩
            have hbz := below_tr HQ.out z.ok
            have HOz := hid (HO.below z.ok)
            clear hbw hin x0 x1 x2 x3 x4 x5 x6 z0 z1 z2 z3 z4 z5 z6 HO hbr
            generalize z.v = w5 at hbz HOz ⊢
            clear z
            have HSB : Hid (∀ w', Below w1.heap.size w1 w' → w'.cell? ⟨b, off + q * 7, none⟩ = some (.int .i64 f.en) ∧ w'.cell? ⟨b, off + q * 7 + 1, none⟩ = some (.int .i64 f.v.maj) ∧ w'.cell? ⟨b, off + q * 7 + 2, none⟩ = some (.int .i64 f.v.min) ∧ w'.cell? ⟨b, off + q * 7 + 3, none⟩ = some (.int .i64 f.v.pat) ∧ w'.cell? ⟨b, off + q * 7 + 4, none⟩ = some (.string f.v.pre) ∧ w'.cell? ⟨b, off + q * 7 + 5, none⟩ = some (.string f.v.bld) ∧ w'.cell? ⟨b, off + q * 7 + 6, none⟩ = some (.bool f.aft) ∧ w'.cell? ⟨b, off + (q + 1) * 7, none⟩ = some (.int .i64 t.en) ∧ w'.cell? ⟨b, off + (q + 1) * 7 + 1, none⟩ = some (.int .i64 t.v.maj) ∧ w'.cell? ⟨b, off + (q + 1) * 7 + 2, none⟩ = some (.int .i64 t.v.min) ∧ w'.cell? ⟨b, off + (q + 1) * 7 + 3, none⟩ = some (.int .i64 t.v.pat) ∧ w'.cell? ⟨b, off + (q + 1) * 7 + 4, none⟩ = some (.string t.v.pre) ∧ w'.cell? ⟨b, off + (q + 1) * 7 + 5, none⟩ = some (.string t.v.bld) ∧ w'.cell? ⟨b, off + (q + 1) * 7 + 6, none⟩ = some (.bool t.aft)) := hid (fun w' h => by
              obtain ⟨⟨a0, a1, a2, a3, a4, a5, a6⟩, c0, c1, c2, c3, c4, c5, c6⟩ := HCX.out w' h
              exact ⟨a0, a1, a2, a3, a4, a5, a6, c0, c1, c2, c3, c4, c5, c6⟩)
            go_wp2_with fail
            have y1 : IntKind.i64.wrap ((q : Int) + 1) = (q : Int) + 1 := IntWalk.i64_in _ (by omega)
            have y2 : (0 : Int) ≤ (q : Int) + 1 := by omega
            have y3 : ((q : Int) + 1).toNat = q + 1 := by omega
            go_region_held3 (fun w' => w'.cell? ⟨b, off + q * 7, none⟩ = some (.int .i64 f.en) ∧ w'.cell? ⟨b, off + q * 7 + 1, none⟩ = some (.int .i64 f.v.maj) ∧ w'.cell? ⟨b, off + q * 7 + 2, none⟩ = some (.int .i64 f.v.min) ∧ w'.cell? ⟨b, off + q * 7 + 3, none⟩ = some (.int .i64 f.v.pat) ∧ w'.cell? ⟨b, off + q * 7 + 4, none⟩ = some (.string f.v.pre) ∧ w'.cell? ⟨b, off + q * 7 + 5, none⟩ = some (.string f.v.bld) ∧ w'.cell? ⟨b, off + q * 7 + 6, none⟩ = some (.bool f.aft) ∧ w'.cell? ⟨b, off + (q + 1) * 7, none⟩ = some (.int .i64 t.en) ∧ w'.cell? ⟨b, off + (q + 1) * 7 + 1, none⟩ = some (.int .i64 t.v.maj) ∧ w'.cell? ⟨b, off + (q + 1) * 7 + 2, none⟩ = some (.int .i64 t.v.min) ∧ w'.cell? ⟨b, off + (q + 1) * 7 + 3, none⟩ = some (.int .i64 t.v.pat) ∧ w'.cell? ⟨b, off + (q + 1) * 7 + 4, none⟩ = some (.string t.v.pre) ∧ w'.cell? ⟨b, off + (q + 1) * 7 + 5, none⟩ = some (.string t.v.bld) ∧ w'.cell? ⟨b, off + (q + 1) * 7 + 6, none⟩ = some (.bool t.aft))
              (exact HSB.out _ (by first | assumption | exact hbz.drew))
              (first
                | (go_at_call 164; refine (grow_any w1.heap.size v r f t _ (HOz.out.below ((Below.refl _ _).drew)) hbz.size (by have := HRL.out; omega) HFF.out HFT.out HRF.out).mono ?_; rintro _ w6 ⟨v2, rfl, h2, h3, h4⟩; have hb6 : Below w1.heap.size w1 w6 := hbz.drew.trans h3))
            clear y1 y2 y3
            go_wp2_with fail
            go_roundw
            case rel => exact ⟨q + 1, v2, by go_num, rfl, by omega, by rw [HX.out, hp]; exact h2, hb6⟩
            case measure => simp [intOf]; omega
        · obtain rfl : q = m - 1 := by omega
          have e : growAll c (inR l) = growTo c (inR l) (m - 1) := by rw [growAll, HMM.out]
          have i2 : ((m - 1 : Nat) : Int) + 1 = (m : Int) := by omega
          generalize hq1 : m - 1 = q at *
          have HE2 := hid e
          clear e
          have i3 : ¬ ((q : Int) + 1 < (m : Int)) := by omega
          go_wp2_with fail
          refine bodyPost_ret (v := .tuple #[v, .bool true]) (by simp [results, Tryz.results161, go_sem]) rfl ?_
          rw [HE.out, HE2.out]
          exact ⟨v, rfl, OwnS.low HO (Nat.le_trans hb hb01.size), (hb01.mono hb).trans (hbr.mono (Nat.le_trans hb hb01.size)), Nat.le_trans hb01.size hbr.size⟩
end Go.Proofs.YtlmkglgjdmjnkaaGreatDoor
namespace Go.Proofs.YtlmkglgjdmjnkaaGreatDoor
open Go.RowKit Go.Lib
set_option linter.unusedVariables false
set_option linter.unusedSimpArgs false
def notIn (l : List SpanL) (f t : CutL) : Bool := !inR l f t
def rnotL (l : List SpanL) : List SpanL := if mayR l then growAll (cutsL l) (notIn l) else []
set_option maxRecDepth 100000 in
set_option maxHeartbeats 1000000 in
theorem rnot_any (base : Nat) (A : Option Addr) (cap : Nat) (l : List SpanL) (w : World) (hl : Spans w A l) (hf : fitL l) (hln : l.length ≤ 40000) (hb : base ≤ w.heap.size) : Calls Tryz.prog 139 #[.slice A l.length cap] w (RowPost w base (rnotL l)) := by
  have HF := hid hf
  have HL := hid hl
  have hma := hid (rrowmay_any A cap l w hl hf (by omega))
  clear hl hf
  cases hmay : mayR l
  · have HE := hid (show rnotL l = [] by rw [rnotL, hmay]; rfl)
    rw [hmay] at hma
    generalize hn : l.length = n at *
    go_enter Tryz.func139, Tryz.ntmps139
    go_wp2_with (go_at_call 159; refine hma.out.mono ?_; rintro _ w1 ⟨rfl, hb1⟩)
    go_ret
    rw [HE.out]
    exact ⟨_, rfl, OwnS.nil _ _, hb1.mono hb, hb1.size⟩
  · have HE := hid (show rnotL l = growAll (cutsL l) (notIn l) by rw [rnotL, hmay]; rfl)
    rw [hmay] at hma
    generalize hn : l.length = n at *
    have HN := hid hn
    clear hn
    have HG := hid (cutsL_good HF.out)
    have hcu := hid (fun w' (h : Spans w' A l) => (HN.out ▸ cuts_any A cap l w' h HF.out (by rw [HN.out]; omega) : Calls Tryz.prog 162 #[.slice A n cap] w' (PutPost w' (cutsL l))))
    generalize cutsL l = c at *
    go_enter Tryz.func139, Tryz.ntmps139
    go_wp2_with (first | (go_at_call 159; refine hma.out.mono ?_; rintro _ w0 ⟨rfl, hb0⟩) | (go_at_call 162; refine (hcu.out _ (HL.out.below hb0)).mono ?_; rintro _ w1 ⟨Ac, cc, rfl, hcc, hc, hb1⟩))
    have hb01 := below_tr hb0 hb1
    have HS1 := hid (HL.out.below hb01)
    have HC1 := hid hc
    clear hc hcu HL hb0 hb1 hma
    obtain ⟨g1, g2, g3⟩ := HG.out
    have HGF := hid g1
    clear g1 HG
    rw [HN.out] at g2
    generalize hm : c.length = m at *
    have HMM := hid hm
    clear hm
    go_loopw [5, 3] (fun i o wr => ∃ (q : Nat) (v : Value), i = .int .i64 q ∧ v = o ∧ q + 1 ≤ m ∧ OwnS wr w1.heap.size v (growTo c (notIn l) q) ∧ Below w1.heap.size w1 wr) (fun i _ _ => m - (intOf i).toNat)
    case atStart => exact ⟨0, _, rfl, rfl, by omega, OwnS.nil _ _, Below.refl _ _⟩
    case round =>
      obtain ⟨q, v, rfl, rfl, hq, HO, hbr⟩ := hrel
      have HQ := hid hbr
      by_cases hlt2 : q + 1 < m
      · obtain ⟨b, off, rfl, hbl, x0, x1, x2, x3, x4, x5, x6⟩ := (HC1.out.below hbr).at_ (k := q) (by rw [HMM.out]; omega)
        obtain ⟨_, z0, z1, z2, z3, z4, z5, z6⟩ := (HC1.out.below hbr).lay (k := q + 1) (by rw [HMM.out]; omega)
        have i0 : (0 : Int) ≤ (q : Int) := by omega
        have i1 : (q : Int) < (m : Int) := by omega
        have i2 : (q : Int) + 1 < (m : Int) := by omega
        have HCX := hid (fun w' (h : Below w1.heap.size w1 w') => And.intro ((HC1.out.below h).lay (k := q) (by rw [HMM.out]; omega)).2 ((HC1.out.below h).lay (k := q + 1) (by rw [HMM.out]; omega)).2)
        have HRL := hid (growTo_len c (notIn l) q)
        have HRF := hid (growTo_fit (p := notIn l) HGF.out q (by rw [HMM.out]; omega))
        have HX := hid (show growTo c (notIn l) (q + 1) = if notIn l (nthC c q) (nthC c (q + 1)) then growR (growTo c (notIn l) q) (nthC c q) (nthC c (q + 1)) else growTo c (notIn l) q from rfl)
        have HFF := hid (HGF.out.at_ q (by rw [HMM.out]; omega))
        have HFT := hid (HGF.out.at_ (q + 1) (by rw [HMM.out]; omega))
        generalize nthC c q = f at *
        generalize nthC c (q + 1) = t at *
        have hin := fun z : BW wr => (HN.out ▸ in_any A cap l f t z.v ((HS1.out.below HQ.out).below z.ok) HF.out (by rw [HN.out]; omega) HFF.out HFT.out : Calls Tryz.prog 163 #[.slice A n cap, f.val, t.val] z.v (BoolPost z.v (inR l f t)))
        generalize growTo c (notIn l) q = r at *
        have HNI := hid (show notIn l f t = !inR l f t from rfl)
        cases hp : inR l f t
        · rw [hp] at hin
          have hbw := bw_cell
          go_wp2_with fail
          refine wp_region_below (by kernel_rfl) (by kernel_rfl) ?_
          repeat (go_big_quiet_step ((go_at_call 163; exact bw_bool (hin _))))
          refine wpQuiet_nil ?_
          rintro _ ⟨z, rfl⟩
          have hbz := below_tr HQ.out z.ok
          have HOz := hid (HO.below z.ok)
          clear hbw hin x0 x1 x2 x3 x4 x5 x6 z0 z1 z2 z3 z4 z5 z6 HO hbr
          generalize z.v = w5 at hbz HOz ⊢
          clear z
          have HSB : Hid (∀ w', Below w1.heap.size w1 w' → w'.cell? ⟨b, off + q * 7, none⟩ = some (.int .i64 f.en) ∧ w'.cell? ⟨b, off + q * 7 + 1, none⟩ = some (.int .i64 f.v.maj) ∧ w'.cell? ⟨b, off + q * 7 + 2, none⟩ = some (.int .i64 f.v.min) ∧ w'.cell? ⟨b, off + q * 7 + 3, none⟩ = some (.int .i64 f.v.pat) ∧ w'.cell? ⟨b, off + q * 7 + 4, none⟩ = some (.string f.v.pre) ∧ w'.cell? ⟨b, off + q * 7 + 5, none⟩ = some (.string f.v.bld) ∧ w'.cell? ⟨b, off + q * 7 + 6, none⟩ = some (.bool f.aft) ∧ w'.cell? ⟨b, off + (q + 1) * 7, none⟩ = some (.int .i64 t.en) ∧ w'.cell? ⟨b, off + (q + 1) * 7 + 1, none⟩ = some (.int .i64 t.v.maj) ∧ w'.cell? ⟨b, off + (q + 1) * 7 + 2, none⟩ = some (.int .i64 t.v.min) ∧ w'.cell? ⟨b, off + (q + 1) * 7 + 3, none⟩ = some (.int .i64 t.v.pat) ∧ w'.cell? ⟨b, off + (q + 1) * 7 + 4, none⟩ = some (.string t.v.pre) ∧ w'.cell? ⟨b, off + (q + 1) * 7 + 5, none⟩ = some (.string t.v.bld) ∧ w'.cell? ⟨b, off + (q + 1) * 7 + 6, none⟩ = some (.bool t.aft)) := hid (fun w' h => by
            obtain ⟨⟨a0, a1, a2, a3, a4, a5, a6⟩, c0, c1, c2, c3, c4, c5, c6⟩ := HCX.out w' h
            exact ⟨a0, a1, a2, a3, a4, a5, a6, c0, c1, c2, c3, c4, c5, c6⟩)
          go_wp2_with fail
          have y1 : IntKind.i64.wrap ((q : Int) + 1) = (q : Int) + 1 := IntWalk.i64_in _ (by omega)
          have y2 : (0 : Int) ≤ (q : Int) + 1 := by omega
          have y3 : ((q : Int) + 1).toNat = q + 1 := by omega
          go_region_held3 (fun w' => w'.cell? ⟨b, off + q * 7, none⟩ = some (.int .i64 f.en) ∧ w'.cell? ⟨b, off + q * 7 + 1, none⟩ = some (.int .i64 f.v.maj) ∧ w'.cell? ⟨b, off + q * 7 + 2, none⟩ = some (.int .i64 f.v.min) ∧ w'.cell? ⟨b, off + q * 7 + 3, none⟩ = some (.int .i64 f.v.pat) ∧ w'.cell? ⟨b, off + q * 7 + 4, none⟩ = some (.string f.v.pre) ∧ w'.cell? ⟨b, off + q * 7 + 5, none⟩ = some (.string f.v.bld) ∧ w'.cell? ⟨b, off + q * 7 + 6, none⟩ = some (.bool f.aft) ∧ w'.cell? ⟨b, off + (q + 1) * 7, none⟩ = some (.int .i64 t.en) ∧ w'.cell? ⟨b, off + (q + 1) * 7 + 1, none⟩ = some (.int .i64 t.v.maj) ∧ w'.cell? ⟨b, off + (q + 1) * 7 + 2, none⟩ = some (.int .i64 t.v.min) ∧ w'.cell? ⟨b, off + (q + 1) * 7 + 3, none⟩ = some (.int .i64 t.v.pat) ∧ w'.cell? ⟨b, off + (q + 1) * 7 + 4, none⟩ = some (.string t.v.pre) ∧ w'.cell? ⟨b, off + (q + 1) * 7 + 5, none⟩ = some (.string t.v.bld) ∧ w'.cell? ⟨b, off + (q + 1) * 7 + 6, none⟩ = some (.bool t.aft))
            (exact HSB.out _ (by first | assumption | exact hbz.drew))
            (first
              | (go_at_call 164; refine (grow_any w1.heap.size v r f t _ (HOz.out.below ((Below.refl _ _).drew)) hbz.size (by have := HRL.out; omega) HFF.out HFT.out HRF.out).mono ?_; rintro _ w6 ⟨v2, rfl, h2, h3, h4⟩; have hb6 : Below w1.heap.size w1 w6 := hbz.drew.trans h3))
          clear y1 y2 y3
          go_wp2_with fail
          go_roundw
          case rel => exact ⟨q + 1, v2, by go_num, rfl, by omega, by rw [HX.out, HNI.out, hp]; exact h2, hb6⟩
          case measure => simp [intOf]; omega
        · rw [hp] at hin
          have hbw := bw_cell
          go_wp2_with fail
          refine wp_region_below (by kernel_rfl) (by kernel_rfl) ?_
          repeat (go_big_quiet_step ((go_at_call 163; exact bw_bool (hin _))))
          refine wpQuiet_nil ?_
          rintro _ ⟨z, rfl⟩
          clear hbw hin x0 x1 x2 x3 x4 x5 x6 z0 z1 z2 z3 z4 z5 z6
          go_wp2_with fail
          go_roundw
          case rel => exact ⟨q + 1, v, by go_num, rfl, by omega, by rw [HX.out, HNI.out, hp]; exact HO.below z.ok, below_tr hbr z.ok⟩
          case measure => simp [intOf]; omega
      · obtain rfl : q = m - 1 := by omega
        have e : growAll c (notIn l) = growTo c (notIn l) (m - 1) := by rw [growAll, HMM.out]
        have i2 : ((m - 1 : Nat) : Int) + 1 = (m : Int) := by omega
        generalize hq1 : m - 1 = q at *
        have HE2 := hid e
        clear e
        have i3 : ¬ ((q : Int) + 1 < (m : Int)) := by omega
        go_wp2_with fail
        go_ret
        rw [HE.out, HE2.out]
        exact ⟨v, rfl, OwnS.low HO (Nat.le_trans hb hb01.size), (hb01.mono hb).trans (hbr.mono (Nat.le_trans hb hb01.size)), Nat.le_trans hb01.size hbr.size⟩
end Go.Proofs.YtlmkglgjdmjnkaaGreatDoor
