/- Slices of cuts; the walk of the reference's put. -/
import Derived.Test.YtodicnjoimoiiaaApp
import Derived.Deep.RegionHeld3
namespace Go.Proofs.Ytodicnjoimoiiaa
open Go.RowKit Go.Lib
set_option linter.unusedVariables false
set_option linter.unusedSimpArgs false

instance : Inhabited CutL := ⟨firstC⟩
/-- the i-th cut (behind the end: whatever) -/
def nthC (l : List CutL) (i : Nat) : CutL := l.getD i default
theorem nthC_lt {l : List CutL} {i : Nat} (h : i < l.length) : nthC l i = l[i] := by simp [nthC, h]
def cellsK (l : List CutL) : List Value := l.flatMap fun s => s.cells
theorem cellsK_len (l : List CutL) : (cellsK l).length = l.length * 7 := by
  induction l with
  | nil => rfl
  | cons s l ih => simp only [cellsK, List.flatMap_cons, List.length_append] at ih ⊢; rw [ih]; simp only [List.length_cons, List.length_nil]; omega
theorem cellsK_append (l m : List CutL) : cellsK (l ++ m) = cellsK l ++ cellsK m := by simp [cellsK]
theorem cellsK_get : ∀ (l : List CutL) (i j : Nat), i < l.length → j < 7 → (cellsK l)[i * 7 + j]? = (nthC l i).cells[j]?
  | [], i, j, h, _ => by simp at h
  | s :: l, 0, j, _, hj => by
    rw [cellsK, List.flatMap_cons, List.getElem?_append_left (by simp; omega)]
    simp [nthC]
  | s :: l, i + 1, j, h, hj => by
    have ih := cellsK_get l i j (by simpa using h) hj
    rw [cellsK, List.flatMap_cons, List.getElem?_append_right (by simp; omega)]
    have e : (i + 1) * 7 + j - s.cells.length = i * 7 + j := by simp; omega
    rw [e]
    exact ih.trans (by simp [nthC])
theorem Try.info35 : (Try.prog.info? 35).map (fun i => (i.zero, i.size, i.bytes)) = some (some (CutL.val ⟨0, zeroV, false⟩), 7, 72) := by kernel_rfl
theorem EKcuts : EK Try.prog 51 35 7 72 := .mk' _ Try.underlying51 Try.info35 rfl (by omega)
theorem row7_get {w : World} {b o j : Nat} {c : CutL} {u : Value} (h : Row7 w b o c) (hj : c.cells[j]? = some u) : w.cell? ⟨b, o + j, none⟩ = some u := by
  obtain ⟨h0, h1, h2, h3, h4, h5, h6⟩ := h
  match j, hj with
  | 0, hj => rw [← hj]; exact h0
  | 1, hj => rw [← hj]; exact h1
  | 2, hj => rw [← hj]; exact h2
  | 3, hj => rw [← hj]; exact h3
  | 4, hj => rw [← hj]; exact h4
  | 5, hj => rw [← hj]; exact h5
  | 6, hj => rw [← hj]; exact h6
  | _ + 7, hj => simp at hj

/-- a slice's cuts lie there -/
def CutsAt (w : World) (A : Option Addr) (l : List CutL) : Prop :=
  l = [] ∨ ∃ b off, A = some ⟨b, off, none⟩ ∧ b < w.heap.size ∧ ∀ i, i < l.length → Row7 w b (off + i * 7) (nthC l i)
theorem CutsAt.below {w w' : World} {A : Option Addr} {l : List CutL} (h : CutsAt w A l) (hb : Below w.heap.size w w') : CutsAt w' A l := by
  rcases h with h | ⟨b, off, rfl, hlt, hc⟩
  · exact .inl h
  · exact .inr ⟨b, off, rfl, Nat.lt_of_lt_of_le hlt hb.size, fun i hi => (hc i hi).below hlt hb⟩
theorem CutsAt.at_ {w : World} {A : Option Addr} {l : List CutL} {k : Nat} (h : CutsAt w A l) (hk : k < l.length) :
    ∃ b off, A = some ⟨b, off, none⟩ ∧ b < w.heap.size ∧ Row7 w b (off + k * 7) (nthC l k) := by
  rcases h with h | ⟨b, off, rfl, hlt, hc⟩
  · subst h; simp at hk
  · exact ⟨b, off, rfl, hlt, hc k hk⟩
theorem CutsAt.lay {w : World} {b off : Nat} {l : List CutL} {k : Nat} (h : CutsAt w (some ⟨b, off, none⟩) l) (hk : k < l.length) : b < w.heap.size ∧ Row7 w b (off + k * 7) (nthC l k) := by
  obtain ⟨b', off', e, h1, h2⟩ := h.at_ hk
  injection e with e
  injection e with e1 e2 e3
  subst e1; subst e2
  exact ⟨h1, h2⟩
theorem CutsAt.own {w : World} {base : Nat} {v : Value} {l : List CutL} (h : w.ownsRow base 35 7 v l.length (cellsK l)) (h0 : l ≠ []) : ∃ A cap, v = .slice A l.length cap ∧ l.length ≤ cap ∧ CutsAt w A l := by
  have hpos : 0 < l.length := List.length_pos_iff.2 h0
  obtain ⟨g, cap, rfl, hg, hlt, hle, hc⟩ := own_form h hpos
  refine ⟨_, cap, rfl, hle, .inr ⟨g, 0, rfl, hlt, fun i hi => ?_⟩⟩
  have e : ∀ j u, j < 7 → (nthC l i).cells[j]? = some u → w.cell? ⟨g, 0 + i * 7 + j, none⟩ = some u := fun j u hj hu => by
    rw [Nat.zero_add, hc _ (by omega), cellsK_get l i j hi hj]; exact hu
  exact ⟨e 0 _ (by omega) rfl, e 1 _ (by omega) rfl, e 2 _ (by omega) rfl, e 3 _ (by omega) rfl, e 4 _ (by omega) rfl, e 5 _ (by omega) rfl, e 6 _ (by omega) rfl⟩
theorem CutsAt.src {w : World} {b off : Nat} {l : List CutL} {k m : Nat} (h : CutsAt w (some ⟨b, off, none⟩) l) (hkm : k + m ≤ l.length) : SrcOf w (some ⟨b, off + k * 7, none⟩) m 7 (cellsK ((l.drop k).take m)) := by
  have hlen : ((l.drop k).take m).length = m := by rw [List.length_take, List.length_drop]; omega
  refine ⟨by rw [cellsK_len, hlen], (fun e => by cases e), fun ad e j u hj => ?_⟩
  injection e with e; subst e
  have hj7 : j < m * 7 := by
    rcases Nat.lt_or_ge j (m * 7) with h' | h'
    · exact h'
    · rw [List.getElem?_eq_none (by rw [cellsK_len, hlen]; exact h')] at hj; cases hj
  have ej : j / 7 * 7 + j % 7 = j := by omega
  have hi : j / 7 < m := by omega
  rw [← ej, cellsK_get _ _ _ (by omega) (Nat.mod_lt _ (by omega))] at hj
  have en : nthC ((l.drop k).take m) (j / 7) = nthC l (k + j / 7) := by simp [nthC, hi]
  rw [en] at hj
  have := row7_get (h.lay (k := k + j / 7) (by omega)).2 hj
  have e2 : off + (k + j / 7) * 7 + j % 7 = off + k * 7 + j := by omega
  rw [e2] at this
  unfold Addr.add
  split <;> simp_all
theorem oneK (l : List CutL) : ∀ u ∈ cellsK l, u.oneCell' = true := by
  intro u hu
  simp only [cellsK, List.mem_flatMap] at hu
  obtain ⟨s, _, hu⟩ := hu
  simp at hu
  rcases hu with rfl | rfl | rfl | rfl | rfl | rfl | rfl <;> rfl

/-- a cut into its place -/
def putL : List CutL → CutL → List CutL
  | [], c => [c]
  | x :: l, c => if cmpC x c < 0 then x :: putL l c else if cmpC x c = 0 then x :: l else c :: x :: l
theorem putL_low : ∀ (l : List CutL) (c : CutL) (k : Nat), k ≤ l.length → (∀ j, j < k → cmpC (nthC l j) c < 0) → putL l c = l.take k ++ putL (l.drop k) c
  | l, c, 0, _, _ => by simp
  | [], c, k + 1, h, _ => by simp at h
  | x :: l, c, k + 1, h, hl => by
    have h0 : cmpC x c < 0 := hl 0 (by omega)
    have ih := putL_low l c k (by simpa using h) (fun j hj => hl (j + 1) (by omega))
    rw [putL, if_pos h0, ih]; rfl
theorem putL_end {l : List CutL} {c : CutL} (h : ∀ j, j < l.length → cmpC (nthC l j) c < 0) : putL l c = l ++ [c] := by
  rw [putL_low l c l.length (Nat.le_refl _) h]; simp [putL]
theorem drop_nthC {l : List CutL} {k : Nat} (h : k < l.length) : l.drop k = nthC l k :: l.drop (k + 1) := by
  rw [nthC_lt h]; exact List.drop_eq_getElem_cons h
theorem putL_eq {l : List CutL} {c : CutL} {k : Nat} (hk : k < l.length) (h : ∀ j, j < k → cmpC (nthC l j) c < 0) (h0 : cmpC (nthC l k) c = 0) : putL l c = l := by
  rw [putL_low l c k (by omega) h, drop_nthC hk, putL, if_neg (by omega), if_pos h0, ← drop_nthC hk, List.take_append_drop]
theorem putL_mid {l : List CutL} {c : CutL} {k : Nat} (hk : k < l.length) (h : ∀ j, j < k → cmpC (nthC l j) c < 0) (h0 : 0 < cmpC (nthC l k) c) : putL l c = l.take k ++ c :: l.drop k := by
  rw [putL_low l c k (by omega) h, drop_nthC hk, putL, if_neg (by omega), if_neg (by omega)]
def PutPost (w : World) (l : List CutL) (e : Ending) (w' : World) : Prop := ∃ A c, e = .returned (.slice A l.length c) ∧ l.length ≤ c ∧ CutsAt w' A l ∧ Below w.heap.size w w'
def fitK (l : List CutL) : Prop := ∀ i, i < l.length → (nthC l i).fit

def lowTo (l : List CutL) (c : CutL) (k : Nat) : Prop := ∀ j, j < k → cmpC (nthC l j) c < 0
theorem lowTo_step {l : List CutL} {c : CutL} {k : Nat} (h : lowTo l c k) (h1 : cmpC (nthC l k) c < 0) : lowTo l c (k + 1) := by
  intro j hj
  rcases Nat.lt_or_ge j k with h' | h'
  · exact h j h'
  · obtain rfl : j = k := by omega
    exact h1

theorem below_alloc {w w' : World} (h : Below w.heap.size w w') (o : Obj) : Below w.heap.size w (w'.alloc o) := h.alloc h.size o
theorem oneK1 (c : CutL) : ∀ u ∈ c.cells, u.oneCell' = true := by
  have := oneK [c]
  simpa [cellsK] using this
theorem addr_add (b o j : Nat) : (Addr.mk b o none).add j = ⟨b, o + j, none⟩ := by
  unfold Addr.add
  split <;> simp_all
theorem src_of_box {w : World} {g : Nat} {cs : List Value} {size : Nat} (h : Box w g cs) (hl : cs.length = size) : SrcOf w (some ⟨g, 0, none⟩) 1 size cs := by
  refine ⟨by omega, (fun e => by cases e), fun ad e j u hj => ?_⟩
  injection e with e; subst e
  rw [addr_add, Nat.zero_add]; exact h.2 j u hj
theorem src_box (w : World) (c : CutL) : SrcOf (w.alloc (.cells c.cells.toArray 35)) (some ⟨w.heap.size, 0, none⟩) 1 7 c.cells := src_of_box (Box.new w c.cells _) rfl
theorem put_end {w w2 w5 : World} {base k m : Nat} {v3 : Value} {l l' : List CutL} {c : CutL} (h : w5.ownsRow base 35 7 v3 (0 + k + 1 + m) ([] ++ cellsK (l.take k) ++ c.cells ++ cellsK (l.drop k)))
    (hE : l' = l.take k ++ c :: l.drop k) (hk : k ≤ l.length) (hm : m = l.length - k) (hb : Below w.heap.size w w2) (hb5 : Below w2.heap.size w2 w5) : PutPost w l' (.returned v3) w5 := by
  subst hE
  have e : [] ++ cellsK (l.take k) ++ c.cells ++ cellsK (l.drop k) = cellsK (l.take k ++ c :: l.drop k) := by simp [cellsK]
  have el : 0 + k + 1 + m = (l.take k ++ c :: l.drop k).length := by
    rw [List.length_append, List.length_cons, List.length_take, List.length_drop]; omega
  rw [e, el] at h
  obtain ⟨A, cap, hv, hc, hA⟩ := CutsAt.own h (by simp)
  exact ⟨A, cap, by rw [hv], hc, hA, below_tr hb hb5⟩
theorem src_cut {w : World} {b off n cap k : Nat} {l : List CutL} (h : CutsAt w (some ⟨b, off, none⟩) l) (hn : l.length = n) (hk : k ≤ n) (hc : n ≤ cap) :
    SrcOf w (if cap = k then some ⟨b, off, none⟩ else some ⟨b, off + k * 7, none⟩) (n - k) 7 (cellsK (l.drop k)) := by
  have h2 := h.src (k := k) (m := n - k) (by omega)
  rw [List.take_of_length_le (by rw [List.length_drop]; omega)] at h2
  split
  · have e : l.drop k = [] := List.drop_eq_nil_of_le (by omega)
    rw [e]
    refine ⟨by simp [cellsK]; omega, (fun e => by cases e), fun ad _ j u hj => by simp [cellsK] at hj⟩
  · exact h2
theorem src_cut0 {w : World} {b off n cap k : Nat} {l : List CutL} (h : CutsAt w (some ⟨b, off, none⟩) l) (hn : l.length = n) (hk : k = n) (hc : n ≤ cap) :
    SrcOf w (if cap = k then some ⟨b, off, none⟩ else some ⟨b, off + k * 7, none⟩) 0 7 (cellsK (l.drop k)) := by
  subst hk
  have := src_cut h hn (Nat.le_refl _) hc
  rwa [Nat.sub_self] at this
theorem src_box2 {w w1 : World} {c : CutL} (h : Below (w.alloc (.cells c.cells.toArray 35)).heap.size (w.alloc (.cells c.cells.toArray 35)) w1) : SrcOf w1 (some ⟨w.heap.size, 0, none⟩) 1 7 c.cells := src_of_box ((Box.new w c.cells _).below h) rfl

set_option maxRecDepth 100000 in
set_option maxHeartbeats 4000000 in
theorem put_any (A : Option Addr) (cap : Nat) (l : List CutL) (c : CutL) (w : World) (hl : CutsAt w A l) (hne : 0 < l.length) (hf : fitK l) (hcap : l.length ≤ cap) (hln : l.length ≤ 100000) (hcf : c.fit) : Calls Try.prog 58 #[.slice A l.length cap, c.val] w (PutPost w (putL l c)) := by
  obtain ⟨b, off, rfl, _⟩ := hl.at_ hne
  have HF := hid hf
  have HL := hid (hl.below (below_new w (.cells c.cells.toArray 35)))
  have HB0 := hid (Box.new w c.cells 35)
  have hbn := hid (below_new w (.cells c.cells.toArray 35))
  have HP := hid hl
  clear hl hf
  generalize hn : l.length = n at *
  have HN := hid hn
  clear hn
  go_enter Try.func58, Try.ntmps58
  go_wp2_with fail
  go_loopw [5] (fun i wr => ∃ k : Nat, i = .int .i64 k ∧ k ≤ n ∧ Hid (CutsAt wr (some ⟨b, off, none⟩) l) ∧ Hid (Box wr w.heap.size c.cells) ∧ Hid (lowTo l c k) ∧ Below w.heap.size w wr) (fun i _ => n - (intOf i).toNat)
  case atStart => exact ⟨0, rfl, Nat.zero_le _, HL, HB0, fun j hj => by omega, hbn.out⟩
  case round =>
    obtain ⟨k, rfl, hk, HS, HB, HM, hbr⟩ := hrel
    have hgb := HB.out.1
    have i0 : (0 : Int) ≤ (k : Int) := by omega
    by_cases hlt : k < n
    · have hlt' : k < l.length := by rw [HN.out]; exact hlt
      obtain ⟨hbl, x0, x1, x2, x3, x4, x5, x6⟩ := HS.out.lay (k := k) hlt'
      have i1 : (k : Int) < (n : Int) := by omega
      have hfk := HF.out k hlt'
      generalize hsk : nthC l k = s at *
      have HK := hid hsk
      clear hsk
      obtain ⟨f0, f1, f2, f3, f4, f5, f6⟩ := HB.out.get7
      cases hd1 : decide (cmpC s c < 0)
      · have hbw := bw_cell
        go_wp2_with fail
        refine wp_region_below (by kernel_rfl) (by kernel_rfl) ?_
        repeat (go_big_quiet_step ((go_at_call 43; exact bw_int (rccompare_any s c _ hfk hcf))))
        refine wpQuiet_nil ?_
        rintro _ ⟨z, rfl⟩
        clear hbw x0 x1 x2 x3 x4 x5 x6 f0 f1 f2 f3 f4 f5 f6
        go_wp2_with fail
        have HS1 := hid (HS.out.below z.ok)
        have HB1 := hid (HB.out.below z.ok)
        have hb1 := below_tr hbr z.ok
        clear HS HB hbr HB0 HL hbn hgb
        generalize z.v = w1 at *
        clear z
        obtain ⟨hbl, x0, x1, x2, x3, x4, x5, x6⟩ := HS1.out.lay (k := k) hlt'
        simp only [HK.out] at x0 x1 x2 x3 x4 x5 x6
        obtain ⟨f0, f1, f2, f3, f4, f5, f6⟩ := HB1.out.get7
        have hgb := HB1.out.1
        have hbw := bw_cell
        cases hd2 : (cmpC s c == 0)
        · have HE := hid (show putL l c = l.take k ++ c :: l.drop k from putL_mid hlt' HM.out (by rw [HK.out]; simp at hd1 hd2; omega))
          refine wp_region_below (by kernel_rfl) (by kernel_rfl) ?_
          repeat (go_big_quiet_step ((go_at_call 43; exact bw_int (rccompare_any s c _ hfk hcf))))
          refine wpQuiet_nil ?_
          rintro _ ⟨z, rfl⟩
          clear hbw x0 x1 x2 x3 x4 x5 x6 f0 f1 f2 f3 f4 f5 f6 hd1 hd2 hgb
          go_wp2_with fail
          have HS2 := hid (HS1.out.below z.ok)
          have HB2 := hid (HB1.out.below z.ok)
          have hb2 := below_tr hb1 z.ok
          clear HS1 HB1 hb1
          generalize z.v = w2 at *
          clear z
          go_wp2_with fail
          obtain ⟨f0, f1, f2, f3, f4, f5, f6⟩ := HB2.out.get7
          have hgb := HB2.out.1
          have hM : maxLen = 9223372036854775807 := rfl
          have hcc : (k : Int) ≤ (cap : Int) := by omega
          have hck : (k : Int) ≤ (n : Int) := by omega
          have hcn : (n : Int) ≤ (cap : Int) := by omega
          have i00 : (0 : Int) ≤ (0 : Int) := by omega
          have HA1 := hid (fun w' (h : Below w2.heap.size w2 w') => (((HS2.out.below h).src (k := 0) (m := k) (by have := HN.out; omega))))
          have HA2 := hid (fun w' (h : Below w2.heap.size w2 w') => src_cut (cap := cap) (HS2.out.below h) (k := k) (n := n) (by have := HN.out; omega) (by omega) (by omega))
          have HBX := hid (fun w' (h : Below w2.heap.size w2 w') => (HB2.out.below h).get7)
          have hsz := hid (fun w' (h : Below w2.heap.size w2 w') => h.size)
          simp only [Nat.zero_mul, Nat.add_zero, List.drop_zero] at HA1
          go_region_held3 (fun w' => w'.cell? ⟨w.heap.size, 0, none⟩ = some (.int .i64 c.en) ∧ w'.cell? ⟨w.heap.size, 1, none⟩ = some (.int .i64 c.v.maj) ∧ w'.cell? ⟨w.heap.size, 2, none⟩ = some (.int .i64 c.v.min) ∧ w'.cell? ⟨w.heap.size, 3, none⟩ = some (.int .i64 c.v.pat) ∧ w'.cell? ⟨w.heap.size, 4, none⟩ = some (.string c.v.pre) ∧ w'.cell? ⟨w.heap.size, 5, none⟩ = some (.string c.v.bld) ∧ w'.cell? ⟨w.heap.size, 6, none⟩ = some (.bool c.aft))
            (first | (exact HBX.out _ (by first | assumption | exact (Below.refl _ _).drew | exact below_alloc (by assumption) _ | exact below_alloc ((Below.refl _ _).drew) _)) | go_keep)
            (first
              | (refine step_appx EKcuts (by rfl) (.const (.slice none 0 0)) (.tmp 37) (by rfl) (by rfl) (World.ownsRow_nil _ _ _ _) (by rfl) (HA1.out _ (by first | assumption | exact (Below.refl _ _).drew | exact below_alloc (by assumption) _ | exact below_alloc ((Below.refl _ _).drew) _)) (oneK _) (by omega) (by omega) (Nat.le_refl _) ?_; intro v1 w3 h2 h3 h4; have hb3 : Below w2.heap.size w2 w3 := below_tr (by first | assumption | exact (Below.refl _ _).drew | exact below_alloc (by assumption) _ | exact below_alloc ((Below.refl _ _).drew) _) h3)
              | (refine step_appx EKcuts (by rfl) (.tmp 38) (.tmp 40) (by rfl) (by rfl) (h2.alloc _) (by rfl) (src_box _ _) (oneK1 c) (by omega) (by omega) (Nat.le_trans h3.size (by simp)) ?_; intro v2 w4 h5 h6 h7; have hb4 : Below w2.heap.size w2 w4 := Below.trans ((below_alloc hb3 _)) (h6.mono (hsz.out _ (by first | assumption | exact (Below.refl _ _).drew | exact below_alloc (by assumption) _ | exact below_alloc ((Below.refl _ _).drew) _))))
              | (refine step_appx EKcuts (by rfl) (.tmp 38) (.tmp 40) (by rfl) (by rfl) h2 (by rfl) (src_box2 (w := w2.drew) (c := c) h3) (oneK1 c) (by omega) (by omega) h3.size ?_; intro v2 w4 h5 h6 h7; have hb4 : Below w2.heap.size w2 w4 := Below.trans hb3 (h6.mono (hsz.out _ (by first | assumption | exact (Below.refl _ _).drew | exact below_alloc (by assumption) _ | exact below_alloc ((Below.refl _ _).drew) _))))
              | (refine step_appx EKcuts (by rfl) (.tmp 41) (.tmp 44) (by rfl) (by rfl) h5 (by rfl) (HA2.out _ (by first | assumption | exact (Below.refl _ _).drew | exact below_alloc (by assumption) _ | exact below_alloc ((Below.refl _ _).drew) _)) (oneK _) (by omega) (by omega) (by first | exact Nat.le_trans h3.size (Nat.le_trans (by simp) h6.size) | exact Nat.le_trans h3.size h6.size) ?_; intro v3 w5 h8 h9 h10; have hb5 : Below w2.heap.size w2 w5 := Below.trans hb4 (h9.mono (hsz.out _ (by first | assumption | exact (Below.refl _ _).drew | exact below_alloc (by assumption) _ | exact below_alloc ((Below.refl _ _).drew) _)))))
          all_goals
            clear f0 f1 f2 f3 f4 f5 f6
            go_wp2_with fail
          all_goals
            go_ret
            exact put_end h8 HE.out (by have := HN.out; omega) (by have := HN.out; omega) hb2 hb5
        · have HE := hid (show putL l c = l from putL_eq hlt' HM.out (by rw [HK.out]; simpa using hd2))
          refine wp_region_below (by kernel_rfl) (by kernel_rfl) ?_
          repeat (go_big_quiet_step ((go_at_call 43; exact bw_int (rccompare_any s c _ hfk hcf))))
          refine wpQuiet_nil ?_
          rintro _ ⟨z, rfl⟩
          clear hbw x0 x1 x2 x3 x4 x5 x6 f0 f1 f2 f3 f4 f5 f6 hd1 hd2 hgb
          go_wp2_with fail
          go_ret
          rw [HE.out]
          exact ⟨some ⟨b, off, none⟩, cap, by rw [HN.out]; rfl, by rw [HN.out]; exact hcap, HS1.out.below z.ok, below_tr hb1 z.ok⟩
      · have hp := hid (show cmpC s c < 0 by simpa using hd1)
        go_wp2_with fail
        have hbw := bw_cell
        refine wp_region_below (by kernel_rfl) (by kernel_rfl) ?_
        repeat (go_big_quiet_step ((go_at_call 43; exact bw_int (rccompare_any s c _ hfk hcf))))
        refine wpQuiet_nil ?_
        rintro _ ⟨z, rfl⟩
        clear hbw x0 x1 x2 x3 x4 x5 x6 f0 f1 f2 f3 f4 f5 f6
        go_wp2_with fail
        go_roundw
        case rel => exact ⟨k + 1, by go_num, by omega, HS.out.below z.ok, HB.out.below z.ok, lowTo_step HM.out (by rw [HK.out]; exact hp.out), below_tr hbr z.ok⟩
        case measure => simp [intOf]; omega
    · obtain rfl : k = n := by omega
      have i2 : ((k : Int) < (k : Int)) = False := by simp
      have HE := hid (show putL l c = l.take k ++ c :: l.drop k by rw [putL_end (by rw [HN.out]; exact HM.out), ← HN.out]; simp)
      go_wp2_with fail
      have hbw := bw_cell
      refine wp_region_below (by kernel_rfl) (by kernel_rfl) ?_
      repeat (go_big_quiet_step (fail))
      refine wpQuiet_nil ?_
      rintro _ ⟨z, rfl⟩
      clear hbw
      go_wp2_with fail
      have HS1 := hid (HS.out.below z.ok)
      have HB1 := hid (HB.out.below z.ok)
      have hb1 := below_tr hbr z.ok
      clear HS HB hbr HB0 HL hbn hgb
      generalize z.v = w1 at *
      clear z
      have hbw := bw_cell
      refine wp_region_below (by kernel_rfl) (by kernel_rfl) ?_
      repeat (go_big_quiet_step (fail))
      refine wpQuiet_nil ?_
      rintro _ ⟨z, rfl⟩
      clear hbw
      go_wp2_with fail
      have HS2 := hid (HS1.out.below z.ok)
      have HB2 := hid (HB1.out.below z.ok)
      have hb2 := below_tr hb1 z.ok
      clear HS1 HB1 hb1
      generalize z.v = w2 at *
      clear z
      obtain ⟨f0, f1, f2, f3, f4, f5, f6⟩ := HB2.out.get7
      have hgb := HB2.out.1
      have hM : maxLen = 9223372036854775807 := rfl
      have hcc : (k : Int) ≤ (cap : Int) := by omega
      have hck : (k : Int) ≤ (k : Int) := by omega
      have hcn : (k : Int) ≤ (cap : Int) := by omega
      have i00 : (0 : Int) ≤ (0 : Int) := by omega
      have HA1 := hid (fun w' (h : Below w2.heap.size w2 w') => (((HS2.out.below h).src (k := 0) (m := k) (by have := HN.out; omega))))
      have HA2 := hid (fun w' (h : Below w2.heap.size w2 w') => src_cut0 (cap := cap) (HS2.out.below h) (k := k) (n := k) (by have := HN.out; omega) (by omega) (by omega))
      have HBX := hid (fun w' (h : Below w2.heap.size w2 w') => (HB2.out.below h).get7)
      have hsz := hid (fun w' (h : Below w2.heap.size w2 w') => h.size)
      simp only [Nat.zero_mul, Nat.add_zero, List.drop_zero] at HA1
      go_region_held3 (fun w' => w'.cell? ⟨w.heap.size, 0, none⟩ = some (.int .i64 c.en) ∧ w'.cell? ⟨w.heap.size, 1, none⟩ = some (.int .i64 c.v.maj) ∧ w'.cell? ⟨w.heap.size, 2, none⟩ = some (.int .i64 c.v.min) ∧ w'.cell? ⟨w.heap.size, 3, none⟩ = some (.int .i64 c.v.pat) ∧ w'.cell? ⟨w.heap.size, 4, none⟩ = some (.string c.v.pre) ∧ w'.cell? ⟨w.heap.size, 5, none⟩ = some (.string c.v.bld) ∧ w'.cell? ⟨w.heap.size, 6, none⟩ = some (.bool c.aft))
        (first | (exact HBX.out _ (by first | assumption | exact (Below.refl _ _).drew | exact below_alloc (by assumption) _ | exact below_alloc ((Below.refl _ _).drew) _)) | go_keep)
        (first
          | (refine step_appx EKcuts (by rfl) (.const (.slice none 0 0)) (.tmp 37) (by rfl) (by rfl) (World.ownsRow_nil _ _ _ _) (by rfl) (HA1.out _ (by first | assumption | exact (Below.refl _ _).drew | exact below_alloc (by assumption) _ | exact below_alloc ((Below.refl _ _).drew) _)) (oneK _) (by omega) (by omega) (Nat.le_refl _) ?_; intro v1 w3 h2 h3 h4; have hb3 : Below w2.heap.size w2 w3 := below_tr (by first | assumption | exact (Below.refl _ _).drew | exact below_alloc (by assumption) _ | exact below_alloc ((Below.refl _ _).drew) _) h3)
          | (refine step_appx EKcuts (by rfl) (.tmp 38) (.tmp 40) (by rfl) (by rfl) (h2.alloc _) (by rfl) (src_box _ _) (oneK1 c) (by omega) (by omega) (Nat.le_trans h3.size (by simp)) ?_; intro v2 w4 h5 h6 h7; have hb4 : Below w2.heap.size w2 w4 := Below.trans ((below_alloc hb3 _)) (h6.mono (hsz.out _ (by first | assumption | exact (Below.refl _ _).drew | exact below_alloc (by assumption) _ | exact below_alloc ((Below.refl _ _).drew) _))))
          | (refine step_appx EKcuts (by rfl) (.tmp 38) (.tmp 40) (by rfl) (by rfl) h2 (by rfl) (src_box2 (w := w2.drew) (c := c) h3) (oneK1 c) (by omega) (by omega) h3.size ?_; intro v2 w4 h5 h6 h7; have hb4 : Below w2.heap.size w2 w4 := Below.trans hb3 (h6.mono (hsz.out _ (by first | assumption | exact (Below.refl _ _).drew | exact below_alloc (by assumption) _ | exact below_alloc ((Below.refl _ _).drew) _))))
          | (refine step_appx EKcuts (by rfl) (.tmp 41) (.tmp 44) (by rfl) (by rfl) h5 (by rfl) (HA2.out _ (by first | assumption | exact (Below.refl _ _).drew | exact below_alloc (by assumption) _ | exact below_alloc ((Below.refl _ _).drew) _)) (oneK _) (by omega) (by omega) (by first | exact Nat.le_trans h3.size (Nat.le_trans (by simp) h6.size) | exact Nat.le_trans h3.size h6.size) ?_; intro v3 w5 h8 h9 h10; have hb5 : Below w2.heap.size w2 w5 := Below.trans hb4 (h9.mono (hsz.out _ (by first | assumption | exact (Below.refl _ _).drew | exact below_alloc (by assumption) _ | exact below_alloc ((Below.refl _ _).drew) _)))))
      all_goals
        clear f0 f1 f2 f3 f4 f5 f6
        go_wp2_with fail
      all_goals
        go_ret
        exact put_end h8 HE.out (by have := HN.out; omega) (by have := HN.out; omega) hb2 hb5
end Go.Proofs.Ytodicnjoimoiiaa
