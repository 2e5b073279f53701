/- Parts 17 of the proofs. -/
import Derived.Test.YtlmkglgjdmjnkaaGreatDoorQ16
namespace Go.Proofs.YtlmkglgjdmjnkaaGreatDoor
open Go.RowKit Go.Lib
open Rw
set_option linter.unusedVariables false
set_option linter.unusedSimpArgs false
theorem mask_keep {o : Option Nat} {g B : Nat} {w w' : World} (h : Keep (some g) w w') (hg : g < B) : Mono (mask w B o) (mask w' B o) := mask_mono h.1 fun k hk h1 h2 => ⟨⟨h1, h2⟩, h.2 k hk (fun e => by injection e with e; omega)⟩
theorem Deep.keep {α : Type} {T : TypeId} {n : Nat} {f : α → List Value} {Sub : World → α → Prop} {w w' : World} {base g : Nat} {v : Value} {ps : List α} (hm : ∀ (w w' : World) (p : α), Mono w w' → Sub w p → Sub w' p) (h : Deep T n f Sub w base v ps) (k : Keep (some g) w w') (hg : g < base) : Deep T n f Sub w' base v ps :=
  ⟨own_keep h.1 fun q hq => k.2 q (World.ownsRow.lt h.1 q hq).2 (fun e => by injection e with e; have := (World.ownsRow.lt h.1 q hq).1; omega), fun p hp => hm _ _ _ (mask_keep k hg) (h.2 p hp)⟩
theorem Deep.low {α : Type} {T : TypeId} {n : Nat} {f : α → List Value} {Sub : World → α → Prop} {w : World} {base B : Nat} {v : Value} {ps : List α} (hm : ∀ (w w' : World) (p : α), Mono w w' → Sub w p → Sub w' p) (h : Deep T n f Sub w base v ps) (hb : B ≤ base) : Deep T n f Sub w B v ps :=
  ⟨own_lowB h.1 hb, fun p hp => hm _ _ _ (mask_mono (Nat.le_refl _) fun k _ h1 h2 => ⟨⟨by omega, h2⟩, rfl⟩) (h.2 p hp)⟩
structure RR (w wr : World) (g : Nat) (z : Value) (i : Nat) (u : World) : Prop where
  keep : Keep (some g) wr u
  ctr : Own w.heap.size u g [z, .int .i64 (i : Int)]
  kb : KB w.heap.size w u
theorem RR.more {w wr u u' : World} {g i : Nat} {z : Value} (h : RR w wr g z i u) (hb : KB u.heap.size u u') : RR w wr g z i u' := ⟨h.keep.trans (Keep.kb hb), h.ctr.kb hb, kb_tr h.kb hb⟩
theorem RR.next {w wr u : World} {g i : Nat} {z : Value} (h : RR w wr g z i u) : RR w wr g z (i + 1) ((u.setCell ⟨g, 1, none⟩ (.int .i64 ((i : Int) + 1))).drew) :=
  ⟨(h.keep.put _ (.inl rfl)).trans (Keep.kb (kb_drewJ (kb_refl _))), (h.ctr.put (j := 1) (by simp) _).kb (kb_drewJ (kb_refl _)), kb_drewJ (kb_putJ h.kb h.ctr.low _)⟩
theorem RR.put {w wr u : World} {g i k j : Nat} {z : Value} (h : RR w wr g z i u) (hk : wr.heap.size ≤ k) (hw : w.heap.size ≤ wr.heap.size) (hg : g ≠ k) (x : Value) : RR w wr g z i (u.setCell ⟨k, j, none⟩ x) :=
  ⟨h.keep.put x (.inr hk), h.ctr.other hg x, kb_putJ h.kb (Nat.le_trans hw hk) x⟩
theorem RR.set9 {w wr u : World} {g i k : Nat} {z : Value} (h : RR w wr g z i u) (hk : wr.heap.size ≤ k) (hw : w.heap.size ≤ wr.heap.size) (hg : g ≠ k) (b0 b1 b2 b3 b4 b5 b6 b7 b8 : Value) : RR w wr g z i (((((((((u.setCell ⟨k, 0, none⟩ b0).setCell ⟨k, 1, none⟩ b1).setCell ⟨k, 2, none⟩ b2).setCell ⟨k, 3, none⟩ b3).setCell ⟨k, 4, none⟩ b4).setCell ⟨k, 5, none⟩ b5).setCell ⟨k, 6, none⟩ b6).setCell ⟨k, 7, none⟩ b7).setCell ⟨k, 8, none⟩ b8) :=
  ((((((((h.put hk hw hg b0).put hk hw hg b1).put hk hw hg b2).put hk hw hg b3).put hk hw hg b4).put hk hw hg b5).put hk hw hg b6).put hk hw hg b7).put hk hw hg b8
theorem RR.own {w wr u u' : World} {g i i' B b : Nat} {z : Value} {cs : List Value} (h : Keep (some g) u u') (hO : Own B u b cs) (hb : g ≠ b) : Own B u' b cs := h.own hO (fun e => by injection e with e; exact hb e)
def cnt7 (d : Nat → Bool) : Nat := (if d 6 then 1 else 0) + (if d 11 then 1 else 0) + (if d 15 then 1 else 0)
def shL : List ByteArray := [⟨#[109, 97, 105, 110]⟩, ⟨#[115, 105, 100, 101]⟩, ⟨#[]⟩]
theorem nm_at {k : Nat} (h : k < 4) : (nmsL.map Value.string)[k]? = some (.string (nmsL.getD k ⟨#[]⟩)) := by
  rcases k with _ | _ | _ | _ | k
  · rfl
  · rfl
  · rfl
  · rfl
  · omega
theorem sh_at {k : Nat} (h : k < 3) : (shL.map Value.string)[k]? = some (.string (shL.getD k ⟨#[]⟩)) := by
  rcases k with _ | _ | _ | k
  · rfl
  · rfl
  · rfl
  · omega
theorem vr_at {q : Nat} (h : q < 4) : ∃ v : Ver, ∀ j u, v.cells[j]? = some u → (vrsL.flatMap Ver.cells)[q * 5 + j]? = some u := by
  refine ⟨vrsL.getD q ⟨0, 0, 0, ⟨#[]⟩, ⟨#[]⟩⟩, fun j u hj => ?_⟩
  have hj5 : j < 5 := by
    have := (List.getElem?_eq_some_iff.1 hj).1
    simpa using this
  rw [← hj]
  rcases q with _ | _ | _ | _ | q
  all_goals first | omega | skip
  all_goals (rcases j with _ | _ | _ | _ | _ | j)
  all_goals first | rfl | omega
def F7 (w : World) (gG k : Nat) (m : Nat) (d : Nat → Bool) (x : World) (v : Value) : Prop := match m with
  | 0 => d 19 = false → ∃ g, v = .slice (some ⟨g, 0, none⟩) 4 4 ∧ gG ≠ g ∧ Own w.heap.size x g (nmsL.map Value.string)
  | 1 => v = .int .i64 (k : Int)
  | 2 => d 19 = false → ∃ g, v = .pointer (some ⟨g, k, none⟩) ∧ gG ≠ g ∧ Own w.heap.size x g (nmsL.map Value.string)
  | 3 => v = .string (nmsL.getD k ⟨#[]⟩)
  | 4 => d 19 = false → ∃ g, v = .slice (some ⟨g, 0, none⟩) 4 4 ∧ gG ≠ g ∧ Own w.heap.size x g (vrsL.flatMap Ver.cells)
  | 5 => v = .pointer (some ⟨gG, 0, none⟩)
  | 6 => ∃ q : Nat, q < 4 ∧ v = .int .i64 (q : Int)
  | 7 => d 19 = false → ∃ g q, q < 4 ∧ v = .pointer (some ⟨g, q * 5, none⟩) ∧ gG ≠ g ∧ Own w.heap.size x g (vrsL.flatMap Ver.cells)
  | 8 => ∃ vv : Ver, v = vv.val
  | 9 => d 19 = false → ∃ g, v = .slice (some ⟨g, 0, none⟩) 3 3 ∧ gG ≠ g ∧ Own w.heap.size x g (shL.map Value.string)
  | 10 => v = .pointer (some ⟨gG, 0, none⟩)
  | 11 => ∃ q : Nat, q < 3 ∧ v = .int .i64 (q : Int)
  | 12 => d 19 = false → ∃ g q, q < 3 ∧ v = .pointer (some ⟨g, q, none⟩) ∧ gG ≠ g ∧ Own w.heap.size x g (shL.map Value.string)
  | 13 => ∃ s : ByteArray, v = .string s
  | 14 => v = .pointer (some ⟨gG, 0, none⟩)
  | 15 => ∃ q : Int, 0 ≤ q ∧ q < 1073741824 ∧ v = .int .i64 q
  | 16 => ∃ q : Int, v = .int .u64 q
  | 17 => ∃ l : LockL, l.feats = [] ∧ l.name = nmsL.getD k ⟨#[]⟩ ∧ v = l.val ⟨none, 0⟩
  | _ => True
theorem more_19 {d : Nat → Bool} {j : Nat} (h : more d j 19 = false) : j ≠ 19 ∧ d 19 = false := by
  unfold more at h
  split at h
  · cases h
  · rename_i e; exact ⟨fun q => e q.symm, h⟩
theorem F7.mv {w x x' : World} {gG k m j : Nat} {d : Nat → Bool} {u : Value} (hk : j ≠ 19 → Keep (some gG) x x') (h : F7 w gG k m d x u) : F7 w gG k m (more d j) x' u := by
  unfold F7 at h ⊢
  split at h
  all_goals first
    | exact h
    | (intro hd
       obtain ⟨h1, h2⟩ := more_19 hd
       obtain ⟨g, e1, e2, e3⟩ := h h2
       exact ⟨g, e1, e2, (hk h1).own e3 (fun e => by injection e with e; exact e2 e)⟩)
    | (intro hd
       obtain ⟨h1, h2⟩ := more_19 hd
       obtain ⟨g, q, e0, e1, e2, e3⟩ := h h2
       exact ⟨g, q, e0, e1, e2, (hk h1).own e3 (fun e => by injection e with e; exact e2 e)⟩)
def W7 (w wr : World) (gG : Nat) (z : Value) (i : Nat) (nm : ByteArray) (d : Nat → Bool) (x : World) (T : Nat → Value) : Prop :=
  RR w wr gG z (i + cnt7 d) x ∧ (d 18 = true → ∃ (g : Nat) (l : LockL), wr.heap.size ≤ g ∧ gG ≠ g ∧ T 18 = .pointer (some ⟨g, 0, none⟩) ∧ Own w.heap.size x g (l.cells ⟨none, 0⟩) ∧ l.feats = [] ∧ (d 19 = true → l.name = nm))
theorem W7.mv {w wr x x' : World} {gG i j : Nat} {z v : Value} {nm : ByteArray} {d : Nat → Bool} {T : Nat → Value} (h : W7 w wr gG z i nm d x T) (h18 : 18 ≠ j) (h19 : 19 ≠ j) (hr : RR w wr gG z (i + cnt7 (more d j)) x') (hk : Keep (some gG) x x') : W7 w wr gG z i nm (more d j) x' (upd T j v) := by
  refine ⟨hr, fun hd => ?_⟩
  have e18 : more d j 18 = d 18 := by unfold more; rw [if_neg h18]
  have e19 : more d j 19 = d 19 := by unfold more; rw [if_neg h19]
  rw [e18] at hd
  obtain ⟨g, l, a1, a2, a3, a4, a5, a6⟩ := h.2 hd
  exact ⟨g, l, a1, a2, by unfold upd; rw [if_neg h18]; exact a3, hk.own a4 (fun e => by injection e with e; exact a2 e), a5, by rw [e19]; exact a6⟩
theorem cnt7_q {d : Nat → Bool} {j : Nat} (h6 : 6 ≠ j) (h11 : 11 ≠ j) (h15 : 15 ≠ j) : cnt7 (more d j) = cnt7 d := by
  unfold cnt7 more
  rw [if_neg h6, if_neg h11, if_neg h15]
theorem cnt7_n {d : Nat → Bool} {j : Nat} (hj : j = 6 ∨ j = 11 ∨ j = 15) (hd : d j = false) : cnt7 (more d j) = cnt7 d + 1 := by
  unfold cnt7 more
  rcases hj with rfl | rfl | rfl <;> simp [hd] <;> omega
theorem cnt7_le (d : Nat → Bool) : cnt7 d ≤ 3 := by
  unfold cnt7
  split <;> split <;> split <;> omega
theorem W7.q {w wr x : World} {gG i j : Nat} {z v : Value} {nm : ByteArray} {d : Nat → Bool} {T : Nat → Value} (h : W7 w wr gG z i nm d x T) (hj : (j != 6 && j != 11 && j != 15 && j != 18 && j != 19) = true) : W7 w wr gG z i nm (more d j) x (upd T j v) := by
  simp only [Bool.and_eq_true, bne_iff_ne] at hj
  exact h.mv (Ne.symm hj.1.2) (Ne.symm hj.2) (by rw [cnt7_q (Ne.symm hj.1.1.1.1) (Ne.symm hj.1.1.1.2) (Ne.symm hj.1.1.2)]; exact h.1) (Keep.refl _ _)
theorem W7.kb {w wr x x' : World} {gG i j : Nat} {z v : Value} {nm : ByteArray} {d : Nat → Bool} {T : Nat → Value} (h : W7 w wr gG z i nm d x T) (hb : KB x.heap.size x x') (hj : (j != 6 && j != 11 && j != 15 && j != 18 && j != 19) = true) : W7 w wr gG z i nm (more d j) x' (upd T j v) := by
  simp only [Bool.and_eq_true, bne_iff_ne] at hj
  exact h.mv (Ne.symm hj.1.2) (Ne.symm hj.2) (by rw [cnt7_q (Ne.symm hj.1.1.1.1) (Ne.symm hj.1.1.1.2) (Ne.symm hj.1.1.2)]; exact h.1.more hb) (Keep.kb hb)
theorem W7.nx {w wr x : World} {gG i j : Nat} {z v : Value} {nm : ByteArray} {d : Nat → Bool} {T : Nat → Value} (h : W7 w wr gG z i nm d x T) (hj : j = 6 ∨ j = 11 ∨ j = 15) (hd : d j = false) : W7 w wr gG z i nm (more d j) ((x.setCell ⟨gG, 1, none⟩ (.int .i64 (((i + cnt7 d : Nat) : Int) + 1))).drew) (upd T j v) :=
  h.mv (by omega) (by omega) (by rw [cnt7_n hj hd]; exact h.1.next) (((Keep.refl _ _).put _ (.inl rfl)).trans (Keep.kb (kb_drewJ (kb_refl _))))
theorem texts_box {u : World} {g B q : Nat} {cs : List Value} {fs : List ByteArray} (h : Box u g cs) (hB : B ≤ g) (hf : ∀ i (hi : i < fs.length), cs[q + i]? = some (.string fs[i])) : Texts (mask u B none) (some ⟨g, q, none⟩) fs := by
  refine .inr ⟨g, q, rfl, by rw [mask_size]; exact h.1, fun i hi => ?_⟩
  refine mask_cell.2 ⟨⟨hB, fun e => by cases e⟩, ?_⟩
  show u.cell? ⟨g, q + i * 1, none⟩ = _
  rw [Nat.mul_one]
  exact h.2 _ _ (hf i hi)
theorem map_at {fs : List ByteArray} {q i : Nat} (hi : i < (fs.drop q).length) : (fs.map Value.string)[q + i]? = some (.string (fs.drop q)[i]) := by
  rw [List.length_drop] at hi
  rw [List.getElem_drop, List.getElem?_map, List.getElem?_eq_getElem (by omega)]
  rfl
theorem feats_new {u : World} {B k : Nat} (fs : List ByteArray) (hB : B ≤ u.heap.size) (hk : k = u.heap.size) : Texts (mask (u.alloc (.cells (fs.map Value.string).toArray 9)) B none) (some ⟨k, 0, none⟩) fs := by
  subst hk
  have := texts_box (q := 0) (fs := fs) (Box.new u (fs.map Value.string) 9) hB (fun i hi => map_at (q := 0) (by simpa using hi))
  exact this
theorem nms_inj : ∀ j, j < 4 → ∀ k, k < 4 → j ≠ k → nmsL.getD j ⟨#[]⟩ ≠ nmsL.getD k ⟨#[]⟩ := by decide
theorem nms_size : ∀ k, k < 4 → (nmsL.getD k ⟨#[]⟩).size ≤ 9223372036854775807 := by decide
theorem own_sliceG {w : World} {base size n : Nat} {e : TypeId} {v : Value} {xs : List Value} (h : w.ownsRow base e size v n xs) : ∃ A c, v = .slice A n c := by
  rcases h.2 with ⟨rfl, h0⟩ | ⟨g, cap, cur, rfl, h1⟩
  · subst h0; exact ⟨none, 0, rfl⟩
  · exact ⟨_, _, rfl⟩
def fdL : ByteArray := ⟨#[100, 101, 102, 97, 117, 108, 116]⟩
def ffL : ByteArray := ⟨#[102]⟩
def FeatG (w wr : World) (gG g6 : Nat) (z : Value) (l : ByteArray × Ver × ByteArray × Int) (i : Nat) (u : World) : Prop :=
  ∃ (fs : List ByteArray) (h : LockH) (i3 : Nat), i3 ≤ i ∧ Hid (RR w wr gG z i3 u) ∧ Hid (Own w.heap.size u g6 (LockL.cells ⟨l.1, l.2.1, l.2.2.1, l.2.2.2, fs⟩ h)) ∧ Hid (Texts (mask u wr.heap.size none) h.A fs ∧ fs.length ≤ h.c ∧ fs.length ≤ 2)
def LinesG (w : World) (B : Nat) (v : Value) (ps : List LP) : Prop := Deep 33 9 lkC LkSub w B v ps ∧ UnN (ps.map (·.1)) ∧ ps.length ≤ 4
def LockG (w : World) (e : Ending) (w' : World) : Prop := ∃ (s : ByteArray) (v : Value) (ps : List LP), e = .returned (.agg #[.string s, .string ⟨#[]⟩, .string ⟨#[]⟩, v]) ∧ LinesG w' w.heap.size v ps ∧ KB w.heap.size w w'
set_option maxRecDepth 100000 in
set_option maxHeartbeats 8000000 in
theorem glock_any (A : Option Addr) (c : Nat) (zs : List Int) (w : World) (hz : IntsAt w A zs) (hzn : zs.length ≤ 9223372036854775807) : Calls Tryz.prog 18 #[.slice A zs.length c] w (LockG w) := by
  have HN := hid (fun (g i : Nat) (n : Int) (u : World) (hk : KB w.heap.size w u) (hg : w.heap.size ≤ g) (hO : Own w.heap.size u g [.slice A zs.length c, .int .i64 (i : Int)]) (hi : i ≤ 100000) (hn : 0 < n) (hn2 : n ≤ 2000000000) => gnext_any w w.heap.size g A c zs i n u hz hzn hk hg hO hi hn hn2)
  have HBD := hid (fun (i : Nat) (n : Int) (hn : 0 < n) => nextG_bd zs (i : Int) n hn)
  have HE := hid (fun (n : Int) (u : World) => genv_any n u)
  clear hz
  generalize zs.length = zn at *
  generalize nextG zs = nx at *
  go_enter Tryz.func18, Tryz.ntmps18
  go_upto_region 2 with fail
  refine wp_name ?_
  intro u1 hu1
  have hg0 : w.heap.size ≤ w.heap.size + 1 := by omega
  have HO1 := hid (show Own w.heap.size u1 (w.heap.size + 1) [.slice A zn c, .int .i64 ((0 : Nat) : Int)] from by rw [hu1]; exact Own.new2 w _ [.slice A zn c, .int .i64 ((0 : Nat) : Int)] 73 (Nat.le_refl _))
  have HR1 := hid (show Own w.heap.size u1 w.heap.size [.string ⟨#[]⟩, .string ⟨#[]⟩, .string ⟨#[]⟩, .slice none 0 0] from by rw [hu1]; exact (Own.new w [.string ⟨#[]⟩, .string ⟨#[]⟩, .string ⟨#[]⟩, .slice none 0 0] 56 (Nat.le_refl _)).alloc _)
  have HK1 := hid (show KB w.heap.size w u1 from by rw [hu1]; exact kb_tr (kb_new _ _) (kb_new _ _))
  obtain ⟨gr, hgr⟩ : ∃ g, g = w.heap.size := ⟨_, rfl⟩
  obtain ⟨gG, hgG⟩ : ∃ g, g = w.heap.size + 1 := ⟨_, rfl⟩
  have HGR := hid hgr
  have HGG := hid hgG
  rw [← hgG] at HO1
  have HR2 := hid (show Own w.heap.size u1 gr _ from by rw [hgr]; exact HR1.out)
  rw [← hgG, ← hgr]
  clear HR1 hu1 hg0
  clear hgr hgG
  have HX := hid (HN.out gG 0 3 u1 HK1.out (by rw [HGG.out]; omega) HO1.out (by omega) (by omega) (by omega))
  go_wp2_with fail
  refine HX.out.mono ?_
  rintro _ u2 ⟨rfl, hu2⟩
  have HO2 := hid (show Own w.heap.size u2 gG [.slice A zn c, .int .i64 ((1 : Nat) : Int)] from by rw [hu2]; exact (HO1.out.put (j := 1) (by simp) _).kb (kb_drewJ (kb_refl _)))
  have HR3 := hid (show Own w.heap.size u2 gr [.string ⟨#[]⟩, .string ⟨#[]⟩, .string ⟨#[]⟩, .slice none 0 0] from by rw [hu2]; exact (HR2.out.other (by rw [HGG.out, HGR.out]; omega) _).kb (kb_drewJ (kb_refl _)))
  have HK2 := hid (show KB w.heap.size w u2 from by rw [hu2]; exact kb_drewJ (kb_putJ HK1.out (by rw [HGG.out]; omega) _))
  clear hu2 HX HO1 HR2 HK1
  go_wp2_with fail
  refine (HE.out _ u2).mono ?_
  rintro _ u3 ⟨⟨s, rfl⟩, hb⟩
  have HO3 := hid (HO2.out.kb hb)
  have HR4 := hid (HR3.out.kb hb)
  have HK3 := hid (kb_tr HK2.out hb)
  clear hb HO2 HR3 HK2 HE
  go_upto_block 0 with fail
  refine wp_name ?_
  intro wl hwl
  have HOL := hid (show Own w.heap.size wl u3.heap.size [.string s, .string ⟨#[]⟩, .string ⟨#[]⟩, .slice none 0 0] from by rw [hwl]; exact Own.new u3 [.string s, .string ⟨#[]⟩, .string ⟨#[]⟩, .slice none 0 0] 56 HK3.out.size)
  have HO4 := hid (show Own w.heap.size wl gG _ from by rw [hwl]; exact HO3.out.alloc _)
  have HR5 := hid (show Own w.heap.size wl gr _ from by rw [hwl]; exact HR4.out.alloc _)
  have HK4 := hid (show KB w.heap.size w wl from by rw [hwl]; exact kb_tr HK3.out (kb_new _ _))
  obtain ⟨gL, hgL⟩ : ∃ g, g = u3.heap.size := ⟨_, rfl⟩
  have hne : gG < gL ∧ gr < gL := ⟨by rw [hgL]; exact HO3.out.box.1, by rw [hgL]; exact HR4.out.box.1⟩
  have HNE := hid hne
  rw [← hgL] at HOL
  rw [← hgL]
  clear hwl HO3 HR4 HK3 hgL hne
  have hgw := HK4.out.size
  go_wp2_with fail
  go_loopw [5] (fun kv wr => ∃ (k i : Nat) (v : Value) (ps : List LP), kv = .int .i64 (k : Int) ∧ k ≤ 4 ∧ Hid (i ≤ 1 + 8 * k) ∧ Hid (ps.length ≤ k) ∧ Hid (UnN (ps.map (·.1))) ∧ Hid (∀ p ∈ ps, ∃ j, j < k ∧ p.1.name = nmsL.getD j ⟨#[]⟩) ∧ Hid (Deep 33 9 lkC LkSub wr wl.heap.size v ps) ∧ Hid (Own w.heap.size wr gG [.slice A zn c, .int .i64 (i : Int)]) ∧ Hid (Own w.heap.size wr gL [.string s, .string ⟨#[]⟩, .string ⟨#[]⟩, v]) ∧ Hid (Own w.heap.size wr gr [.string ⟨#[]⟩, .string ⟨#[]⟩, .string ⟨#[]⟩, .slice none 0 0]) ∧ Hid (KB w.heap.size w wr) ∧ Hid (wl.heap.size ≤ wr.heap.size)) (fun kv _ => 4 - (intOf kv).toNat)
  case atStart => exact ⟨0, 1, _, [], rfl, by omega, hid (by omega), hid (by simp), hid List.Pairwise.nil, hid (fun p h => by cases h), hid Deep.nil, HO4, HOL, HR5, HK4, hid (Nat.le_refl _)⟩
  case round =>
    have HWL := hid (And.intro HOL.out.box.1 (And.intro HO4.out.box.1 HR5.out.box.1))
    clear HO4 HOL HR5 HK4
    rename World => wr
    obtain ⟨k, i, v, ps, rfl, hk, HI, HPL, HUN, HNM, HDP, HOG, HOL, HOR, HKB, HSZ⟩ := hrel
    have k0 : (0 : Int) ≤ (k : Int) := by omega
    by_cases hlt : k < 4
    · have k1 : (k : Int) < 4 := by omega
      have HRR := hid (show RR w wr gG (.slice A zn c) i wr from ⟨Keep.refl _ _, HOG.out, HKB.out⟩)
      have HX := hid (HN.out gG i 3 wr HKB.out HOG.out.low HOG.out (by have := HI.out; omega) (by omega) (by omega))
      go_wp2_with fail
      refine HX.out.mono ?_
      rintro _ u4 ⟨rfl, hu4⟩
      have HR4 := hid (show RR w wr gG (.slice A zn c) (i + 1) u4 from by rw [hu4]; exact HRR.out.next)
      clear hu4 HX HRR
      by_cases hz0 : nx (i : Int) 3 = 0
      · have hz1 : (nx (i : Int) 3 == 0) = true := by rw [beq_iff_eq]; exact hz0
        go_wp2_with fail
        refine ⟨⟨k + 1, i + 1, v, ps, by go_num, by omega, hid (by have := HI.out; omega), hid (by have := HPL.out; omega), HUN, hid (fun p hp => by obtain ⟨j, h1, h2⟩ := HNM.out p hp; exact ⟨j, by omega, h2⟩), hid (HDP.out.keep LkSub.mono HR4.out.keep HWL.out.2.1), hid HR4.out.ctr, hid (HR4.out.keep.own HOL.out (fun e => by injection e with e; have := HNE.out.1; omega)), hid (HR4.out.keep.own HOR.out (fun e => by injection e with e; have := HGR.out; have := HGG.out; omega)), hid HR4.out.kb, hid (Nat.le_trans HSZ.out HR4.out.keep.1)⟩, ?_⟩
        simp [intOf] <;> omega
      · have hz1 : (nx (i : Int) 3 == 0) = false := by rw [beq_eq_false_iff_ne]; exact hz0
        go_upto_region 7 with fail
        have HCN := hid (fun (d : Nat → Bool) => cnt7_le d)
        have hWS := Nat.le_trans hgw HSZ.out
        have HI8 := hid (show i ≤ 33 from by have := HI.out; omega)
        refine wp_region_T (fun T => { tmps := List.toArray ((.slice A zn c) :: undef :: (.pointer (some ⟨gr, 0, none⟩)) :: (.pointer (some ⟨gG, 0, none⟩)) :: (.pointer (some ⟨gL, 0, none⟩)) :: (.int .i64 (k : Int)) :: T 18 :: (.slice A zn c) :: (.agg #[.slice A zn c, .int .i64 0]) :: (.pointer (some ⟨gG, 0, none⟩)) :: (.pointer (some ⟨gG, 0, none⟩)) :: (.int .i64 (nx 0 3)) :: (.agg #[.string s, .string ⟨#[]⟩, .string ⟨#[]⟩]) :: (.agg #[.string s, .string ⟨#[]⟩, .string ⟨#[]⟩, .slice none 0 0]) :: (.int .i64 (k : Int)) :: (.bool true) :: u16 :: u17 :: (.pointer (some ⟨gG, 0, none⟩)) :: (.int .i64 (nx (i : Int) 3)) :: (.bool false) :: T 0 :: T 1 :: T 2 :: T 3 :: T 4 :: T 5 :: T 6 :: T 7 :: T 8 :: T 9 :: T 10 :: T 11 :: T 12 :: T 13 :: T 14 :: T 15 :: T 16 :: T 17 :: u39 :: u40 :: u41 :: u42 :: u43 :: u44 :: u45 :: u46 :: u47 :: u48 :: u49 :: u50 :: u51 :: u52 :: u53 :: u54 :: u55 :: u56 :: u57 :: u58 :: u59 :: u60 :: u61 :: u62 :: u63 :: u64 :: u65 :: u66 :: u67 :: u68 :: u69 :: u70 :: undef :: []), defers := [] }) (F7 w gG k) (W7 w wr gG (.slice A zn c) (i + 1) (nmsL.getD k ⟨#[]⟩)) (fun m => match m with | 18 => u6 | 0 => u21 | 1 => u22 | 2 => u23 | 3 => u24 | 4 => u25 | 5 => u26 | 6 => u27 | 7 => u28 | 8 => u29 | 9 => u30 | 10 => u31 | 11 => u32 | 12 => u33 | 13 => u34 | 14 => u35 | 15 => u36 | 16 => u37 | 17 => u38 | _ => undef) 20 (by kernel_rfl) (by kernel_rfl) (by kernel_rfl) rfl ⟨by unfold cnt7; exact HR4.out.more (kb_drewJ (kb_refl _)), fun h => by cases h⟩ ?_ ?_
        · intro j hj
          rcases j with _ | _ | _ | _ | _ | _ | _ | _ | _ | _ | _ | _ | _ | _ | _ | _ | _ | _ | _ | _ | j
          all_goals (intro d T x o a ho hd hdep hsh hW hF ha)
          · subst ha
            refine wpOp_step rfl ?_
            intro K' hK'
            go_wp2_with fail
            refine (gnames_any x).mono ?_
            rintro _ x' ⟨rfl, hx'⟩
            go_wp2_with fail
            exact ⟨.slice (some ⟨x.heap.size, 0, none⟩) 4 4, by first | rfl | simp [upd], hW.kb (kb_new _ _) rfl, fun _ => ⟨_, rfl, (Nat.ne_of_lt hW.1.ctr.box.1), Own.new x (nmsL.map Value.string) 9 hW.1.kb.size⟩, fun m u _ h => h.mv fun _ => Keep.kb (kb_new _ _)⟩
          · subst ha
            refine wpOp_step rfl ?_
            intro K' hK'
            go_wp2_with fail
            exact ⟨.int .i64 (k : Int), by first | rfl | simp [upd], hW.q rfl, rfl, fun m u _ h => h.mv fun _ => Keep.refl _ _⟩
          · have h19 : d 19 = false := not_yet hsh (by as_aux_lemma => kernel_rfl) hd
            obtain ⟨g, e0, hne, hO⟩ := hF 0 (dep_of (j := 0) ho (by as_aux_lemma => kernel_rfl) hdep) h19
            have e1 := hF 1 (dep_of (j := 1) ho (by as_aux_lemma => kernel_rfl) hdep)
            dsimp only [F7] at e1
            dsimp only at ha
            rw [e0, e1] at ha
            subst ha
            refine wpOp_step rfl ?_
            intro K' hK'
            go_wp2_with fail
            exact ⟨.pointer (some ⟨g, k, none⟩), by simp [upd, e0, e1], hW.q rfl, fun _ => ⟨g, rfl, hne, hO⟩, fun m u _ h => h.mv fun _ => Keep.refl _ _⟩
          · have h19 : d 19 = false := not_yet hsh (by as_aux_lemma => kernel_rfl) hd
            obtain ⟨g, e2, hne, hO⟩ := hF 2 (dep_of (j := 2) ho (by as_aux_lemma => kernel_rfl) hdep) h19
            have x0 := hO.box.2 k _ (nm_at hlt)
            have xl := hO.box.1
            dsimp only at ha
            rw [e2] at ha
            subst ha
            refine wpOp_step rfl ?_
            intro K' hK'
            go_wp2_with fail
            exact ⟨.string (nmsL.getD k ⟨#[]⟩), by simp [upd, e2], hW.q rfl, rfl, fun m u _ h => h.mv fun _ => Keep.refl _ _⟩
          · subst ha
            refine wpOp_step rfl ?_
            intro K' hK'
            go_wp2_with fail
            refine (gversions_any x).mono ?_
            rintro _ x' ⟨rfl, hx'⟩
            go_wp2_with fail
            exact ⟨.slice (some ⟨x.heap.size, 0, none⟩) 4 4, by first | rfl | simp [upd], hW.kb (kb_new _ _) rfl, fun _ => ⟨_, rfl, (Nat.ne_of_lt hW.1.ctr.box.1), Own.new x (vrsL.flatMap Ver.cells) 29 hW.1.kb.size⟩, fun m u _ h => h.mv fun _ => Keep.kb (kb_new _ _)⟩
          · subst ha
            refine wpOp_step rfl ?_
            intro K' hK'
            go_wp2_with fail
            exact ⟨.pointer (some ⟨gG, 0, none⟩), by first | rfl | simp [upd], hW.q rfl, rfl, fun m u _ h => h.mv fun _ => Keep.refl _ _⟩
          · have e5 := hF 5 (dep_of (j := 5) ho (by as_aux_lemma => kernel_rfl) hdep)
            dsimp only [F7] at e5
            have HX := hid (HN.out gG (i + 1 + cnt7 d) 4 x hW.1.kb hW.1.ctr.low hW.1.ctr (by have := HCN.out d; have := HI8.out; omega) (by omega) (by omega))
            obtain ⟨b1, b2⟩ := HBD.out (i + 1 + cnt7 d) 4 (by omega)
            dsimp only at ha
            rw [e5] at ha
            subst ha
            refine wpOp_step rfl ?_
            intro K' hK'
            go_wp2_with fail
            refine HX.out.mono ?_
            rintro _ x' ⟨rfl, hx'⟩
            go_wp2_with fail
            exact ⟨.int .i64 (nx ((i + 1 + cnt7 d : Nat) : Int) 4), by simp [upd, e5], hW.nx (.inl rfl) hd, ⟨(nx ((i + 1 + cnt7 d : Nat) : Int) 4).toNat, by omega, by rw [Int.toNat_of_nonneg b1]⟩, fun m u _ h => h.mv fun _ => ((Keep.refl _ _).put _ (.inl rfl)).trans (Keep.kb (kb_drewJ (kb_refl _)))⟩
          · have h19 : d 19 = false := not_yet hsh (by as_aux_lemma => kernel_rfl) hd
            obtain ⟨g, e4, hne, hO⟩ := hF 4 (dep_of (j := 4) ho (by as_aux_lemma => kernel_rfl) hdep) h19
            obtain ⟨q, hq, e6⟩ := hF 6 (dep_of (j := 6) ho (by as_aux_lemma => kernel_rfl) hdep)
            have q0 : (0 : Int) ≤ (q : Int) := by omega
            have q1 : (q : Int) < 4 := by omega
            dsimp only at ha
            rw [e4, e6] at ha
            subst ha
            refine wpOp_step rfl ?_
            intro K' hK'
            go_wp2_with fail
            exact ⟨.pointer (some ⟨g, q * 5, none⟩), by simp [upd, e4, e6], hW.q rfl, fun _ => ⟨g, q, hq, rfl, hne, hO⟩, fun m u _ h => h.mv fun _ => Keep.refl _ _⟩
          · have h19 : d 19 = false := not_yet hsh (by as_aux_lemma => kernel_rfl) hd
            obtain ⟨g, q, hq, e7, hne, hO⟩ := hF 7 (dep_of (j := 7) ho (by as_aux_lemma => kernel_rfl) hdep) h19
            obtain ⟨vv, hvv⟩ := vr_at hq
            have x0 := hO.box.2 (q * 5 + 0) _ (hvv 0 _ rfl)
            have x1 := hO.box.2 (q * 5 + 1) _ (hvv 1 _ rfl)
            have x2 := hO.box.2 (q * 5 + 2) _ (hvv 2 _ rfl)
            have x3 := hO.box.2 (q * 5 + 3) _ (hvv 3 _ rfl)
            have x4 := hO.box.2 (q * 5 + 4) _ (hvv 4 _ rfl)
            have xl := hO.box.1
            rw [Nat.add_zero] at x0
            dsimp only at ha
            rw [e7] at ha
            subst ha
            refine wpOp_step rfl ?_
            intro K' hK'
            go_wp2_with fail
            exact ⟨vv.val, by simp [upd, e7], hW.q rfl, ⟨vv, rfl⟩, fun m u _ h => h.mv fun _ => Keep.refl _ _⟩
          · subst ha
            refine wpOp_step rfl ?_
            intro K' hK'
            go_wp2_with fail
            exact ⟨.slice (some ⟨x.heap.size, 0, none⟩) 3 3, by first | rfl | simp [upd], hW.kb (kb_new _ _) rfl, fun _ => ⟨_, rfl, (Nat.ne_of_lt hW.1.ctr.box.1), Own.new x (shL.map Value.string) 9 hW.1.kb.size⟩, fun m u _ h => h.mv fun _ => Keep.kb (kb_new _ _)⟩
          · subst ha
            refine wpOp_step rfl ?_
            intro K' hK'
            go_wp2_with fail
            exact ⟨.pointer (some ⟨gG, 0, none⟩), by first | rfl | simp [upd], hW.q rfl, rfl, fun m u _ h => h.mv fun _ => Keep.refl _ _⟩
          · have e10 := hF 10 (dep_of (j := 10) ho (by as_aux_lemma => kernel_rfl) hdep)
            dsimp only [F7] at e10
            have HX := hid (HN.out gG (i + 1 + cnt7 d) 3 x hW.1.kb hW.1.ctr.low hW.1.ctr (by have := HCN.out d; have := HI8.out; omega) (by omega) (by omega))
            obtain ⟨b1, b2⟩ := HBD.out (i + 1 + cnt7 d) 3 (by omega)
            dsimp only at ha
            rw [e10] at ha
            subst ha
            refine wpOp_step rfl ?_
            intro K' hK'
            go_wp2_with fail
            refine HX.out.mono ?_
            rintro _ x' ⟨rfl, hx'⟩
            go_wp2_with fail
            exact ⟨.int .i64 (nx ((i + 1 + cnt7 d : Nat) : Int) 3), by simp [upd, e10], hW.nx (.inr (.inl rfl)) hd, ⟨(nx ((i + 1 + cnt7 d : Nat) : Int) 3).toNat, by omega, by rw [Int.toNat_of_nonneg b1]⟩, fun m u _ h => h.mv fun _ => ((Keep.refl _ _).put _ (.inl rfl)).trans (Keep.kb (kb_drewJ (kb_refl _)))⟩
          · have h19 : d 19 = false := not_yet hsh (by as_aux_lemma => kernel_rfl) hd
            obtain ⟨g, e9, hne, hO⟩ := hF 9 (dep_of (j := 9) ho (by as_aux_lemma => kernel_rfl) hdep) h19
            obtain ⟨q, hq, e11⟩ := hF 11 (dep_of (j := 11) ho (by as_aux_lemma => kernel_rfl) hdep)
            have q0 : (0 : Int) ≤ (q : Int) := by omega
            have q1 : (q : Int) < 3 := by omega
            dsimp only at ha
            rw [e9, e11] at ha
            subst ha
            refine wpOp_step rfl ?_
            intro K' hK'
            go_wp2_with fail
            exact ⟨.pointer (some ⟨g, q, none⟩), by simp [upd, e9, e11], hW.q rfl, fun _ => ⟨g, q, hq, rfl, hne, hO⟩, fun m u _ h => h.mv fun _ => Keep.refl _ _⟩
          · have h19 : d 19 = false := not_yet hsh (by as_aux_lemma => kernel_rfl) hd
            obtain ⟨g, q, hq, e12, hne, hO⟩ := hF 12 (dep_of (j := 12) ho (by as_aux_lemma => kernel_rfl) hdep) h19
            have x0 := hO.box.2 q _ (sh_at hq)
            have xl := hO.box.1
            dsimp only at ha
            rw [e12] at ha
            subst ha
            refine wpOp_step rfl ?_
            intro K' hK'
            go_wp2_with fail
            exact ⟨.string (shL.getD q ⟨#[]⟩), by simp [upd, e12], hW.q rfl, ⟨_, rfl⟩, fun m u _ h => h.mv fun _ => Keep.refl _ _⟩
          · subst ha
            refine wpOp_step rfl ?_
            intro K' hK'
            go_wp2_with fail
            exact ⟨.pointer (some ⟨gG, 0, none⟩), by first | rfl | simp [upd], hW.q rfl, rfl, fun m u _ h => h.mv fun _ => Keep.refl _ _⟩
          · have e14 := hF 14 (dep_of (j := 14) ho (by as_aux_lemma => kernel_rfl) hdep)
            dsimp only [F7] at e14
            have HX := hid (HN.out gG (i + 1 + cnt7 d) 1073741824 x hW.1.kb hW.1.ctr.low hW.1.ctr (by have := HCN.out d; have := HI8.out; omega) (by omega) (by omega))
            obtain ⟨b1, b2⟩ := HBD.out (i + 1 + cnt7 d) 1073741824 (by omega)
            dsimp only at ha
            rw [e14] at ha
            subst ha
            refine wpOp_step rfl ?_
            intro K' hK'
            go_wp2_with fail
            refine HX.out.mono ?_
            rintro _ x' ⟨rfl, hx'⟩
            go_wp2_with fail
            exact ⟨.int .i64 (nx ((i + 1 + cnt7 d : Nat) : Int) 1073741824), by simp [upd, e14], hW.nx (.inr (.inr rfl)) hd, ⟨_, b1, b2, rfl⟩, fun m u _ h => h.mv fun _ => ((Keep.refl _ _).put _ (.inl rfl)).trans (Keep.kb (kb_drewJ (kb_refl _)))⟩
          · obtain ⟨q, hq0, hq1, e15⟩ := hF 15 (dep_of (j := 15) ho (by as_aux_lemma => kernel_rfl) hdep)
            dsimp only at ha
            rw [e15] at ha
            subst ha
            refine wpOp_step rfl ?_
            intro K' hK'
            go_wp2_with fail
            exact ⟨.int .u64 q, by simp [upd, e15], hW.q rfl, ⟨_, rfl⟩, fun m u _ h => h.mv fun _ => Keep.refl _ _⟩
          · have e3 := hF 3 (dep_of (j := 3) ho (by as_aux_lemma => kernel_rfl) hdep)
            dsimp only [F7] at e3
            obtain ⟨vv, e8⟩ := hF 8 (dep_of (j := 8) ho (by as_aux_lemma => kernel_rfl) hdep)
            obtain ⟨sh, e13⟩ := hF 13 (dep_of (j := 13) ho (by as_aux_lemma => kernel_rfl) hdep)
            obtain ⟨q, e16⟩ := hF 16 (dep_of (j := 16) ho (by as_aux_lemma => kernel_rfl) hdep)
            dsimp only at ha
            rw [e3, e8, e13, e16] at ha
            subst ha
            refine wpOp_step rfl ?_
            intro K' hK'
            go_wp2_with fail
            exact ⟨(LockL.mk (nmsL.getD k ⟨#[]⟩) vv sh q []).val ⟨none, 0⟩, by simp [upd, e3, e8, e13, e16], hW.q rfl, ⟨_, rfl, rfl, rfl⟩, fun m u _ h => h.mv fun _ => Keep.refl _ _⟩
          · subst ha
            refine wpOp_step rfl ?_
            intro K' hK'
            go_wp2_with fail
            exact ⟨.pointer (some ⟨x.heap.size, 0, none⟩), by first | rfl | simp [upd], ⟨by rw [cnt7_q (by decide) (by decide) (by decide)]; exact hW.1.more (kb_new _ _), fun _ => ⟨x.heap.size, zLk, hW.1.keep.1, (Nat.ne_of_lt hW.1.ctr.box.1), rfl, Own.new x (zLk.cells ⟨none, 0⟩) 33 hW.1.kb.size, rfl, fun h => by rw [show more d 18 19 = d 19 from rfl, not_yet hsh (by as_aux_lemma => kernel_rfl) hd] at h; cases h⟩⟩, trivial, fun m u _ h => h.mv fun _ => Keep.kb (kb_new _ _)⟩
          · obtain ⟨g, l0, hg, hne, e18, hO, hf0, -⟩ := hW.2 (dep_of (j := 18) ho (by as_aux_lemma => kernel_rfl) hdep)
            obtain ⟨l, hlf, hln, e17⟩ := hF 17 (dep_of (j := 17) ho (by as_aux_lemma => kernel_rfl) hdep)
            obtain ⟨ln, lv, ls, lm, lf⟩ := l
            dsimp only at hlf hln
            subst hlf
            subst hln
            dsimp only [LockL.val, List.length_nil] at e17
            have x0 := hO.box.2 0 _ rfl
            have x1 := hO.box.2 1 _ rfl
            have x2 := hO.box.2 2 _ rfl
            have x3 := hO.box.2 3 _ rfl
            have x4 := hO.box.2 4 _ rfl
            have x5 := hO.box.2 5 _ rfl
            have x6 := hO.box.2 6 _ rfl
            have x7 := hO.box.2 7 _ rfl
            have x8 := hO.box.2 8 _ rfl
            have xl := hO.box.1
            have sf : ∀ j, x.frozen? ⟨g, j, none⟩ = false := hO.soft
            dsimp only at ha
            rw [e18, e17] at ha
            subst ha
            refine wpOp_step rfl ?_
            intro K' hK'
            go_wp2_with fail
            exact ⟨undef, by simp [upd, e18, e17], ⟨by rw [cnt7_q (by decide) (by decide) (by decide)]; exact hW.1.set9 hg hWS hne _ _ _ _ _ _ _ _ _, fun _ => ⟨g, ⟨nmsL.getD k ⟨#[]⟩, lv, ls, lm, []⟩, hg, hne, by simp [upd, e18], hO.set9 _ _ _ _ _ _ _ _ _, rfl, fun _ => rfl⟩⟩, trivial, fun m u _ h => h.mv fun e => absurd rfl e⟩
          · omega
        · intro d T x hall hW hF a ha
          obtain ⟨g6, l, hg6, hne6, e18, hO6, hlf, hln⟩ := hW.2 (hall 18 (by decide))
          have HLN := hid (hln (hall 19 (by decide)))
          have hc7 : cnt7 d = 3 := by unfold cnt7; rw [hall 6 (by decide), hall 11 (by decide), hall 15 (by decide)]; rfl
          have HRX := hid (show RR w wr gG (.slice A zn c) (i + 4) x from by have := hW.1; rw [hc7] at this; exact this)
          have HO6 := hid hO6
          have HG6 := hid (And.intro hg6 hne6)
          obtain ⟨ln, lv, ls, lm, lf⟩ := l
          dsimp only at hlf HLN
          subst hlf
          try dsimp only at ha
          rw [e18] at ha
          subst ha
          have HWS := hid hWS
          clear hall hW hF hc7 hO6 hln hg6 hne6 e18 hWS HR4
          go_upto_region 8 with fail
          have x2 := HO6.out.box.2 6 _ rfl
          have xl := HO6.out.box.1
          go_cut [46] from 14 to 70 (fun bv wx => ∃ (b : Bool) (i2 : Nat), bv = .bool b ∧ i2 ≤ i + 5 ∧ Hid (RR w wr gG (.slice A zn c) i2 wx) ∧ Hid (Own w.heap.size wx g6 (LockL.cells ⟨ln, lv, ls, lm, []⟩ ⟨none, 0⟩)))
          case first =>
            have HX := hid (HN.out gG (i + 4) 9 x HRX.out.kb HRX.out.ctr.low HRX.out.ctr (by have := HI8.out; omega) (by omega) (by omega))
            go_wp2_with fail
            · refine HX.out.mono ?_
              rintro _ x' ⟨rfl, hx'⟩
              go_wp2_with fail
              go_meet
              case rel => exact ⟨_, i + 5, rfl, by omega, hid HRX.out.next, hid ((HO6.out.other (by have := HG6.out.2; omega) _).kb (kb_drewJ (kb_refl _)))⟩
            · go_meet
              case rel => exact ⟨_, i + 4, rfl, by omega, HRX, HO6⟩
          case rest =>
            obtain ⟨b, i2, rfl, hi2, HR5, HO7⟩ := hcut
            clear HRX HO6 x2 xl
            go_upto_if 46 with fail
            go_cut [] from 14 to 70 (fun wx => ∃ s2 : Int, Hid (RR w wr gG (.slice A zn c) i2 wx) ∧ Hid (Own w.heap.size wx g6 (LockL.cells ⟨ln, lv, ls, s2, []⟩ ⟨none, 0⟩)))
            case first =>
              have xl := HO7.out.box.1
              have sf : ∀ j, wc.frozen? ⟨g6, j, none⟩ = false := HO7.out.soft
              have c7 := HO7.out.box.2 7 _ rfl
              cases b
              · go_wp2_with fail
                go_meet
                case rel => exact ⟨_, HR5, HO7⟩
              · go_wp2_with fail
                go_meet
                case rel => exact ⟨0, hid (HR5.out.put HG6.out.1 HWS.out HG6.out.2 _), hid (HO7.out.put (j := 7) (by simp) _)⟩
            case rest =>
              obtain ⟨s2, HR6, HO8⟩ := hcut
              clear HR5 HO7
              have HX := hid (HN.out gG i2 4 wc HR6.out.kb HR6.out.ctr.low HR6.out.ctr (by have := HI8.out; omega) (by omega) (by omega))
              go_wp2_with fail
              refine HX.out.mono ?_
              rintro _ x2 ⟨rfl, hx2⟩
              have HR7 := hid (show RR w wr gG (.slice A zn c) (i2 + 1) x2 from by rw [hx2]; exact HR6.out.next)
              have HO9 := hid (show Own w.heap.size x2 g6 _ from by rw [hx2]; exact (HO8.out.other (by have := HG6.out.2; omega) _).kb (kb_drewJ (kb_refl _)))
              clear hx2 HX HR6 HO8
              go_upto_block 2 with fail
              generalize nx (i2 : Int) 4 = z4 at *
              go_cut [] from 14 to 70 (fun wx => FeatG w wr gG g6 (.slice A zn c) (ln, lv, ls, s2) (i + 7) wx)
              case first =>
                have xl := HO9.out.box.1
                have sf : ∀ j, x2.frozen? ⟨g6, j, none⟩ = false := HO9.out.soft
                have c8 := HO9.out.box.2 8 _ rfl
                have hgs : g6 ≠ x2.heap.size := by omega
                have HGS := hid hgs
                have hws : wr.heap.size ≤ x2.heap.size := HR7.out.keep.1
                have HHS := hid hws
                by_cases z0 : z4 = 0
                · subst z0
                  go_wp2_with fail
                  go_meet
                  case rel => exact ⟨[fdL], ⟨some ⟨x2.heap.size, 0, none⟩, 1⟩, i2 + 1, by omega, hid ((HR7.out.put HG6.out.1 HWS.out HG6.out.2 _).more (kb_new _ _)), hid ((HO9.out.put (j := 8) (by simp) _).alloc _), hid ⟨feats_new [fdL] (by rw [World.size_setCell]; exact HHS.out) (by rw [World.size_setCell]), Nat.le_refl _, by decide⟩⟩
                · have e0 : (z4 == 0) = false := by rw [beq_eq_false_iff_ne]; exact z0
                  by_cases z1 : z4 = 1
                  · subst z1
                    go_wp2_with fail
                    go_meet
                    case rel => exact ⟨[fdL, ffL], ⟨some ⟨x2.heap.size, 0, none⟩, 2⟩, i2 + 1, by omega, hid ((HR7.out.put HG6.out.1 HWS.out HG6.out.2 _).more (kb_new _ _)), hid ((HO9.out.put (j := 8) (by simp) _).alloc _), hid ⟨feats_new [fdL, ffL] (by rw [World.size_setCell]; exact HHS.out) (by rw [World.size_setCell]), Nat.le_refl _, by decide⟩⟩
                  · have e1 : (z4 == 1) = false := by rw [beq_eq_false_iff_ne]; exact z1
                    by_cases z2 : z4 = 2
                    · subst z2
                      have HA := hid (Box.new x2 [.string ffL, .string fdL] 9)
                      have HRA := hid (HR7.out.more (kb_new x2 (.cells #[.string ffL, .string fdL] 9)))
                      have HOA := hid (HO9.out.alloc (.cells #[.string ffL, .string fdL] 9))
                      have HX := HN.out gG (i2 + 1) 2 _ HRA.out.kb HRA.out.ctr.low HRA.out.ctr (by have := HI8.out; omega) (by omega) (by omega)
                      obtain ⟨b1, b2⟩ := HBD.out (i2 + 1) 2 (by omega)
                      obtain ⟨q, hq⟩ : ∃ q, q = nx ((i2 + 1 : Nat) : Int) 2 := ⟨_, rfl⟩
                      rw [← hq] at HX b1 b2
                      have HX := hid HX
                      clear hq
                      have hgg : gG ≠ x2.heap.size := Nat.ne_of_lt HR7.out.ctr.box.1
                      have HGG2 := hid hgg
                      clear hgg hws hgs xl sf c8
                      go_wp2_with fail
                      refine HX.out.mono ?_
                      rintro _ x3 ⟨rfl, hx3⟩
                      have HR9 := hid (show RR w wr gG (.slice A zn c) (i2 + 2) x3 from by rw [hx3]; exact HRA.out.next)
                      have HO11 := hid (show Own w.heap.size x3 g6 _ from by rw [hx3]; exact (HOA.out.other (by have := HG6.out.2; omega) _).kb (kb_drewJ (kb_refl _)))
                      have HB3 := hid (show Box x3 x2.heap.size [.string ffL, .string fdL] from by rw [hx3]; exact (HA.out.putOther (j := 1) (Ne.symm HGG2.out) _).kb (kb_drewJ (kb_refl _)))
                      clear hx3 HX HRA HOA HA
                      generalize x2.heap.size = gF at *
                      have xl := HO11.out.box.1
                      have sf : ∀ j, x3.frozen? ⟨g6, j, none⟩ = false := HO11.out.soft
                      have c8 := HO11.out.box.2 8 _ rfl
                      have q01 : q = 0 ∨ q = 1 := by omega
                      rcases q01 with rfl | rfl
                      · go_wp2_with fail
                        go_meet
                        case rel => exact ⟨[ffL, fdL], ⟨some ⟨gF, 0, none⟩, 2⟩, i2 + 2, by omega, hid (HR9.out.put HG6.out.1 HWS.out HG6.out.2 _), hid (HO11.out.put (j := 8) (by simp) _), hid ⟨texts_box (q := 0) (HB3.out.putOther (j := 8) (Ne.symm HGS.out) _) HHS.out (fun i hi => map_at (fs := [ffL, fdL]) (q := 0) hi), Nat.le_refl _, by decide⟩⟩
                      · go_wp2_with fail
                        go_meet
                        case rel => exact ⟨[fdL], ⟨some ⟨gF, 1, none⟩, 1⟩, i2 + 2, by omega, hid (HR9.out.put HG6.out.1 HWS.out HG6.out.2 _), hid (HO11.out.put (j := 8) (by simp) _), hid ⟨texts_box (q := 1) (HB3.out.putOther (j := 8) (Ne.symm HGS.out) _) HHS.out (fun i hi => map_at (fs := [ffL, fdL]) (q := 1) hi), Nat.le_refl _, by decide⟩⟩
                    · have e2 : (z4 == 2) = false := by rw [beq_eq_false_iff_ne]; exact z2
                      go_wp2_with fail
                      go_meet
                      case rel => exact ⟨[], ⟨none, 0⟩, i2 + 1, by omega, HR7, HO9, hid ⟨.inl rfl, Nat.le_refl _, by decide⟩⟩
              case rest =>
                obtain ⟨fs, fh, i3, hi3, HR8, HO10, HT⟩ := hcut
                clear HR7 HO9
                have HO11 := hid (show Own w.heap.size wc g6 [.string ln, .int .i64 lv.maj, .int .i64 lv.min, .int .i64 lv.pat, .string lv.pre, .string lv.bld, .string ls, .int .u64 s2, .slice fh.A fs.length fh.c] from HO10.out)
                have HOL3 := hid (HR8.out.keep.own HOL.out (fun e => by injection e with e; have := HNE.out.1; omega))
                have HOR3 := hid (HR8.out.keep.own HOR.out (fun e => by injection e with e; have := HGR.out; have := HGG.out; omega))
                have HDP3 := hid (HDP.out.keep LkSub.mono HR8.out.keep HWL.out.2.1)
                have hsz : wl.heap.size ≤ wc.heap.size := Nat.le_trans HSZ.out HR8.out.keep.1
                have HSZ3 := hid hsz
                obtain ⟨ft, fc, fl⟩ := HT.out
                have hsu : LkSub (mask wc wl.heap.size v.ownBlock) ((⟨ln, lv, ls, s2, fs⟩ : LockL), fh) := LkSub.mono _ _ _ (mask_less HSZ.out (fun q e => HDP.out.lt q e)) ⟨ft, by show fs.length ≤ 1000000; omega, fc, by show ln.size ≤ _; rw [HLN.out]; exact nms_size k hlt⟩
                have hdp := HDP3.out
                have HFL := hid fl
                clear ft fc fl
                have x0 := HO11.out.box.2 0 _ rfl
                have x1 := HO11.out.box.2 1 _ rfl
                have x2 := HO11.out.box.2 2 _ rfl
                have x3 := HO11.out.box.2 3 _ rfl
                have x4 := HO11.out.box.2 4 _ rfl
                have x5 := HO11.out.box.2 5 _ rfl
                have x6 := HO11.out.box.2 6 _ rfl
                have x7 := HO11.out.box.2 7 _ rfl
                have x8 := HO11.out.box.2 8 _ rfl
                have xl := HO11.out.box.1
                have y3 := HOL3.out.box.2 3 _ rfl
                have yl := HOL3.out.box.1
                go_wp2_with (at_builtin; refine wpList_app1y EKlocks rfl (.tmp 66) (.tmp 68) rfl (lkC ((⟨ln, lv, ls, s2, fs⟩ : LockL), fh)) hdp.1 rfl rfl rfl (lk_one ((⟨ln, lv, ls, s2, fs⟩ : LockL), fh)) (by have := HPL.out; unfold maxLen; omega) (by have := HPL.out; omega) hsz ?_; intro v' w5 h2 h3 h4 h5; have y3 := (HOL3.out.growR h4 (fun e => by have := (World.ownsRow.lt hdp.1 gL e.symm).1; have := HWL.out.1; omega)).box.2 3 _ rfl; have yl := (HOL3.out.growR h4 (fun e => by have := (World.ownsRow.lt hdp.1 gL e.symm).1; have := HWL.out.1; omega)).box.1; have HDN := hid (Deep.snoc LkSub.mono hdp hsu h2 h4 h5); have HG4 := hid h4; have HK5 := hid (show KB w.heap.size w w5 from Go.RowKit.Below.trans HR8.out.kb (h3.kb.mono hgw)); obtain ⟨A9, c9, rfl⟩ := own_sliceG h2; have sf : ∀ j, w5.frozen? ⟨gL, j, none⟩ = false := (HOL3.out.growR h4 (fun e => by have := (World.ownsRow.lt hdp.1 gL e.symm).1; have := HWL.out.1; omega)).soft)
                have HO5 := hid (HOL3.out.growR HG4.out (fun e => by have := (World.ownsRow.lt hdp.1 gL e.symm).1; have := HWL.out.1; omega))
                have HC5 := hid (HR8.out.ctr.growR HG4.out (fun e => by have := (World.ownsRow.lt hdp.1 gG e.symm).1; have := HWL.out.2.1; omega))
                have HP5 := hid (HOR3.out.growR HG4.out (fun e => by have := (World.ownsRow.lt hdp.1 gr e.symm).1; have := HWL.out.2.2; omega))
                have HNL := hid (And.intro HGR.out (And.intro HGG.out HNE.out))
                clear h2 h3 h4 h5 y3 yl sf
                refine ⟨⟨k + 1, i3, _, ps ++ [((⟨ln, lv, ls, s2, fs⟩ : LockL), fh)], by go_num, by omega, hid (by have := HI.out; omega), hid (by rw [List.length_append]; have := HPL.out; simp; omega), hid ?_, hid ?_, hid (HDN.out.put LkSub.mono HWL.out.1 _), hid (HC5.out.other (by have := HNL.out; omega) _), hid (HO5.out.put (j := 3) (by simp) _), hid (HP5.out.other (by have := HNL.out; omega) _), hid (kb_putJ HK5.out (by have := HNL.out; omega) _), hid (by rw [World.size_setCell]; exact Nat.le_trans HSZ3.out HG4.out.size)⟩, ?_⟩
                · rw [List.map_append]
                  refine List.pairwise_append.2 ⟨HUN.out, List.pairwise_singleton _ _, fun a ha b hb => ?_⟩
                  obtain ⟨p, hp, rfl⟩ := List.mem_map.1 ha
                  rw [List.map_cons, List.map_nil, List.mem_singleton] at hb
                  subst hb
                  obtain ⟨j, hj, he⟩ := HNM.out p hp
                  rw [he]
                  show _ ≠ ln
                  rw [HLN.out]
                  exact nms_inj j (by omega) k hlt (by omega)
                · intro p hp
                  rcases List.mem_append.1 hp with hp | hp
                  · obtain ⟨j, hj, he⟩ := HNM.out p hp
                    exact ⟨j, by omega, he⟩
                  · rcases List.mem_singleton.1 hp with rfl
                    exact ⟨k, by omega, HLN.out⟩
                · simp [intOf] <;> omega
    · obtain rfl : k = 4 := by omega
      have HNL := hid (And.intro HGR.out (And.intro HGG.out HNE.out))
      have y0 := HOL.out.box.2 0 _ rfl
      have y1 := HOL.out.box.2 1 _ rfl
      have y2 := HOL.out.box.2 2 _ rfl
      have y3 := HOL.out.box.2 3 _ rfl
      have yl := HOL.out.box.1
      have z0 := HOR.out.box.2 0 _ rfl
      have z1 := HOR.out.box.2 1 _ rfl
      have z2 := HOR.out.box.2 2 _ rfl
      have z3 := HOR.out.box.2 3 _ rfl
      have zl := HOR.out.box.1
      have sf : ∀ j, wr.frozen? ⟨gr, j, none⟩ = false := HOR.out.soft
      obtain ⟨A9, c9, rfl⟩ := own_sliceG HDP.out.1
      go_wp2_with fail
      refine body_name ?_
      intro w9 hw9
      have hgr : w.heap.size ≤ gr := by have := HNL.out; omega
      have O9 : Own w.heap.size w9 gr [.string s, .string ⟨#[]⟩, .string ⟨#[]⟩, .slice A9 ps.length c9] := by rw [hw9]; exact (((HOR.out.put (j := 0) (by simp) _).put (j := 1) (by simp) _).put (j := 2) (by simp) _).put (j := 3) (by simp) _
      have B9 : KB w.heap.size w w9 := by rw [hw9]; exact kb_putJ (kb_putJ (kb_putJ (kb_putJ HKB.out hgr _) hgr _) hgr _) hgr _
      have D9 := hid (show Deep 33 9 lkC LkSub w9 wl.heap.size (.slice A9 ps.length c9) ps from by rw [hw9]; exact (((HDP.out.put LkSub.mono HWL.out.2.2 _).put LkSub.mono HWL.out.2.2 _).put LkSub.mono HWL.out.2.2 _).put LkSub.mono HWL.out.2.2 _)
      clear hw9 y0 y1 y2 y3 yl z0 z1 z2 z3 zl sf
      have k0 := O9.box.2 0 _ rfl
      have k1 := O9.box.2 1 _ rfl
      have k2 := O9.box.2 2 _ rfl
      have k3 := O9.box.2 3 _ rfl
      refine bodyPost_ret (v := .agg #[.string s, .string ⟨#[]⟩, .string ⟨#[]⟩, .slice A9 ps.length c9]) (by simp [results, Tryz.results18, go_sem, k0, k1, k2, k3]) rfl ?_
      exact ⟨s, _, ps, rfl, ⟨D9.out.low LkSub.mono hgw, HUN.out, HPL.out⟩, B9⟩
end Go.Proofs.YtlmkglgjdmjnkaaGreatDoor
