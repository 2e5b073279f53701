/- Parts 3 of the proofs. -/
import Derived.Test.YtlmkglgjdmjnkaaGreatDoorQ1
import Derived.StillTailTactics
import Derived.Deep.RegionHeld3
import Derived.Deep.DeepCutAuto
namespace Go.Proofs.YtlmkglgjdmjnkaaGreatDoor
open Go.RowKit Go.Lib
set_option linter.unusedVariables false
set_option linter.unusedSimpArgs false
structure Ver where
  maj : Int
  min : Int
  pat : Int
  pre : ByteArray
  bld : ByteArray
abbrev Ver.cells (v : Ver) : List Value := [.int .i64 v.maj, .int .i64 v.min, .int .i64 v.pat, .string v.pre, .string v.bld]
abbrev Ver.val (v : Ver) : Value := .agg #[.int .i64 v.maj, .int .i64 v.min, .int .i64 v.pat, .string v.pre, .string v.bld]
def fitsI (n : Int) : Bool := decide (0 ≤ n ∧ n ≤ 9999)
def preOk (l : List UInt8) : Bool := l.isEmpty || preL l
def bldOk (l : List UInt8) : Bool := l.isEmpty || tagsL l
def mayV (v : Ver) : Bool := fitsI v.maj && fitsI v.min && fitsI v.pat && preOk (bts v.pre) && bldOk (bts v.bld)
theorem preOk_nil {s : ByteArray} (h : s.toList = []) : preOk (bts s) = true := by rw [bts, h]; rfl
theorem bldOk_nil {s : ByteArray} (h : s.toList = []) : bldOk (bts s) = true := by rw [bts, h]; rfl
theorem preOk_ne {s : ByteArray} (h : s.toList.isEmpty = false) : preOk (bts s) = preL (bts s) := by rw [preOk, h]; rfl
theorem bldOk_ne {s : ByteArray} (h : s.toList.isEmpty = false) : bldOk (bts s) = tagsL (bts s) := by rw [bldOk, h]; rfl
def Ver.fit (v : Ver) : Prop := v.pre.size ≤ 4398046511104 ∧ v.bld.size ≤ 4398046511104
theorem fits_i (n : Int) (w : World) : Calls Tryz.prog 169 #[.int .i64 n] w fun e w' => e = .returned (.bool (fitsI n)) ∧ w = w' := fits_any n w
set_option maxRecDepth 100000 in
set_option maxHeartbeats 1000000 in
theorem pre_go (s : ByteArray) (w : World) (hs : s.size ≤ 4398046511104) (r : Bool) (HR : Hid (tagsL (bts s) = true ∧ (splitP (bts s)).all preTag = r)) : Calls Tryz.prog 170 #[.string s] w (BoolPost w r) := by
  have ht0 := HR.out.1
  go_enter Tryz.func170, Tryz.ntmps170
  go_wp2_with fail
  refine (tags_any s _ hs).mono ?_
  rintro e w0 ⟨rfl, hb0⟩
  go_wp2_with fail
  refine (split46 s _ hs).mono ?_
  rintro e w1 ⟨g, cap, rfl, hg, hgs, hcap, hcell, hb⟩
  have HH := hid (show Held w1 g (splitP (bts s)) from ⟨hgs, hcell⟩)
  have hbw := below_tr hb0 hb
  clear hcell ht0
  have hnb : (splitP (bts s)).length ≤ 4398046511105 := by have := (splitL_len 46 (bts s) []).2; rw [bts_len] at this; exact Nat.le_trans this (by omega)
  generalize hn : (splitP (bts s)).length = n at *
  have HN := hid hn
  clear hn
  go_wp2_with fail
  go_loopw [4, 13] (fun t i wr => ∃ k : Nat, i = .int .i64 k ∧ k ≤ n ∧ Hid (((splitP (bts s)).take k).all preTag = true) ∧ Hid (Held wr g (splitP (bts s))) ∧ Below w.heap.size w wr) (fun _ i _ => n - (intOf i).toNat)
  case atStart => exact ⟨0, rfl, Nat.zero_le _, rfl, HH, hbw⟩
  case round =>
    obtain ⟨k, rfl, hk, HA, HW, hbr⟩ := hrel
    by_cases hlt : k < n
    · have hlt' : k < (splitP (bts s)).length := by rw [HN.out]; exact hlt
      obtain ⟨x, hx1, hx2, hx3⟩ := part_str s k hlt'
      have hck := HW.out.2 k hlt'
      rw [hx1] at hck
      have HX := hid hx2
      clear hx1 hx2
      have hsz := hbr.size
      have hgw := HW.out.1
      cases hn1 : numericL (bts x)
      · have HF := hid (show preTag (splitP (bts s))[k] = true by rw [← HX.out, preTag, hn1]; rfl)
        go_wp2_with (first | (go_at_call 186; refine (number_any _ _).mono ?_; rintro e w2 ⟨rfl, hb2⟩) | (go_at_call 187; refine (numeric_any _ _ (by omega)).mono ?_; rintro e w' ⟨rfl, rfl⟩))
        go_roundw
        case rel => exact ⟨k + 1, by go_num, by omega, all_take_succ hlt' HA.out HF.out, HW.out.below hb2, below_tr hbr hb2⟩
        case measure => simp [intOf]; omega
      · cases hn2 : (numberL (bts x)).2
        · have HF := hid (show (splitP (bts s)).all preTag = false from all_take_false hlt' (by rw [← HX.out, preTag, hn1, hn2]; rfl))
          go_wp2_with (first | (go_at_call 186; refine (number_any _ _).mono ?_; rintro e w2 ⟨rfl, hb2⟩) | (go_at_call 187; refine (numeric_any _ _ (by omega)).mono ?_; rintro e w' ⟨rfl, rfl⟩))
          go_ret
          exact ⟨by rw [← HR.out.2, HF.out]; rfl, below_tr hbr hb2⟩
        · have HF := hid (show preTag (splitP (bts s))[k] = true by rw [← HX.out, preTag, hn1, hn2]; rfl)
          go_wp2_with (first | (go_at_call 186; refine (number_any _ _).mono ?_; rintro e w2 ⟨rfl, hb2⟩) | (go_at_call 187; refine (numeric_any _ _ (by omega)).mono ?_; rintro e w' ⟨rfl, rfl⟩))
          go_roundw
          case rel => exact ⟨k + 1, by go_num, by omega, all_take_succ hlt' HA.out HF.out, HW.out.below hb2, below_tr hbr hb2⟩
          case measure => simp [intOf]; omega
    · obtain rfl : k = n := by omega
      go_wp2_with fail
      go_ret
      exact ⟨by rw [← HR.out.2]; have := HA.out; rw [← HN.out] at this; rw [all_take_full this]; rfl, hbr⟩
set_option maxRecDepth 100000 in
set_option maxHeartbeats 400000 in
theorem pre_any (s : ByteArray) (w : World) (hs : s.size ≤ 4398046511104) : Calls Tryz.prog 170 #[.string s] w (BoolPost w (preL (bts s))) := by
  cases ht : tagsL (bts s)
  · have e : preL (bts s) = false := by rw [preL, ht]; rfl
    rw [e]
    clear e
    go_enter Tryz.func170, Tryz.ntmps170
    go_wp2_with fail
    refine (tags_any s _ hs).mono ?_
    rintro e w0 ⟨rfl, hb0⟩
    go_wp2_with fail
    go_ret
    exact ⟨rfl, hb0⟩
  · have e : preL (bts s) = (splitP (bts s)).all preTag := by rw [preL, ht]; rfl
    rw [e]
    exact pre_go s w hs _ ⟨ht, rfl⟩
theorem below_box {w w1 : World} {o : Obj} (hb : Below (w.alloc o).heap.size (w.alloc o) w1) : Below w.heap.size w w1 := below_tr ((Below.refl _ _).alloc (Nat.le_refl _) o) hb
theorem below_new (w : World) (o : Obj) : Below w.heap.size w (w.alloc o) := (Below.refl _ _).alloc (Nat.le_refl _) o
set_option maxRecDepth 100000 in
set_option maxHeartbeats 2000000 in
theorem may_any (v : Ver) (w : World) (hv : v.fit) : Calls Tryz.prog 143 #[v.val] w (BoolPost w (mayV v)) := by
  obtain ⟨hp, hq⟩ := hv
  generalize hr : mayV v = r
  have HR := hid hr
  clear hr
  cases h1 : fitsI v.maj
  · go_enter Tryz.func143, Tryz.ntmps143
    go_wp2_with (go_at_call 169; refine (fits_i _ _).mono ?_; rintro e w' ⟨rfl, rfl⟩)
    go_ret
    exact ⟨by rw [← HR.out, mayV, h1]; rfl, below_new _ _⟩
  · cases h2 : fitsI v.min
    · go_enter Tryz.func143, Tryz.ntmps143
      go_wp2_with (go_at_call 169; refine (fits_i _ _).mono ?_; rintro e w' ⟨rfl, rfl⟩)
      go_ret
      exact ⟨by rw [← HR.out, mayV, h1, h2]; rfl, below_new _ _⟩
    · cases h3 : fitsI v.pat
      · go_enter Tryz.func143, Tryz.ntmps143
        go_wp2_with (go_at_call 169; refine (fits_i _ _).mono ?_; rintro e w' ⟨rfl, rfl⟩)
        go_ret
        exact ⟨by rw [← HR.out, mayV, h1, h2, h3]; rfl, below_new _ _⟩
      · by_cases h4 : 0 < v.pre.size
        · obtain ⟨e4, n4⟩ := ne_of_size h4
          cases h5 : preL (bts v.pre)
          · go_enter Tryz.func143, Tryz.ntmps143
            go_wp2_with (first | (go_at_call 169; refine (fits_i _ _).mono ?_; rintro e w' ⟨rfl, rfl⟩) | (go_at_call 170; refine (pre_any _ _ hp).mono ?_; rintro e w1 ⟨rfl, hb⟩))
            go_ret
            exact ⟨by rw [← HR.out, mayV, h1, h2, h3, preOk_ne e4, h5]; rfl, below_box hb⟩
          · by_cases h6 : 0 < v.bld.size
            · obtain ⟨e6, n6⟩ := ne_of_size h6
              go_enter Tryz.func143, Tryz.ntmps143
              go_wp2_with (first | (go_at_call 169; refine (fits_i _ _).mono ?_; rintro e w' ⟨rfl, rfl⟩) | (go_at_call 170; refine (pre_any _ _ hp).mono ?_; rintro e w1 ⟨rfl, hb⟩; obtain ⟨hc1, hf1⟩ := bcell hb) | (go_at_call 171; refine (tags_any _ _ hq).mono ?_; rintro e w2 ⟨rfl, hb2⟩))
              go_ret
              exact ⟨by rw [← HR.out, mayV, h1, h2, h3, preOk_ne e4, h5, bldOk_ne e6]; rfl, below_tr (below_box hb) hb2⟩
            · have e6 := isEmpty_of h6
              go_enter Tryz.func143, Tryz.ntmps143
              go_wp2_with (first | (go_at_call 169; refine (fits_i _ _).mono ?_; rintro e w' ⟨rfl, rfl⟩) | (go_at_call 170; refine (pre_any _ _ hp).mono ?_; rintro e w1 ⟨rfl, hb⟩; obtain ⟨hc1, hf1⟩ := bcell hb))
              go_ret
              exact ⟨by rw [← HR.out, mayV, h1, h2, h3, preOk_ne e4, h5, bldOk_nil e6]; rfl, below_box hb⟩
        · have e4 := isEmpty_of h4
          by_cases h6 : 0 < v.bld.size
          · obtain ⟨e6, n6⟩ := ne_of_size h6
            go_enter Tryz.func143, Tryz.ntmps143
            go_wp2_with (first | (go_at_call 169; refine (fits_i _ _).mono ?_; rintro e w' ⟨rfl, rfl⟩) | (go_at_call 171; refine (tags_any _ _ hq).mono ?_; rintro e w2 ⟨rfl, hb2⟩))
            go_ret
            exact ⟨by rw [← HR.out, mayV, h1, h2, h3, preOk_nil e4, bldOk_ne e6]; rfl, below_box hb2⟩
          · have e6 := isEmpty_of h6
            go_enter Tryz.func143, Tryz.ntmps143
            go_wp2_with (first | (go_at_call 169; refine (fits_i _ _).mono ?_; rintro e w' ⟨rfl, rfl⟩))
            go_ret
            exact ⟨by rw [← HR.out, mayV, h1, h2, h3, preOk_nil e4, bldOk_nil e6]; rfl, below_new _ _⟩
theorem num_any (n : Int) (w : World) : Calls Tryz.prog 89 #[.int .i64 n] w fun e w' => e = .returned (.bool (fitsI n)) ∧ w = w' := by
  by_cases h0 : 0 ≤ n
  · by_cases h1 : n ≤ 9999
    · go_enter Tryz.func89, Tryz.ntmps89
      go_wp2
      go_ret
      exact ⟨by simp [fitsI, h0, h1], rfl⟩
    · have hd : decide (n ≤ 9999) = false := by simpa using h1
      go_enter Tryz.func89, Tryz.ntmps89
      go_wp2
      go_ret
      exact ⟨by simp [fitsI, h1], rfl⟩
  · have hd : decide (0 ≤ n) = false := by simpa using h0
    go_enter Tryz.func89, Tryz.ntmps89
    go_wp2
    go_ret
    exact ⟨by simp [fitsI]; omega, rfl⟩
theorem tagsRef_pre (l : List UInt8) : tagsRef true l = preOk l := by
  have h : ∀ ts : List (List UInt8), ts.all (rtagOk true) = (ts.all tagOk && ts.all preTag) := by
    intro ts
    induction ts with
    | nil => rfl
    | cons t ts ih => simp only [List.all_cons, ih, rtagOk]; cases tagOk t <;> cases preTag t <;> simp
  rw [tagsRef, preOk, preL, tagsL, h, Bool.and_assoc]
theorem tagsRef_bld (l : List UInt8) : tagsRef false l = bldOk l := by
  have h : (rtagOk false) = tagOk := by funext t; simp [rtagOk]
  rw [tagsRef, bldOk, tagsL, h]
theorem rtags_pre (s : ByteArray) (w : World) (hs : s.size ≤ 4398046511104) : Calls Tryz.prog 90 #[.string s, .bool true] w (BoolPost w (preOk (bts s))) := by rw [← tagsRef_pre]; exact rtags_any s true w hs
theorem rtags_bld (s : ByteArray) (w : World) (hs : s.size ≤ 4398046511104) : Calls Tryz.prog 90 #[.string s, .bool false] w (BoolPost w (bldOk (bts s))) := by rw [← tagsRef_bld]; exact rtags_any s false w hs
set_option maxRecDepth 100000 in
set_option maxHeartbeats 2000000 in
theorem rmay_any (v : Ver) (w : World) (hv : v.fit) : Calls Tryz.prog 61 #[v.val] w (BoolPost w (mayV v)) := by
  obtain ⟨hp, hq⟩ := hv
  generalize hr : mayV v = r
  have HR := hid hr
  clear hr
  cases h1 : fitsI v.maj
  · go_enter Tryz.func61, Tryz.ntmps61
    go_wp2_with (go_at_call 89; refine (num_any _ _).mono ?_; rintro e w' ⟨rfl, rfl⟩)
    go_ret
    exact ⟨by rw [← HR.out, mayV, h1]; rfl, below_new _ _⟩
  · cases h2 : fitsI v.min
    · go_enter Tryz.func61, Tryz.ntmps61
      go_wp2_with (go_at_call 89; refine (num_any _ _).mono ?_; rintro e w' ⟨rfl, rfl⟩)
      go_ret
      exact ⟨by rw [← HR.out, mayV, h1, h2]; rfl, below_new _ _⟩
    · cases h3 : fitsI v.pat
      · go_enter Tryz.func61, Tryz.ntmps61
        go_wp2_with (go_at_call 89; refine (num_any _ _).mono ?_; rintro e w' ⟨rfl, rfl⟩)
        go_ret
        exact ⟨by rw [← HR.out, mayV, h1, h2, h3]; rfl, below_new _ _⟩
      · cases h4 : preOk (bts v.pre)
        · go_enter Tryz.func61, Tryz.ntmps61
          go_wp2_with (first | (go_at_call 89; refine (num_any _ _).mono ?_; rintro e w' ⟨rfl, rfl⟩) | (go_at_call 90; refine (rtags_pre _ _ hp).mono ?_; rintro e w1 ⟨rfl, hb⟩; obtain ⟨hc1, hf1⟩ := bcell hb))
          go_ret
          exact ⟨by rw [← HR.out, mayV, h1, h2, h3, h4]; rfl, below_box hb⟩
        · go_enter Tryz.func61, Tryz.ntmps61
          go_wp2_with (go_at_call 89; refine (num_any _ _).mono ?_; rintro e w' ⟨rfl, rfl⟩)
          refine (rtags_pre _ _ hp).mono ?_
          rintro e w1 ⟨rfl, hb⟩
          obtain ⟨hc1, hf1⟩ := bcell hb
          go_wp2_with fail
          refine (rtags_bld _ _ hq).mono ?_
          rintro e w2 ⟨rfl, hb2⟩
          go_wp2_with fail
          go_ret
          exact ⟨by rw [← HR.out, mayV, h1, h2, h3, h4]; rfl, below_tr (below_box hb) hb2⟩
end Go.Proofs.YtlmkglgjdmjnkaaGreatDoor
namespace Go.Proofs.YtlmkglgjdmjnkaaGreatDoor
def cmpI (a b : Int) : Int := if a < b then -1 else if b < a then 1 else 0
def cmpB (a b : List UInt8) : Int := if Op.bytesLess a b then -1 else if Op.bytesLess b a then 1 else 0
def cmpTag (a b : List UInt8) : Int :=
  if numericL a && numericL b then cmpI (numberL a).1 (numberL b).1 else if numericL a then -1 else if numericL b then 1 else cmpB a b
def cmpTags : List (List UInt8) → List (List UInt8) → Int
  | a :: x, b :: y => if cmpTag a b ≠ 0 then cmpTag a b else cmpTags x y
  | x, y => cmpI x.length y.length
def cmpPre (a b : List UInt8) : Int := if a = b then 0 else if a = [] then 1 else if b = [] then -1 else cmpTags (splitP a) (splitP b)
def cmpNum (a b : Ver) : Int := if cmpI a.maj b.maj ≠ 0 then cmpI a.maj b.maj else if cmpI a.min b.min ≠ 0 then cmpI a.min b.min else cmpI a.pat b.pat
def cmpV (a b : Ver) : Int := if mayV a = false ∨ mayV b = false then 0 else if cmpNum a b ≠ 0 then cmpNum a b else cmpPre (bts a.pre) (bts b.pre)
theorem cmpI_self (a : Int) : cmpI a a = 0 := by simp [cmpI]
theorem cmpI_zero {a b : Int} : cmpI a b = 0 ↔ a = b := by unfold cmpI; split <;> (try split) <;> omega
theorem cmpI_lt {a b : Int} : cmpI a b < 0 ↔ a < b := by unfold cmpI; split <;> (try split) <;> omega
theorem cmpI_gt {a b : Int} : 0 < cmpI a b ↔ b < a := by unfold cmpI; split <;> (try split) <;> omega
structure TO {α : Type} (ok : α → Prop) (cmp : α → α → Int) : Prop where
  zero : ∀ a b, ok a → ok b → (cmp a b = 0 ↔ a = b)
  anti : ∀ a b, ok a → ok b → (cmp a b < 0 ↔ 0 < cmp b a)
  tran : ∀ a b c, ok a → ok b → ok c → cmp a b < 0 → cmp b c < 0 → cmp a c < 0
theorem TO.int : TO (fun _ : Int => True) cmpI :=
  ⟨fun _ _ _ _ => cmpI_zero, fun _ _ _ _ => by rw [cmpI_lt, cmpI_gt], fun _ _ _ _ _ _ => by rw [cmpI_lt, cmpI_lt, cmpI_lt]; omega⟩
theorem bless_irr : ∀ a : List UInt8, Op.bytesLess a a = false
  | [] => rfl
  | a :: x => by simp [Op.bytesLess, bless_irr x]
theorem bless_asym : ∀ a b : List UInt8, Op.bytesLess a b = true → Op.bytesLess b a = false
  | [], [], h => by simp [Op.bytesLess] at h
  | [], _ :: _, _ => rfl
  | _ :: _, [], h => by simp [Op.bytesLess] at h
  | a :: x, b :: y, h => by
    simp only [Op.bytesLess, Bool.or_eq_true, Bool.and_eq_true, decide_eq_true_eq, beq_iff_eq, Bool.or_eq_false_iff, Bool.and_eq_false_iff, decide_eq_false_iff_not, beq_eq_false_iff_ne] at h ⊢
    rw [UInt8.lt_iff_toNat_lt] at *
    rcases h with h | ⟨rfl, h⟩
    · exact ⟨by omega, .inl (fun e => by subst e; omega)⟩
    · exact ⟨by omega, .inr (bless_asym x y h)⟩
theorem bless_tri : ∀ a b : List UInt8, Op.bytesLess a b = false → Op.bytesLess b a = false → a = b
  | [], [], _, _ => rfl
  | [], _ :: _, h, _ => by simp [Op.bytesLess] at h
  | _ :: _, [], _, h => by simp [Op.bytesLess] at h
  | a :: x, b :: y, h, k => by
    simp only [Op.bytesLess, Bool.or_eq_false_iff, Bool.and_eq_false_iff, decide_eq_false_iff_not, beq_eq_false_iff_ne] at h k
    rw [UInt8.lt_iff_toNat_lt] at *
    have e : a = b := UInt8.toNat_inj.1 (by omega)
    subst e
    rw [bless_tri x y (h.2.resolve_left (by simp)) (k.2.resolve_left (by simp))]
theorem bless_tran : ∀ a b c : List UInt8, Op.bytesLess a b = true → Op.bytesLess b c = true → Op.bytesLess a c = true
  | [], _, [], _, h => by cases ‹List UInt8› <;> simp [Op.bytesLess] at h
  | [], _, _ :: _, _, _ => rfl
  | _ :: _, [], _, h, _ => by simp [Op.bytesLess] at h
  | _ :: _, _ :: _, [], _, h => by simp [Op.bytesLess] at h
  | a :: x, b :: y, c :: z, h, k => by
    simp only [Op.bytesLess, Bool.or_eq_true, Bool.and_eq_true, decide_eq_true_eq, beq_iff_eq] at h k ⊢
    simp only [UInt8.lt_iff_toNat_lt] at *
    rcases h with h | ⟨rfl, h⟩
    · rcases k with k | ⟨rfl, k⟩
      · exact .inl (by omega)
      · exact .inl h
    · rcases k with k | ⟨rfl, k⟩
      · exact .inl k
      · exact .inr ⟨rfl, bless_tran x y z h k⟩
theorem cmpB_lt {a b : List UInt8} : cmpB a b < 0 ↔ Op.bytesLess a b = true := by unfold cmpB; split <;> (try split) <;> simp_all
theorem cmpB_gt {a b : List UInt8} : 0 < cmpB a b ↔ Op.bytesLess b a = true := by
  unfold cmpB
  split
  · rename_i h; simp [bless_asym a b h]
  · split <;> simp_all
theorem TO.bytes : TO (fun _ : List UInt8 => True) cmpB := by
  refine ⟨fun a b _ _ => ?_, fun a b _ _ => by rw [cmpB_lt, cmpB_gt], fun a b c _ _ _ h k => cmpB_lt.2 (bless_tran a b c (cmpB_lt.1 h) (cmpB_lt.1 k))⟩
  constructor
  · intro h
    refine bless_tri a b ?_ ?_
    · rw [Bool.eq_false_iff]; intro e; have := cmpB_lt.2 e; omega
    · rw [Bool.eq_false_iff]; intro e; have := cmpB_gt.2 e; omega
  · rintro rfl
    simp [cmpB, bless_irr]
theorem numL_inj_len : ∀ (n : Nat) (a b : List UInt8), a.length = n → b.length = n → a.all isDig = true → b.all isDig = true → numL a = numL b → a = b
  | 0, a, b, ha, hb, _, _, _ => by rw [List.eq_nil_of_length_eq_zero ha, List.eq_nil_of_length_eq_zero hb]
  | n + 1, a, b, ha, hb, da, db, h => by
    obtain ⟨a', c, rfl⟩ : ∃ l' c, a = l' ++ [c] := ⟨a.dropLast, a.getLast (by intro e; subst e; simp at ha), (List.dropLast_concat_getLast _).symm⟩
    obtain ⟨b', d, rfl⟩ : ∃ l' c, b = l' ++ [c] := ⟨b.dropLast, b.getLast (by intro e; subst e; simp at hb), (List.dropLast_concat_getLast _).symm⟩
    rw [List.all_append, Bool.and_eq_true] at da db
    have hc : isDig c = true := by simpa using da.2
    have hd : isDig d = true := by simpa using db.2
    simp only [isDig, decide_eq_true_eq] at hc hd
    rw [numL_snoc, numL_snoc] at h
    have hcd : c = d := UInt8.toNat_inj.1 (by omega)
    subst hcd
    rw [numL_inj_len n a' b' (by simpa using ha) (by simpa using hb) da.1 db.1 (by omega)]
theorem notbad {l : List UInt8} (h : badNum l = false) : 1 ≤ l.length ∧ l.length ≤ 4 ∧ l.all isDig = true ∧ (l.length = 1 ∨ ∃ c r, l = c :: r ∧ c ≠ 48) := by
  simp only [badNum, Bool.or_eq_false_iff, decide_eq_false_iff_not, Bool.and_eq_false_iff, Bool.not_eq_false'] at h
  obtain ⟨⟨⟨h1, h2⟩, h3⟩, h4⟩ := h
  cases l with
  | nil => simp at h1
  | cons c r =>
    refine ⟨by simp, by omega, h4, ?_⟩
    rcases h3 with h3 | h3
    · refine .inr ⟨c, r, rfl, fun e => ?_⟩
      subst e
      simp at h3
    · exact .inl (by simp only [List.length_cons] at h3 ⊢; omega)
theorem numL_lo {l : List UInt8} (h : badNum l = false) (h2 : 1 < l.length) : 10 ^ (l.length - 1) ≤ numL l := by
  obtain ⟨_, _, ha, h1 | ⟨c, r, rfl, hc⟩⟩ := notbad h
  · omega
  · rw [List.all_cons, Bool.and_eq_true] at ha
    have hd := ha.1
    simp only [isDig, decide_eq_true_eq] at hd
    have hr := numL_bounds r.length r rfl ha.2
    have hc' : ¬ c.toNat = 48 := fun e => hc (UInt8.toNat_inj.1 e)
    have h3 : 1 * (10 : Int) ^ r.length ≤ ((c.toNat : Int) - 48) * 10 ^ r.length := Int.mul_le_mul_of_nonneg_right (by omega) (Int.le_of_lt (Int.pow_pos (by omega)))
    rw [numL_cons]
    simp only [List.length_cons, Nat.add_sub_cancel]
    omega
theorem numL_inj {a b : List UInt8} (ha : badNum a = false) (hb : badNum b = false) (h : numL a = numL b) : a = b := by
  obtain ⟨a1, a2, a3, _⟩ := notbad ha
  obtain ⟨b1, b2, b3, _⟩ := notbad hb
  have ba := numL_bounds a.length a rfl a3
  have bb := numL_bounds b.length b rfl b3
  rcases Nat.lt_trichotomy a.length b.length with hl | hl | hl
  · have := numL_lo hb (by omega)
    have := ten_pow_mono (show a.length ≤ b.length - 1 by omega)
    omega
  · exact numL_inj_len _ a b rfl hl.symm a3 b3 h
  · have := numL_lo ha (by omega)
    have := ten_pow_mono (show b.length ≤ a.length - 1 by omega)
    omega
theorem number_ok {l : List UInt8} (h : (numberL l).2 = true) : badNum l = false ∧ (numberL l).1 = numL l := by
  unfold numberL at h ⊢
  cases hb : badNum l
  · simp
  · rw [hb] at h; simp at h
theorem TO.tag : TO (fun t => preTag t = true) cmpTag := by
  have pr : ∀ t, preTag t = true → numericL t = true → badNum t = false ∧ (numberL t).1 = numL t := by
    intro t h hn
    rw [preTag, hn] at h
    exact number_ok (by simpa using h)
  refine ⟨fun a b ha hb => ?_, fun a b ha hb => ?_, fun a b c ha hb hc => ?_⟩
  · unfold cmpTag
    cases hna : numericL a <;> cases hnb : numericL b <;> simp only [Bool.and_true, Bool.and_false, Bool.false_eq_true, if_false, if_true]
    · exact TO.bytes.zero a b trivial trivial
    · constructor
      · intro h; omega
      · rintro rfl; rw [hna] at hnb; cases hnb
    · constructor
      · intro h; omega
      · rintro rfl; rw [hna] at hnb; cases hnb
    · obtain ⟨a1, a2⟩ := pr a ha hna
      obtain ⟨b1, b2⟩ := pr b hb hnb
      rw [cmpI_zero, a2, b2]
      exact ⟨numL_inj a1 b1, fun e => by rw [e]⟩
  · unfold cmpTag
    cases hna : numericL a <;> cases hnb : numericL b <;> simp only [Bool.and_true, Bool.and_false, Bool.false_eq_true, if_false, if_true]
    · exact TO.bytes.anti a b trivial trivial
    · omega
    · omega
    · exact TO.int.anti _ _ trivial trivial
  · unfold cmpTag
    cases hna : numericL a <;> cases hnb : numericL b <;> cases hnc : numericL c <;> simp only [Bool.and_true, Bool.and_false, Bool.false_eq_true, if_false, if_true]
    · exact TO.bytes.tran a b c trivial trivial trivial
    all_goals try (intro h k; omega)
    · exact TO.int.tran _ _ _ trivial trivial trivial
theorem TO.tags : TO (fun ts : List (List UInt8) => ts.all preTag = true) cmpTags := by
  have all1 : ∀ t (ts : List (List UInt8)), (t :: ts).all preTag = true → preTag t = true ∧ ts.all preTag = true := by
    intro t ts h; rw [List.all_cons, Bool.and_eq_true] at h; exact h
  refine ⟨?_, ?_, ?_⟩
  · intro a
    induction a with
    | nil => intro b _ _; cases b <;> simp [cmpTags, cmpI] <;> omega
    | cons a x ih =>
      intro b ha hb
      cases b with
      | nil => simp [cmpTags, cmpI]; omega
      | cons b y =>
        obtain ⟨a1, a2⟩ := all1 _ _ ha
        obtain ⟨b1, b2⟩ := all1 _ _ hb
        have hz := TO.tag.zero a b a1 b1
        unfold cmpTags
        by_cases h : cmpTag a b = 0
        · rw [if_neg (by simp [h]), ih y a2 b2, List.cons.injEq]
          exact ⟨fun e => ⟨hz.1 h, e⟩, fun e => e.2⟩
        · rw [if_pos h, List.cons.injEq]
          exact ⟨fun e => absurd e h, fun e => absurd (hz.2 e.1) h⟩
  · intro a
    induction a with
    | nil => intro b _ _; cases b <;> simp [cmpTags, cmpI] <;> omega
    | cons a x ih =>
      intro b ha hb
      cases b with
      | nil => simp [cmpTags, cmpI]; omega
      | cons b y =>
        obtain ⟨a1, a2⟩ := all1 _ _ ha
        obtain ⟨b1, b2⟩ := all1 _ _ hb
        have h1 := TO.tag.anti a b a1 b1
        have h2 := TO.tag.anti b a b1 a1
        have hz := TO.tag.zero a b a1 b1
        have hz2 := TO.tag.zero b a b1 a1
        unfold cmpTags
        by_cases h : cmpTag a b = 0
        · have h' : cmpTag b a = 0 := hz2.2 (hz.1 h).symm
          rw [if_neg (by simp [h]), if_neg (by simp [h'])]
          exact ih y a2 b2
        · have h' : ¬ cmpTag b a = 0 := fun e => h (hz.2 (hz2.1 e).symm)
          rw [if_pos h, if_pos h']
          exact h1
  · intro a
    induction a with
    | nil =>
      intro b c _ _ _ h k
      cases c with
      | nil => cases b <;> simp [cmpTags, cmpI] at h k <;> omega
      | cons c z => simp [cmpTags, cmpI]
    | cons a x ih =>
      intro b c ha hb hc h k
      cases b with
      | nil => simp [cmpTags, cmpI] at h; omega
      | cons b y =>
        cases c with
        | nil => simp [cmpTags, cmpI] at k; omega
        | cons c z =>
          obtain ⟨a1, a2⟩ := all1 _ _ ha
          obtain ⟨b1, b2⟩ := all1 _ _ hb
          obtain ⟨c1, c2⟩ := all1 _ _ hc
          have t := TO.tag.tran a b c a1 b1 c1
          have zab := TO.tag.zero a b a1 b1
          have zbc := TO.tag.zero b c b1 c1
          have zac := TO.tag.zero a c a1 c1
          unfold cmpTags at h k ⊢
          by_cases h1 : cmpTag a b = 0
          · rw [if_neg (by simp [h1])] at h
            obtain rfl := zab.1 h1
            by_cases k1 : cmpTag a c = 0
            · rw [if_neg (by simp [k1])] at k
              rw [if_neg (by simp [k1])]
              exact ih y z a2 b2 c2 h k
            · rw [if_pos k1] at k
              rw [if_pos k1]; exact k
          · rw [if_pos h1] at h
            by_cases k1 : cmpTag b c = 0
            · obtain rfl := zbc.1 k1
              rw [if_pos h1]; exact h
            · rw [if_pos k1] at k
              have := t h k
              rw [if_pos (by omega)]; exact this
def joinP : List (List UInt8) → List UInt8
  | [] => []
  | [t] => t
  | t :: r => t ++ 46 :: joinP r
theorem joinP_cons (t : List UInt8) {r : List (List UInt8)} (h : r ≠ []) : joinP (t :: r) = t ++ 46 :: joinP r := by
  cases r with
  | nil => exact absurd rfl h
  | cons a b => rfl
theorem join_split : ∀ (l cur : List UInt8), joinP (splitL 46 cur l) = cur ++ l
  | [], cur => by simp [splitL, joinP]
  | c :: r, cur => by
    unfold splitL
    split
    · rename_i h
      subst h
      have hne : splitL 46 [] r ≠ [] := by
        have := (splitL_len 46 r []).1
        intro e; rw [e] at this; simp at this
      rw [joinP_cons _ hne, join_split r []]
      simp
    · rw [join_split r (cur ++ [c])]; simp
theorem splitP_inj {a b : List UInt8} (h : splitP a = splitP b) : a = b := by
  have ha := join_split a []
  have hb := join_split b []
  rw [show splitL 46 [] a = splitP a from rfl] at ha
  rw [show splitL 46 [] b = splitP b from rfl, ← h, ha] at hb
  simpa using hb
theorem preL_all {l : List UInt8} (h : preL l = true) : (splitP l).all preTag = true := by rw [preL, Bool.and_eq_true] at h; exact h.2
theorem preOk_cases {l : List UInt8} (h : preOk l = true) : l = [] ∨ (l ≠ [] ∧ (splitP l).all preTag = true) := by
  cases l with
  | nil => exact .inl rfl
  | cons c r => exact .inr ⟨by simp, preL_all (by simpa [preOk] using h)⟩
theorem TO.pre : TO (fun l : List UInt8 => preOk l = true) cmpPre := by
  refine ⟨fun a b ha hb => ?_, fun a b ha hb => ?_, fun a b c ha hb hc => ?_⟩
  · unfold cmpPre
    by_cases e : a = b
    · simp [e]
    · rw [if_neg e]
      rcases preOk_cases ha with rfl | ⟨na, a1⟩
      · rw [if_pos rfl]; exact ⟨fun h => by omega, fun h => absurd h e⟩
      · rw [if_neg na]
        rcases preOk_cases hb with rfl | ⟨nb, b1⟩
        · rw [if_pos rfl]; exact ⟨fun h => by omega, fun h => absurd h e⟩
        · rw [if_neg nb, TO.tags.zero _ _ a1 b1]
          exact ⟨splitP_inj, fun h => absurd h e⟩
  · unfold cmpPre
    by_cases e : a = b
    · subst e; simp
    · have e' : ¬ b = a := fun h => e h.symm
      rw [if_neg e, if_neg e']
      rcases preOk_cases ha with rfl | ⟨na, a1⟩
      · rcases preOk_cases hb with rfl | ⟨nb, b1⟩
        · exact absurd rfl e
        · rw [if_pos rfl, if_neg nb, if_pos rfl]; omega
      · rcases preOk_cases hb with rfl | ⟨nb, b1⟩
        · rw [if_neg na, if_pos rfl, if_pos rfl]; omega
        · rw [if_neg na, if_neg nb, if_neg nb, if_neg na]
          exact TO.tags.anti _ _ a1 b1
  · intro h k
    unfold cmpPre at h k ⊢
    by_cases e1 : a = b
    · rw [if_pos e1] at h; omega
    by_cases e2 : b = c
    · rw [if_pos e2] at k; omega
    rw [if_neg e1] at h
    rw [if_neg e2] at k
    rcases preOk_cases ha with rfl | ⟨na, a1⟩
    · rw [if_pos rfl] at h; omega
    rcases preOk_cases hb with rfl | ⟨nb, b1⟩
    · rw [if_pos rfl] at k; omega
    rw [if_neg na, if_neg nb] at h
    rw [if_neg nb] at k
    by_cases e3 : a = c
    · subst e3
      rw [if_neg na] at k
      have := (TO.tags.anti _ _ a1 b1).1 h
      omega
    · rw [if_neg e3, if_neg na]
      rcases preOk_cases hc with rfl | ⟨nc, c1⟩
      · rw [if_pos rfl]; omega
      · rw [if_neg nc] at k ⊢
        exact TO.tags.tran _ _ _ a1 b1 c1 h k
theorem mayV_pre {v : Ver} (h : mayV v = true) : preOk (bts v.pre) = true := by
  simp only [mayV, Bool.and_eq_true] at h; exact h.1.2
theorem cmpNum_zero {a b : Ver} : cmpNum a b = 0 ↔ a.maj = b.maj ∧ a.min = b.min ∧ a.pat = b.pat := by
  have h1 := @cmpI_zero a.maj b.maj
  have h2 := @cmpI_zero a.min b.min
  have h3 := @cmpI_zero a.pat b.pat
  unfold cmpNum
  split
  · omega
  · split <;> omega
theorem cmpNum_lt {a b : Ver} : cmpNum a b < 0 ↔ a.maj < b.maj ∨ (a.maj = b.maj ∧ (a.min < b.min ∨ (a.min = b.min ∧ a.pat < b.pat))) := by
  have h1 := @cmpI_zero a.maj b.maj
  have h2 := @cmpI_zero a.min b.min
  have k1 := @cmpI_lt a.maj b.maj
  have k2 := @cmpI_lt a.min b.min
  have k3 := @cmpI_lt a.pat b.pat
  unfold cmpNum
  split
  · omega
  · split <;> omega
theorem cmpNum_gt {a b : Ver} : 0 < cmpNum a b ↔ cmpNum b a < 0 := by
  rw [cmpNum_lt]
  have h1 := @cmpI_zero a.maj b.maj
  have h2 := @cmpI_zero a.min b.min
  have k1 := @cmpI_gt a.maj b.maj
  have k2 := @cmpI_gt a.min b.min
  have k3 := @cmpI_gt a.pat b.pat
  unfold cmpNum
  split
  · omega
  · split <;> omega
theorem cmpV_zero {a b : Ver} (ha : mayV a = true) (hb : mayV b = true) : cmpV a b = 0 ↔ a.maj = b.maj ∧ a.min = b.min ∧ a.pat = b.pat ∧ bts a.pre = bts b.pre := by
  unfold cmpV
  rw [if_neg (by simp [ha, hb])]
  have hz := @cmpNum_zero a b
  have hp := TO.pre.zero _ _ (mayV_pre ha) (mayV_pre hb)
  split
  · constructor
    · intro h; contradiction
    · rintro ⟨h1, h2, h3, _⟩; exact absurd (hz.2 ⟨h1, h2, h3⟩) ‹_›
  · rename_i h
    have h0 : cmpNum a b = 0 := by omega
    rw [hp]
    have := hz.1 h0
    exact ⟨fun e => ⟨this.1, this.2.1, this.2.2, e⟩, fun e => e.2.2.2⟩
theorem cmpV_anti {a b : Ver} (ha : mayV a = true) (hb : mayV b = true) : cmpV a b < 0 ↔ 0 < cmpV b a := by
  unfold cmpV
  have hab : ¬ (mayV a = false ∨ mayV b = false) := by simp [ha, hb]
  have hba : ¬ (mayV b = false ∨ mayV a = false) := by simp [ha, hb]
  rw [if_neg hab, if_neg hba]
  have g1 := @cmpNum_gt a b
  have g2 := @cmpNum_gt b a
  have hp := TO.pre.anti _ _ (mayV_pre ha) (mayV_pre hb)
  split
  · split <;> omega
  · split <;> omega
theorem cmpNum_tran {a b c : Ver} (h : cmpNum a b < 0) (k : cmpNum b c ≤ 0) : cmpNum a c < 0 := by
  have : cmpNum b c < 0 ∨ cmpNum b c = 0 := by omega
  rw [cmpNum_lt] at h ⊢
  rcases this with k | k
  · rw [cmpNum_lt] at k; omega
  · rw [cmpNum_zero] at k; omega
theorem cmpNum_tran' {a b c : Ver} (h : cmpNum a b = 0) (k : cmpNum b c < 0) : cmpNum a c < 0 := by
  rw [cmpNum_zero] at h; rw [cmpNum_lt] at k ⊢; omega
theorem cmpNum_tran0 {a b c : Ver} (h : cmpNum a b = 0) (k : cmpNum b c = 0) : cmpNum a c = 0 := by
  rw [cmpNum_zero] at *; omega
theorem cmpV_tran {a b c : Ver} (ha : mayV a = true) (hb : mayV b = true) (hc : mayV c = true) (h : cmpV a b < 0) (k : cmpV b c < 0) : cmpV a c < 0 := by
  have hp := TO.pre.tran _ _ _ (mayV_pre ha) (mayV_pre hb) (mayV_pre hc)
  unfold cmpV at h k ⊢
  rw [if_neg (by simp [ha, hb])] at h
  rw [if_neg (by simp [hb, hc])] at k
  rw [if_neg (by simp [ha, hc])]
  by_cases h1 : cmpNum a b = 0
  · rw [if_neg (by simp [h1])] at h
    by_cases k1 : cmpNum b c = 0
    · rw [if_neg (by simp [k1])] at k
      rw [if_neg (by simp [cmpNum_tran0 h1 k1])]
      exact hp h k
    · rw [if_pos k1] at k
      have := cmpNum_tran' h1 k
      rw [if_pos (by omega)]; exact this
  · rw [if_pos h1] at h
    have hle : cmpNum b c ≤ 0 := by
      by_cases k1 : cmpNum b c = 0
      · omega
      · rw [if_pos k1] at k; omega
    have := cmpNum_tran h hle
    rw [if_pos (by omega)]; exact this
end Go.Proofs.YtlmkglgjdmjnkaaGreatDoor
namespace Go.Proofs.YtlmkglgjdmjnkaaGreatDoor
open Go.RowKit Go.Lib
set_option linter.unusedVariables false
set_option linter.unusedSimpArgs false
theorem cmpi_any (a b : Int) (w : World) : Calls Tryz.prog 173 #[.int .i64 a, .int .i64 b] w fun e w' => e = .returned (.int .i64 (cmpI a b)) ∧ w = w' := by
  rcases Int.lt_trichotomy a b with h | h | h
  · have e : cmpI a b = -1 := by simp [cmpI, h]
    rw [e]
    clear e
    go_enter Tryz.func173, Tryz.ntmps173
    go_wp2
    go_ret
    exact ⟨rfl, rfl⟩
  · subst h
    rw [cmpI_self]
    go_enter Tryz.func173, Tryz.ntmps173
    go_wp2
    go_ret
    exact ⟨rfl, rfl⟩
  · have e : cmpI a b = 1 := by unfold cmpI; rw [if_neg (by omega), if_pos h]
    rw [e]
    clear e
    have h2 : ¬ a < b := by omega
    go_enter Tryz.func173, Tryz.ntmps173
    go_wp2
    go_ret
    exact ⟨rfl, rfl⟩
theorem ints_any (a b : Int) (w : World) : Calls Tryz.prog 193 #[.int .i64 a, .int .i64 b] w fun e w' => e = .returned (.int .i64 (cmpI a b)) ∧ w = w' := by
  rcases Int.lt_trichotomy a b with h | h | h
  · have e : cmpI a b = -1 := by simp [cmpI, h]
    rw [e]
    clear e
    go_enter Tryz.func193, Tryz.ntmps193
    go_wp2
    go_ret
    exact ⟨rfl, rfl⟩
  · subst h
    rw [cmpI_self]
    go_enter Tryz.func193, Tryz.ntmps193
    go_wp2
    go_ret
    exact ⟨rfl, rfl⟩
  · have e : cmpI a b = 1 := by unfold cmpI; rw [if_neg (by omega), if_pos h]
    rw [e]
    clear e
    have h2 : ¬ a < b := by omega
    go_enter Tryz.func193, Tryz.ntmps193
    go_wp2
    go_ret
    exact ⟨rfl, rfl⟩
theorem bless_ne {a b : List UInt8} (h : Op.bytesLess a b = true) : (a == b) = false := by
  rw [beq_eq_false_iff_ne]; intro e; subst e; rw [bless_irr] at h; cases h
theorem cmps_any (a b : ByteArray) (w : World) : Calls Tryz.prog 168 #[.string a, .string b] w fun e w' => e = .returned (.int .i64 (cmpB (bts a) (bts b))) ∧ w = w' := by
  cases h : Op.bytesLess a.toList b.toList
  · cases k : Op.bytesLess b.toList a.toList
    · have e := bless_tri _ _ h k
      have e2 := bts_inj e
      subst e2
      rw [(TO.bytes.zero _ _ trivial trivial).2 rfl]
      clear e k
      go_enter Tryz.func168, Tryz.ntmps168
      go_wp2
      go_ret
      exact ⟨rfl, rfl⟩
    · have e : cmpB (bts a) (bts b) = 1 := by simp [cmpB, h, k]
      rw [e]
      have hne : (a.toList == b.toList) = false := by have := bless_ne k; rw [beq_eq_false_iff_ne] at this ⊢; exact fun e => this e.symm
      have hne2 : ¬ a.toList = b.toList := by simpa using hne
      clear e k
      go_enter Tryz.func168, Tryz.ntmps168
      go_wp2
      go_ret
      exact ⟨rfl, rfl⟩
  · have e : cmpB (bts a) (bts b) = -1 := by simp [cmpB, h]
    rw [e]
    clear e
    go_enter Tryz.func168, Tryz.ntmps168
    go_wp2
    go_ret
    exact ⟨rfl, rfl⟩
theorem texts_any (a b : ByteArray) (w : World) : Calls Tryz.prog 199 #[.string a, .string b] w fun e w' => e = .returned (.int .i64 (cmpB (bts a) (bts b))) ∧ w = w' := by
  cases h : Op.bytesLess a.toList b.toList
  · cases k : Op.bytesLess b.toList a.toList
    · have e := bless_tri _ _ h k
      have e2 := bts_inj e
      subst e2
      rw [(TO.bytes.zero _ _ trivial trivial).2 rfl]
      clear e k
      go_enter Tryz.func199, Tryz.ntmps199
      go_wp2
      go_ret
      exact ⟨rfl, rfl⟩
    · have e : cmpB (bts a) (bts b) = 1 := by simp [cmpB, h, k]
      rw [e]
      have hne : (a.toList == b.toList) = false := by have := bless_ne k; rw [beq_eq_false_iff_ne] at this ⊢; exact fun e => this e.symm
      have hne2 : ¬ a.toList = b.toList := by simpa using hne
      clear e k
      go_enter Tryz.func199, Tryz.ntmps199
      go_wp2
      go_ret
      exact ⟨rfl, rfl⟩
  · have e : cmpB (bts a) (bts b) = -1 := by simp [cmpB, h]
    rw [e]
    clear e
    go_enter Tryz.func199, Tryz.ntmps199
    go_wp2
    go_ret
    exact ⟨rfl, rfl⟩
def IntPost (w : World) (n : Int) (e : Ending) (w' : World) : Prop := e = .returned (.int .i64 n) ∧ Below w.heap.size w w'
set_option maxHeartbeats 1000000 in
theorem tag_any (a b : ByteArray) (w : World) (ha : a.size ≤ 9223372036854775807) (hb : b.size ≤ 9223372036854775807) : Calls Tryz.prog 175 #[.string a, .string b] w (IntPost w (cmpTag (bts a) (bts b))) := by
  cases h1 : numericL (bts a) <;> cases h2 : numericL (bts b)
  · have e : cmpTag (bts a) (bts b) = cmpB (bts a) (bts b) := by simp [cmpTag, h1, h2]
    rw [e]
    clear e
    go_enter Tryz.func175, Tryz.ntmps175
    go_wp2_with (first | (go_at_call_of 187 a; refine (numeric_any a _ ha).mono ?_; rintro e w' ⟨rfl, rfl⟩) | (go_at_call_of 187 b; refine (numeric_any b _ hb).mono ?_; rintro e w' ⟨rfl, rfl⟩) | (go_at_call 168; refine (cmps_any _ _ _).mono ?_; rintro e w' ⟨rfl, rfl⟩))
    go_ret
    exact ⟨rfl, Below.refl _ _⟩
  · have e : cmpTag (bts a) (bts b) = 1 := by simp [cmpTag, h1, h2]
    rw [e]
    clear e
    go_enter Tryz.func175, Tryz.ntmps175
    go_wp2_with (first | (go_at_call_of 187 a; refine (numeric_any a _ ha).mono ?_; rintro e w' ⟨rfl, rfl⟩) | (go_at_call_of 187 b; refine (numeric_any b _ hb).mono ?_; rintro e w' ⟨rfl, rfl⟩))
    go_ret
    exact ⟨rfl, Below.refl _ _⟩
  · have e : cmpTag (bts a) (bts b) = -1 := by simp [cmpTag, h1, h2]
    rw [e]
    clear e
    go_enter Tryz.func175, Tryz.ntmps175
    go_wp2_with (first | (go_at_call_of 187 a; refine (numeric_any a _ ha).mono ?_; rintro e w' ⟨rfl, rfl⟩) | (go_at_call_of 187 b; refine (numeric_any b _ hb).mono ?_; rintro e w' ⟨rfl, rfl⟩))
    go_ret
    exact ⟨rfl, Below.refl _ _⟩
  · have e : cmpTag (bts a) (bts b) = cmpI (numberL (bts a)).1 (numberL (bts b)).1 := by simp [cmpTag, h1, h2]
    rw [e]
    clear e
    go_enter Tryz.func175, Tryz.ntmps175
    go_wp2_with (first | (go_at_call_of 187 a; refine (numeric_any a _ ha).mono ?_; rintro e w' ⟨rfl, rfl⟩) | (go_at_call_of 187 b; refine (numeric_any b _ hb).mono ?_; rintro e w' ⟨rfl, rfl⟩))
    refine (number_any a _).mono ?_
    rintro e w1 ⟨rfl, hb1⟩
    go_wp2_with fail
    refine (number_any b _).mono ?_
    rintro e w2 ⟨rfl, hb2⟩
    go_wp2_with (go_at_call 173; refine (cmpi_any _ _ _).mono ?_; rintro e w' ⟨rfl, rfl⟩)
    go_ret
    exact ⟨rfl, below_tr hb1 hb2⟩
set_option maxHeartbeats 1000000 in
theorem one_any (a b : ByteArray) (w : World) (ha : a.size ≤ 9223372036854775807) (hb : b.size ≤ 9223372036854775807) : Calls Tryz.prog 198 #[.string a, .string b] w (IntPost w (cmpTag (bts a) (bts b))) := by
  cases h1 : numericL (bts a) <;> cases h2 : numericL (bts b)
  · have e : cmpTag (bts a) (bts b) = cmpB (bts a) (bts b) := by simp [cmpTag, h1, h2]
    rw [e]
    clear e
    go_enter Tryz.func198, Tryz.ntmps198
    go_wp2_with (first | (go_at_call_of 135 a; refine (rnumeric_any a _ ha).mono ?_; rintro e w' ⟨rfl, rfl⟩) | (go_at_call_of 135 b; refine (rnumeric_any b _ hb).mono ?_; rintro e w' ⟨rfl, rfl⟩) | (go_at_call 199; refine (texts_any _ _ _).mono ?_; rintro e w' ⟨rfl, rfl⟩))
    go_ret
    exact ⟨rfl, Below.refl _ _⟩
  · have e : cmpTag (bts a) (bts b) = 1 := by simp [cmpTag, h1, h2]
    rw [e]
    clear e
    go_enter Tryz.func198, Tryz.ntmps198
    go_wp2_with (first | (go_at_call_of 135 a; refine (rnumeric_any a _ ha).mono ?_; rintro e w' ⟨rfl, rfl⟩) | (go_at_call_of 135 b; refine (rnumeric_any b _ hb).mono ?_; rintro e w' ⟨rfl, rfl⟩))
    go_ret
    exact ⟨rfl, Below.refl _ _⟩
  · have e : cmpTag (bts a) (bts b) = -1 := by simp [cmpTag, h1, h2]
    rw [e]
    clear e
    go_enter Tryz.func198, Tryz.ntmps198
    go_wp2_with (first | (go_at_call_of 135 a; refine (rnumeric_any a _ ha).mono ?_; rintro e w' ⟨rfl, rfl⟩) | (go_at_call_of 135 b; refine (rnumeric_any b _ hb).mono ?_; rintro e w' ⟨rfl, rfl⟩))
    go_ret
    exact ⟨rfl, Below.refl _ _⟩
  · have e : cmpTag (bts a) (bts b) = cmpI (numberL (bts a)).1 (numberL (bts b)).1 := by simp [cmpTag, h1, h2]
    rw [e]
    clear e
    go_enter Tryz.func198, Tryz.ntmps198
    go_wp2_with (first | (go_at_call_of 135 a; refine (rnumeric_any a _ ha).mono ?_; rintro e w' ⟨rfl, rfl⟩) | (go_at_call_of 135 b; refine (rnumeric_any b _ hb).mono ?_; rintro e w' ⟨rfl, rfl⟩))
    refine (rnumber_any a _).mono ?_
    rintro e w1 ⟨rfl, hb1⟩
    go_wp2_with fail
    refine (rnumber_any b _).mono ?_
    rintro e w2 ⟨rfl, hb2⟩
    go_wp2_with (go_at_call 193; refine (ints_any _ _ _).mono ?_; rintro e w' ⟨rfl, rfl⟩)
    go_ret
    exact ⟨rfl, below_tr hb1 hb2⟩
end Go.Proofs.YtlmkglgjdmjnkaaGreatDoor
namespace Go.Proofs.YtlmkglgjdmjnkaaGreatDoor
open Go.RowKit Go.Lib
set_option linter.unusedVariables false
set_option linter.unusedSimpArgs false
def Ver.core (v : Ver) : Ver := { v with bld := ⟨#[]⟩ }
def VerPost (w : World) (v : Ver) (e : Ending) (w' : World) : Prop := e = .returned v.val ∧ Below w.heap.size w w'
theorem core_any (v : Ver) (w : World) : Calls Tryz.prog 172 #[v.val] w (VerPost w v.core) := by
  go_enter Tryz.func172, Tryz.ntmps172
  go_wp2
  refine bodyPost_ret (v := .agg #[.int .i64 v.maj, .int .i64 v.min, .int .i64 v.pat, .string v.pre, .string ⟨#[]⟩]) (by simp [results, Tryz.results172, go_sem]) rfl ⟨rfl, ?_⟩
  exact ((below_new _ _).alloc (by simp) _)
def or3 (x y z : Int) : Int := if x ≠ 0 then x else if y ≠ 0 then y else z
set_option maxRecDepth 100000 in
set_option maxHeartbeats 400000 in
theorem or_any (g : Nat) (x y z : Int) (w : World) (h0 : w.cell? ⟨g, 0, none⟩ = some (.int .i64 x)) (h1 : w.cell? ⟨g, 1, none⟩ = some (.int .i64 y)) (h2 : w.cell? ⟨g, 2, none⟩ = some (.int .i64 z)) :
    Calls Tryz.prog 167 #[.slice (some ⟨g, 0, none⟩) 3 3] w fun e w' => e = .returned (.int .i64 (or3 x y z)) ∧ w = w' := by
  generalize hr : or3 x y z = r
  have HR := hid hr
  clear hr
  go_enter Tryz.func167, Tryz.ntmps167
  go_wp2
  go_loop [5, 8] (fun v i => ∃ k : Nat, k ≤ 3 ∧ i = .int .i64 k ∧ Hid ((0 < k → x = 0) ∧ (1 < k → y = 0) ∧ (2 < k → z = 0))) (fun _ i => 3 - (intOf i).toNat)
  case atStart => exact ⟨0, by omega, rfl, ⟨fun h => by omega, fun h => by omega, fun h => by omega⟩⟩
  case round =>
    obtain ⟨k, hk, rfl, HZ⟩ := hrel
    rcases (show k = 0 ∨ k = 1 ∨ k = 2 ∨ k = 3 from by omega) with rfl | rfl | rfl | rfl
    · by_cases hx : x = 0
      · have hx' : (x != 0) = false := by simp [hx]
        have HX := hid hx
        clear hx
        go_wp2
        go_round
        case rel => exact ⟨1, by omega, by go_num, ⟨fun _ => HX.out, fun h => by omega, fun h => by omega⟩⟩
        case measure => simp [intOf]
      · have hx' : (x != 0) = true := by simpa using hx
        go_wp2
        go_ret
        exact ⟨by rw [← HR.out, or3, if_pos hx]; rfl, rfl⟩
    · have HX := hid (HZ.out.1 (by omega))
      by_cases hx : y = 0
      · have hx' : (y != 0) = false := by simp [hx]
        have HY := hid hx
        clear hx
        go_wp2
        go_round
        case rel => exact ⟨2, by omega, by go_num, ⟨fun _ => HX.out, fun _ => HY.out, fun h => by omega⟩⟩
        case measure => simp [intOf]
      · have hx' : (y != 0) = true := by simpa using hx
        go_wp2
        go_ret
        exact ⟨by rw [← HR.out, or3, if_neg (by simp [HX.out]), if_pos hx]; rfl, rfl⟩
    · have HX := hid (HZ.out.1 (by omega))
      have HY := hid (HZ.out.2.1 (by omega))
      by_cases hx : z = 0
      · have hx' : (z != 0) = false := by simp [hx]
        have HV := hid hx
        clear hx
        go_wp2
        go_round
        case rel => exact ⟨3, by omega, by go_num, ⟨fun _ => HX.out, fun _ => HY.out, fun _ => HV.out⟩⟩
        case measure => simp [intOf]
      · have hx' : (z != 0) = true := by simpa using hx
        go_wp2
        go_ret
        exact ⟨by rw [← HR.out, or3, if_neg (by simp [HX.out]), if_neg (by simp [HY.out])]; rfl, rfl⟩
    · have HX := hid (HZ.out.1 (by omega))
      have HY := hid (HZ.out.2.1 (by omega))
      have HV := hid (HZ.out.2.2 (by omega))
      go_wp2
      go_ret
      exact ⟨by rw [← HR.out, or3, HX.out, HY.out, HV.out]; rfl, rfl⟩
def eqVer (a b : Ver) : Bool := a.maj == b.maj && a.min == b.min && a.pat == b.pat && bts a.pre == bts b.pre && bts a.bld == bts b.bld
theorem eqVer_iff {a b : Ver} : eqVer a b = true ↔ a = b := by
  simp only [eqVer, Bool.and_eq_true, beq_iff_eq]
  constructor
  · rintro ⟨⟨⟨⟨h1, h2⟩, h3⟩, h4⟩, h5⟩
    cases a; cases b
    simp only at h1 h2 h3 h4 h5
    rw [h1, h2, h3, bts_inj h4, bts_inj h5]
  · rintro rfl; simp
theorem fields29 : Tryz.prog.underlying 29 = some (.struct (Tryz.prog.fieldsOf 29)) := by kernel_rfl
theorem stood29 : Tryz.prog.stoodInHeld 29 = false := by kernel_rfl
theorem guard29 : Tryz.prog.eqGuardType Tryz.prog.depth 29 = false := by kernel_rfl
set_option maxHeartbeats 400000 in
theorem eqlV (a b : Ver) (w : World) : (binOp .eql 29 a.val b.val).run Tryz.prog w = .ok (.bool (eqVer a b)) w := by
  rw [run_eql_struct, show (10000 : Nat) = 9999 + 1 from rfl, run_equalIn_agg w 9999 29 _ _ fields29 stood29]
  simp only [Program.fieldsOf, Tryz.underlying29]
  have u3 := Tryz.underlying3
  have u9 := Tryz.underlying9
  have a3 := Tryz.isAgg3
  have z3 := Tryz.sizeOf3
  have a9 := Tryz.isAgg9
  have z9 := Tryz.sizeOf9
  go_simp
  unfold eqVer
  cases h1 : a.maj == b.maj <;> cases h2 : a.min == b.min <;> cases h3 : a.pat == b.pat <;> cases h4 : a.pre.toList == b.pre.toList <;> cases h5 : a.bld.toList == b.bld.toList <;> simp_all
theorem eqgV (op : BinOp) (x y : Operand) (a b : Ver) (w : World) : (eqGuard op 29 x y a.val b.val).run Tryz.prog w = .ok () w := run_eqGuard_agg w op _ x y _ _ guard29
end Go.Proofs.YtlmkglgjdmjnkaaGreatDoor
namespace Go.Proofs.YtlmkglgjdmjnkaaGreatDoor
open Go.RowKit Go.Lib
set_option linter.unusedVariables false
set_option linter.unusedSimpArgs false
def vstop (a b : Ver) : Bool := !mayV a || !mayV b || eqVer a.core b.core
theorem cmpV_stop {a b : Ver} (h : vstop a b = true) : cmpV a b = 0 := by
  cases ha : mayV a
  · simp [cmpV, ha]
  · cases hb : mayV b
    · simp [cmpV, hb]
    · rw [vstop, ha, hb] at h
      have h' := eqVer_iff.1 (by simpa using h)
      rw [cmpV_zero ha hb]
      have e : ∀ v : Ver, v.core.maj = v.maj ∧ v.core.min = v.min ∧ v.core.pat = v.pat ∧ v.core.pre = v.pre := fun v => ⟨rfl, rfl, rfl, rfl⟩
      refine ⟨?_, ?_, ?_, ?_⟩
      · rw [← (e a).1, h', (e b).1]
      · rw [← (e a).2.1, h', (e b).2.1]
      · rw [← (e a).2.2.1, h', (e b).2.2.1]
      · rw [← (e a).2.2.2, h', (e b).2.2.2]
theorem cmpNum_or (a b : Ver) : cmpNum a b = or3 (cmpI a.maj b.maj) (cmpI a.min b.min) (cmpI a.pat b.pat) := rfl
theorem vstop_no {a b : Ver} (h : vstop a b = false) : mayV a = true ∧ mayV b = true ∧ eqVer a.core b.core = false := by
  simp only [vstop, Bool.or_eq_false_iff, Bool.not_eq_false'] at h
  exact ⟨h.1.1, h.1.2, h.2⟩
theorem cmpV_num {a b : Ver} (h : vstop a b = false) (h1 : cmpNum a b ≠ 0) : cmpV a b = cmpNum a b := by
  obtain ⟨ha, hb, _⟩ := vstop_no h
  rw [cmpV, if_neg (by simp [ha, hb]), if_pos h1]
theorem cmpV_pre {a b : Ver} (h : vstop a b = false) (h1 : cmpNum a b = 0) : cmpV a b = if bts a.pre = [] then 1 else if bts b.pre = [] then -1 else cmpTags (splitP (bts a.pre)) (splitP (bts b.pre)) := by
  obtain ⟨ha, hb, hne⟩ := vstop_no h
  rw [cmpV, if_neg (by simp [ha, hb]), if_neg (by simp [h1]), cmpPre, if_neg]
  intro e
  obtain ⟨n1, n2, n3⟩ := cmpNum_zero.1 h1
  have : eqVer a.core b.core = true := by
    rw [eqVer_iff]
    simp only [Ver.core, n1, n2, n3, bts_inj e]
  rw [this] at hne; cases hne
theorem cmpTags_step {x y : List (List UInt8)} {k : Nat} (hx : k < x.length) (hy : k < y.length) : cmpTags (x.drop k) (y.drop k) = if cmpTag x[k] y[k] ≠ 0 then cmpTag x[k] y[k] else cmpTags (x.drop (k + 1)) (y.drop (k + 1)) := by
  rw [List.drop_eq_getElem_cons hx, List.drop_eq_getElem_cons hy]; rfl
theorem cmpTags_end {x y : List (List UInt8)} {k : Nat} (hx : k ≤ x.length) (hy : k ≤ y.length) (h : ¬ (k < x.length ∧ k < y.length)) : cmpTags (x.drop k) (y.drop k) = cmpI x.length y.length := by
  have e : ∀ u v : List (List UInt8), (u = [] ∨ v = []) → cmpTags u v = cmpI u.length v.length := by
    intro u v h
    rcases h with rfl | rfl
    · rfl
    · cases u <;> rfl
  have hc : x.drop k = [] ∨ y.drop k = [] := by
    by_cases h1 : k < x.length
    · exact .inr (List.drop_eq_nil_of_le (by omega))
    · exact .inl (List.drop_eq_nil_of_le (by omega))
  rw [e _ _ hc, List.length_drop, List.length_drop]
  unfold cmpI
  split <;> split <;> (try split) <;> (try split) <;> omega
abbrev boxV (w : World) (a : Ver) : World := w.alloc (.cells #[.int .i64 a.maj, .int .i64 a.min, .int .i64 a.pat, .string a.pre, .string a.bld] 29)
abbrev box2 (w : World) (a b : Ver) : World := boxV (boxV w a) b
theorem below_box2 (w : World) (a b : Ver) : Below w.heap.size w (box2 w a b) := below_tr (below_new _ _) (below_new _ _)
theorem below_undrew {w w1 : World} (h : Below w.drew.heap.size w.drew w1) : Below w.heap.size w w1 := ⟨⟨h.os, h.tape, h.output, h.size, h.block⟩, Nat.le_trans (Nat.le_succ _) h.drawn⟩
def BoxV (w : World) (g : Nat) (v : Ver) : Prop := w.cell? ⟨g, 0, none⟩ = some (.int .i64 v.maj) ∧ w.cell? ⟨g, 1, none⟩ = some (.int .i64 v.min) ∧ w.cell? ⟨g, 2, none⟩ = some (.int .i64 v.pat) ∧ w.cell? ⟨g, 3, none⟩ = some (.string v.pre) ∧ w.cell? ⟨g, 4, none⟩ = some (.string v.bld)
theorem BoxV.new (w : World) (v : Ver) : BoxV (boxV w v) w.heap.size v := by
  refine ⟨?_, ?_, ?_, ?_, ?_⟩ <;> simp [boxV]
theorem BoxV.below {w w' : World} {g : Nat} {v : Ver} (h : BoxV w g v) (hg : g < w.heap.size) (hb : Below w.heap.size w w') : BoxV w' g v := by
  obtain ⟨h0, h1, h2, h3, h4⟩ := h
  exact ⟨(hb.cell (p := ⟨g, 0, none⟩) hg).trans h0, (hb.cell (p := ⟨g, 1, none⟩) hg).trans h1, (hb.cell (p := ⟨g, 2, none⟩) hg).trans h2, (hb.cell (p := ⟨g, 3, none⟩) hg).trans h3, (hb.cell (p := ⟨g, 4, none⟩) hg).trans h4⟩
theorem box_ab {w w1 : World} {a b : Ver} (hb : Below (box2 w a b).heap.size (box2 w a b) w1) : BoxV w1 w.heap.size a ∧ BoxV w1 (w.heap.size + 1) b ∧ w.heap.size + 1 < w1.heap.size := by
  have hs := hb.size
  simp [box2, boxV] at hs
  refine ⟨?_, ?_, by omega⟩
  · exact ((BoxV.new w a).below (by simp [boxV]) (below_new (boxV w a) _)).below (by simp [box2, boxV]; omega) hb
  · have := (BoxV.new (boxV w a) b).below (by simp [boxV]) hb
    simpa [boxV] using this
theorem held_fact {w : World} {g k : Nat} {s : ByteArray} {n : Nat} (h : Held w g (splitP (bts s))) (hn : (splitP (bts s)).length = n) (hk : k < n) : ∃ x : ByteArray, w.cell? ⟨g, k, none⟩ = some (.string x) ∧ bts x = (splitP (bts s)).getD k [] ∧ x.size ≤ s.size := by
  obtain ⟨x, h1, h2, h3⟩ := part_str s k (by omega)
  refine ⟨x, by rw [← h1]; exact h.2 k (by omega), ?_, h3⟩
  rw [h2]; simp [show k < (splitP (bts s)).length by omega]
theorem cmpTags_step' {x y : List (List UInt8)} {k : Nat} (hx : k < x.length) (hy : k < y.length) : cmpTags (x.drop k) (y.drop k) = if cmpTag (x.getD k []) (y.getD k []) ≠ 0 then cmpTag (x.getD k []) (y.getD k []) else cmpTags (x.drop (k + 1)) (y.drop (k + 1)) := by
  rw [cmpTags_step hx hy]; simp [hx, hy]
set_option maxRecDepth 100000 in
set_option maxHeartbeats 4000000 in
theorem vcompare_any (a b : Ver) (w : World) (ha : a.fit) (hb : b.fit) : Calls Tryz.prog 144 #[a.val, b.val] w (IntPost w (cmpV a b)) := by
  generalize hr : cmpV a b = r
  have HR := hid hr
  clear hr
  have hq := eqlV
  have hqg := eqgV
  have hB2 := below_box2 w a b
  go_enter Tryz.func144, Tryz.ntmps144
  go_upto_region 1 with fail
  go_cut [24] (fun c wx => c = .bool (vstop a b) ∧ Below (box2 w a b).heap.size (box2 w a b) wx)
  case first =>
    cases h1 : mayV a
    · go_region_with (go_at_call 143; refine (may_any a _ ha).mono ?_; rintro e w1 ⟨rfl, hb1⟩)
      all_goals (go_wp2_with fail; go_meet; exact ⟨by simp [vstop, h1], below_undrew hb1⟩)
    · cases h2 : mayV b
      · go_region_with (first | (go_at_call_of 143 a.pre; refine (may_any a _ ha).mono ?_; rintro e w1 ⟨rfl, hb1⟩; have hB1 := below_undrew hb1; obtain ⟨⟨a10, a11, a12, a13, a14⟩, ⟨b10, b11, b12, b13, b14⟩, hz1⟩ := box_ab hB1) | (go_at_call_of 143 b.pre; refine (may_any b _ hb).mono ?_; rintro e w2 ⟨rfl, hb2⟩))
        all_goals (go_wp2_with fail; go_meet; exact ⟨by simp [vstop, h1, h2], below_tr hB1 hb2⟩)
      · go_region_with (first | (go_at_call_of 143 a.pre; refine (may_any a _ ha).mono ?_; rintro e w1 ⟨rfl, hb1⟩; have hB1 := below_undrew hb1; obtain ⟨⟨a10, a11, a12, a13, a14⟩, ⟨b10, b11, b12, b13, b14⟩, hz1⟩ := box_ab hB1) | (go_at_call_of 143 b.pre; refine (may_any b _ hb).mono ?_; rintro e w2 ⟨rfl, hb2⟩; have hB2 := below_tr hB1 hb2; obtain ⟨⟨a20, a21, a22, a23, a24⟩, ⟨b20, b21, b22, b23, b24⟩, hz2⟩ := box_ab hB2) | (go_at_call_of 172 a.pre; refine (core_any a _).mono ?_; rintro e w3 ⟨rfl, hb3⟩; have hB3 := below_tr hB2 hb3; obtain ⟨⟨a30, a31, a32, a33, a34⟩, ⟨b30, b31, b32, b33, b34⟩, hz3⟩ := box_ab hB3) | (go_at_call_of 172 b.pre; refine (core_any b _).mono ?_; rintro e w4 ⟨rfl, hb4⟩; have hB4 := below_tr hB3 hb4; obtain ⟨⟨a40, a41, a42, a43, a44⟩, ⟨b40, b41, b42, b43, b44⟩, hz4⟩ := box_ab hB4))
        all_goals (go_wp2_with fail; go_meet; exact ⟨by simp [vstop, h1, h2], below_tr hB3 hb4⟩)
  case rest =>
    obtain ⟨rfl, hB⟩ := hcut
    obtain ⟨⟨a0, a1, a2, a3, a4⟩, ⟨b0, b1, b2, b3, b4⟩, hz⟩ := box_ab hB
    have hBw := below_tr hB2 hB
    have hz0 : w.heap.size < wc.heap.size := by omega
    cases hs : vstop a b
    · have HS := hid hs
      clear hs hq hqg
      go_wp2_with fail
      go_region_held3 (fun w' => w'.cell? ⟨w.heap.size, 0, none⟩ = some (.int .i64 a.maj) ∧ w'.cell? ⟨w.heap.size, 1, none⟩ = some (.int .i64 a.min) ∧ w'.cell? ⟨w.heap.size, 2, none⟩ = some (.int .i64 a.pat) ∧ w'.cell? ⟨w.heap.size + 1, 0, none⟩ = some (.int .i64 b.maj) ∧ w'.cell? ⟨w.heap.size + 1, 1, none⟩ = some (.int .i64 b.min) ∧ w'.cell? ⟨w.heap.size + 1, 2, none⟩ = some (.int .i64 b.pat)) (go_keep)
        (first | (go_at_call 173; refine (cmpi_any _ _ _).mono ?_; rintro e w' ⟨rfl, rfl⟩) | (go_at_call 167; refine (or_any _ (cmpI a.maj b.maj) (cmpI a.min b.min) (cmpI a.pat b.pat) _ ?_ ?_ ?_).mono ?_; (simp); (simp); (simp); rintro e w' ⟨rfl, rfl⟩))
      rw [← cmpNum_or]
      by_cases hn : cmpNum a b = 0
      · have HN := hid hn
        have hn' : (cmpNum a b != 0) = false := by simp [hn]
        clear hn
        have HP := hid (cmpV_pre HS.out HN.out)
        by_cases hp : 0 < a.pre.size
        · obtain ⟨ep, np⟩ := ne_of_size hp
          by_cases hq : 0 < b.pre.size
          · obtain ⟨eq, nq⟩ := ne_of_size hq
            have HT := hid (show cmpV a b = cmpTags (splitP (bts a.pre)) (splitP (bts b.pre)) by rw [HP.out, if_neg (by rw [bts]; exact np), if_neg (by rw [bts]; exact nq)])
            clear a0 a1 a2 b0 b1 b2
            go_wp2_with fail
            go_region_held3 (fun w' => w'.cell? ⟨w.heap.size, 3, none⟩ = some (.string a.pre) ∧ w'.cell? ⟨w.heap.size + 1, 3, none⟩ = some (.string b.pre)) (go_keep)
              (first | (go_at_call_of 174 a.pre; refine (split46 a.pre _ ha.1).mono ?_; rintro e w5 ⟨g5, cap5, rfl, hg5, hgs5, hcap5, hcell5, hb5⟩; have HH5 := hid (show Held w5 g5 (splitP (bts a.pre)) from ⟨hgs5, hcell5⟩); clear hcell5; have hB5 := below_tr (by exact ((hB.alloc hB.size _).drew).drew) hb5; obtain ⟨⟨p0, p1, p2, p3, p4⟩, ⟨q0, q1, q2, q3, q4⟩, hz5⟩ := box_ab hB5; clear p0 p1 p2 p4 q0 q1 q2 q4) | (go_at_call_of 174 b.pre; refine (split46 b.pre _ hb.1).mono ?_; rintro e w6 ⟨g6, cap6, rfl, hg6, hgs6, hcap6, hcell6, hb6⟩; have HH6 := hid (show Held w6 g6 (splitP (bts b.pre)) from ⟨hgs6, hcell6⟩); clear hcell6; have hB6 := below_tr hB5 hb6; obtain ⟨⟨r0, r1, r2, r3, r4⟩, ⟨s0, s1, s2, s3, s4⟩, hz6⟩ := box_ab hB6; clear r0 r1 r2 r4 s0 s1 s2 s4))
            have hBw6 := below_tr hB2 hB6
            have H5 := hid (HH5.out.below hb6)
            have hnx : (splitP (bts a.pre)).length ≤ 4398046511105 := by have := (splitL_len 46 (bts a.pre) []).2; rw [bts_len] at this; exact Nat.le_trans this (by have := ha.1; omega)
            have hny : (splitP (bts b.pre)).length ≤ 4398046511105 := by have := (splitL_len 46 (bts b.pre) []).2; rw [bts_len] at this; exact Nat.le_trans this (by have := hb.1; omega)
            generalize hxl : (splitP (bts a.pre)).length = nx at *
            generalize hyl : (splitP (bts b.pre)).length = ny at *
            have HX := hid hxl
            have HY := hid hyl
            have hpa := ha.1
            have hpb := hb.1
            clear hxl hyl HH5 hb5 hb6 hB5 hB6 hB hBw a3 a4 b3 b4 hz0 hz hB2 ep np eq nq hn' hg5 hg6 hcap5 hcap6 p3 q3 r3 s3 hz5 hz6 hgs5 hgs6
            go_wp2_with fail
            go_loopw [8, 9] (fun i d wr => ∃ k : Nat, i = .int .i64 k ∧ k ≤ nx ∧ k ≤ ny ∧ Hid (cmpTags ((splitP (bts a.pre)).drop k) ((splitP (bts b.pre)).drop k) = cmpV a b) ∧ Hid (Held wr g5 (splitP (bts a.pre))) ∧ Hid (Held wr g6 (splitP (bts b.pre))) ∧ Below w.heap.size w wr) (fun i _ _ => nx - (intOf i).toNat)
            case atStart => exact ⟨0, rfl, Nat.zero_le _, Nat.zero_le _, by rw [List.drop_zero, List.drop_zero]; exact HT.out.symm, H5, HH6, hBw6⟩
            case round =>
              obtain ⟨k, rfl, hkx, hky, HC, H5r, H6r, hbr⟩ := hrel
              by_cases hl : k < nx ∧ k < ny
              · obtain ⟨hl1, hl2⟩ := hl
                obtain ⟨x, hx1, hx2, hx3⟩ := held_fact H5r.out HX.out hl1
                obtain ⟨y, hy1, hy2, hy3⟩ := held_fact H6r.out HY.out hl2
                have HT2 := hid (cmpTags_step' (x := splitP (bts a.pre)) (y := splitP (bts b.pre)) (k := k) (by rw [HX.out]; exact hl1) (by rw [HY.out]; exact hl2))
                rw [← hx2, ← hy2] at HT2
                have hi0 : (0 : Int) ≤ (k : Int) := Int.natCast_nonneg _
                have hi1 : (k : Int) < (nx : Int) := by omega
                have hi2 : (k : Int) < (ny : Int) := by omega
                have hg5r := H5r.out.1
                have hg6r := H6r.out.1
                clear hx2 hy2
                go_wp2_with fail
                go_region_held3 (fun w' => w'.cell? ⟨g5, k, none⟩ = some (.string x) ∧ w'.cell? ⟨g6, k, none⟩ = some (.string y)) (go_keep)
                  (first | (go_at_call 175; refine (tag_any x y _ (by omega) (by omega)).mono ?_; rintro e w7 ⟨rfl, hb7'⟩; have hb7 := below_undrew hb7'; have c7 := (hb7.cell (p := ⟨g5, k, none⟩) hg5r).trans hx1; have d7 := (hb7.cell (p := ⟨g6, k, none⟩) hg6r).trans hy1))
                clear c7 d7 hx1 hy1 hb7'
                by_cases ht : cmpTag (bts x) (bts y) = 0
                · have hcond : (cmpTag (bts x) (bts y) != 0) = false := by simp [ht]
                  have HN2 := hid (show cmpTags ((splitP (bts a.pre)).drop (k + 1)) ((splitP (bts b.pre)).drop (k + 1)) = cmpV a b by have := HC.out; rw [HT2.out, if_neg (by simp [ht])] at this; exact this)
                  clear ht
                  go_wp2_with fail
                  go_roundw
                  case rel => exact ⟨k + 1, by go_num, by omega, by omega, HN2, H5r.out.below hb7, H6r.out.below hb7, below_tr hbr hb7⟩
                  case measure => simp [intOf]; omega
                · have hcond : (cmpTag (bts x) (bts y) != 0) = true := by simpa using ht
                  have HN2 := hid (show cmpV a b = cmpTag (bts x) (bts y) by have := HC.out; rw [HT2.out, if_pos ht] at this; exact this.symm)
                  clear ht
                  go_wp2_with fail
                  go_ret
                  exact ⟨by rw [← HR.out, HN2.out]; rfl, below_tr hbr hb7⟩
              · have HE := hid (show cmpV a b = cmpI nx ny by rw [← HC.out, cmpTags_end (by rw [HX.out]; exact hkx) (by rw [HY.out]; exact hky) (by rw [HX.out, HY.out]; exact hl), HX.out, HY.out])
                by_cases hl1 : k < nx
                · have hl2 : ¬ k < ny := fun h => hl ⟨hl1, h⟩
                  have hd2 : decide ((k : Int) < (ny : Int)) = false := by simp; omega
                  have hi1 : (k : Int) < (nx : Int) := by omega
                  go_wp2_with (go_at_call 173; refine (cmpi_any _ _ _).mono ?_; rintro e w' ⟨rfl, rfl⟩)
                  go_ret
                  exact ⟨by rw [← HR.out, HE.out]; rfl, hbr⟩
                · have hd1 : decide ((k : Int) < (nx : Int)) = false := by simp; omega
                  go_wp2_with (go_at_call 173; refine (cmpi_any _ _ _).mono ?_; rintro e w' ⟨rfl, rfl⟩)
                  go_ret
                  exact ⟨by rw [← HR.out, HE.out]; rfl, hbr⟩
          · have eq := isEmpty_of hq
            have HE := hid (show cmpV a b = -1 by rw [HP.out, if_neg (by rw [bts]; exact np), if_pos (by rw [bts]; exact eq)])
            go_wp2_with fail
            go_ret
            exact ⟨by rw [← HR.out, HE.out]; rfl, (hBw.alloc hBw.size _).drew⟩
        · have ep := isEmpty_of hp
          have HE := hid (show cmpV a b = 1 by rw [HP.out, if_pos (by rw [bts]; exact ep)])
          go_wp2_with fail
          go_ret
          exact ⟨by rw [← HR.out, HE.out]; rfl, (hBw.alloc hBw.size _).drew⟩
      · have hn' : (cmpNum a b != 0) = true := by simpa using hn
        have HE := hid (cmpV_num HS.out hn)
        clear hn
        go_wp2_with fail
        go_ret
        exact ⟨by rw [← HR.out, HE.out]; rfl, (hBw.alloc hBw.size _).drew⟩
    · go_wp2_with fail
      go_ret
      exact ⟨by rw [← HR.out, cmpV_stop hs]; rfl, hBw⟩
end Go.Proofs.YtlmkglgjdmjnkaaGreatDoor
namespace Go.Proofs.YtlmkglgjdmjnkaaGreatDoor
open Go.RowKit Go.Lib
set_option linter.unusedVariables false
set_option linter.unusedSimpArgs false
theorem cmpPre_self {a : List UInt8} : cmpPre a a = 0 := by simp [cmpPre]
set_option maxRecDepth 100000 in
set_option maxHeartbeats 4000000 in
theorem pres_any (a b : ByteArray) (w : World) (ha : a.size ≤ 4398046511104) (hb : b.size ≤ 4398046511104) : Calls Tryz.prog 197 #[.string a, .string b] w (IntPost w (cmpPre (bts a) (bts b))) := by
  generalize hr : cmpPre (bts a) (bts b) = r
  have HR := hid hr
  clear hr
  cases he : a.toList == b.toList
  · have hne : ¬ a.toList = b.toList := by simpa using he
    have HNE := hid hne
    by_cases hp : 0 < a.size
    · obtain ⟨ep, np⟩ := ne_of_size hp
      by_cases hq : 0 < b.size
      · obtain ⟨eq, nq⟩ := ne_of_size hq
        have HT := hid (show cmpPre (bts a) (bts b) = cmpTags (splitP (bts a)) (splitP (bts b)) by rw [cmpPre, if_neg HNE.out, if_neg (by rw [bts]; exact np), if_neg (by rw [bts]; exact nq)])
        clear hne
        go_enter Tryz.func197, Tryz.ntmps197
        go_wp2_with fail
        refine (rsplit46 a _ ha).mono ?_
        rintro e w5 ⟨g5, cap5, rfl, hg5, hgs5, hcap5, hcell5, hb5⟩
        have HH5 := hid (show Held w5 g5 (splitP (bts a)) from ⟨hgs5, hcell5⟩)
        clear hcell5
        go_wp2_with fail
        refine (rsplit46 b _ hb).mono ?_
        rintro e w6 ⟨g6, cap6, rfl, hg6, hgs6, hcap6, hcell6, hb6⟩
        have HH6 := hid (show Held w6 g6 (splitP (bts b)) from ⟨hgs6, hcell6⟩)
        clear hcell6
        have hBw6 := below_tr hb5 hb6
        have H5 := hid (HH5.out.below hb6)
        have hnx : (splitP (bts a)).length ≤ 4398046511105 := by have := (splitL_len 46 (bts a) []).2; rw [bts_len] at this; exact Nat.le_trans this (by omega)
        have hny : (splitP (bts b)).length ≤ 4398046511105 := by have := (splitL_len 46 (bts b) []).2; rw [bts_len] at this; exact Nat.le_trans this (by omega)
        generalize hxl : (splitP (bts a)).length = nx at *
        generalize hyl : (splitP (bts b)).length = ny at *
        have HX := hid hxl
        have HY := hid hyl
        clear hxl hyl HH5 hb5 hb6 ep np eq nq hg5 hg6 hcap5 hcap6 hgs5 hgs6 he
        go_wp2_with fail
        go_loopw [7, 8] (fun i d wr => ∃ k : Nat, i = .int .i64 k ∧ k ≤ nx ∧ k ≤ ny ∧ Hid (cmpTags ((splitP (bts a)).drop k) ((splitP (bts b)).drop k) = cmpPre (bts a) (bts b)) ∧ Hid (Held wr g5 (splitP (bts a))) ∧ Hid (Held wr g6 (splitP (bts b))) ∧ Below w.heap.size w wr) (fun i _ _ => nx - (intOf i).toNat)
        case atStart => exact ⟨0, rfl, Nat.zero_le _, Nat.zero_le _, by rw [List.drop_zero, List.drop_zero]; exact HT.out.symm, H5, HH6, hBw6⟩
        case round =>
          obtain ⟨k, rfl, hkx, hky, HC, H5r, H6r, hbr⟩ := hrel
          by_cases hl : k < nx ∧ k < ny
          · obtain ⟨hl1, hl2⟩ := hl
            obtain ⟨x, hx1, hx2, hx3⟩ := held_fact H5r.out HX.out hl1
            obtain ⟨y, hy1, hy2, hy3⟩ := held_fact H6r.out HY.out hl2
            have HT2 := hid (cmpTags_step' (x := splitP (bts a)) (y := splitP (bts b)) (k := k) (by rw [HX.out]; exact hl1) (by rw [HY.out]; exact hl2))
            rw [← hx2, ← hy2] at HT2
            have hi0 : (0 : Int) ≤ (k : Int) := Int.natCast_nonneg _
            have hi1 : (k : Int) < (nx : Int) := by omega
            have hi2 : (k : Int) < (ny : Int) := by omega
            have hg5r := H5r.out.1
            have hg6r := H6r.out.1
            clear hx2 hy2
            go_wp2_with fail
            go_region_held3 (fun w' => w'.cell? ⟨g5, k, none⟩ = some (.string x) ∧ w'.cell? ⟨g6, k, none⟩ = some (.string y)) (go_keep)
              (first | (go_at_call 198; refine (one_any x y _ (by omega) (by omega)).mono ?_; rintro e w7 ⟨rfl, hb7'⟩; have hb7 := below_undrew hb7'; have c7 := (hb7.cell (p := ⟨g5, k, none⟩) hg5r).trans hx1; have d7 := (hb7.cell (p := ⟨g6, k, none⟩) hg6r).trans hy1))
            clear c7 d7 hx1 hy1 hb7'
            by_cases ht : cmpTag (bts x) (bts y) = 0
            · have hcond : (cmpTag (bts x) (bts y) != 0) = false := by simp [ht]
              have HN2 := hid (show cmpTags ((splitP (bts a)).drop (k + 1)) ((splitP (bts b)).drop (k + 1)) = cmpPre (bts a) (bts b) by have := HC.out; rw [HT2.out, if_neg (by simp [ht])] at this; exact this)
              clear ht
              go_wp2_with fail
              go_roundw
              case rel => exact ⟨k + 1, by go_num, by omega, by omega, HN2, H5r.out.below hb7, H6r.out.below hb7, below_tr hbr hb7⟩
              case measure => simp [intOf]; omega
            · have hcond : (cmpTag (bts x) (bts y) != 0) = true := by simpa using ht
              have HN2 := hid (show cmpPre (bts a) (bts b) = cmpTag (bts x) (bts y) by have := HC.out; rw [HT2.out, if_pos ht] at this; exact this.symm)
              clear ht
              go_wp2_with fail
              go_ret
              exact ⟨by rw [← HR.out, HN2.out]; rfl, below_tr hbr hb7⟩
          · have HE := hid (show cmpPre (bts a) (bts b) = cmpI nx ny by rw [← HC.out, cmpTags_end (by rw [HX.out]; exact hkx) (by rw [HY.out]; exact hky) (by rw [HX.out, HY.out]; exact hl), HX.out, HY.out])
            by_cases hl1 : k < nx
            · have hl2 : ¬ k < ny := fun h => hl ⟨hl1, h⟩
              have hd2 : decide ((k : Int) < (ny : Int)) = false := by simp; omega
              have hi1 : (k : Int) < (nx : Int) := by omega
              go_wp2_with (go_at_call 193; refine (ints_any _ _ _).mono ?_; rintro e w' ⟨rfl, rfl⟩)
              go_ret
              exact ⟨by rw [← HR.out, HE.out]; rfl, hbr⟩
            · have hd1 : decide ((k : Int) < (nx : Int)) = false := by simp; omega
              go_wp2_with (go_at_call 193; refine (ints_any _ _ _).mono ?_; rintro e w' ⟨rfl, rfl⟩)
              go_ret
              exact ⟨by rw [← HR.out, HE.out]; rfl, hbr⟩
      · have eq := isEmpty_of hq
        have HE := hid (show cmpPre (bts a) (bts b) = -1 by rw [cmpPre, if_neg HNE.out, if_neg (by rw [bts]; exact np), if_pos (by rw [bts]; exact eq)])
        clear hne
        go_enter Tryz.func197, Tryz.ntmps197
        go_wp2_with fail
        go_ret
        exact ⟨by rw [← HR.out, HE.out]; rfl, Below.refl _ _⟩
    · have ep := isEmpty_of hp
      have hq : 0 < b.size := by
        rcases Nat.lt_or_ge 0 b.size with h | h
        · exact h
        · exact absurd (ep.trans (isEmpty_of (by omega)).symm) hne
      obtain ⟨eb, nb⟩ := ne_of_size hq
      have HE := hid (show cmpPre (bts a) (bts b) = 1 by rw [cmpPre, if_neg HNE.out, if_pos (by rw [bts]; exact ep)])
      clear hne
      go_enter Tryz.func197, Tryz.ntmps197
      go_wp2_with fail
      go_ret
      exact ⟨by rw [← HR.out, HE.out]; rfl, Below.refl _ _⟩
  · have hee : a = b := bts_inj (by simpa [bts] using he)
    subst hee
    have HE := hid (cmpPre_self (a := bts a))
    clear he
    go_enter Tryz.func197, Tryz.ntmps197
    go_wp2_with fail
    go_ret
    exact ⟨by rw [← HR.out, HE.out]; rfl, Below.refl _ _⟩
theorem cmpNum_1 {a b : Ver} (h : cmpI a.maj b.maj ≠ 0) : cmpNum a b = cmpI a.maj b.maj := by rw [cmpNum, if_pos h]
theorem cmpNum_2 {a b : Ver} (h : cmpI a.maj b.maj = 0) (h2 : cmpI a.min b.min ≠ 0) : cmpNum a b = cmpI a.min b.min := by rw [cmpNum, if_neg (by simp [h]), if_pos h2]
theorem cmpNum_3 {a b : Ver} (h : cmpI a.maj b.maj = 0) (h2 : cmpI a.min b.min = 0) : cmpNum a b = cmpI a.pat b.pat := by rw [cmpNum, if_neg (by simp [h]), if_neg (by simp [h2])]
theorem cmpV_of {a b : Ver} (ha : mayV a = true) (hb : mayV b = true) : cmpV a b = if cmpNum a b ≠ 0 then cmpNum a b else cmpPre (bts a.pre) (bts b.pre) := by rw [cmpV, if_neg (by simp [ha, hb])]
set_option maxRecDepth 100000 in
set_option maxHeartbeats 4000000 in
theorem rcompare_any (a b : Ver) (w : World) (ha : a.fit) (hb : b.fit) : Calls Tryz.prog 194 #[a.val, b.val] w (IntPost w (cmpV a b)) := by
  generalize hr : cmpV a b = r
  have HR := hid hr
  clear hr
  have hB2 := below_box2 w a b
  cases h1 : mayV a
  · go_enter Tryz.func194, Tryz.ntmps194
    go_wp2_with (go_at_call 61; refine (rmay_any a _ ha).mono ?_; rintro e w1 ⟨rfl, hb1⟩)
    go_ret
    exact ⟨by rw [← HR.out, cmpV, if_pos (.inl h1)]; rfl, below_tr hB2 hb1⟩
  · cases h2 : mayV b
    · go_enter Tryz.func194, Tryz.ntmps194
      go_wp2_with fail
      refine (rmay_any a _ ha).mono ?_
      rintro e w1 ⟨rfl, hb1⟩
      obtain ⟨⟨a0, a1, a2, a3, a4⟩, ⟨b0, b1, b2, b3, b4⟩, hz⟩ := box_ab hb1
      go_wp2_with fail
      refine (rmay_any b _ hb).mono ?_
      rintro e w2 ⟨rfl, hb2⟩
      go_wp2_with fail
      go_ret
      exact ⟨by rw [← HR.out, cmpV, if_pos (.inr h2)]; rfl, below_tr hB2 (below_tr hb1 hb2)⟩
    · have HV := hid (cmpV_of h1 h2)
      go_enter Tryz.func194, Tryz.ntmps194
      go_wp2_with fail
      refine (rmay_any a _ ha).mono ?_
      rintro e w1 ⟨rfl, hb1⟩
      obtain ⟨⟨a0, a1, a2, a3, a4⟩, ⟨b0, b1, b2, b3, b4⟩, hz⟩ := box_ab hb1
      go_wp2_with fail
      refine (rmay_any b _ hb).mono ?_
      rintro e w2 ⟨rfl, hb2⟩
      clear a0 a1 a2 a3 a4 b0 b1 b2 b3 b4 hz
      have hbb := below_tr hb1 hb2
      obtain ⟨⟨a0, a1, a2, a3, a4⟩, ⟨b0, b1, b2, b3, b4⟩, hz⟩ := box_ab hbb
      have hbw := below_tr hB2 hbb
      by_cases c1 : cmpI a.maj b.maj = 0
      · have e1 : (cmpI a.maj b.maj != 0) = false := by simp [c1]
        have C1 := hid c1
        clear c1
        by_cases c2 : cmpI a.min b.min = 0
        · have e2 : (cmpI a.min b.min != 0) = false := by simp [c2]
          have C2 := hid c2
          clear c2
          by_cases c3 : cmpI a.pat b.pat = 0
          · have e3 : (cmpI a.pat b.pat != 0) = false := by simp [c3]
            have HE := hid (show cmpV a b = cmpPre (bts a.pre) (bts b.pre) by rw [HV.out, cmpNum_3 C1.out C2.out, if_neg (by simp [c3])])
            clear c3
            go_wp2_with (first | (go_at_call 193; refine (ints_any _ _ _).mono ?_; rintro e w' ⟨rfl, rfl⟩) | (go_at_call 197; refine (pres_any _ _ _ ha.1 hb.1).mono ?_; rintro e w3 ⟨rfl, hb3⟩))
            go_ret
            exact ⟨by rw [← HR.out, HE.out]; rfl, below_tr hbw hb3⟩
          · have e3 : (cmpI a.pat b.pat != 0) = true := by simpa using c3
            have HE := hid (show cmpV a b = cmpI a.pat b.pat by rw [HV.out, cmpNum_3 C1.out C2.out, if_pos c3])
            clear c3
            go_wp2_with (first | (go_at_call 193; refine (ints_any _ _ _).mono ?_; rintro e w' ⟨rfl, rfl⟩))
            go_ret
            exact ⟨by rw [← HR.out, HE.out]; rfl, hbw⟩
        · have e2 : (cmpI a.min b.min != 0) = true := by simpa using c2
          have HE := hid (show cmpV a b = cmpI a.min b.min by rw [HV.out, cmpNum_2 C1.out c2, if_pos c2])
          clear c2
          go_wp2_with (first | (go_at_call 193; refine (ints_any _ _ _).mono ?_; rintro e w' ⟨rfl, rfl⟩))
          go_ret
          exact ⟨by rw [← HR.out, HE.out]; rfl, hbw⟩
      · have e1 : (cmpI a.maj b.maj != 0) = true := by simpa using c1
        have HE := hid (show cmpV a b = cmpI a.maj b.maj by rw [HV.out, cmpNum_1 c1, if_pos c1])
        clear c1
        go_wp2_with (first | (go_at_call 193; refine (ints_any _ _ _).mono ?_; rintro e w' ⟨rfl, rfl⟩))
        go_ret
        exact ⟨by rw [← HR.out, HE.out]; rfl, hbw⟩
end Go.Proofs.YtlmkglgjdmjnkaaGreatDoor
