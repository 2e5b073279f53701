/- Versions: the walks of May and Core, the program's and the reference's. -/
import Derived.Test.YtodicnjoimoiiaaWe
namespace Go.Proofs.Ytodicnjoimoiiaa
open Go.RowKit Go.Lib
set_option linter.unusedVariables false
set_option linter.unusedSimpArgs false

structure Ver where
  maj : Int
  min : Int
  pat : Int
  pre : ByteArray
  bld : ByteArray
abbrev Ver.cells (v : Ver) : List Value := [.int .i64 v.maj, .int .i64 v.min, .int .i64 v.pat, .string v.pre, .string v.bld]
abbrev Ver.val (v : Ver) : Value := .agg #[.int .i64 v.maj, .int .i64 v.min, .int .i64 v.pat, .string v.pre, .string v.bld]

def fitsI (n : Int) : Bool := decide (0 ≤ n ∧ n ≤ 9999)
def preOk (l : List UInt8) : Bool := l.isEmpty || preL l
def bldOk (l : List UInt8) : Bool := l.isEmpty || tagsL l
def mayV (v : Ver) : Bool := fitsI v.maj && fitsI v.min && fitsI v.pat && preOk (bts v.pre) && bldOk (bts v.bld)
theorem preOk_nil {s : ByteArray} (h : s.toList = []) : preOk (bts s) = true := by rw [bts, h]; rfl
theorem bldOk_nil {s : ByteArray} (h : s.toList = []) : bldOk (bts s) = true := by rw [bts, h]; rfl
theorem preOk_ne {s : ByteArray} (h : s.toList.isEmpty = false) : preOk (bts s) = preL (bts s) := by rw [preOk, h]; rfl
theorem bldOk_ne {s : ByteArray} (h : s.toList.isEmpty = false) : bldOk (bts s) = tagsL (bts s) := by rw [bldOk, h]; rfl
/-- the texts are no longer than what memory holds of their parts -/
def Ver.fit (v : Ver) : Prop := v.pre.size ≤ 4398046511104 ∧ v.bld.size ≤ 4398046511104

theorem fits_i (n : Int) (w : World) : Calls Try.prog 82 #[.int .i64 n] w fun e w' => e = .returned (.bool (fitsI n)) ∧ w = w' := fits_any n w

set_option maxRecDepth 100000 in
set_option maxHeartbeats 1000000 in
theorem pre_go (s : ByteArray) (w : World) (hs : s.size ≤ 4398046511104) (r : Bool) (HR : Hid (tagsL (bts s) = true ∧ (splitP (bts s)).all preTag = r)) : Calls Try.prog 83 #[.string s] w (BoolPost w r) := by
  have ht0 := HR.out.1
  go_enter Try.func83, Try.ntmps83
  go_wp2_with fail
  refine (tags_any s _ hs).mono ?_
  rintro e w0 ⟨rfl, hb0⟩
  go_wp2_with fail
  refine (split46 s _ hs).mono ?_
  rintro e w1 ⟨g, cap, rfl, hg, hgs, hcap, hcell, hb⟩
  have HH := hid (show Held w1 g (splitP (bts s)) from ⟨hgs, hcell⟩)
  have hbw := below_tr hb0 hb
  clear hcell ht0
  have hnb : (splitP (bts s)).length ≤ 4398046511105 := by have := (splitL_len 46 (bts s) []).2; rw [bts_len] at this; exact Nat.le_trans this (by omega)
  generalize hn : (splitP (bts s)).length = n at *
  have HN := hid hn
  clear hn
  go_wp2_with fail
  go_loopw [4, 13] (fun t i wr => ∃ k : Nat, i = .int .i64 k ∧ k ≤ n ∧ Hid (((splitP (bts s)).take k).all preTag = true) ∧ Hid (Held wr g (splitP (bts s))) ∧ Below w.heap.size w wr) (fun _ i _ => n - (intOf i).toNat)
  case atStart => exact ⟨0, rfl, Nat.zero_le _, rfl, HH, hbw⟩
  case round =>
    obtain ⟨k, rfl, hk, HA, HW, hbr⟩ := hrel
    by_cases hlt : k < n
    · have hlt' : k < (splitP (bts s)).length := by rw [HN.out]; exact hlt
      obtain ⟨x, hx1, hx2, hx3⟩ := part_str s k hlt'
      have hck := HW.out.2 k hlt'
      rw [hx1] at hck
      have HX := hid hx2
      clear hx1 hx2
      have hsz := hbr.size
      have hgw := HW.out.1
      cases hn1 : numericL (bts x)
      · have HF := hid (show preTag (splitP (bts s))[k] = true by rw [← HX.out, preTag, hn1]; rfl)
        go_wp2_with (first | (go_at_call 95; refine (number_any _ _).mono ?_; rintro e w2 ⟨rfl, hb2⟩) | (go_at_call 94; refine (numeric_any _ _ (by omega)).mono ?_; rintro e w' ⟨rfl, rfl⟩))
        go_roundw
        case rel => exact ⟨k + 1, by go_num, by omega, all_take_succ hlt' HA.out HF.out, HW.out.below hb2, below_tr hbr hb2⟩
        case measure => simp [intOf]; omega
      · cases hn2 : (numberL (bts x)).2
        · have HF := hid (show (splitP (bts s)).all preTag = false from all_take_false hlt' (by rw [← HX.out, preTag, hn1, hn2]; rfl))
          go_wp2_with (first | (go_at_call 95; refine (number_any _ _).mono ?_; rintro e w2 ⟨rfl, hb2⟩) | (go_at_call 94; refine (numeric_any _ _ (by omega)).mono ?_; rintro e w' ⟨rfl, rfl⟩))
          go_ret
          exact ⟨by rw [← HR.out.2, HF.out]; rfl, below_tr hbr hb2⟩
        · have HF := hid (show preTag (splitP (bts s))[k] = true by rw [← HX.out, preTag, hn1, hn2]; rfl)
          go_wp2_with (first | (go_at_call 95; refine (number_any _ _).mono ?_; rintro e w2 ⟨rfl, hb2⟩) | (go_at_call 94; refine (numeric_any _ _ (by omega)).mono ?_; rintro e w' ⟨rfl, rfl⟩))
          go_roundw
          case rel => exact ⟨k + 1, by go_num, by omega, all_take_succ hlt' HA.out HF.out, HW.out.below hb2, below_tr hbr hb2⟩
          case measure => simp [intOf]; omega
    · obtain rfl : k = n := by omega
      go_wp2_with fail
      go_ret
      exact ⟨by rw [← HR.out.2]; have := HA.out; rw [← HN.out] at this; rw [all_take_full this]; rfl, hbr⟩

set_option maxRecDepth 100000 in
set_option maxHeartbeats 400000 in
theorem pre_any (s : ByteArray) (w : World) (hs : s.size ≤ 4398046511104) : Calls Try.prog 83 #[.string s] w (BoolPost w (preL (bts s))) := by
  cases ht : tagsL (bts s)
  · have e : preL (bts s) = false := by rw [preL, ht]; rfl
    rw [e]
    clear e
    go_enter Try.func83, Try.ntmps83
    go_wp2_with fail
    refine (tags_any s _ hs).mono ?_
    rintro e w0 ⟨rfl, hb0⟩
    go_wp2_with fail
    go_ret
    exact ⟨rfl, hb0⟩
  · have e : preL (bts s) = (splitP (bts s)).all preTag := by rw [preL, ht]; rfl
    rw [e]
    exact pre_go s w hs _ ⟨ht, rfl⟩

theorem below_box {w w1 : World} {o : Obj} (hb : Below (w.alloc o).heap.size (w.alloc o) w1) : Below w.heap.size w w1 := below_tr ((Below.refl _ _).alloc (Nat.le_refl _) o) hb
theorem below_new (w : World) (o : Obj) : Below w.heap.size w (w.alloc o) := (Below.refl _ _).alloc (Nat.le_refl _) o

set_option maxRecDepth 100000 in
set_option maxHeartbeats 2000000 in
theorem may_any (v : Ver) (w : World) (hv : v.fit) : Calls Try.prog 61 #[v.val] w (BoolPost w (mayV v)) := by
  obtain ⟨hp, hq⟩ := hv
  generalize hr : mayV v = r
  have HR := hid hr
  clear hr
  cases h1 : fitsI v.maj
  · go_enter Try.func61, Try.ntmps61
    go_wp2_with (go_at_call 82; refine (fits_i _ _).mono ?_; rintro e w' ⟨rfl, rfl⟩)
    go_ret
    exact ⟨by rw [← HR.out, mayV, h1]; rfl, below_new _ _⟩
  · cases h2 : fitsI v.min
    · go_enter Try.func61, Try.ntmps61
      go_wp2_with (go_at_call 82; refine (fits_i _ _).mono ?_; rintro e w' ⟨rfl, rfl⟩)
      go_ret
      exact ⟨by rw [← HR.out, mayV, h1, h2]; rfl, below_new _ _⟩
    · cases h3 : fitsI v.pat
      · go_enter Try.func61, Try.ntmps61
        go_wp2_with (go_at_call 82; refine (fits_i _ _).mono ?_; rintro e w' ⟨rfl, rfl⟩)
        go_ret
        exact ⟨by rw [← HR.out, mayV, h1, h2, h3]; rfl, below_new _ _⟩
      · by_cases h4 : 0 < v.pre.size
        · obtain ⟨e4, n4⟩ := ne_of_size h4
          cases h5 : preL (bts v.pre)
          · go_enter Try.func61, Try.ntmps61
            go_wp2_with (first | (go_at_call 82; refine (fits_i _ _).mono ?_; rintro e w' ⟨rfl, rfl⟩) | (go_at_call 83; refine (pre_any _ _ hp).mono ?_; rintro e w1 ⟨rfl, hb⟩))
            go_ret
            exact ⟨by rw [← HR.out, mayV, h1, h2, h3, preOk_ne e4, h5]; rfl, below_box hb⟩
          · by_cases h6 : 0 < v.bld.size
            · obtain ⟨e6, n6⟩ := ne_of_size h6
              go_enter Try.func61, Try.ntmps61
              go_wp2_with (first | (go_at_call 82; refine (fits_i _ _).mono ?_; rintro e w' ⟨rfl, rfl⟩) | (go_at_call 83; refine (pre_any _ _ hp).mono ?_; rintro e w1 ⟨rfl, hb⟩; obtain ⟨hc1, hf1⟩ := bcell hb) | (go_at_call 84; refine (tags_any _ _ hq).mono ?_; rintro e w2 ⟨rfl, hb2⟩))
              go_ret
              exact ⟨by rw [← HR.out, mayV, h1, h2, h3, preOk_ne e4, h5, bldOk_ne e6]; rfl, below_tr (below_box hb) hb2⟩
            · have e6 := isEmpty_of h6
              go_enter Try.func61, Try.ntmps61
              go_wp2_with (first | (go_at_call 82; refine (fits_i _ _).mono ?_; rintro e w' ⟨rfl, rfl⟩) | (go_at_call 83; refine (pre_any _ _ hp).mono ?_; rintro e w1 ⟨rfl, hb⟩; obtain ⟨hc1, hf1⟩ := bcell hb))
              go_ret
              exact ⟨by rw [← HR.out, mayV, h1, h2, h3, preOk_ne e4, h5, bldOk_nil e6]; rfl, below_box hb⟩
        · have e4 := isEmpty_of h4
          by_cases h6 : 0 < v.bld.size
          · obtain ⟨e6, n6⟩ := ne_of_size h6
            go_enter Try.func61, Try.ntmps61
            go_wp2_with (first | (go_at_call 82; refine (fits_i _ _).mono ?_; rintro e w' ⟨rfl, rfl⟩) | (go_at_call 84; refine (tags_any _ _ hq).mono ?_; rintro e w2 ⟨rfl, hb2⟩))
            go_ret
            exact ⟨by rw [← HR.out, mayV, h1, h2, h3, preOk_nil e4, bldOk_ne e6]; rfl, below_box hb2⟩
          · have e6 := isEmpty_of h6
            go_enter Try.func61, Try.ntmps61
            go_wp2_with (first | (go_at_call 82; refine (fits_i _ _).mono ?_; rintro e w' ⟨rfl, rfl⟩))
            go_ret
            exact ⟨by rw [← HR.out, mayV, h1, h2, h3, preOk_nil e4, bldOk_nil e6]; rfl, below_new _ _⟩

/-! ### The reference -/
theorem num_any (n : Int) (w : World) : Calls Try.prog 64 #[.int .i64 n] w fun e w' => e = .returned (.bool (fitsI n)) ∧ w = w' := by
  by_cases h0 : 0 ≤ n
  · by_cases h1 : n ≤ 9999
    · go_enter Try.func64, Try.ntmps64
      go_wp2
      go_ret
      exact ⟨by simp [fitsI, h0, h1], rfl⟩
    · have hd : decide (n ≤ 9999) = false := by simpa using h1
      go_enter Try.func64, Try.ntmps64
      go_wp2
      go_ret
      exact ⟨by simp [fitsI, h1], rfl⟩
  · have hd : decide (0 ≤ n) = false := by simpa using h0
    go_enter Try.func64, Try.ntmps64
    go_wp2
    go_ret
    exact ⟨by simp [fitsI]; omega, rfl⟩

theorem tagsRef_pre (l : List UInt8) : tagsRef true l = preOk l := by
  have h : ∀ ts : List (List UInt8), ts.all (rtagOk true) = (ts.all tagOk && ts.all preTag) := by
    intro ts
    induction ts with
    | nil => rfl
    | cons t ts ih => simp only [List.all_cons, ih, rtagOk]; cases tagOk t <;> cases preTag t <;> simp
  rw [tagsRef, preOk, preL, tagsL, h, Bool.and_assoc]
theorem tagsRef_bld (l : List UInt8) : tagsRef false l = bldOk l := by
  have h : (rtagOk false) = tagOk := by funext t; simp [rtagOk]
  rw [tagsRef, bldOk, tagsL, h]
theorem rtags_pre (s : ByteArray) (w : World) (hs : s.size ≤ 4398046511104) : Calls Try.prog 65 #[.string s, .bool true] w (BoolPost w (preOk (bts s))) := by rw [← tagsRef_pre]; exact rtags_any s true w hs
theorem rtags_bld (s : ByteArray) (w : World) (hs : s.size ≤ 4398046511104) : Calls Try.prog 65 #[.string s, .bool false] w (BoolPost w (bldOk (bts s))) := by rw [← tagsRef_bld]; exact rtags_any s false w hs

set_option maxRecDepth 100000 in
set_option maxHeartbeats 2000000 in
theorem rmay_any (v : Ver) (w : World) (hv : v.fit) : Calls Try.prog 47 #[v.val] w (BoolPost w (mayV v)) := by
  obtain ⟨hp, hq⟩ := hv
  generalize hr : mayV v = r
  have HR := hid hr
  clear hr
  cases h1 : fitsI v.maj
  · go_enter Try.func47, Try.ntmps47
    go_wp2_with (go_at_call 64; refine (num_any _ _).mono ?_; rintro e w' ⟨rfl, rfl⟩)
    go_ret
    exact ⟨by rw [← HR.out, mayV, h1]; rfl, below_new _ _⟩
  · cases h2 : fitsI v.min
    · go_enter Try.func47, Try.ntmps47
      go_wp2_with (go_at_call 64; refine (num_any _ _).mono ?_; rintro e w' ⟨rfl, rfl⟩)
      go_ret
      exact ⟨by rw [← HR.out, mayV, h1, h2]; rfl, below_new _ _⟩
    · cases h3 : fitsI v.pat
      · go_enter Try.func47, Try.ntmps47
        go_wp2_with (go_at_call 64; refine (num_any _ _).mono ?_; rintro e w' ⟨rfl, rfl⟩)
        go_ret
        exact ⟨by rw [← HR.out, mayV, h1, h2, h3]; rfl, below_new _ _⟩
      · cases h4 : preOk (bts v.pre)
        · go_enter Try.func47, Try.ntmps47
          go_wp2_with (first | (go_at_call 64; refine (num_any _ _).mono ?_; rintro e w' ⟨rfl, rfl⟩) | (go_at_call 65; refine (rtags_pre _ _ hp).mono ?_; rintro e w1 ⟨rfl, hb⟩; obtain ⟨hc1, hf1⟩ := bcell hb))
          go_ret
          exact ⟨by rw [← HR.out, mayV, h1, h2, h3, h4]; rfl, below_box hb⟩
        · go_enter Try.func47, Try.ntmps47
          go_wp2_with (go_at_call 64; refine (num_any _ _).mono ?_; rintro e w' ⟨rfl, rfl⟩)
          refine (rtags_pre _ _ hp).mono ?_
          rintro e w1 ⟨rfl, hb⟩
          obtain ⟨hc1, hf1⟩ := bcell hb
          go_wp2_with fail
          refine (rtags_bld _ _ hq).mono ?_
          rintro e w2 ⟨rfl, hb2⟩
          go_wp2_with fail
          go_ret
          exact ⟨by rw [← HR.out, mayV, h1, h2, h3, h4]; rfl, below_tr (below_box hb) hb2⟩
end Go.Proofs.Ytodicnjoimoiiaa
