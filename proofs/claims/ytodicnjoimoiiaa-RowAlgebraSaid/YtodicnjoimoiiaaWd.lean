/- The walks of the two functions that look at a row of tags, and of what calls them. -/
import Derived.Test.YtodicnjoimoiiaaWc
namespace Go.Proofs.Ytodicnjoimoiiaa
open Go.RowKit Go.Lib
set_option linter.unusedVariables false
set_option linter.unusedSimpArgs false

theorem splitL_part (b : UInt8) : ∀ (l cur : List UInt8), ∀ t, t ∈ splitL b cur l → t.length ≤ cur.length + l.length
  | [], cur, t, h => by simp [splitL] at h; subst h; simp
  | c :: r, cur, t, h => by
    unfold splitL at h
    split at h
    · rcases List.mem_cons.1 h with rfl | h
      · simp
      · have := splitL_part b r [] t h; simp at this; simp only [List.length_cons]; omega
    · have := splitL_part b r (cur ++ [c]) t h; simp at this; simp only [List.length_cons]; omega
theorem splitP_part {l t : List UInt8} (h : t ∈ splitP l) : t.length ≤ l.length := by have := splitL_part 46 l [] t h; simpa using this

/-- a part, as the string that lies in its cell -/
theorem part_str (s : ByteArray) (k : Nat) (hk : k < (splitP (bts s)).length) : ∃ x : ByteArray, strV ((splitP (bts s)).getD k []) = .string x ∧ bts x = (splitP (bts s))[k] ∧ x.size ≤ s.size := by
  have e : (splitP (bts s)).getD k [] = (splitP (bts s))[k] := by simp [hk]
  refine ⟨⟨((splitP (bts s))[k]).toArray⟩, by rw [e]; rfl, by simp [bts], ?_⟩
  have := splitP_part (List.getElem_mem hk)
  rw [bts_len] at this
  show ((splitP (bts s))[k]).toArray.size ≤ s.size
  rw [List.size_toArray]; exact this

theorem all_take_false {α : Type} {p : α → Bool} {l : List α} {k : Nat} (hk : k < l.length) (h : p l[k] = false) : l.all p = false := by
  rw [List.all_eq_false]; exact ⟨l[k], List.getElem_mem hk, by simp [h]⟩
theorem all_take_succ {α : Type} {p : α → Bool} {l : List α} {k : Nat} (hk : k < l.length) (ha : (l.take k).all p = true) (h : p l[k] = true) : (l.take (k + 1)).all p = true := by
  rw [List.take_succ_eq_append_getElem hk, List.all_append, ha]; simp [h]
theorem all_take_full {α : Type} {p : α → Bool} {l : List α} (ha : (l.take l.length).all p = true) : l.all p = true := by rwa [List.take_length] at ha

theorem rsplit46 (s : ByteArray) (w : World) (hs : s.size ≤ 4398046511104) : Calls Try.prog 85 #[.string s, .int .u8 46] w (Parts w (splitP (bts s))) := rsplit_any s 46 w hs
theorem split46 (s : ByteArray) (w : World) (hs : s.size ≤ 4398046511104) : Calls Try.prog 79 #[.string s, .int .u8 46] w (Parts w (splitP (bts s))) := split_any s 46 w hs
def rtagOk (p : Bool) (t : List UInt8) : Bool := tagOk t && (!p || preTag t)
def tagsRef (p : Bool) (l : List UInt8) : Bool := l.isEmpty || (decide ((splitP l).length ≤ 4) && (splitP l).all (rtagOk p))
def BoolPost (w : World) (b : Bool) (e : Ending) (w' : World) : Prop := e = .returned (.bool b) ∧ Below w.heap.size w w'

/-- the parts of a text lie at the head of block g -/
def Held (w : World) (g : Nat) (ls : List (List UInt8)) : Prop := g < w.heap.size ∧ ∀ j, j < ls.length → w.cell? ⟨g, j, none⟩ = some (strV (ls.getD j []))
theorem Held.below {w w' : World} {g : Nat} {ls : List (List UInt8)} (h : Held w g ls) (hb : Below w.heap.size w w') : Held w' g ls :=
  ⟨Nat.lt_of_lt_of_le h.1 hb.size, fun j hj => (hb.cell (p := ⟨g, j, none⟩) h.1).trans (h.2 j hj)⟩
theorem Held.iter {w : World} {g : Nat} {ls : List (List UInt8)} (h : Held w g ls) (s : ByteArray) (k : Nat) : Held (w.iter s k) g ls := h.below (below_iter _ _ _)
theorem below_tr {w0 w1 w2 : World} (h : Below w0.heap.size w0 w1) (k : Below w1.heap.size w1 w2) : Below w0.heap.size w0 w2 := h.trans (k.mono h.size)

set_option maxRecDepth 100000 in
set_option maxHeartbeats 1000000 in
theorem rtags_go (s : ByteArray) (p : Bool) (w : World) (hs : s.size ≤ 4398046511104) (h0 : 0 < s.size) (h4 : (splitP (bts s)).length ≤ 4) :
    Calls Try.prog 65 #[.string s, .bool p] w (BoolPost w ((splitP (bts s)).all (rtagOk p))) := by
  obtain ⟨he, hne⟩ := ne_of_size h0
  generalize hr : (splitP (bts s)).all (rtagOk p) = r
  have HR := hid hr
  clear hr
  go_enter Try.func65, Try.ntmps65
  go_wp2_with fail
  refine (rsplit46 s _ hs).mono ?_
  rintro e w1 ⟨g, cap, rfl, hg, hgs, hcap, hcell, hb⟩
  have HH := hid (show Held w1 g (splitP (bts s)) from ⟨hgs, hcell⟩)
  clear hcell
  have hd4 : decide ((4 : Int) < ((splitP (bts s)).length : Int)) = false := by simp; omega
  generalize hn : (splitP (bts s)).length = n at *
  have HN := hid hn
  clear hn
  go_wp2_with fail
  go_loopw [6] (fun i wr => ∃ k : Nat, i = .int .i64 k ∧ k ≤ n ∧ Hid (((splitP (bts s)).take k).all (rtagOk p) = true) ∧ Hid (Held wr g (splitP (bts s))) ∧ Below w.heap.size w wr) (fun i _ => n - (intOf i).toNat)
  case atStart => exact ⟨0, rfl, Nat.zero_le _, rfl, HH, hb⟩
  case round =>
    obtain ⟨k, rfl, hk, HA, HW, hbr⟩ := hrel
    by_cases hlt : k < n
    · have hlt' : k < (splitP (bts s)).length := by rw [HN.out]; exact hlt
      obtain ⟨x, hx1, hx2, hx3⟩ := part_str s k hlt'
      have hck := HW.out.2 k hlt'
      rw [hx1] at hck
      have HX := hid hx2
      clear hx1 hx2
      have hsz := hbr.size
      have hgw := HW.out.1
      cases ht : tagOk (bts x)
      · have HF := hid (show (splitP (bts s)).all (rtagOk p) = false from all_take_false hlt' (by rw [← HX.out, rtagOk, ht]; rfl))
        go_wp2_with (go_at_call 86; refine (rtag_any _ _ (by omega)).mono ?_; rintro e w' ⟨rfl, rfl⟩)
        go_ret
        exact ⟨by rw [← HR.out, HF.out]; rfl, hbr⟩
      · cases p
        · have HF := hid (show rtagOk false (splitP (bts s))[k] = true by rw [← HX.out, rtagOk, ht]; rfl)
          go_wp2_with (first | (go_at_call 86; refine (rtag_any _ _ (by omega)).mono ?_; rintro e w' ⟨rfl, rfl⟩) | (go_at_call 87; refine (rnumber_any _ _).mono ?_; rintro e w2 ⟨rfl, hb2⟩))
          go_roundw
          case rel => exact ⟨k + 1, by go_num, by omega, all_take_succ hlt' HA.out HF.out, HW.out.below hb2, below_tr hbr hb2⟩
          case measure => simp [intOf]; omega
        · cases hn1 : numericL (bts x)
          · have HF := hid (show rtagOk true (splitP (bts s))[k] = true by rw [← HX.out, rtagOk, ht, preTag, hn1]; rfl)
            go_wp2_with (first | (go_at_call 86; refine (rtag_any _ _ (by omega)).mono ?_; rintro e w' ⟨rfl, rfl⟩) | (go_at_call 87; refine (rnumber_any _ _).mono ?_; rintro e w2 ⟨rfl, hb2⟩; have hck2 := (hb2.cell (p := ⟨g, k, none⟩) hgw).trans hck) | (go_at_call 88; refine (rnumeric_any _ _ (by omega)).mono ?_; rintro e w' ⟨rfl, rfl⟩))
            go_roundw
            case rel => exact ⟨k + 1, by go_num, by omega, all_take_succ hlt' HA.out HF.out, HW.out.below hb2, below_tr hbr hb2⟩
            case measure => simp [intOf]; omega
          · cases hn2 : (numberL (bts x)).2
            · have HF := hid (show (splitP (bts s)).all (rtagOk true) = false from all_take_false hlt' (by rw [← HX.out, rtagOk, ht, preTag, hn1, hn2]; rfl))
              go_wp2_with (first | (go_at_call 86; refine (rtag_any _ _ (by omega)).mono ?_; rintro e w' ⟨rfl, rfl⟩) | (go_at_call 87; refine (rnumber_any _ _).mono ?_; rintro e w2 ⟨rfl, hb2⟩; have hck2 := (hb2.cell (p := ⟨g, k, none⟩) hgw).trans hck) | (go_at_call 88; refine (rnumeric_any _ _ (by omega)).mono ?_; rintro e w' ⟨rfl, rfl⟩))
              go_ret
              exact ⟨by rw [← HR.out, HF.out]; rfl, below_tr hbr hb2⟩
            · have HF := hid (show rtagOk true (splitP (bts s))[k] = true by rw [← HX.out, rtagOk, ht, preTag, hn1, hn2]; rfl)
              go_wp2_with (first | (go_at_call 86; refine (rtag_any _ _ (by omega)).mono ?_; rintro e w' ⟨rfl, rfl⟩) | (go_at_call 87; refine (rnumber_any _ _).mono ?_; rintro e w2 ⟨rfl, hb2⟩; have hck2 := (hb2.cell (p := ⟨g, k, none⟩) hgw).trans hck) | (go_at_call 88; refine (rnumeric_any _ _ (by omega)).mono ?_; rintro e w' ⟨rfl, rfl⟩))
              go_roundw
              case rel => exact ⟨k + 1, by go_num, by omega, all_take_succ hlt' HA.out HF.out, HW.out.below hb2, below_tr hbr hb2⟩
              case measure => simp [intOf]; omega
    · obtain rfl : k = n := by omega
      go_wp2_with fail
      go_ret
      exact ⟨by rw [← HR.out]; have := HA.out; rw [← HN.out] at this; rw [all_take_full this]; rfl, hbr⟩

theorem isEmpty_of {s : ByteArray} (h : ¬ 0 < s.size) : s.toList = [] := by
  apply List.eq_nil_of_length_eq_zero
  have := bts_len s
  simp only [bts] at this
  omega

set_option maxRecDepth 100000 in
set_option maxHeartbeats 400000 in
theorem rtags_any (s : ByteArray) (p : Bool) (w : World) (hs : s.size ≤ 4398046511104) : Calls Try.prog 65 #[.string s, .bool p] w (BoolPost w (tagsRef p (bts s))) := by
  by_cases h0 : 0 < s.size
  · by_cases h4 : (splitP (bts s)).length ≤ 4
    · have e : tagsRef p (bts s) = (splitP (bts s)).all (rtagOk p) := by
        rw [tagsRef, (ne_of_size h0).1]; simp [h4]
      rw [e]
      exact rtags_go s p w hs h0 h4
    · obtain ⟨he, hne⟩ := ne_of_size h0
      have e : tagsRef p (bts s) = false := by rw [tagsRef, he]; simp [h4]
      rw [e]
      clear e
      have hd4 : decide ((4 : Int) < ((splitP (bts s)).length : Int)) = true := by simp; omega
      clear h4
      go_enter Try.func65, Try.ntmps65
      go_wp2_with fail
      refine (rsplit46 s _ hs).mono ?_
      rintro e w1 ⟨g, cap, rfl, hg, hgs, hcap, hcell, hb⟩
      clear hcell
      go_wp2_with fail
      go_ret
      exact ⟨rfl, hb⟩
  · have he := isEmpty_of h0
    have e : tagsRef p (bts s) = true := by rw [tagsRef, bts, he]; rfl
    rw [e]
    clear e
    go_enter Try.func65, Try.ntmps65
    go_wp2_with fail
    go_ret
    exact ⟨rfl, Below.refl _ _⟩
end Go.Proofs.Ytodicnjoimoiiaa
