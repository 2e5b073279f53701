/- The walks of the reference's May of rows, and of the two Has. -/
import Derived.Test.YtodicnjoimoiiaaRowA
namespace Go.Proofs.Ytodicnjoimoiiaa
open Go.RowKit Go.Lib
set_option linter.unusedVariables false
set_option linter.unusedSimpArgs false

set_option maxRecDepth 100000 in
set_option maxHeartbeats 4000000 in
theorem rrowmay_any (A : Option Addr) (c : Nat) (l : List SpanL) (w : World) (hl : Spans w A l) (hf : fitL l) (hln : l.length ≤ 4398046511104) : Calls Try.prog 16 #[.slice A l.length c] w (BoolPost w (mayR l)) := by
  generalize hr : mayR l = r
  have HR := hid hr
  clear hr
  have HL := hid hl
  have HF := hid hf
  clear hl hf
  generalize hn : l.length = n at *
  have HN := hid hn
  clear hn
  go_enter Try.func16, Try.ntmps16
  go_wp2_with fail
  go_loopw [3] (fun i wr => ∃ k : Nat, i = .int .i64 k ∧ k ≤ n ∧ Hid (Spans wr A l) ∧ Hid (mayTo l k) ∧ Below w.heap.size w wr) (fun i _ => n - (intOf i).toNat)
  case atStart => exact ⟨0, rfl, Nat.zero_le _, HL, fun j hj => by omega, Below.refl _ _⟩
  case round =>
    obtain ⟨k, rfl, hk, HS, HM, hbr⟩ := hrel
    by_cases hlt : k < n
    · have hlt' : k < l.length := by rw [HN.out]; exact hlt
      obtain ⟨b, off, rfl, hbl, ⟨x0, x1, x2, x3, x4, x5, x6⟩, z0, z1, z2, z3, z4, z5, z6⟩ := HS.out.at_ (k := k) hlt'
      have i0 : (0 : Int) ≤ (k : Int) := by omega
      have i1 : (k : Int) < (n : Int) := by omega
      have hfk := HF.out k hlt'
      generalize hsk : nth l k = s at *
      have HK := hid hsk
      clear hsk
      cases hsm : spanMay s
      · have HE := hid (mayR_no1 hlt' (by rw [HK.out]; exact hsm))
        go_wp2_with fail
        have hbw := bw_cell
        refine wp_region_below (by kernel_rfl) (by kernel_rfl) ?_
        repeat (go_big_quiet_step ((go_at_call 39; exact bw_bool (rspanmay_any s _ hfk))))
        refine wpQuiet_nil ?_
        rintro _ ⟨z, rfl⟩
        clear hbw
        go_wp2_with fail
        go_ret
        exact ⟨by rw [← HR.out, HE.out]; rfl, below_tr hbr z.ok⟩
      · by_cases h0 : k = 0
        · subst h0
          simp only [Nat.zero_mul, Nat.add_zero] at x0 x1 x2 x3 x4 x5 x6 z0 z1 z2 z3 z4 z5 z6
          go_wp2_with fail
          have hbw := bw_cell
          refine wp_region_below (by kernel_rfl) (by kernel_rfl) ?_
          repeat (go_big_quiet_step ((go_at_call 39; exact bw_bool (rspanmay_any s _ hfk))))
          refine wpQuiet_nil ?_
          rintro _ ⟨z, rfl⟩
          clear hbw
          go_wp2_with fail
          go_roundw
          case rel => exact ⟨1, by go_num, by omega, HS.out.below z.ok, mayTo_step HM.out (by rw [HK.out]; exact hsm) (fun h => by omega), below_tr hbr z.ok⟩
          case measure => simp [intOf]; omega
        · obtain ⟨m, rfl⟩ : ∃ m, k = m + 1 := ⟨k - 1, by omega⟩
          obtain ⟨_, _, t0, t1, t2, t3, t4, t5, t6⟩ := HS.out.lay (k := m) (by omega)
          have hfm := HF.out m (by omega)
          have j0 : (0 : Int) ≤ (m : Int) := by omega
          have j1 : (m : Int) < (n : Int) := by omega
          generalize hpm : nth l m = p at *
          have HP := hid hpm
          clear hpm h0
          cases hlt2 : decide (0 ≤ cmpC p.til s.fr)
          · have HC := hid (show cmpC p.til s.fr < 0 by simpa using hlt2)
            go_wp2_with fail
            have hbw := bw_cell
            refine wp_region_below (by kernel_rfl) (by kernel_rfl) ?_
            repeat (go_big_quiet_step (first | (go_at_call 39; exact bw_bool (rspanmay_any s _ hfk)) | (go_at_call 43; exact bw_int (rccompare_any p.til s.fr _ hfm.2 hfk.1))))
            refine wpQuiet_nil ?_
            rintro _ ⟨z, rfl⟩
            clear hbw
            go_wp2_with fail
            go_roundw
            case rel => exact ⟨m + 1 + 1, by go_num, by omega, HS.out.below z.ok, mayTo_step HM.out (by rw [HK.out]; exact hsm) (fun _ => by rw [Nat.add_sub_cancel, HP.out, HK.out]; exact HC.out), below_tr hbr z.ok⟩
            case measure => simp [intOf]; omega
          · have HE := hid (mayR_no2 hlt' (by omega) (by rw [Nat.add_sub_cancel, HP.out, HK.out]; simpa using hlt2))
            go_wp2_with fail
            have hbw := bw_cell
            refine wp_region_below (by kernel_rfl) (by kernel_rfl) ?_
            repeat (go_big_quiet_step (first | (go_at_call 39; exact bw_bool (rspanmay_any s _ hfk)) | (go_at_call 43; exact bw_int (rccompare_any p.til s.fr _ hfm.2 hfk.1))))
            refine wpQuiet_nil ?_
            rintro _ ⟨z, rfl⟩
            clear hbw
            go_wp2_with fail
            go_ret
            exact ⟨by rw [← HR.out, HE.out]; rfl, below_tr hbr z.ok⟩
    · obtain rfl : k = n := by omega
      go_wp2_with fail
      go_ret
      exact ⟨by rw [← HR.out, mayR_true (by rw [HN.out]; exact HM.out)]; rfl, hbr⟩

/-- is one of the list so? by place -/
def anyTo (p : SpanL → Bool) (l : List SpanL) (k : Nat) : Prop := ∀ j, j < k → p (nth l j) = false
theorem anyTo_end {p : SpanL → Bool} {l : List SpanL} (h : anyTo p l l.length) : l.any p = false := by
  rw [List.any_eq_false]
  intro x hx
  obtain ⟨i, hi, rfl⟩ := List.getElem_of_mem hx
  have := h i hi
  rw [nth_lt hi] at this
  simp [this]
theorem any_at {p : SpanL → Bool} {l : List SpanL} {k : Nat} (hk : k < l.length) (h : p (nth l k) = true) : l.any p = true := by
  rw [List.any_eq_true]; rw [nth_lt hk] at h; exact ⟨_, List.getElem_mem hk, h⟩
theorem anyTo_step {p : SpanL → Bool} {l : List SpanL} {k : Nat} (h : anyTo p l k) (h1 : p (nth l k) = false) : anyTo p l (k + 1) := by
  intro j hj
  rcases Nat.lt_or_ge j k with h' | h'
  · exact h j h'
  · obtain rfl : j = k := by omega
    exact h1
def hasR (l : List SpanL) (v : Ver) : Bool := mayR l && l.any fun s => holdsS s v

set_option maxRecDepth 100000 in
set_option maxHeartbeats 4000000 in
theorem rowhas_any (A : Option Addr) (c : Nat) (l : List SpanL) (v : Ver) (w : World) (hl : Spans w A l) (hf : fitL l) (hln : l.length ≤ 4398046511104) (hv : v.fit) : Calls Try.prog 17 #[.slice A l.length c, v.val] w (BoolPost w (hasR l v)) := by
  generalize hr : hasR l v = r
  have HR := hid hr
  clear hr
  have HL := hid hl
  have HF := hid hf
  have HLB := hid (hl.below (below_new w (.cells v.cells.toArray 24)))
  cases hm : mayR l
  · go_enter Try.func17, Try.ntmps17
    go_wp2_with fail
    refine (rowmay_any A c l _ HLB.out hf hln).mono ?_
    rintro e w1 ⟨rfl, hb1⟩
    obtain ⟨hx, hbw⟩ := box_1 (cs := v.cells) hb1
    go_wp2_with fail
    go_ret
    exact ⟨by rw [← HR.out, hasR, hm]; rfl, hbw⟩
  · go_enter Try.func17, Try.ntmps17
    go_wp2_with fail
    refine (rowmay_any A c l _ HLB.out hf hln).mono ?_
    rintro e w1 ⟨rfl, hb1⟩
    obtain ⟨hx, hbw⟩ := box_1 (cs := v.cells) hb1
    have HL1 := hid (HLB.out.below hb1)
    have HX := hid hx
    clear hl hx hb1 hf
    generalize hn : l.length = n at *
    have HN := hid hn
    clear hn
    go_wp2_with fail
    go_loopw [6, 12] (fun t i wr => ∃ k : Nat, i = .int .i64 k ∧ k ≤ n ∧ Hid (Spans wr A l) ∧ Hid (Box wr w.heap.size v.cells) ∧ Hid (anyTo (fun s => holdsS s v) l k) ∧ Below w.heap.size w wr) (fun _ i _ => n - (intOf i).toNat)
    case atStart => exact ⟨0, rfl, Nat.zero_le _, HL1, HX, fun j hj => by omega, hbw⟩
    case round =>
      obtain ⟨k, rfl, hk, HS, HB, HM, hbr⟩ := hrel
      by_cases hlt : k < n
      · have hlt' : k < l.length := by rw [HN.out]; exact hlt
        obtain ⟨b, off, rfl, hbl, ⟨x0, x1, x2, x3, x4, x5, x6⟩, z0, z1, z2, z3, z4, z5, z6⟩ := HS.out.at_ (k := k) hlt'
        have i0 : (0 : Int) ≤ (k : Int) := by omega
        have i1 : (k : Int) < (n : Int) := by omega
        have hfk := HF.out k hlt'
        obtain ⟨y0, y1, y2, y3, y4⟩ := HB.out.get5
        have hgb := HB.out.1
        generalize hsk : nth l k = s at *
        have HK := hid hsk
        clear hsk
        have hbn := hid (below_new wr (.cells s.cells.toArray 37))
        go_wp2_with fail
        refine (holds_any s v _ hfk hv).mono ?_
        rintro e w2 ⟨rfl, hb2⟩
        have hbb := below_tr hbn.out hb2
        clear x0 x1 x2 x3 x4 x5 x6 z0 z1 z2 z3 z4 z5 z6 y0 y1 y2 y3 y4
        cases hh : holdsS s v
        · go_wp2_with fail
          go_roundw
          case rel => exact ⟨k + 1, by go_num, by omega, HS.out.below hbb, HB.out.below hbb, anyTo_step HM.out (by rw [HK.out]; exact hh), below_tr hbr hbb⟩
          case measure => simp [intOf]; omega
        · have HE := hid (show hasR l v = true by rw [hasR, hm, any_at (p := fun s => holdsS s v) hlt' (by rw [HK.out]; exact hh)]; rfl)
          go_wp2_with fail
          go_ret
          exact ⟨by rw [← HR.out, HE.out]; rfl, below_tr hbr hbb⟩
      · obtain rfl : k = n := by omega
        have HE := hid (show hasR l v = false by rw [hasR, anyTo_end (by rw [HN.out]; exact HM.out)]; simp)
        go_wp2_with fail
        go_ret
        exact ⟨by rw [← HR.out, HE.out]; rfl, hbr⟩

set_option maxRecDepth 100000 in
set_option maxHeartbeats 4000000 in
theorem rrowhas_any (A : Option Addr) (c : Nat) (l : List SpanL) (v : Ver) (w : World) (hl : Spans w A l) (hf : fitL l) (hln : l.length ≤ 4398046511104) (hv : v.fit) : Calls Try.prog 18 #[.slice A l.length c, v.val] w (BoolPost w (hasR l v)) := by
  generalize hr : hasR l v = r
  have HR := hid hr
  clear hr
  have HF := hid hf
  have HLB := hid (hl.below (below_new w (.cells v.cells.toArray 24)))
  have HBX := hid (Box.new w v.cells 24)
  have hbn := hid (below_new w (.cells v.cells.toArray 24))
  have hmay := fun (wx : World) (B : Option Addr) (h : Spans wx B l) => rrowmay_any B c l wx h hf hln
  clear hl hf
  generalize hn : l.length = n at *
  have HN := hid hn
  have HMAY := hid hmay
  clear hn hmay
  go_enter Try.func18, Try.ntmps18
  go_wp2_with fail
  go_loopw [5] (fun i wr => ∃ k : Nat, i = .int .i64 k ∧ k ≤ n ∧ Hid (Spans wr A l) ∧ Hid (Box wr w.heap.size v.cells) ∧ Hid (anyTo (fun s => holdsS s v) l k) ∧ Below w.heap.size w wr) (fun i _ => n - (intOf i).toNat)
  case atStart => exact ⟨0, rfl, Nat.zero_le _, HLB, HBX, fun j hj => by omega, hbn.out⟩
  case round =>
    obtain ⟨k, rfl, hk, HS, HB, HM, hbr⟩ := hrel
    by_cases hlt : k < n
    · have hlt' : k < l.length := by rw [HN.out]; exact hlt
      have i0 : (0 : Int) ≤ (k : Int) := by omega
      have i1 : (k : Int) < (n : Int) := by omega
      have hfk := HF.out k hlt'
      generalize hsk : nth l k = s at *
      have HK := hid hsk
      clear hsk
      go_wp2_with fail
      refine (HMAY.out _ _ HS.out).mono ?_
      rintro e w1 ⟨rfl, hb1⟩
      have hbr1 := below_tr hbr hb1
      cases hm : mayR l
      · have HE := hid (show hasR l v = false by rw [hasR, hm]; rfl)
        go_wp2_with fail
        go_ret
        exact ⟨by rw [← HR.out, HE.out]; rfl, hbr1⟩
      · have HS1 := hid (HS.out.below hb1)
        have HB1 := hid (HB.out.below hb1)
        obtain ⟨b, off, rfl, hbl, hx, hz⟩ := HS1.out.at_ (k := k) hlt'
        rw [HK.out] at hx hz
        obtain ⟨x0, x1, x2, x3, x4, x5, x6⟩ := hx
        obtain ⟨z0, z1, z2, z3, z4, z5, z6⟩ := hz
        obtain ⟨y0, y1, y2, y3, y4⟩ := HB1.out.get5
        have hgb := HB1.out.1
        go_wp2_with fail
        have hbw := bw_cell
        refine wp_region_below (by kernel_rfl) (by kernel_rfl) ?_
        repeat (go_big_quiet_step ((go_at_call 23; exact bw_bool (rholds_any s v _ hfk hv))))
        refine wpQuiet_nil ?_
        rintro _ ⟨z, rfl⟩
        clear hbw x0 x1 x2 x3 x4 x5 x6 z0 z1 z2 z3 z4 z5 z6 y0 y1 y2 y3 y4
        cases hh : holdsS s v
        · go_wp2_with fail
          go_roundw
          case rel => exact ⟨k + 1, by go_num, by omega, HS1.out.below z.ok, HB1.out.below z.ok, anyTo_step HM.out (by rw [HK.out]; exact hh), below_tr hbr1 z.ok⟩
          case measure => simp [intOf]; omega
        · have HE := hid (show hasR l v = true by rw [hasR, hm, any_at (p := fun s => holdsS s v) hlt' (by rw [HK.out]; exact hh)]; rfl)
          go_wp2_with fail
          go_ret
          exact ⟨by rw [← HR.out, HE.out]; rfl, below_tr hbr1 z.ok⟩
    · obtain rfl : k = n := by omega
      have hd : decide ((k : Int) < (k : Int)) = false := by simp
      have HE := hid (show hasR l v = false by rw [hasR, anyTo_end (by rw [HN.out]; exact HM.out)]; simp)
      go_wp2_with fail
      go_ret
      exact ⟨by rw [← HR.out, HE.out]; rfl, hbr⟩
end Go.Proofs.Ytodicnjoimoiiaa
