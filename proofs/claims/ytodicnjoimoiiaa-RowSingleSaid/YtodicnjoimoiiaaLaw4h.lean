/- The walks of the laws of rows, call by call. -/
import Derived.Test.YtodicnjoimoiiaaAwake
import Derived.Test.YtodicnjoimoiiaaLawS
import Derived.Test.YtodicnjoimoiiaaRowThm
import Derived.IntWalk
namespace Go.Proofs.Ytodicnjoimoiiaa
open Go.RowKit Go.Lib
set_option linter.unusedVariables false
set_option linter.unusedSimpArgs false

theorem take_val {a : List SpanL} (ha : Rw.Val a) (k : Nat) : Rw.Val (a.take k) := by
  induction a generalizing k with
  | nil => simp [Rw.Val]
  | cons s l ih =>
    cases k with
    | zero => simp [Rw.Val]
    | succ k => exact ⟨ha.1, fun t ht => ha.2.1 t (List.mem_of_mem_take ht), ih ha.2.2 k⟩
theorem one_val {a : List SpanL} {k : Nat} (ha : Rw.Val a) (hk : k < a.length) : Rw.Val [nth a k] :=
  ⟨ha.span _ (by rw [nth_lt hk]; exact List.getElem_mem _), (fun t ht => by cases ht), True.intro⟩
theorem or_take {a : List SpanL} {k : Nat} (ha : Rw.Val a) (hk : k < a.length) : rorL (a.take k) [nth a k] = a.take (k + 1) := by
  refine Rw.Val.ext _ _ (Rw.v_or (take_val ha k) (one_val ha hk)) (take_val ha (k + 1)) fun x => ?_
  rw [Rw.m_or (take_val ha k) (one_val ha hk), Rw.take_nth hk, Rw.mem_append]
theorem one_within {a : List SpanL} {k : Nat} (ha : Rw.Val a) (hk : k < a.length) : withinR [nth a k] a = true := by
  refine (Rw.within_iff (one_val ha hk) ha).2 fun x hx => ?_
  obtain ⟨s, hs, h⟩ := hx
  rw [List.mem_singleton] at hs
  subst hs
  exact ⟨_, by rw [nth_lt hk]; exact List.getElem_mem _, h⟩
theorem val_lt : ∀ {a : List SpanL} {i k : Nat}, Rw.Val a → (hik : i < k) → (hk : k < a.length) → Rw.lt (a[i]'(by omega)).til (a[k]).fr
  | [], i, k, _, _, hk => by simp at hk
  | s :: l, i, 0, _, hik, _ => by omega
  | s :: l, 0, k + 1, ha, _, hk => ha.2.1 _ (List.getElem_mem _)
  | s :: l, i + 1, k + 1, ha, hik, hk => val_lt ha.2.2 (by omega) (by simpa using hk)
theorem and_take {a : List SpanL} {k : Nat} (ha : Rw.Val a) (hk : k < a.length) : randL (a.take k) [nth a k] = [] := by
  have hv := Rw.v_and (take_val ha k) (one_val ha hk)
  refine (Rw.nil_iff hv).2 fun x hx => ?_
  rw [Rw.m_and (take_val ha k) (one_val ha hk)] at hx
  obtain ⟨⟨s, hs, _, h1⟩, t, ht, h2, _⟩ := hx
  rw [List.mem_singleton] at ht
  subst ht
  obtain ⟨i, hi, rfl⟩ := List.getElem_of_mem hs
  rw [List.length_take] at hi
  rw [List.getElem_take] at h1
  have h3 := val_lt ha (i := i) (k := k) (by omega) hk
  rw [nth_lt hk] at h2
  exact (h1.tr h3).not_le h2
theorem sub_fit1 {s t : List SpanL} (hf : fitL s) (h : ∀ x, x ∈ t → x ∈ s) : fitL t := fun i hi => by
  rw [nth_lt hi]; exact hf.toAll _ (h _ (List.getElem_mem hi))
theorem nth_take {a : List SpanL} {k : Nat} : a.take a.length = a := List.take_length
theorem Spans.cut1 {w : World} {b off : Nat} {a : List SpanL} {k : Nat} (h : Spans w (some ⟨b, off, none⟩) a) (hk : k < a.length) : Spans w (some ⟨b, off + k * 14, none⟩) [nth a k] := by
  rcases h with h | ⟨b', off', e, hlt, hc⟩
  · subst h; simp at hk
  · injection e with e; injection e with e1 e2 e3; subst e1; subst e2
    refine .inr ⟨b, _, rfl, hlt, fun i hi j u hj => ?_⟩
    have : i = 0 := by simpa using hi
    subst this
    have := hc k hk j u hj
    rwa [Nat.zero_mul, Nat.add_zero]
theorem own_cap {w : World} {base : Nat} {v : Value} {l : List SpanL} (h : OwnS w base v l) : ∃ A c, v = .slice A l.length c ∧ Spans w A l ∧ l.length ≤ c := by
  rcases h.form with ⟨h1, h2⟩ | ⟨g, c', h1, h2, _, h4⟩
  · subst h2; exact ⟨none, 0, h1, .inl rfl, Nat.le_refl _⟩
  · obtain ⟨A, c, e, hs⟩ := h.spans
    rw [h1] at e
    injection e with e1 e2 e3
    subst e1; subst e3
    exact ⟨_, _, h1, hs, h4⟩

set_option maxRecDepth 100000 in
set_option maxHeartbeats 2000000 in
theorem walk_RowSingle (A0 : Option Addr) (c0 : Nat) (z0 : List Int) (w : World) (h0 : IntsAt w A0 z0) (l0 : z0.length ≤ 9223372036854775807) : Calls Try.prog 9 #[.slice A0 z0.length c0] w (BoolPost w true) := by
  have HI0 := hid h0
  have HL0 := hid l0
  have HB : Hid (Below w.heap.size w w) := hid (Below.refl _ _)
  clear h0 l0
  go_enter Try.func9, Try.ntmps9
  go_wp2_with fail
  refine (row_any w.heap.size A0 c0 z0 0 w HI0.out (by omega) (by omega) HL0.out (Nat.le_refl _)).mono ?_
  rintro _ w1 ⟨v, a, rfl, o, Fa, Va, na, hb⟩
  obtain ⟨Aa, ca, rfl, Sa, hcap⟩ := own_cap o
  have HI0 := hid (HI0.out.below hb)
  have HB := hid (below_tr HB.out hb)
  have HSa := hid Sa
  have HFa := hid Fa
  have HVa := hid Va
  clear o Sa Fa Va hb
  go_wp2_with fail
  go_loopw [6, 4, 5] (fun _ o i wr => ∃ (k : Nat) (A : Option Addr) (c : Nat), i = .int .i64 k ∧ o = .slice A k c ∧ k ≤ a.length ∧ Hid (Spans wr A (a.take k)) ∧ Below w1.heap.size w1 wr) (fun _ _ i _ => a.length - (intOf i).toNat)
  case atStart => exact ⟨0, none, 0, rfl, rfl, Nat.zero_le _, .inl rfl, Below.refl _ _⟩
  case round =>
    obtain ⟨k, A, c, rfl, rfl, hk, HA, hbr⟩ := hrel
    have HBR := hid hbr
    have HSr := hid (HSa.out.below hbr)
    have hl : (a.take k).length = k := by rw [List.length_take]; omega
    by_cases hlt : k < a.length
    · have i0 : (0 : Int) ≤ (k : Int) := by omega
      have i1 : (k : Int) < (a.length : Int) := by omega
      have i2 : (k : Int) + 1 ≤ (ca : Int) := by omega
      have i3 : (k : Int) ≤ (k : Int) + 1 := by omega
      have i4 : ¬ ca = k := by omega
      obtain ⟨b, off, rfl, hbl, _⟩ := HSr.out.at_ (k := k) hlt
      have hl' := hid hl
      clear hbr hl
      have HV1 := hid (one_val HVa.out hlt)
      have HF1 : Hid (fitL [nth a k]) := hid (fun i hi => by
        have : i = 0 := by simpa using hi
        subst this; exact HFa.out k hlt)
      have HFT : Hid (fitL (a.take k)) := hid (sub_fit1 HFa.out fun x hx => List.mem_of_mem_take hx)
      have HS1 := hid (HSr.out.cut1 hlt)
      have HW1 := hid (one_within HVa.out hlt)
      have HA1 := hid (and_take HVa.out hlt)
      have HO1 := hid (or_take HVa.out hlt)
      have hm1 := hid (rowmay_any (some ⟨b, off + k * 14, none⟩) (ca - k) [nth a k] wr HS1.out HF1.out (by simp))
      rw [Rw.mayR_val.2 HV1.out] at hm1
      have hw1 := hid (fun w' (h : Below wr.heap.size wr w') => within_any (some ⟨b, off + k * 14, none⟩) (some ⟨b, off, none⟩) (ca - k) ca [nth a k] a w' (HS1.out.below h) (HSr.out.below h) HF1.out HFa.out (by simp; omega))
      rw [HW1.out] at hw1
      have ha1 := hid (fun w' (h : Below wr.heap.size wr w') => and_any w'.heap.size A (some ⟨b, off + k * 14, none⟩) c (ca - k) (a.take k) [nth a k] w' (HA.out.below h) (HS1.out.below h) HFT.out HF1.out (by rw [hl'.out]; simp; omega) (Nat.le_refl _))
      rw [HA1.out, hl'.out] at ha1
      have ho1 := hid (fun w' (h : Below wr.heap.size wr w') => por_any w'.heap.size A (some ⟨b, off + k * 14, none⟩) c (ca - k) (a.take k) [nth a k] w' (HA.out.below h) (HS1.out.below h) HFT.out HF1.out (by rw [hl'.out]; simp; omega) (Nat.le_refl _))
      rw [HO1.out, hl'.out] at ho1
      go_wp2_with fail
      refine hm1.out.mono ?_
      rintro _ w5 ⟨rfl, b5⟩
      have B5 := hid b5
      clear b5
      go_wp2_with fail
      refine (hw1.out _ B5.out).mono ?_
      rintro _ w6 ⟨rfl, b6⟩
      have B6 := hid (below_tr B5.out b6)
      clear b6
      go_wp2_with fail
      refine (ha1.out _ B6.out).mono ?_
      rintro _ w7 ⟨v7, rfl, o7, b7, _⟩
      have B7 := hid (below_tr B6.out b7)
      obtain ⟨A7, c7, rfl⟩ := own_nil o7
      clear b7 o7
      go_wp2_with fail
      refine (ho1.out _ B7.out).mono ?_
      rintro _ w8 ⟨v8, rfl, o8, b8, _⟩
      have B8 := hid (below_tr B7.out b8)
      obtain ⟨A8, c8, rfl, S8⟩ := o8.spans
      have HS8 := hid S8
      clear b8 o8 S8
      go_wp2_with fail
      go_roundw
      case rel => exact ⟨k + 1, A8, c8, by go_num, by rw [Nat.min_eq_left (by omega)], by omega, HS8.out, HBR.out.trans (B8.out.mono HBR.out.size)⟩
      case measure => simp [intOf]; omega
    · obtain rfl : k = a.length := by omega
      have hd : decide ((a.length : Int) < (a.length : Int)) = false := by simp
      have HAL := hid (List.take_length (l := a))
      rw [HAL.out] at HA
      have HB := hid (below_tr HB.out HBR.out)
      clear hbr hl HAL
      go_wp2_with fail
      refine (awake_any _).mono ?_
      rintro _ w5 ⟨rfl, b5⟩
      have HS5 := hid (HSr.out.below b5)
      have HA5 := hid (HA.out.below b5)
      have HB5 := hid (below_tr HB.out b5)
      clear b5
      go_wp2_with fail
      have hq : sameR a a = true := Rw.same_refl
      refine (same_any A _ c ca a a w5 HA5.out HS5.out (by omega) (by omega)).mono ?_
      rintro _ w6 ⟨rfl, b6⟩
      rw [hq]
      have HB6 := hid (below_tr HB5.out b6)
      clear b6 hq
      go_wp2_with fail
      go_ret
      exact ⟨rfl, HB6.out⟩
end Go.Proofs.Ytodicnjoimoiiaa
