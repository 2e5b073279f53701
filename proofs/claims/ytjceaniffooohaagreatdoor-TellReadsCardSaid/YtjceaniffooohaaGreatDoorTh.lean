/- Contracts: tell's rows and sets written: tell.Print. -/
import Derived.Test.YtjceaniffooohaaGreatDoorTg
import Derived.Test.YtjceaniffooohaaGreatDoorTc
namespace Go.Proofs.YtjceaniffooohaaGreatDoor
open Go.RowKit Go.Lib
open Rw
set_option linter.unusedVariables false
set_option linter.unusedSimpArgs false

theorem joinS_cons {sep p : List UInt8} {r : List (List UInt8)} (h : r ≠ []) : joinS sep (p :: r) = p ++ sep ++ joinS sep r := by
  cases r with
  | nil => exact absurd rfl h
  | cons q r => rfl
theorem joinS_take (sep : List UInt8) : ∀ (ls : List (List UInt8)) (k : Nat), (joinS sep (ls.take k)).length ≤ (joinS sep ls).length
  | [], k => by simp
  | p :: r, 0 => by simp [joinS]
  | [p], k + 1 => by simp
  | p :: q :: r, 1 => by
    rw [joinS_cons (r := q :: r) (by simp)]
    simp only [List.take_succ_cons, List.take_zero, joinS, List.length_append]; omega
  | p :: q :: r, k + 2 => by
    have := joinS_take sep (q :: r) (k + 1)
    rw [joinS_cons (r := q :: r) (by simp), List.take_succ_cons, joinS_cons (by simp)]
    simp only [List.length_append]; omega
theorem joinS_snoc {sep q : List UInt8} : ∀ {ls : List (List UInt8)}, ls ≠ [] → joinS sep (ls ++ [q]) = joinS sep ls ++ (sep ++ q)
  | [], h => absurd rfl h
  | [p], _ => by simp [joinS]
  | p :: r :: s, _ => by
    have := joinS_snoc (sep := sep) (q := q) (ls := r :: s) (by simp)
    have e1 : joinS sep (p :: r :: s) = p ++ sep ++ joinS sep (r :: s) := rfl
    have e2 : joinS sep ((p :: r :: s) ++ [q]) = p ++ sep ++ joinS sep (r :: s ++ [q]) := rfl
    rw [e2, this, e1]; simp
/-- the text of the first k spans -/
def rowTo (l : List SpanL) (k : Nat) : List UInt8 := joinS orB ((l.map spanT).take k)
theorem rowTo_zero (l : List SpanL) : rowTo l 0 = [] := by simp [rowTo, joinS]
theorem rowTo_all {l : List SpanL} (h : l ≠ []) : rowTo l l.length = rowT l := by
  rw [rowTo, rowT, if_neg (by simpa using h), List.take_of_length_le (by simp)]
theorem rowTo_first {l : List SpanL} (h : 0 < l.length) : rowTo l 1 = spanT (nth l 0) := by
  cases l with
  | nil => simp at h
  | cons s r => simp [rowTo, joinS, nth]
theorem rowTo_next {l : List SpanL} {k : Nat} (h0 : 0 < k) (h : k < l.length) : rowTo l (k + 1) = rowTo l k ++ (orB ++ spanT (nth l k)) := by
  rw [rowTo, rowTo, List.take_succ_eq_append_getElem (by simpa using h), joinS_snoc]
  · rw [List.getElem_map, nth_lt h]
  · intro e
    have := congrArg List.length e
    simp only [List.length_take, List.length_map, List.length_nil] at this
    omega
theorem rowTo_len {l : List SpanL} (h : l ≠ []) (k : Nat) : (rowTo l k).length ≤ (rowT l).length := by
  rw [rowT, if_neg (by simpa using h), rowTo]
  exact joinS_take _ _ _
theorem bor : bts (⟨#[32, 111, 114, 32]⟩ : ByteArray) = orB := bts_lit _
theorem bsl : bts (⟨#[32, 47, 32]⟩ : ByteArray) = slB := bts_lit _
theorem b45x : bts (⟨#[45]⟩ : ByteArray) = [45] := bts_lit [45]
theorem pg_laid {b : Nat} {w0 w : World} {l : List UInt8} (hL : Laid w0) (h0 : w0.heap.size ≤ b) (h : Pg b w0 l w) : Laid w := hL.below (h.wrote.below.mono h0)
set_option maxRecDepth 100000 in
set_option maxHeartbeats 4000000 in
theorem prow_nil (b : Nat) (w0 : World) (A : Option Addr) (c : Nat) (l : List UInt8) (w : World) (hp : Pg b w0 l w) (hr : l.length + 1 ≤ 140737488355328) :
    Calls Tryz.prog 71 #[.pointer (some ⟨b, 0, none⟩), .slice A 0 c] w fun e w' => e = .returned (.tuple #[]) ∧ Pg b w0 (l ++ [45]) w' := by
  have HP := hid hp
  clear hp
  go_enter Tryz.func71, Tryz.ntmps71
  go_wp2_with fail
  refine (pg_write HP.out ⟨#[45]⟩ hr).mono ?_
  rintro _ u1 ⟨rfl, hq, -⟩
  rw [b45x] at hq
  have HQ := hid hq
  clear hq
  go_wp2_with fail
  refine wp_loop_rounds 1 ?_
  rw [rounds_succ]
  go_wp2_with fail
  first | go_ret | go_end0 | go_returns
  exact ⟨rfl, HQ.out⟩
set_option maxRecDepth 100000 in
set_option maxHeartbeats 4000000 in
theorem prow_full (b : Nat) (w0 : World) (A : Option Addr) (c : Nat) (sp : List SpanL) (l : List UInt8) (w : World) (hL : Laid w0) (h0 : w0.heap.size ≤ b) (hsp : Spans w0 A sp) (hf : fitL sp) (hne : sp ≠ []) (hln : sp.length ≤ 4398046511104)
    (hp : Pg b w0 l w) (hr : l.length + (rowT sp).length ≤ 140737488355328) :
    Calls Tryz.prog 71 #[.pointer (some ⟨b, 0, none⟩), .slice A sp.length c] w fun e w' => e = .returned (.tuple #[]) ∧ Pg b w0 (l ++ rowT sp) w' := by
  have hpos : 0 < sp.length := List.length_pos_iff.2 hne
  have HPOS := hid hpos
  have HE := hid hne
  have HP := hid hp
  have HLA := hid hL
  have H0 := hid h0
  have HSP := hid hsp
  have HF := hid hf
  have HR := hid hr
  clear hp hL h0 hsp hf hr hne
  generalize hn : sp.length = n at *
  have HN := hid hn
  clear hn
  have hn0 : ((n : Int) == 0) = false := by simp; omega
  go_enter Tryz.func71, Tryz.ntmps71
  go_wp2_with fail
  go_loopw [4, 5, 15] (fun i bx t wr => ∃ k : Nat, t = .int .i64 k ∧ k ≤ n ∧ Hid (Pg b w0 (l ++ rowTo sp k) wr)) (fun _ _ t _ => n - (intOf t).toNat)
  case atStart => exact ⟨0, rfl, Nat.zero_le _, hid (by rw [rowTo_zero, List.append_nil]; exact HP.out)⟩
  case round =>
    obtain ⟨k, rfl, hk, HQ⟩ := hrel
    have HLB := hid (HQ.out.wrote.below.mono H0.out)
    by_cases hlt : k < n
    · have hlt' : k < sp.length := by rw [HN.out]; exact hlt
      obtain ⟨g, off, rfl, hgl, ⟨x0, x1, x2, x3, x4, x5, x6⟩, z0, z1, z2, z3, z4, z5, z6⟩ := (HSP.out.below HLB.out).at_ (k := k) hlt'
      have i0 : (0 : Int) ≤ (k : Int) := by omega
      have i1 : (k : Int) < (n : Int) := by omega
      have HFK := hid (HF.out k hlt')
      have HRK := hid (rowTo_len HE.out (k + 1))
      have HX : Hid (rowTo sp (k + 1) = rowTo sp k ++ ((if k = 0 then [] else orB) ++ spanT (nth sp k))) := hid (by
        by_cases hk0 : k = 0
        · subst hk0; rw [rowTo_first hlt', rowTo_zero]; simp
        · rw [rowTo_next (by omega) hlt', if_neg hk0])
      generalize hsk : nth sp k = s at *
      clear hsk
      have hbg : wr.heap.size ≠ b := Nat.ne_of_gt HQ.out.page.lt
      have HS := hid (SpW.mk (HQ.out.below (below_new wr (.cells s.cells.toArray 83))) (BoxT.new wr s.cells 83))
      by_cases hk0 : k = 0
      · subst hk0
        simp only [Nat.zero_mul, Nat.add_zero] at x0 x1 x2 x3 x4 x5 x6 z0 z1 z2 z3 z4 z5 z6
        go_wp2_with fail
        refine (span_any b w0 s _ _ HLA.out H0.out HFK.out HS.out.pg (by
          have h1 := HRK.out
          have h2 := HR.out
          rw [HX.out] at h1
          simp only [List.length_append, if_true, List.length_nil] at h1 ⊢
          omega)).mono ?_
        rintro _ u1 ⟨rfl, hq⟩
        have HQ2 := hid hq
        clear hq x0 x1 x2 x3 x4 x5 x6 z0 z1 z2 z3 z4 z5 z6
        go_wp2_with fail
        go_roundw
        case rel => exact ⟨0 + 1, by go_num, by omega, hid (by rw [HX.out, ← List.append_assoc]; simpa using HQ2.out)⟩
        case measure => simp [intOf]; omega
      · have hkp : (0 : Int) < (k : Int) := by omega
        go_wp2_with fail
        refine (spw_write hbg HS.out ⟨#[32, 111, 114, 32]⟩ (by
          have h1 := HRK.out
          have h2 := HR.out
          rw [HX.out, if_neg hk0] at h1
          simp only [List.length_append, orB, List.length_cons, List.length_nil] at h1 ⊢
          show _ + 4 ≤ _
          omega)).mono ?_
        rintro _ u0 ⟨rfl, hq⟩
        rw [bor] at hq
        have HS := hid hq
        clear hq x0 x1 x2 x3 x4 x5 x6 z0 z1 z2 z3 z4 z5 z6
        obtain ⟨⟨c0, c1, c2, c3, c4, c5, c6⟩, c7, c8, c9, c10, c11, c12, c13⟩ := HS.out.box.box.get14
        go_wp2_with fail
        refine (span_any b w0 s _ _ HLA.out H0.out HFK.out HS.out.pg (by
          have h1 := HRK.out
          have h2 := HR.out
          rw [HX.out, if_neg hk0] at h1
          simp only [List.length_append] at h1 ⊢
          omega)).mono ?_
        rintro _ u1 ⟨rfl, hq⟩
        have HQ2 := hid hq
        clear hq c0 c1 c2 c3 c4 c5 c6 c7 c8 c9 c10 c11 c12 c13
        go_wp2_with fail
        go_roundw
        case rel => exact ⟨k + 1, by go_num, by omega, hid (by rw [HX.out, if_neg hk0, ← List.append_assoc, ← List.append_assoc]; exact HQ2.out)⟩
        case measure => simp [intOf]; omega
    · obtain rfl : k = n := by omega
      go_wp2_with fail
      first | go_ret | go_end0 | go_returns
      refine ⟨rfl, ?_⟩
      have h1 := HQ.out
      rw [← HN.out, rowTo_all HE.out] at h1
      exact h1
theorem prow_any (b : Nat) (w0 : World) (A : Option Addr) (c : Nat) (sp : List SpanL) (l : List UInt8) (w : World) (hL : Laid w0) (h0 : w0.heap.size ≤ b) (hsp : Spans w0 A sp) (hf : fitL sp) (hln : sp.length ≤ 4398046511104)
    (hp : Pg b w0 l w) (hr : l.length + (rowT sp).length ≤ 140737488355328) :
    Calls Tryz.prog 71 #[.pointer (some ⟨b, 0, none⟩), .slice A sp.length c] w fun e w' => e = .returned (.tuple #[]) ∧ Pg b w0 (l ++ rowT sp) w' := by
  by_cases hne : sp = []
  · subst hne
    exact prow_nil b w0 A c l w hp hr
  · exact prow_full b w0 A c sp l w hL h0 hsp hf hne hln hp hr
theorem page_new (w : World) : PageAt w.heap.size [] (w.alloc (.cells #[.pointer none, .slice none 0 0] 91)) :=
  .inl ⟨Nat.le_refl _, .slice none 0 0, heap_alloc_new w _, ⟨rfl, .inl ⟨rfl, rfl⟩⟩, by simp [Value.ownBlock]⟩
theorem pg_new (w : World) : Pg w.heap.size w [] (w.alloc (.cells #[.pointer none, .slice none 0 0] 91)) := ⟨page_new w, Wrote.of (below_new w _) (Nat.le_refl _)⟩
theorem setT_yes {l m : List SpanL} (h : mayS l m = true) : setT l m = rowT l ++ (if m.isEmpty then [] else slB ++ rowT m) := by rw [setT, if_pos h]
theorem setT_no {l m : List SpanL} (h : mayS l m = false) : setT l m = [] := by rw [setT, if_neg (by rw [h]; simp)]
theorem below_page {w w1 u : World} {b : Nat} {l : List UInt8} (h : Below w.heap.size w w1) (hp : Pg b w1 l u) (hb : b = w1.heap.size) : Below w.heap.size w u := by
  subst hb; exact below_tr h hp.wrote.below
set_option maxRecDepth 100000 in
set_option maxHeartbeats 4000000 in
theorem tprint_any (A B : Option Addr) (c d : Nat) (l m : List SpanL) (w : World) (hL : Laid w) (hl : Spans w A l) (hm : Spans w B m) (hfl : fitL l) (hfm : fitL m) (hln : l.length ≤ 4398046511104) (hmn : m.length ≤ 4398046511104)
    (hr : (setT l m).length ≤ 140737488355328) : Calls Tryz.prog 41 #[setV A l.length c B m.length d] w (StrPost w (setT l m)) := by
  have HM := hid (fun w1 (h : Below w.heap.size w w1) => smay_any A B c d l m w1 (hL.first.below h) (hl.below h) (hm.below h) hfl hfm hln hmn)
  have HR1 := hid (fun (b : Nat) (w0 : World) (h : Below w.heap.size w w0) (h0 : w0.heap.size ≤ b) (x : List UInt8) (u : World) (hp : Pg b w0 x u) (hr : x.length + (rowT l).length ≤ 140737488355328) => prow_any b w0 A c l x u (hL.below h) h0 (hl.below h) hfl hln hp hr)
  have HR2 := hid (fun (b : Nat) (w0 : World) (h : Below w.heap.size w w0) (h0 : w0.heap.size ≤ b) (x : List UInt8) (u : World) (hp : Pg b w0 x u) (hr : x.length + (rowT m).length ≤ 140737488355328) => prow_any b w0 B d m x u (hL.below h) h0 (hm.below h) hfm hmn hp hr)
  have HLEN := hid hr
  have HEM : Hid (m.isEmpty = decide (m.length = 0)) := hid (by cases m <;> simp)
  have HNE := hid (fun (h : mayS l m = true) => setT_ne (mayS_val.1 h))
  clear hL hl hm hfl hfm hr
  generalize hn : l.length = n at *
  generalize hk : m.length = k at *
  clear hn hk
  cases hmay : mayS l m
  · rw [hmay] at HM
    have HT := hid (setT_no hmay)
    go_enter Tryz.func41, Tryz.ntmps41
    go_wp2_with fail
    refine (HM.out _ (below_new _ _)).mono ?_
    rintro _ w1 ⟨rfl, hb⟩
    go_wp2_with fail
    go_ret
    exact ⟨_, rfl, by rw [HT.out]; exact bts_lit [], below_box hb⟩
  · rw [hmay] at HM
    have HT := hid (setT_yes hmay)
    have HN := hid (HNE.out hmay)
    clear hmay
    go_enter Tryz.func41, Tryz.ntmps41
    go_wp2_with fail
    refine (HM.out _ (below_new _ _)).mono ?_
    rintro _ w1 ⟨rfl, hb⟩
    have HX := hid ((Box.new w [Value.slice A n c, .slice B k d] 31).below hb)
    have HB := hid (below_box hb)
    clear hb
    obtain ⟨x0, x1⟩ := HX.out.get2
    have hlt : w.heap.size < w1.heap.size := HX.out.1
    go_wp2_with fail
    refine (HR1.out w1.heap.size w1 HB.out (Nat.le_refl _) [] _ (pg_new w1) (by
      have h1 := HLEN.out
      rw [HT.out] at h1
      simp only [List.length_append, List.length_nil] at h1 ⊢
      omega)).mono ?_
    rintro _ u1 ⟨rfl, hq⟩
    have HQ := hid hq
    rw [List.nil_append] at HQ
    clear hq x0 x1
    have HX1 := hid (HX.out.below HQ.out.wrote.below)
    obtain ⟨x0, x1⟩ := HX1.out.get2
    by_cases hk0 : k = 0
    · subst hk0
      have HTN := hid (show setT l m = rowT l by rw [HT.out, HEM.out]; simp)
      go_wp2_with fail
      refine (pstring_full w1.heap.size (rowT l) u1 HQ.out.page (by rw [← HTN.out]; exact HN.out)).mono ?_
      rintro _ u2 ⟨rfl, hb⟩
      go_wp2_with fail
      go_ret
      exact ⟨_, rfl, by rw [HTN.out]; exact bts_lit _, below_tr HB.out (HQ.out.wrote.below.trans hb)⟩
    · have HTN := hid (show setT l m = rowT l ++ (slB ++ rowT m) by rw [HT.out, HEM.out]; simp [hk0])
      have hkp : (0 : Int) < (k : Int) := by omega
      go_wp2_with fail
      refine (pg_write HQ.out ⟨#[32, 47, 32]⟩ (by
        have h1 := HLEN.out
        rw [HTN.out] at h1
        simp only [List.length_append, slB, List.length_cons, List.length_nil] at h1 ⊢
        show _ + 3 ≤ _
        omega)).mono ?_
      rintro _ u2 ⟨rfl, hq, -⟩
      rw [bsl] at hq
      have HQ2 := hid hq
      clear hq x0 x1
      have HX2 := hid (HX.out.below HQ2.out.wrote.below)
      obtain ⟨x0, x1⟩ := HX2.out.get2
      go_wp2_with fail
      refine (HR2.out w1.heap.size w1 HB.out (Nat.le_refl _) _ _ HQ2.out (by
        have h1 := HLEN.out
        rw [HTN.out] at h1
        simp only [List.length_append] at h1 ⊢
        omega)).mono ?_
      rintro _ u3 ⟨rfl, hq⟩
      rw [List.append_assoc, ← HTN.out] at hq
      have HQ3 := hid hq
      clear hq x0 x1
      go_wp2_with fail
      refine (pstring_full w1.heap.size (setT l m) u3 HQ3.out.page HN.out).mono ?_
      rintro _ u4 ⟨rfl, hb⟩
      go_wp2_with fail
      go_ret
      exact ⟨_, rfl, bts_lit _, below_tr HB.out (HQ3.out.wrote.below.trans hb)⟩
end Go.Proofs.YtjceaniffooohaaGreatDoor
