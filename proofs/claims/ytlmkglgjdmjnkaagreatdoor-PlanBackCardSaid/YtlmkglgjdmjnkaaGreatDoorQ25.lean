/- Parts 25 of the proofs. -/
import Derived.Test.YtlmkglgjdmjnkaaGreatDoorQ24
import Derived.Laws.EntriesVeiled
import Derived.Test.YtlmkglgjdmjnkaaGreatDoorShelf2
import Derived.Sort.OwnSorted
import Derived.Shelf.Slices.In.SortNone
namespace Go.Proofs.YtlmkglgjdmjnkaaGreatDoor
open Go.RowKit Go.Lib
open Rw
set_option linter.unusedVariables false
set_option linter.unusedSimpArgs false
def setT (o : Nat → Bool) (t : Nat) : Nat → Bool := fun j => if j = t then true else o j
def visitS (rec : Nat → (Nat → Bool) → Nat → Bool) (F : Nat → Nat → Bool) (a : Nat) (o : Nat → Bool) (t : Nat) : Nat → Bool := if F a t && !o t then rec t (setT o t) else o
def visit (n : Nat) (F : Nat → Nat → Bool) : Nat → Nat → (Nat → Bool) → Nat → Bool
  | 0 => fun _ o => o
  | f + 1 => fun a o => (List.range n).foldl (visitS (visit n F f) F a) o
def cntF (n : Nat) (o : Nat → Bool) : Nat := (List.range n).countP fun j => !o j
theorem cntF_mono {n : Nat} {o o' : Nat → Bool} (h : ∀ j, o j = true → o' j = true) : cntF n o' ≤ cntF n o := by
  unfold cntF
  refine List.countP_mono_left fun j _ hj => ?_
  cases hb : o j
  · rfl
  · rw [h j hb] at hj; exact hj
theorem cntF_set {n t : Nat} {o : Nat → Bool} (ht : t < n) (h : o t = false) : cntF n (setT o t) < cntF n o := by
  unfold cntF
  induction n with
  | zero => omega
  | succ n ih =>
    rw [List.range_succ, List.countP_append, List.countP_append]
    by_cases e : t = n
    · subst e
      have h1 : (List.range t).countP (fun j => !setT o t j) = (List.range t).countP (fun j => !o j) := by
        refine List.countP_congr fun j hj => ?_
        have := List.mem_range.1 hj
        unfold setT
        rw [if_neg (by omega)]
      rw [h1]
      simp [setT, h]
    · have := ih (by omega)
      have h2 : [n].countP (fun j => !setT o t j) = [n].countP (fun j => !o j) := by
        have h3 : setT o t n = o n := if_neg (fun x => e x.symm)
        simp only [List.countP_singleton, h3]
      omega
theorem cntF_all (n : Nat) : cntF n (fun _ => false) = n := by
  unfold cntF
  simp
theorem foldl_keep {α : Type} {l : List α} {g : (Nat → Bool) → α → Nat → Bool} (h : ∀ o t j, o j = true → g o t j = true) : ∀ (o : Nat → Bool) (j : Nat), o j = true → l.foldl g o j = true := by
  induction l with
  | nil => exact fun o j hj => hj
  | cons a l ih => exact fun o j hj => ih _ j (h o a j hj)
theorem visit_keep (n : Nat) (F : Nat → Nat → Bool) : ∀ (f a : Nat) (o : Nat → Bool) (j : Nat), o j = true → visit n F f a o j = true
  | 0, _, _, _, h => h
  | f + 1, a, o, j, h => by
    unfold visit
    refine foldl_keep (fun o t j hj => ?_) o j h
    unfold visitS
    split
    · refine visit_keep n F f t _ j ?_
      unfold setT
      split
      · rfl
      · exact hj
    · exact hj
theorem ArrV.grown {B : Nat} {w w' : World} {g N : Nat} {f : Nat → Value} {row : Option Nat} (h : ArrV B w g N f) (hg : w.grownBy w' row) (hne : some g ≠ row) : ArrV B w' g N f :=
  ⟨Nat.lt_of_lt_of_le h.lt hg.size, h.low, fun j => (World.frozen?_of_block (hg.block g h.lt hne)).trans (h.soft j), fun j hj => (World.cell?_of_block (hg.block g h.lt hne)).trans (h.cell j hj)⟩
theorem Mat.grown {B : Nat} {w w' : World} {g n m : Nat} {h : Nat → Nat} {F : Nat → Nat → Bool} {x : Nat} (hM : Mat B w g n m h F) (hg : w.grownBy w' (some x)) (h1 : g ≠ x) (h2 : ∀ k, k < m → h k ≠ x) : Mat B w' g n m h F :=
  ⟨hM.row.grown hg (fun e => h1 (by injection e)), fun k hk => (hM.sub k hk).grown hg (fun e => h2 k hk (by injection e)), hM.ne, hM.inj⟩
theorem grown_put (w : World) (x j : Nat) (v : Value) : w.grownBy (w.setCell ⟨x, j, none⟩ v) (some x) :=
  ⟨rfl, rfl, rfl, by rw [World.size_setCell]; exact Nat.le_refl _, fun k _ hk => setCells_block x k (fun e => hk (by rw [e])) [v] j w⟩
theorem box_grown {w w' : World} {g x : Nat} {cs : List Value} (h : Box w g cs) (hg : w.grownBy w' (some x)) (hne : g ≠ x) : Box w' g cs := h.grown hg (fun e => hne (by injection e))
def ReachK (B : Nat) (w : World) (x n : Nat) (o : Nat → Bool) (e : Ending) (w' : World) : Prop := (∃ v, e = .returned v) ∧ ArrV B w' x n (fun j => .bool (o j)) ∧ w.grownBy w' (some x)
set_option maxRecDepth 100000 in
set_option maxHeartbeats 1000000 in
theorem reach1_any (B gN gO gF g n x : Nat) (h : Nat → Nat) (F : Nat → Nat → Bool) (hn : n ≤ 1000) (n1 : gN ≠ x) (n2 : gO ≠ x) (n3 : gF ≠ x) (n4 : g ≠ x) (n5 : ∀ k, k < n → h k ≠ x) :
    ∀ (f a : Nat) (o : Nat → Bool) (w : World), a < n → cntF n o < f → Box w gN [.slice (some ⟨g, 0, none⟩) n n] → Box w gO [.slice (some ⟨x, 0, none⟩) n n] → Box w gF [.func (.func 81) #[] #[.pointer (some ⟨gN, 0, none⟩), .pointer (some ⟨gO, 0, none⟩), .pointer (some ⟨gF, 0, none⟩)]] → Mat B w g n n h F → ArrV B w x n (fun j => .bool (o j)) →
      Calls Tryz.prog 81 #[.int .i64 (a : Int), .pointer (some ⟨gN, 0, none⟩), .pointer (some ⟨gO, 0, none⟩), .pointer (some ⟨gF, 0, none⟩)] w (ReachK B w x n (visit n F f a o)) := by
  intro f
  induction f with
  | zero => exact fun a o w _ hc => by omega
  | succ f ih =>
    intro a o w ha hc hN hO hF hM hA
    have HIH := hid ih
    have HN := hid hN
    have HO := hid hO
    have HF := hid hF
    have HM := hid hM
    have HA := hid hA
    have HX := hid (And.intro n1 (And.intro n2 (And.intro n3 (And.intro n4 n5))))
    have HAN := hid ha
    have HR0 := hid (show visit n F (f + 1) a o = ((List.range' 0 n).foldl (visitS (visit n F f) F a) o) from by rw [show visit n F (f + 1) a o = (List.range n).foldl (visitS (visit n F f) F a) o from rfl, List.range_eq_range'])
    have HK := hid (visit_keep n F f)
    clear ih hN hO hF hM hA n1 n2 n3 n4 n5
    generalize visit n F (f + 1) a o = res at *
    have c0 := HN.out.2 0 _ rfl
    have cl := HN.out.1
    have r0 := HM.out.head HAN.out
    have rl := HM.out.row.lt
    have a0 : (0 : Int) ≤ (a : Int) := by omega
    have a1 : (a : Int) < (n : Int) := by omega
    go_enter Tryz.func81, Tryz.ntmps81
    go_upto_block 0 with fail
    clear c0 cl r0 rl
    go_wp2_with fail
    go_loopw [12] (fun iv wr => ∃ (t d : Nat) (o' : Nat → Bool), iv = .int .i64 (t : Int) ∧ t + d = n ∧ Hid (res = (List.range' t d).foldl (visitS (visit n F f) F a) o') ∧ Hid (cntF n o' ≤ f) ∧ Hid (ArrV B wr x n (fun j => .bool (o' j))) ∧ Hid (w.grownBy wr (some x))) (fun iv _ => n - (intOf iv).toNat)
    case atStart => exact ⟨0, n, o, rfl, Nat.zero_add n, HR0, hid (by omega), HA, hid (World.grownBy.refl _ _)⟩
    case round =>
      clear HR0 HA
      rename World => wr
      obtain ⟨t, d, o', rfl, htd, HR, HC, HA, HG⟩ := hrel
      have t0 : (0 : Int) ≤ (t : Int) := by omega
      cases d with
      | zero =>
        obtain rfl : n = t := by omega
        have t1 : ¬ (n : Int) < (n : Int) := by omega
        have HRS := hid (show res = o' from HR.out)
        go_wp2_with fail
        go_end0
        exact ⟨⟨_, rfl⟩, by rw [HRS.out]; exact HA.out, HG.out⟩
      | succ d =>
        have htn : t < n := by omega
        have t1 : (t : Int) < (n : Int) := by omega
        have HTN := hid htn
        have HMW := hid (HM.out.grown HG.out HX.out.2.2.2.1 HX.out.2.2.2.2)
        have HST := hid (HR.out.trans (by rw [List.range'_succ, List.foldl_cons]))
        have HVS := hid (show visitS (visit n F f) F a o' t = if F a t && !o' t then visit n F f t (setT o' t) else o' from rfl)
        have ct := (HMW.out.sub a HAN.out).cell t htn
        have ctl := (HMW.out.sub a HAN.out).lt
        have HOW := hid (box_grown HO.out HG.out HX.out.2.1)
        have HFW := hid (box_grown HF.out HG.out HX.out.2.2.1)
        have HNW := hid (box_grown HN.out HG.out HX.out.1)
        have p0 := HOW.out.2 0 _ rfl
        have pl := HOW.out.1
        have q0 := HFW.out.2 0 _ rfl
        have ql := HFW.out.1
        have xt := HA.out.cell t htn
        have xl := HA.out.lt
        clear HR
        cases hft : F a t with
        | false =>
          rw [hft] at ct
          have HNX := hid (show res = (List.range' (t + 1) d).foldl (visitS (visit n F f) F a) o' from by rw [HST.out, HVS.out, hft]; rfl)
          clear hft
          go_wp2_with fail
          refine ⟨⟨t + 1, d, o', by go_num, by omega, HNX, HC, HA, HG⟩, ?_⟩
          simp [intOf] <;> omega
        | true =>
          rw [hft] at ct
          cases hot : o' t with
          | true =>
            rw [hot] at xt
            have HNX := hid (show res = (List.range' (t + 1) d).foldl (visitS (visit n F f) F a) o' from by rw [HST.out, HVS.out, hft, hot]; rfl)
            clear hft hot
            go_wp2_with fail
            refine ⟨⟨t + 1, d, o', by go_num, by omega, HNX, HC, HA, HG⟩, ?_⟩
            simp [intOf] <;> omega
          | false =>
            rw [hot] at xt
            have HNX := hid (show res = (List.range' (t + 1) d).foldl (visitS (visit n F f) F a) (visit n F f t (setT o' t)) from by rw [HST.out, HVS.out, hft, hot]; rfl)
            have HCS := hid (cntF_set HTN.out hot)
            clear hft hot
            have sf : ∀ j, wr.frozen? ⟨x, j, none⟩ = false := HA.out.soft
            go_upto_region 5 with fail
            refine wp_name ?_
            intro u1 hu1
            have HA1 := hid (show ArrV B u1 x n (fun j => .bool (setT o' t j)) from by rw [hu1]; exact (HA.out.put HTN.out (.bool true)).same fun j _ => by unfold setT; split <;> rfl)
            have HG1 := hid (show wr.grownBy u1 (some x) from by rw [hu1]; exact grown_put _ _ _ _)
            clear hu1 ct ctl p0 pl q0 ql xt xl sf
            have HF1 := hid (box_grown HFW.out HG1.out HX.out.2.2.1)
            have HCL := hid (HIH.out t (setT o' t) u1 HTN.out (by have := HCS.out; have := HC.out; omega) (box_grown HNW.out HG1.out HX.out.1) (box_grown HOW.out HG1.out HX.out.2.1) HF1.out (HMW.out.grown HG1.out HX.out.2.2.2.1 HX.out.2.2.2.2) HA1.out)
            have q0 := HF1.out.2 0 _ rfl
            have ql := HF1.out.1
            go_wp2_with fail
            refine HCL.out.mono ?_
            rintro _ u2 ⟨⟨v, rfl⟩, hA2, hG2⟩
            have HA2 := hid hA2
            have HG2 := hid (grown_tr (grown_tr HG.out HG1.out) hG2)
            have HC2 := hid (show cntF n (visit n F f t (setT o' t)) ≤ f from by
              have h1 := cntF_mono (n := n) (fun j hj => HK.out t (setT o' t) j hj)
              have h2 := HCS.out
              have h3 := HC.out
              omega)
            clear hA2 hG2 q0 ql
            go_wp2_with fail
            refine ⟨⟨t + 1, d, _, by go_num, by omega, HNX, HC2, HA2, HG2⟩, ?_⟩
            simp [intOf] <;> omega
def RowK (w : World) (n : Nat) (R : Nat → Bool) (e : Ending) (w' : World) : Prop := ∃ x, e = .returned (.slice (some ⟨x, 0, none⟩) n n) ∧ ArrV w.heap.size w' x n (fun j => .bool (R j)) ∧ KB w.heap.size w w'
def reachB (n : Nat) (F : Nat → Nat → Bool) (a : Nat) : Nat → Bool := visit n F (n + 1) a (fun _ => false)
set_option maxRecDepth 100000 in
set_option maxHeartbeats 1000000 in
theorem preach_any (B g n : Nat) (h : Nat → Nat) (F : Nat → Nat → Bool) (a : Nat) (w : World) (hn : n ≤ 1000) (ha : a < n) (hM : Mat B w g n n h F) (hB : B ≤ w.heap.size) : Calls Tryz.prog 46 #[.slice (some ⟨g, 0, none⟩) n n, .int .i64 (a : Int)] w (RowK w n (reachB n F a)) := by
  have HM := hid hM
  have HAN := hid ha
  have HR0 := hid (show reachB n F a = visit n F (n + 1) a (fun _ => false) from rfl)
  generalize reachB n F a = res at *
  clear hM
  obtain ⟨i2, f1, f2, f3, f4⟩ := bool_info
  have HI2 := hid (And.intro f1 (And.intro f2 (And.intro f3 f4)))
  clear f1 f2 f3 f4
  have HB0 := hid (kb_new w (.cells [.slice (some ⟨g, 0, none⟩) n n].toArray 110))
  have HX0 := hid (Box.new w [.slice (some ⟨g, 0, none⟩) n n] 110)
  go_enter Tryz.func46, Tryz.ntmps46
  go_upto_region 1 with fail
  refine wp_name ?_
  intro u0 hu0
  rw [← hu0] at HB0 HX0
  clear hu0
  have x0 := HX0.out.2 0 _ rfl
  have xl := HX0.out.1
  go_upto_region 2 with (at_make; refine wpList_make_full u0 rfl _ _ _ rfl u0.heap.size 4 i2 (.bool false) 1 Tryz.underlying112 HI2.out.1 HI2.out.2.1 HI2.out.2.2.1 .i64 .i64 n n n rfl rfl rfl rfl (by rw [HI2.out.2.2.2]; omega) (by unfold maxLen; omega) (Nat.le_refl _) ?_; intro w1 h1 h2; have HR1 := hid (ArrV.of_own h1 (h1.lt _ rfl).2 (h1.lt _ rfl).1); have HB1 := hid (show KB u0.heap.size u0 w1 from (Go.RowKit.Below.refl _ _).grown h2 (Nat.le_refl _) (fun k hk => by cases hk)); clear h1 h2)
  clear x0 xl
  refine wp_name ?_
  intro u1 hu1
  have HX1 := hid (show Box u1 w1.heap.size [.slice (some ⟨u0.heap.size, 0, none⟩) n n] from by rw [hu1]; exact Box.new w1 [.slice (some ⟨u0.heap.size, 0, none⟩) n n] 112)
  have HK1 := hid (kb_tr HB1.out (show KB w1.heap.size w1 u1 from by rw [hu1]; exact kb_new _ _))
  have HR2 := hid (HR1.out.kb (show KB w1.heap.size w1 u1 from by rw [hu1]; exact kb_new _ _))
  clear hu1 
  go_upto_region 4 with fail
  refine wp_name ?_
  intro u2 hu2
  have HX2 := hid (show Box u2 u1.heap.size [.func (.func 81) #[] #[.pointer (some ⟨w.heap.size, 0, none⟩), .pointer (some ⟨w1.heap.size, 0, none⟩), .pointer (some ⟨u1.heap.size, 0, none⟩)]] from by rw [hu2]; exact Box.new u1 [.func (.func 81) #[] #[.pointer (some ⟨w.heap.size, 0, none⟩), .pointer (some ⟨w1.heap.size, 0, none⟩), .pointer (some ⟨u1.heap.size, 0, none⟩)]] _)
  have HK2 := hid (show KB u1.heap.size u1 u2 from by rw [hu2]; exact kb_new _ _)
  clear hu2
  have HKA := hid (kb_tr (kb_tr HB0.out HK1.out) HK2.out)
  have HK12 := hid (kb_tr HK1.out HK2.out)
  have l0 : w.heap.size < u0.heap.size := HX0.out.1
  have l1 : u0.heap.size < w1.heap.size := HR1.out.lt
  have l2 : w1.heap.size < u1.heap.size := HX1.out.1
  have HLL := hid (And.intro l0 (And.intro l1 l2))
  have HCL := hid (reach1_any B w.heap.size w1.heap.size u1.heap.size g n u0.heap.size h F hn (by omega) (by omega) (by omega) (by have := HM.out.row.lt; omega) (fun k hk => by have := (HM.out.sub k hk).lt; omega) (n + 1) a (fun _ => false) u2 HAN.out (by rw [cntF_all]; omega) (HX0.out.kb HK12.out) (HX1.out.kb HK2.out) HX2.out (HM.out.kb HKA.out) ((HR2.out.kb HK2.out).base (by omega)))
  rw [← HR0.out] at HCL
  have HXO := hid (HX1.out.kb HK2.out)
  have q0 := HX2.out.2 0 _ rfl
  have ql := HX2.out.1
  clear l0 l1 l2
  go_wp2_with fail
  refine HCL.out.mono ?_
  rintro _ u3 ⟨⟨v, rfl⟩, hA3, hG3⟩
  have HA3 := hid hA3
  have HK3 := hid (show KB w.heap.size w u3 from HKA.out.grown hG3 HKA.out.size (fun k hk => by injection hk with hk; have := HLL.out; omega))
  have HXP := hid (box_grown HXO.out hG3 (by have := HLL.out; omega))
  clear hA3 hG3 q0 ql
  have p0 := HXP.out.2 0 _ rfl
  have pl := HXP.out.1
  go_wp2_with fail
  go_ret
  exact ⟨_, rfl, ⟨HA3.out.lt, by have := HLL.out; omega, HA3.out.soft, HA3.out.cell⟩, HK3.out⟩
end Go.Proofs.YtlmkglgjdmjnkaaGreatDoor
namespace Go.Proofs.YtlmkglgjdmjnkaaGreatDoor
open Go.RowKit Go.Lib
open Rw
set_option linter.unusedVariables false
set_option linter.unusedSimpArgs false
def oneB (R : Nat → Nat → Bool) (a b : Nat) : Bool := decide (a = b) || (R a b && R b a)
set_option maxRecDepth 100000 in
set_option maxHeartbeats 1000000 in
theorem pone_any (B gN g n : Nat) (h : Nat → Nat) (R : Nat → Nat → Bool) (a b : Nat) (w : World) (hn : n ≤ 1000) (ha : a < n) (hb : b < n) (hN : Box w gN [.slice (some ⟨g, 0, none⟩) n n]) (hM : Mat B w g n n h R) : Calls Tryz.prog 47 #[.int .i64 (a : Int), .int .i64 (b : Int), .pointer (some ⟨gN, 0, none⟩)] w fun e w' => e = .returned (.bool (oneB R a b)) ∧ w = w' := by
  have HO := hid (show oneB R a b = (decide (a = b) || (R a b && R b a)) from rfl)
  generalize oneB R a b = res at *
  have c0 := hN.2 0 _ rfl
  have cl := hN.1
  have ra := hM.head ha
  have rb := hM.head hb
  have rl := hM.row.lt
  have ab := (hM.sub a ha).cell b hb
  have al := (hM.sub a ha).lt
  have ba := (hM.sub b hb).cell a ha
  have bl := (hM.sub b hb).lt
  have a0 : (0 : Int) ≤ (a : Int) := by omega
  have a1 : (a : Int) < (n : Int) := by omega
  have b0 : (0 : Int) ≤ (b : Int) := by omega
  have b1 : (b : Int) < (n : Int) := by omega
  clear hN hM
  generalize h a = xa at *
  generalize h b = xb at *
  generalize R a b = rab at *
  generalize R b a = rba at *
  by_cases g1 : a = b
  · have HG := hid g1
    have e1 : ((a : Int) == (b : Int)) = true := by rw [beq_iff_eq]; omega
    have HRS := hid (show res = true from by rw [HO.out, decide_eq_true g1]; rfl)
    clear g1 HO
    go_enter Tryz.func47, Tryz.ntmps47
    go_wp2_with fail
    go_ret
    exact ⟨by rw [HRS.out]; rfl, rfl⟩
  · have e1 : ((a : Int) == (b : Int)) = false := by rw [beq_eq_false_iff_ne]; omega
    have HRS := hid (show res = (rab && rba) from by rw [HO.out, decide_eq_false g1]; rfl)
    clear HO
    cases rab with
    | false =>
      go_enter Tryz.func47, Tryz.ntmps47
      go_wp2_with fail
      go_ret
      exact ⟨by rw [HRS.out]; rfl, rfl⟩
    | true =>
      go_enter Tryz.func47, Tryz.ntmps47
      go_wp2_with fail
      go_ret
      exact ⟨by rw [HRS.out]; rfl, rfl⟩
theorem own_grown {T : TypeId} {n m x : Nat} {w w' : World} {base : Nat} {v : Value} {xs : List Value} (h : w.ownsRow base T n v m xs) (hg : w.grownBy w' (some x)) (hx : v.ownBlock ≠ some x) : w'.ownsRow base T n v m xs := h.kept hg (.inr hx)
theorem Deep.grown {α : Type} {T : TypeId} {n : Nat} {f : α → List Value} {Sub : World → α → Prop} {w w' : World} {base x : Nat} {v : Value} {ps : List α} (hm : ∀ (w w' : World) (p : α), Mono w w' → Sub w p → Sub w' p) (h : Deep T n f Sub w base v ps) (hg : w.grownBy w' (some x)) (hx : x < base) : Deep T n f Sub w' base v ps := by
  have hne : v.ownBlock ≠ some x := fun e => by have := (World.ownsRow.lt h.1 _ e).1; omega
  exact ⟨own_grown h.1 hg hne, fun p hp => hm _ _ _ (mask_mono hg.size fun k hk h1 h2 => ⟨⟨h1, h2⟩, hg.block k hk (fun e => by injection e with e; omega)⟩) (h.2 p hp)⟩
theorem grown_new {w0 w w' : World} {x : Nat} {row : Option Nat} (h : w0.grownBy w (some x)) (hg : w.grownBy w' row) (hr : ∀ k, row = some k → w0.heap.size ≤ k) : w0.grownBy w' (some x) :=
  ⟨hg.os.trans h.os, hg.tape.trans h.tape, hg.output.trans h.output, Nat.le_trans h.size hg.size, fun k hk hkx => (hg.block k (Nat.lt_of_lt_of_le hk h.size) (fun e => by have := hr k e.symm; omega)).trans (h.block k hk hkx)⟩
end Go.Proofs.YtlmkglgjdmjnkaaGreatDoor
namespace Go.Proofs.YtlmkglgjdmjnkaaGreatDoor
open Go.RowKit Go.Lib
open Rw
set_option linter.unusedVariables false
set_option linter.unusedSimpArgs false
def sortB (o : List ByteArray) : List ByteArray := ((o.map bts).mergeSort fun x y => decide (x ≤ y)).map fun l => ⟨l.toArray⟩
theorem sortB_len (o : List ByteArray) : (sortB o).length = o.length := by unfold sortB; simp
theorem enc_bts (o : List ByteArray) : o.flatMap cellT = (o.map bts).map encStr := by
  induction o with
  | nil => rfl
  | cons a l ih =>
    rw [List.flatMap_cons, ih, List.map_cons, List.map_cons]
    have : encStr (bts a) = .string a := by
      show Value.string _ = _
      rw [bts, bts_data]
    rw [this]
    rfl
theorem enc_sortB (o : List ByteArray) : (sortB o).flatMap cellT = ((o.map bts).mergeSort fun x y => decide (x ≤ y)).map encStr := by
  unfold sortB
  generalize (o.map bts).mergeSort _ = l
  induction l with
  | nil => rfl
  | cons a l ih =>
    rw [List.map_cons, List.flatMap_cons, ih, List.map_cons]
    rfl
def SortBK (base : Nat) (v : Value) (o : List ByteArray) (w : World) (e : Ending) (w' : World) : Prop := e = .returned (.tuple #[]) ∧ OwnL 9 1 cellT w' base v (sortB o) ∧ ∃ row, w.grownBy w' row ∧ ∀ k, row = some k → v.ownBlock = some k
theorem psort_any (base : Nat) (v : Value) (o : List ByteArray) (w : World) (h : OwnL 9 1 cellT w base v o) (hb : base ≤ w.heap.size) (hln : o.length ≤ 1000000) : Calls Tryz.prog 48 #[v] w (SortBK base v o w) := by
  rcases h.2 with ⟨hv, h0⟩ | ⟨g, cap, cur, hv, hg, hh, h1, h2, h3, h4⟩
  · have : o = [] := List.eq_nil_of_length_eq_zero h0
    subst this
    rw [hv]
    have hc := Any.slices_Sort_string_none Tryz.lays190 none 0 w
    change Calls Tryz.prog 48 _ _ _ at hc
    refine hc.mono ?_
    rintro e w' ⟨rfl, hw⟩
    obtain rfl : w' = w := hw
    exact ⟨rfl, by rw [show sortB [] = [] from by unfold sortB; simp]; exact OwnL.nil, none, World.grownBy.refl _ _, fun k hk => by cases hk⟩
  · have hcur : cur.toList.take (o.map bts).length = (o.map bts).map encStr := by
      rw [List.length_map, ← enc_bts]
      have := h4
      rwa [Nat.mul_one] at this
    have hc := Any.slices_Sort_string Tryz.lays190 g 0 cap (o.map bts) w (holds_of_block hh hcur) (Array.getElem?_eq_some_iff.1 hh).1 (by rw [List.length_map]; omega)
    change Calls Tryz.prog 48 _ _ _ at hc
    rw [List.length_map] at hc
    rw [hv]
    refine hc.mono ?_
    rintro e w' ⟨rfl, n, os, rfl⟩
    refine ⟨rfl, ?_, some g, grownBy_sorted _, fun k hk => by injection hk with hk; subst hk; rfl⟩
    have hs := ownsRow_sorted (w := w) (n := n) (os := os) (ss := o.map bts) (ts := (o.map bts).mergeSort fun x y => decide (x ≤ y)) (by simp) hg hh (by rw [List.length_map]; exact h1) h2 h3
    unfold OwnL
    rw [sortB_len, enc_sortB]
    rw [List.length_map] at hs
    exact hs
end Go.Proofs.YtlmkglgjdmjnkaaGreatDoor
