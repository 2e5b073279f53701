/- Parts 31 of the proofs. -/
import Derived.Test.YtlmkglgjdmjnkaaGreatDoorQ30
import Derived.Test.YtlmkglgjdmjnkaaGreatDoorQ28
import Derived.Test.YtlmkglgjdmjnkaaGreatDoorQ29
namespace Go.Proofs.YtlmkglgjdmjnkaaGreatDoor
open Go.RowKit Go.Lib
open Rw
set_option linter.unusedVariables false
set_option linter.unusedSimpArgs false
theorem sm_len {us : List UnitP} (h : isSm us) : us.length = 3 := by obtain ⟨a, b, c, rfl, -⟩ := h; rfl
theorem ints_new (w : World) (T : TypeId) : IntsAt (w.alloc (.cells #[.int .i64 0, .int .i64 0, .int .i64 0] T)) (some ⟨w.heap.size, 0, none⟩) [0, 0, 0] := by
  have hb := Box.new w [.int .i64 0, .int .i64 0, .int .i64 0] T
  refine .inr ⟨w.heap.size, 0, rfl, hb.1, fun i hi => ?_⟩
  rw [Nat.zero_add]
  refine hb.2 i _ ?_
  have hi : i < 3 := hi
  rcases i with _ | _ | _ | i
  · rfl
  · rfl
  · rfl
  · omega
def h00 : LockH := ⟨none, 0⟩
theorem locks_new (w : World) (l : List LockL) (T : TypeId) (hf : ∀ x ∈ l, x.feats = [] ∧ x.name.size ≤ 9223372036854775807) : Locks (w.alloc (.cells ((l.map fun x => (x, h00)).flatMap lkC).toArray T)) (some ⟨w.heap.size, 0, none⟩) (l.map fun x => (x, h00)) := by
  have hb := Box.new w ((l.map fun x => (x, h00)).flatMap lkC) T
  refine ⟨.inr ⟨w.heap.size, 0, rfl, hb.1, fun i hi j u hj => ?_⟩, fun p hp => ?_⟩
  · have hjn : j < 9 := (List.getElem?_eq_some_iff.1 hj).1
    rw [Nat.zero_add]
    exact hb.2 _ _ ((flat_get lk_len _ i j hi hjn).trans hj)
  · obtain ⟨x, hx, rfl⟩ := List.mem_map.1 hp
    obtain ⟨h1, h2⟩ := hf x hx
    obtain ⟨xn, xv, xs, xm, xf⟩ := x
    dsimp only at h1 h2
    subst h1
    exact ⟨.inl rfl, Nat.zero_le _, Nat.le_refl _, h2⟩
theorem map5 {α β : Type} {l : List (α × β)} {a b c d e : α} (h : l.map (·.1) = [a, b, c, d, e]) : ∃ p q r s t, l = [(a, p), (b, q), (c, r), (d, s), (e, t)] := by
  match l, h with
  | [(_, p), (_, q), (_, r), (_, s), (_, t)], h =>
    simp only [List.map_cons, List.map_nil, List.cons.injEq, and_true] at h
    obtain ⟨rfl, rfl, rfl, rfl, rfl⟩ := h
    exact ⟨p, q, r, s, t, rfl⟩
theorem map2 {α β : Type} {l : List (α × β)} {a b : α} (h : l.map (·.1) = [a, b]) : ∃ p q, l = [(a, p), (b, q)] := by
  match l, h with
  | [(_, p), (_, q)], h =>
    simp only [List.map_cons, List.map_nil, List.cons.injEq, and_true] at h
    obtain ⟨rfl, rfl⟩ := h
    exact ⟨p, q, rfl⟩
theorem small_moves {us : List UnitP} {w w' : World} {e : Ending} (hs : isSm us) (h : MovesK w us [0, 0, 0] [lnL nmC] [lnL nmB, lnL nmA] e w') : ∃ A c ms, e = .returned (.slice A 5 c) ∧ Moves w' A ms ∧ ms.map (·.1) = [mv1 (lnL nmB), mv1 (lnL nmA), mv2 (lnL nmC), mv3 (lnL nmA), mv3 (lnL nmB)] ∧ KB w.heap.size w w' := by
  obtain ⟨A, c, fs, ds, ps, he, hm, h1, h2, h3, hk⟩ := h
  rw [small_cat hs] at he hm
  rw [news_small] at h1 h3
  rw [gone_small] at h2
  have h4 := ins_small h3
  have hms : ((fs ++ ds) ++ (insM (placeP [nmA, nmB]).1 ps).map (·.1)).map (·.1) = [mv1 (lnL nmB), mv1 (lnL nmA), mv2 (lnL nmC), mv3 (lnL nmA), mv3 (lnL nmB)] := by
    rw [List.map_append, List.map_append, h1, h2, List.map_map]
    show _ ++ (insM (placeP [nmA, nmB]).1 ps).map (·.1.1) = _
    rw [h4]
    rfl
  have hl := congrArg List.length hms
  rw [List.length_map] at hl
  rw [hl] at he
  exact ⟨A, c, _, he, hm, hms, hk⟩
set_option maxRecDepth 100000 in
set_option maxHeartbeats 4000000 in
theorem lawake_any (w : World) (hF : First w) : Calls Tryz.prog 6 #[] w (BoolK w true) := by
  have HF := hid hF
  clear hF
  go_enter Tryz.func6, Tryz.ntmps6
  go_wp2_with fail
  refine (lsmall_any _).mono ?_
  rintro _ u1 ⟨U1, us1, rfl, hun, hs, hk⟩
  have HK1 := hid hk
  have HGR := hid (pgroups_any U1 3 us1 (some ⟨u1.heap.size, 0, none⟩) 3 [0, 0, 0] (u1.alloc (.cells #[.int .i64 0, .int .i64 0, .int .i64 0] 3)) (HF.out.kb (kb_tr hk (kb_new _ _))) (hun.kb (kb_new _ _)) (ints_new _ _) (by decide))
  rw [sm_len hs, small_groups hs] at HGR
  clear hun hs hk
  go_wp2_with fail
  refine HGR.out.mono ?_
  rintro _ u2 ⟨A2, c2, gps, rfl, hgs, hat, hk⟩
  have HK2 := hid (kb_tr (kb_tr HK1.out (kb_new _ _)) hk)
  have HGS := hid hgs
  have HAT := hid hat
  have hgl : gps.length = 2 := by have h0 := congrArg List.length hgs; rwa [List.length_map] at h0
  rw [hgl]
  have HGL := hid hgl
  clear hgs hat hk hgl HGR
  go_upto_region 3 with fail
  refine wp_name ?_
  intro u3 hu3
  have HN3 := hid (show Locks u3 (some ⟨u2.heap.size, 0, none⟩) [(lnL nmB, h00), (lnL nmA, h00)] from by rw [hu3]; exact locks_new u2 [lnL nmB, lnL nmA] 33 (by decide))
  have HKN3 := hid (show KB u2.heap.size u2 u3 from by rw [hu3]; exact kb_new _ _)
  have HAT3 := hid (HAT.out.kb HKN3.out)
  have HK3 := hid (kb_tr HK2.out HKN3.out)
  clear hu3 HAT
  go_wp2_with fail
  refine (lsmall_any _).mono ?_
  rintro _ u4 ⟨U4, us4, rfl, hun, hs, hk⟩
  have HK4 := hid (kb_tr HK3.out hk)
  have HKN4 := hid hk
  have HB1 := hid (kb_new u4 (.cells #[.int .i64 0, .int .i64 0, .int .i64 0] 3))
  have HMV := hid (fun (v : World) (hv : v = (u4.alloc (.cells #[.int .i64 0, .int .i64 0, .int .i64 0] 3)).alloc (.cells (([lnL nmC].map fun x => (x, h00)).flatMap lkC).toArray 33)) => show Calls Tryz.prog 14 #[.agg #[.slice U4 3 3], .slice (some ⟨u4.heap.size, 0, none⟩) 3 3, .slice (some ⟨u4.heap.size + 1, 0, none⟩) 1 1, .slice (some ⟨u2.heap.size, 0, none⟩) 2 2] v (fun e w' => ∃ A c ms, e = .returned (.slice A 5 c) ∧ Moves w' A ms ∧ ms.map (·.1) = [mv1 (lnL nmB), mv1 (lnL nmA), mv2 (lnL nmC), mv3 (lnL nmA), mv3 (lnL nmB)] ∧ KB v.heap.size v w') from by
    have hk2 : KB u4.heap.size u4 v := by rw [hv]; exact kb_tr HB1.out (kb_new _ _)
    have hc : Locks v (some ⟨u4.heap.size + 1, 0, none⟩) [(lnL nmC, h00)] := by
      rw [hv]
      have h0 := locks_new (u4.alloc (.cells #[.int .i64 0, .int .i64 0, .int .i64 0] 3)) [lnL nmC] 33 (by decide)
      rwa [World.size_alloc] at h0
    have hi : IntsAt v (some ⟨u4.heap.size, 0, none⟩) [0, 0, 0] := by rw [hv]; exact (ints_new u4 _).kb (kb_new _ _)
    have h1 := pmoves_any U4 3 us4 (some ⟨u4.heap.size, 0, none⟩) 3 [0, 0, 0] (some ⟨u4.heap.size + 1, 0, none⟩) 1 [(lnL nmC, h00)] (some ⟨u2.heap.size, 0, none⟩) 2 [(lnL nmB, h00), (lnL nmA, h00)] v (HF.out.kb (kb_tr HK4.out hk2)) (hun.kb hk2) hi (by decide) hc ((HN3.out.kb HKN4.out).kb hk2) (by decide) (by decide)
    rw [sm_len hs] at h1
    exact h1.mono fun e w' h => small_moves hs h)
  clear hun hs hk
  go_wp2_with fail
  refine (HMV.out _ rfl).mono ?_
  rintro _ u5 ⟨A5, c5, ms, rfl, hms, hml, hk⟩
  have HK5 := hid (kb_tr HK4.out (kb_tr (kb_tr HB1.out (kb_new _ _)) hk))
  have HKN5 := hid (kb_tr HKN4.out (kb_tr (kb_tr HB1.out (kb_new _ _)) hk))
  have HMS := hid hms
  obtain ⟨p0, p1, p2, p3, p4, hme⟩ := map5 hml
  subst hme
  have HDO := hid (show Calls Tryz.prog 9 #[.slice (some ⟨u5.heap.size, 0, none⟩) 1 1, .slice A5 5 c5] (u5.alloc (.cells (([lnL nmC].map fun x => (x, h00)).flatMap lkC).toArray 33)) (DoK (u5.alloc (.cells (([lnL nmC].map fun x => (x, h00)).flatMap lkC).toArray 33)) (some [lnL nmA, lnL nmB])) from by
    have h1 := pdo_any (some ⟨u5.heap.size, 0, none⟩) 1 [(lnL nmC, h00)] A5 c5 _ (u5.alloc (.cells (([lnL nmC].map fun x => (x, h00)).flatMap lkC).toArray 33)) (locks_new u5 [lnL nmC] 33 (by decide)) (hms.kb (kb_new _ _)) (List.pairwise_singleton _ _) (by decide) (Nat.le_of_ble_eq_true rfl)
    rw [hml, show ([(lnL nmC, h00)] : List LP).map (·.1) = [lnL nmC] from rfl, do_small] at h1
    exact h1)
  clear hms hml hk HMV
  go_wp2_with fail
  refine HDO.out.mono ?_
  rintro _ u6 ⟨A6, c6, ps6, hp6, rfl, -, hlk, hk⟩
  have HK56 := hid (kb_tr (kb_new _ _) hk : KB u5.heap.size u5 u6)
  have HK6 := hid (kb_tr HK5.out HK56.out)
  have HAT6 := hid ((HAT3.out.kb HKN5.out).kb HK56.out)
  clear hk HDO
  obtain ⟨q0, q1, hpe⟩ := map2 hp6
  subst hpe
  rcases hlk.row with h0 | ⟨b6, o6, rfl, hl6, hc6⟩
  · cases h0
  rcases HMS.out.row with h0 | ⟨b5, o5, rfl, hl5, hc5⟩
  · cases h0
  have hc5 := hid hc5
  have hc6 := hid hc6
  clear hlk hp6
  match gps, HGS, HGL, HAT6 with
  | [⟨g1, G1, d1⟩, ⟨g2, G2, d2⟩], HGS, HGL, HAT6 =>
  have hg := HGS.out
  simp only [List.map_cons, List.map_nil, List.cons.injEq, and_true] at hg
  obtain ⟨rfl, rfl⟩ := hg
  rcases HAT6.out.row with h0 | ⟨b2, o2, rfl, hl2, hc2⟩
  · cases h0
  have a0 : u6.cell? ⟨b2, o2, none⟩ = some (.slice G1 1 d1) := hc2 0 (Nat.le_of_ble_eq_true rfl) 0 _ rfl
  have al0 := hl2
  rcases HAT6.out.sub _ (List.mem_cons_self ..) with h0 | ⟨b3, o3, hG1, hl3, hc3⟩
  · cases h0
  dsimp only at hG1
  subst hG1
  have a1 : u6.cell? ⟨b3, o3, none⟩ = some (.string ⟨#[97, 110, 116]⟩) := hc3 0 (Nat.le_of_ble_eq_true rfl) 0 _ rfl
  have al1 := hl3
  clear hl2 hc2 hl3 hc3
  have HIS0 := hid (fun u => show Calls Tryz.prog 17 #[.agg #[.int .i64 1, .string ⟨#[98, 101, 101]⟩, .int .i64 0, .int .i64 0, .int .i64 0, .string ⟨#[]⟩, .string ⟨#[]⟩, .string ⟨#[]⟩, .int .u64 0, .slice p0.A 0 p0.c], .int .i64 1, .string ⟨#[98, 101, 101]⟩] u (BoolK u true) from by have h := lis_any (lnL nmB) p0 1 1 nmB u; rwa [show (((1 : Int) == 1) && sameB (lnL nmB).name nmB) = true from by kernel_rfl] at h)
  have HIS2 := hid (fun u => show Calls Tryz.prog 17 #[.agg #[.int .i64 2, .string ⟨#[99, 111, 119]⟩, .int .i64 0, .int .i64 0, .int .i64 0, .string ⟨#[]⟩, .string ⟨#[]⟩, .string ⟨#[]⟩, .int .u64 0, .slice p2.A 0 p2.c], .int .i64 2, .string ⟨#[99, 111, 119]⟩] u (BoolK u true) from by have h := lis_any (lnL nmC) p2 2 2 nmC u; rwa [show (((2 : Int) == 2) && sameB (lnL nmC).name nmC) = true from by kernel_rfl] at h)
  have HIS3 := hid (fun u => show Calls Tryz.prog 17 #[.agg #[.int .i64 3, .string ⟨#[97, 110, 116]⟩, .int .i64 0, .int .i64 0, .int .i64 0, .string ⟨#[]⟩, .string ⟨#[]⟩, .string ⟨#[]⟩, .int .u64 0, .slice p3.A 0 p3.c], .int .i64 3, .string ⟨#[97, 110, 116]⟩] u (BoolK u true) from by have h := lis_any (lnL nmA) p3 3 3 nmA u; rwa [show (((3 : Int) == 3) && sameB (lnL nmA).name nmA) = true from by kernel_rfl] at h)
  have m0_0 : u6.cell? ⟨b5, o5, none⟩ = some (.int .i64 1) := cell_kb hl5 HK56.out (hc5.out 0 (Nat.le_of_ble_eq_true rfl) 0 _ rfl)
  have m0_1 : u6.cell? ⟨b5, o5 + 1, none⟩ = some (.string ⟨#[98, 101, 101]⟩) := cell_kb hl5 HK56.out (hc5.out 0 (Nat.le_of_ble_eq_true rfl) 1 _ rfl)
  have m0_2 : u6.cell? ⟨b5, o5 + 2, none⟩ = some (.int .i64 0) := cell_kb hl5 HK56.out (hc5.out 0 (Nat.le_of_ble_eq_true rfl) 2 _ rfl)
  have m0_3 : u6.cell? ⟨b5, o5 + 3, none⟩ = some (.int .i64 0) := cell_kb hl5 HK56.out (hc5.out 0 (Nat.le_of_ble_eq_true rfl) 3 _ rfl)
  have m0_4 : u6.cell? ⟨b5, o5 + 4, none⟩ = some (.int .i64 0) := cell_kb hl5 HK56.out (hc5.out 0 (Nat.le_of_ble_eq_true rfl) 4 _ rfl)
  have m0_5 : u6.cell? ⟨b5, o5 + 5, none⟩ = some (.string ⟨#[]⟩) := cell_kb hl5 HK56.out (hc5.out 0 (Nat.le_of_ble_eq_true rfl) 5 _ rfl)
  have m0_6 : u6.cell? ⟨b5, o5 + 6, none⟩ = some (.string ⟨#[]⟩) := cell_kb hl5 HK56.out (hc5.out 0 (Nat.le_of_ble_eq_true rfl) 6 _ rfl)
  have m0_7 : u6.cell? ⟨b5, o5 + 7, none⟩ = some (.string ⟨#[]⟩) := cell_kb hl5 HK56.out (hc5.out 0 (Nat.le_of_ble_eq_true rfl) 7 _ rfl)
  have m0_8 : u6.cell? ⟨b5, o5 + 8, none⟩ = some (.int .u64 0) := cell_kb hl5 HK56.out (hc5.out 0 (Nat.le_of_ble_eq_true rfl) 8 _ rfl)
  have m0_9 : u6.cell? ⟨b5, o5 + 9, none⟩ = some (.slice p0.A 0 p0.c) := cell_kb hl5 HK56.out (hc5.out 0 (Nat.le_of_ble_eq_true rfl) 9 _ rfl)
  have ml := Nat.lt_of_lt_of_le hl5 HK56.out.size
  go_wp2_with fail
  refine (HIS0.out _).mono ?_
  rintro _ u7 ⟨rfl, hk⟩
  have HK57 := hid (kb_tr HK56.out hk)
  have HK67 := hid hk
  clear hk m0_0 m0_1 m0_2 m0_3 m0_4 m0_5 m0_6 m0_7 m0_8 m0_9 ml a0 a1 al0 al1
  have m2_0 : u7.cell? ⟨b5, o5 + 20, none⟩ = some (.int .i64 2) := cell_kb hl5 HK57.out (hc5.out 2 (Nat.le_of_ble_eq_true rfl) 0 _ rfl)
  have m2_1 : u7.cell? ⟨b5, o5 + 21, none⟩ = some (.string ⟨#[99, 111, 119]⟩) := cell_kb hl5 HK57.out (hc5.out 2 (Nat.le_of_ble_eq_true rfl) 1 _ rfl)
  have m2_2 : u7.cell? ⟨b5, o5 + 22, none⟩ = some (.int .i64 0) := cell_kb hl5 HK57.out (hc5.out 2 (Nat.le_of_ble_eq_true rfl) 2 _ rfl)
  have m2_3 : u7.cell? ⟨b5, o5 + 23, none⟩ = some (.int .i64 0) := cell_kb hl5 HK57.out (hc5.out 2 (Nat.le_of_ble_eq_true rfl) 3 _ rfl)
  have m2_4 : u7.cell? ⟨b5, o5 + 24, none⟩ = some (.int .i64 0) := cell_kb hl5 HK57.out (hc5.out 2 (Nat.le_of_ble_eq_true rfl) 4 _ rfl)
  have m2_5 : u7.cell? ⟨b5, o5 + 25, none⟩ = some (.string ⟨#[]⟩) := cell_kb hl5 HK57.out (hc5.out 2 (Nat.le_of_ble_eq_true rfl) 5 _ rfl)
  have m2_6 : u7.cell? ⟨b5, o5 + 26, none⟩ = some (.string ⟨#[]⟩) := cell_kb hl5 HK57.out (hc5.out 2 (Nat.le_of_ble_eq_true rfl) 6 _ rfl)
  have m2_7 : u7.cell? ⟨b5, o5 + 27, none⟩ = some (.string ⟨#[]⟩) := cell_kb hl5 HK57.out (hc5.out 2 (Nat.le_of_ble_eq_true rfl) 7 _ rfl)
  have m2_8 : u7.cell? ⟨b5, o5 + 28, none⟩ = some (.int .u64 0) := cell_kb hl5 HK57.out (hc5.out 2 (Nat.le_of_ble_eq_true rfl) 8 _ rfl)
  have m2_9 : u7.cell? ⟨b5, o5 + 29, none⟩ = some (.slice p2.A 0 p2.c) := cell_kb hl5 HK57.out (hc5.out 2 (Nat.le_of_ble_eq_true rfl) 9 _ rfl)
  have ml := Nat.lt_of_lt_of_le hl5 HK57.out.size
  go_wp2_with fail
  refine (HIS2.out _).mono ?_
  rintro _ u8 ⟨rfl, hk⟩
  have HK58 := hid (kb_tr HK57.out hk)
  have HK68 := hid (kb_tr HK67.out hk)
  clear hk m2_0 m2_1 m2_2 m2_3 m2_4 m2_5 m2_6 m2_7 m2_8 m2_9 ml
  have m3_0 : u8.cell? ⟨b5, o5 + 30, none⟩ = some (.int .i64 3) := cell_kb hl5 HK58.out (hc5.out 3 (Nat.le_of_ble_eq_true rfl) 0 _ rfl)
  have m3_1 : u8.cell? ⟨b5, o5 + 31, none⟩ = some (.string ⟨#[97, 110, 116]⟩) := cell_kb hl5 HK58.out (hc5.out 3 (Nat.le_of_ble_eq_true rfl) 1 _ rfl)
  have m3_2 : u8.cell? ⟨b5, o5 + 32, none⟩ = some (.int .i64 0) := cell_kb hl5 HK58.out (hc5.out 3 (Nat.le_of_ble_eq_true rfl) 2 _ rfl)
  have m3_3 : u8.cell? ⟨b5, o5 + 33, none⟩ = some (.int .i64 0) := cell_kb hl5 HK58.out (hc5.out 3 (Nat.le_of_ble_eq_true rfl) 3 _ rfl)
  have m3_4 : u8.cell? ⟨b5, o5 + 34, none⟩ = some (.int .i64 0) := cell_kb hl5 HK58.out (hc5.out 3 (Nat.le_of_ble_eq_true rfl) 4 _ rfl)
  have m3_5 : u8.cell? ⟨b5, o5 + 35, none⟩ = some (.string ⟨#[]⟩) := cell_kb hl5 HK58.out (hc5.out 3 (Nat.le_of_ble_eq_true rfl) 5 _ rfl)
  have m3_6 : u8.cell? ⟨b5, o5 + 36, none⟩ = some (.string ⟨#[]⟩) := cell_kb hl5 HK58.out (hc5.out 3 (Nat.le_of_ble_eq_true rfl) 6 _ rfl)
  have m3_7 : u8.cell? ⟨b5, o5 + 37, none⟩ = some (.string ⟨#[]⟩) := cell_kb hl5 HK58.out (hc5.out 3 (Nat.le_of_ble_eq_true rfl) 7 _ rfl)
  have m3_8 : u8.cell? ⟨b5, o5 + 38, none⟩ = some (.int .u64 0) := cell_kb hl5 HK58.out (hc5.out 3 (Nat.le_of_ble_eq_true rfl) 8 _ rfl)
  have m3_9 : u8.cell? ⟨b5, o5 + 39, none⟩ = some (.slice p3.A 0 p3.c) := cell_kb hl5 HK58.out (hc5.out 3 (Nat.le_of_ble_eq_true rfl) 9 _ rfl)
  have ml := Nat.lt_of_lt_of_le hl5 HK58.out.size
  go_wp2_with fail
  refine (HIS3.out _).mono ?_
  rintro _ u9 ⟨rfl, hk⟩
  have HK69 := hid (kb_tr HK68.out hk)
  clear hk m3_0 m3_1 m3_2 m3_3 m3_4 m3_5 m3_6 m3_7 m3_8 m3_9 ml
  have n0 : u9.cell? ⟨b6, o6, none⟩ = some (.string ⟨#[97, 110, 116]⟩) := cell_kb hl6 HK69.out (hc6.out 0 (Nat.le_of_ble_eq_true rfl) 0 _ rfl)
  have nl := Nat.lt_of_lt_of_le hl6 HK69.out.size
  go_wp2_with fail
  go_ret
  exact ⟨rfl, kb_tr HK6.out HK69.out⟩
end Go.Proofs.YtlmkglgjdmjnkaaGreatDoor
namespace Go.Proofs.YtlmkglgjdmjnkaaGreatDoor
open Go.RowKit Go.Lib
open Rw
set_option linter.unusedVariables false
set_option linter.unusedSimpArgs false
theorem do_fetch (r : List MoveL) : ∀ (l : List LockL) (s h : List LockL), doL (s, h) (l.map mv1 ++ r) = doL (s, h ++ l) r
  | [], s, h => by rw [List.append_nil]; rfl
  | x :: l, s, h => by
    rw [List.map_cons, List.cons_append, doL, step1 (m := mv1 x) rfl]
    show doL (s, h ++ [x]) (l.map mv1 ++ r) = _
    rw [do_fetch r l s (h ++ [x]), List.append_assoc]
    rfl
theorem eqLk_refl (x : LockL) : eqLk x x = true := eqLk_iff.2 rfl
theorem same_mem {x : LockL} {s : List LockL} (hu : UnN s) (hx : x ∈ s) : sameAt x s = true := by
  unfold sameAt
  rw [atN_mem hu hx]
  exact eqLk_refl x
theorem do_drops (r : List MoveL) (h : List LockL) : ∀ (l s : List LockL), UnN s → UnN l → (∀ x ∈ l, x ∈ s) → doL (s, h) (l.map mv2 ++ r) = doL (l.foldl (fun s x => outN x.name s) s, h) r
  | [], s, _, _, _ => rfl
  | x :: l, s, hs, hl, hm => by
    rw [List.map_cons, List.cons_append, doL, step2 (m := mv2 x) rfl (same_mem hs (hm x (List.mem_cons_self ..)))]
    show doL (outN x.name s, h) (l.map mv2 ++ r) = _
    refine do_drops r h l _ (hs.out _) (List.Pairwise.of_cons hl) fun y hy => List.mem_filter.2 ⟨hm y (List.mem_cons_of_mem _ hy), ?_⟩
    have h0 : x.name ≠ y.name := List.rel_of_pairwise_cons hl hy
    cases hn : nmIs x.name y
    · rfl
    · exact absurd (nmIs_iff.1 hn).symm h0
theorem atN_fresh {n : ByteArray} {s : List LockL} (h : ∀ x ∈ s, x.name ≠ n) : (atN n s).isNone = true := by
  cases e : atN n s with
  | none => rfl
  | some y => exact absurd (nmIs_iff.1 (List.find?_some e)) (h y (List.mem_of_find?_eq_some e))
theorem do_puts (h : List LockL) : ∀ (l s : List LockL), UnN (s ++ l) → (∀ x ∈ l, x ∈ h) → doL (s, h) (l.map mv3) = some (sortN (s ++ l))
  | [], s, _, _ => by rw [List.append_nil]; rfl
  | x :: l, s, hu, hm => by
    have h1 : ∀ y ∈ s, y.name ≠ x.name := fun y hy => (List.pairwise_append.1 hu).2.2 y hy x (List.mem_cons_self ..)
    have h2 : h.any (fun y => eqLk y x) = true := List.any_eq_true.2 ⟨x, hm x (List.mem_cons_self ..), eqLk_refl x⟩
    rw [List.map_cons, doL, step3 (m := mv3 x) rfl (atN_fresh h1) h2]
    show doL (s ++ [x], h) (l.map mv3) = _
    rw [do_puts h l (s ++ [x]) (by rw [List.append_assoc]; exact hu) (fun y hy => hm y (List.mem_cons_of_mem _ hy)), List.append_assoc]
    rfl
theorem out_all : ∀ (l s : List LockL), l.foldl (fun s x => outN x.name s) s = s.filter (fun x => !(l.any fun y => nmIs y.name x))
  | [], s => by
    show s = s.filter fun _ => true
    exact (List.filter_eq_self.2 fun _ _ => rfl).symm
  | y :: l, s => by
    rw [List.foldl_cons, out_all l, outN, List.filter_filter]
    congr 1
    funext x
    rw [List.any_cons, Bool.not_or, Bool.and_comm]
theorem out_gone {a b : List LockL} (hu : UnN a) : (a.reverse.filter fun x => !hasL b x).foldl (fun s x => outN x.name s) a = a.filter (hasL b) := by
  rw [out_all]
  refine List.filter_congr fun x hx => ?_
  have e : ((a.reverse.filter fun x => !hasL b x).any fun y => nmIs y.name x) = !hasL b x := by
    rw [Bool.eq_iff_iff, List.any_eq_true]
    constructor
    · rintro ⟨y, hy, hn⟩
      obtain ⟨hy1, hy2⟩ := List.mem_filter.1 hy
      have hya := List.mem_reverse.1 hy1
      have hn := nmIs_iff.1 hn
      have h1 := atN_mem hu hx
      have h2 := atN_mem hu hya
      rw [← hn, h1] at h2
      injection h2 with h2
      rw [h2]; exact hy2
    · intro h
      exact ⟨x, List.mem_filter.2 ⟨List.mem_reverse.2 hx, h⟩, nmIs_iff.2 rfl⟩
  rw [e, Bool.not_not]
theorem perm_nodup {α : Type} : ∀ {l m : List α}, l.Pairwise (· ≠ ·) → m.Pairwise (· ≠ ·) → (∀ x, x ∈ l ↔ x ∈ m) → l.Perm m
  | [], m, _, _, h => by
    cases m with
    | nil => exact .refl _
    | cons y m => exact absurd ((h y).2 (List.mem_cons_self ..)) (by simp)
  | x :: l, m, hl, hm, h => by
    obtain ⟨s, t, rfl⟩ := List.append_of_mem ((h x).1 (List.mem_cons_self ..))
    have hm2 : (x :: (s ++ t)).Pairwise (· ≠ ·) := (List.perm_middle.pairwise_iff (fun h => h.symm)).1 hm
    refine .trans (.cons x (perm_nodup (List.Pairwise.of_cons hl) (List.Pairwise.of_cons hm2) fun y => ?_)) List.perm_middle.symm
    have h1 := h y
    rw [List.perm_middle.mem_iff, List.mem_cons, List.mem_cons] at h1
    constructor
    · intro hy
      exact (h1.1 (.inr hy)).resolve_left fun e => List.rel_of_pairwise_cons hl hy e.symm
    · intro hy
      exact (h1.2 (.inr hy)).resolve_left fun e => List.rel_of_pairwise_cons hm2 hy e.symm
theorem un_nodup {l : List LockL} (h : UnN l) : l.Pairwise (· ≠ ·) := h.imp fun h e => h (by rw [e])
theorem has_mem {l : List LockL} {x : LockL} : hasL l x = true ↔ x ∈ l := by
  rw [hasL, List.any_eq_true]
  exact ⟨fun ⟨y, hy, e⟩ => eqLk_iff.1 e ▸ hy, fun h => ⟨x, h, eqLk_refl x⟩⟩
theorem arrives {a b ps : List LockL} (ha : UnN a) (hb : UnN b) (hp : ps.Perm (b.filter fun x => !hasL a x)) : doL (a, []) ((b.filter fun x => !hasL a x).map mv1 ++ ((a.reverse.filter fun x => !hasL b x).map mv2 ++ ps.map mv3)) = some (sortN b) := by
  have hperm : (a.filter (hasL b) ++ ps).Perm b := by
    have h1 : (a.filter (hasL b)).Perm (b.filter (hasL a)) := perm_nodup (List.Pairwise.filter _ (un_nodup ha)) (List.Pairwise.filter _ (un_nodup hb)) fun x => by
      rw [List.mem_filter, List.mem_filter, has_mem, has_mem]
      exact And.comm
    exact (h1.append hp).trans (List.filter_append_perm (hasL a) b)
  have hu : UnN (a.filter (hasL b) ++ ps) := (hperm.pairwise_iff (fun h => h.symm)).2 hb
  rw [do_fetch, List.nil_append, do_drops _ _ _ _ ha (List.Pairwise.filter _ (List.pairwise_reverse.2 (ha.imp fun h => h.symm))) (fun x hx => List.mem_reverse.1 (List.mem_filter.1 hx).1), out_gone ha, do_puts _ _ _ hu (fun x hx => hp.mem_iff.1 hx)]
  rw [sortN_perm hu hb hperm]
theorem sortN_un {l : List LockL} (h : UnN l) : UnN (sortN l) := ((sortN_ok h).2.symm.pairwise_iff (fun h => h.symm)).1 h
theorem comes_back {a b qs : List LockL} (ha : UnN a) (hb : UnN b) (hq : qs.Perm (a.filter fun x => !hasL (sortN b) x)) : doL (sortN b, []) ((a.filter fun x => !hasL (sortN b) x).map mv1 ++ (((sortN b).reverse.filter fun x => !hasL a x).map mv2 ++ qs.map mv3)) = some (sortN a) := arrives (sortN_un hb) ha hq
theorem do_none (a : List LockL) : doL (a, []) [] = some (sortN a) := rfl
theorem moves_shape {w w' : World} {us : List UnitP} {zs : List Int} {old now : List LockL} {e : Ending} (h : MovesK w us zs old now e w') : ∃ (A : Option Addr) (c : Nat) (ms : List MP) (ps : List LockL), e = .returned (.slice A ms.length c) ∧ Moves w' A ms ∧ ps.Perm (now.filter fun x => !hasL old x) ∧ ms.map (·.1) = (now.filter fun x => !hasL old x).map mv1 ++ ((old.reverse.filter fun x => !hasL now x).map mv2 ++ ps.map mv3) ∧ KB w.heap.size w w' := by
  obtain ⟨A, c, fs, ds, ps, he, hm, h1, h2, h3, hk⟩ := h
  have h4 : ((insM (placeP (catP us zs)).1 ps).map (·.1.1)).Perm ((now.filter fun x => !hasL old x).map mv3) := h3 ▸ (insM_perm _ ps).map _
  have h5 : ((insM (placeP (catP us zs)).1 ps).map (·.1.1)) = (((insM (placeP (catP us zs)).1 ps).map (·.1.1)).map (·.line)).map mv3 := by
    rw [List.map_map]
    refine (List.map_id _).symm.trans (List.map_congr_left fun x hx => ?_)
    obtain ⟨y, -, rfl⟩ := List.mem_map.1 (h4.mem_iff.1 hx)
    rfl
  refine ⟨A, c, _, ((insM (placeP (catP us zs)).1 ps).map (·.1.1)).map (·.line), he, hm, ?_, ?_, hk⟩
  · have h6 := h4.map (fun m : MoveL => m.line)
    have h7 : ((now.filter fun x => !hasL old x).map mv3).map (fun m : MoveL => m.line) = now.filter fun x => !hasL old x := by rw [List.map_map]; exact List.map_id _
    rw [h7] at h6
    exact h6
  · rw [← h5, List.map_append, List.map_append, h1, h2, List.map_map, List.append_assoc]
    rfl
end Go.Proofs.YtlmkglgjdmjnkaaGreatDoor
namespace Go.Proofs.YtlmkglgjdmjnkaaGreatDoor
open Go.RowKit Go.Lib
open Rw
set_option linter.unusedVariables false
set_option linter.unusedSimpArgs false
set_option maxRecDepth 100000 in
set_option maxHeartbeats 2000000 in
theorem gsize_any (U : Option Addr) (uc : Nat) (us : List UnitP) (w : World) (hU : UnitsAt w U us) : Calls Tryz.prog 35 #[.agg #[.slice U us.length uc]] w fun e w' => (∃ n : Nat, 1 ≤ n ∧ n ≤ 2000000000000 ∧ e = .returned (.int .i64 (n : Int))) ∧ KB w.heap.size w w' := by
  have HX := hid (Box.new w [.slice U us.length uc] 42)
  have HB0 := hid (kb_new w (.cells [.slice U us.length uc].toArray 42))
  have HU := hid hU
  have hlen := hU.len
  clear hU
  obtain ⟨n, hn⟩ : ∃ n, us.length = n := ⟨_, rfl⟩
  have HN := hid hn
  rw [hn] at hlen HX HB0 ⊢
  clear hn
  go_enter Tryz.func35, Tryz.ntmps35
  go_upto_block 0 with fail
  refine wp_name ?_
  intro w0 hw0
  have HX0 := hid (show Box w0 w.heap.size [.slice U n uc] from by rw [hw0]; exact HX.out)
  have HK0 := hid (show KB w.heap.size w w0 from by rw [hw0]; exact HB0.out)
  have HU0 := hid (HU.out.kb HK0.out)
  clear hw0 HX HB0 HU
  have x0 := HX0.out.2 0 _ rfl
  have xl := HX0.out.1
  go_wp2_with fail
  go_loopw [3, 4] (fun sv iv wr => ∃ (s i : Nat), sv = .int .i64 (s : Int) ∧ iv = .int .i64 (i : Int) ∧ 1 ≤ s ∧ s ≤ 2000000000000 ∧ i ≤ n ∧ wr = w0) (fun _ iv _ => n - (intOf iv).toNat)
  case atStart => exact ⟨1, 0, rfl, rfl, by omega, by omega, Nat.zero_le _, rfl⟩
  case round =>
    obtain ⟨s, i, rfl, rfl, hs1, hs2, hi, rfl⟩ := hrel
    by_cases hlt : i < n
    · have h1 : i < us.length := by rw [HN.out]; exact hlt
      have i0 : (0 : Int) ≤ (i : Int) := by omega
      have i1 : (i : Int) < (n : Int) := by omega
      by_cases hs : s < 1000000
      · have s1 : (s : Int) < 1000000 := by omega
        obtain ⟨b, off, hA, hui, hlt2, y0, y1, y2⟩ := unit_at HU0.out h1
        subst hA
        have hcl := hui.cands.len
        clear hui y0 y1
        generalize us[i].A = cA at *
        generalize us[i].c = cc at *
        generalize us[i].cands.length = c at *
        have hm1 : 1 ≤ s * (c + 1) := Nat.mul_le_mul hs1 (Nat.succ_le_succ (Nat.zero_le c))
        have hm2 : s * (c + 1) ≤ 1000000 * 1000001 := Nat.mul_le_mul (by omega) (by omega)
        obtain ⟨p, hp⟩ : ∃ p, s * (c + 1) = p := ⟨_, rfl⟩
        have hpi : (s : Int) * ((c : Int) + 1) = (p : Int) := by rw [← hp]; simp
        have hw : IntKind.i64.wrap ((s : Int) * ((c : Int) + 1)) = (p : Int) := by rw [hpi]; exact IntWalk.i64_in _ (by omega)
        have HP := hid hp
        rw [hp] at hm1 hm2
        clear hp hpi
        go_wp2_with fail
        refine ⟨⟨p, i + 1, by first | rfl | (simp [hw]) | (rw [hw]), by go_num, by omega, by omega, by omega, trivial⟩, ?_⟩
        simp [intOf] <;> omega
      · have s1 : ¬ (s : Int) < 1000000 := by omega
        go_wp2_with fail
        go_ret
        exact ⟨⟨s, hs1, hs2, rfl⟩, HK0.out⟩
    · obtain rfl : i = n := by omega
      have i1 : ¬ (i : Int) < (i : Int) := by omega
      go_wp2_with fail
      go_ret
      exact ⟨⟨s, hs1, hs2, rfl⟩, HK0.out⟩
end Go.Proofs.YtlmkglgjdmjnkaaGreatDoor
namespace Go.Proofs.YtlmkglgjdmjnkaaGreatDoor
open Go.RowKit Go.Lib
open Rw
set_option linter.unusedVariables false
set_option linter.unusedSimpArgs false
theorem EKintsG : EK Tryz.prog 22 3 1 8 := .mk' (.int .i64 0) Tryz.underlying22 (by kernel_rfl) rfl (by omega)
abbrev inC (z : Int) : List Value := [.int .i64 z]
theorem ints_own {w : World} {B : Nat} {v : Value} {zs : List Int} (h : OwnL 3 1 inC w B v zs) : ∃ A c, v = .slice A zs.length c ∧ IntsAt w A zs := by
  obtain ⟨A, c, hv, hl, -, -⟩ := OwnL.lies (fun z : Int => (rfl : (inC z).length = 1)) h
  refine ⟨A, c, hv, ?_⟩
  rcases hl with hl | ⟨b, off, hA, hb, hc⟩
  · exact .inl hl
  · refine .inr ⟨b, off, hA, hb, fun i hi => ?_⟩
    have h0 := hc i hi 0 _ rfl
    rw [Nat.mul_one, Nat.add_zero] at h0
    rw [List.getD_eq_getElem?_getD, List.getElem?_eq_getElem hi]
    exact h0
def lenC (us : List UnitP) (j : Nat) : Nat := (us.map fun x => x.cands.length).getD j 0
theorem lenC_at {us : List UnitP} {j : Nat} (h : j < us.length) : lenC us j = us[j].cands.length := by
  unfold lenC
  rw [List.getD_eq_getElem?_getD, List.getElem?_map, List.getElem?_eq_getElem h]
  rfl
def InC (us : List UnitP) (zs : List Int) : Prop := ∀ j z, zs[j]? = some z → -1 ≤ z ∧ z < (lenC us j : Int)
theorem InC.nil {us : List UnitP} : InC us [] := fun j z h => by simp at h
theorem InC.snoc {us : List UnitP} {zs : List Int} {i : Nat} {z : Int} (h : InC us zs) (hi : zs.length = i) (h1 : -1 ≤ z) (h2 : z < (lenC us i : Int)) : InC us (zs ++ [z]) := by
  intro j y hj
  rcases Nat.lt_trichotomy j zs.length with hl | hl | hl
  · rw [List.getElem?_append_left hl] at hj
    exact h j y hj
  · subst hl
    rw [List.getElem?_append_right (Nat.le_refl _), Nat.sub_self] at hj
    simp at hj
    subst hj
    rw [hi]
    exact ⟨h1, h2⟩
  · rw [List.getElem?_eq_none (by simp; omega)] at hj
    cases hj
set_option maxRecDepth 100000 in
set_option maxHeartbeats 2000000 in
theorem gchoice_any (U : Option Addr) (uc : Nat) (us : List UnitP) (m : Nat) (w : World) (hU : UnitsAt w U us) (hm : m ≤ 9223372036854775807) : Calls Tryz.prog 37 #[.agg #[.slice U us.length uc], .int .i64 (m : Int)] w fun e w' => (∃ A c zs, e = .returned (.slice A zs.length c) ∧ IntsAt w' A zs ∧ zs.length = us.length ∧ InC us zs) ∧ KB w.heap.size w w' := by
  have HX := hid (Box.new w [.slice U us.length uc] 42)
  have HB0 := hid (kb_new w (.cells [.slice U us.length uc].toArray 42))
  have HU := hid hU
  have hlen := hU.len
  clear hU
  obtain ⟨n, hn⟩ : ∃ n, us.length = n := ⟨_, rfl⟩
  have HN := hid hn
  rw [hn] at hlen HX HB0 ⊢
  clear hn
  go_enter Tryz.func37, Tryz.ntmps37
  go_upto_block 0 with fail
  refine wp_name ?_
  intro w0 hw0
  have HX0 := hid (show Box w0 w.heap.size [.slice U n uc] from by rw [hw0]; exact HX.out)
  have HK0 := hid (show KB w.heap.size w w0 from by rw [hw0]; exact HB0.out)
  have HU0 := hid (HU.out.kb HK0.out)
  clear hw0 HX HB0 HU
  go_wp2_with fail
  go_loopw [1, 5, 6] (fun nv v iv wr => ∃ (m i : Nat) (zs : List Int) (v' : Value), v = v' ∧ nv = .int .i64 (m : Int) ∧ iv = .int .i64 (i : Int) ∧ m ≤ 9223372036854775807 ∧ i ≤ n ∧ Hid (zs.length = i ∧ InC us zs) ∧ Hid (OwnL 3 1 inC wr w0.heap.size v' zs) ∧ Hid (KB w0.heap.size w0 wr)) (fun _ _ iv _ => n - (intOf iv).toNat)
  case atStart => exact ⟨m, 0, [], _, rfl, rfl, rfl, hm, Nat.zero_le _, hid ⟨rfl, InC.nil⟩, hid OwnL.nil, hid (kb_refl _)⟩
  case round =>
    clear hm
    rename World => wr
    obtain ⟨m, i, zs, v, hv, rfl, rfl, hm, hi, HZ, HO, HK⟩ := hrel
    have hv := hv.symm
    subst hv
    have x0 := (HX0.out.kb HK.out).2 0 _ rfl
    have xl := (HX0.out.kb HK.out).1
    by_cases hlt : i < n
    · have h1 : i < us.length := by rw [HN.out]; exact hlt
      have i0 : (0 : Int) ≤ (i : Int) := by omega
      have i1 : (i : Int) < (n : Int) := by omega
      obtain ⟨b, off, hA, hui, hlt2, y0, y1, y2⟩ := unit_at (HU0.out.kb HK.out) h1
      subst hA
      have hcl := hui.cands.len
      have hlc := lenC_at h1
      clear hui y0 y1
      generalize us[i].A = cA at *
      generalize us[i].c = cc at *
      generalize us[i].cands.length = c at *
      have HLC := hid hlc
      clear hlc
      have hr : ((m : Int).tmod ((c : Int) + 1)) = ((m % (c + 1) : Nat) : Int) := by rw [show ((c : Int) + 1) = ((c + 1 : Nat) : Int) by simp, Int.ofNat_tmod]
      have hq : ((m : Int).tdiv ((c : Int) + 1)) = ((m / (c + 1) : Nat) : Int) := by rw [show ((c : Int) + 1) = ((c + 1 : Nat) : Int) by simp, Int.ofNat_tdiv]
      have hr2 : m % (c + 1) < c + 1 := Nat.mod_lt _ (by omega)
      have hq2 : m / (c + 1) ≤ m := Nat.div_le_self _ _
      have hnz : ((c : Int) + 1) ≠ 0 := by omega
      have hnm : ((c : Int) + 1) ≠ -1 := by omega
      generalize m % (c + 1) = r at *
      generalize m / (c + 1) = q at *
      go_upto_region 6 with fail
      have HRO := hid (show wr.ownsRow w0.heap.size 3 1 v zs.length (zs.flatMap inC) from HO.out)
      have hzl := HZ.out.1
      have hsz : w0.heap.size ≤ wr.heap.size := HK.out.size
      go_wp2_with (at_builtin; refine wpList_app1y EKintsG rfl (.tmp 23) (.tmp 28) rfl (inC ((r : Int) - 1)) HRO.out rfl rfl rfl (by simp [Value.oneCell']) (by unfold maxLen; omega) (by omega) hsz ?_; intro v9 w9 h2 h3 h4 h5)
      have HO9 := hid (show OwnL 3 1 inC w9 w0.heap.size v9 (zs ++ [(r : Int) - 1]) from OwnL.snoc h2)
      have HK9 := hid (kb_row HK.out HRO.out hsz h4)
      refine ⟨⟨q, i + 1, zs ++ [(r : Int) - 1], v9, rfl, by first | rfl | simp [hq], by go_num, by omega, by omega, hid ⟨by rw [List.length_append, hzl]; rfl, HZ.out.2.snoc hzl (by omega) (by rw [HLC.out]; omega)⟩, HO9, HK9⟩, ?_⟩
      simp [intOf] <;> omega
    · obtain rfl : i = n := by omega
      have i1 : ¬ (i : Int) < (i : Int) := by omega
      obtain ⟨A, c, rfl, hA⟩ := ints_own HO.out
      go_wp2_with fail
      go_ret
      exact ⟨⟨A, c, zs, rfl, hA, HZ.out.1, HZ.out.2⟩, kb_tr HK0.out HK.out⟩
end Go.Proofs.YtlmkglgjdmjnkaaGreatDoor
