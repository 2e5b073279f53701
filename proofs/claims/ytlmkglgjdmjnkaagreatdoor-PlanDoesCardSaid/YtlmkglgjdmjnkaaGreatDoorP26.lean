/- linchpinlaw39.awake. -/
import Derived.Test.YtlmkglgjdmjnkaaGreatDoorP25
namespace Go.Proofs.YtlmkglgjdmjnkaaGreatDoor
open Go.RowKit Go.Lib
open Rw
set_option linter.unusedVariables false
set_option linter.unusedSimpArgs false

theorem sm_len {us : List UnitP} (h : isSm us) : us.length = 3 := by obtain ⟨a, b, c, rfl, -⟩ := h; rfl
theorem ints_new (w : World) (T : TypeId) : IntsAt (w.alloc (.cells #[.int .i64 0, .int .i64 0, .int .i64 0] T)) (some ⟨w.heap.size, 0, none⟩) [0, 0, 0] := by
  have hb := Box.new w [.int .i64 0, .int .i64 0, .int .i64 0] T
  refine .inr ⟨w.heap.size, 0, rfl, hb.1, fun i hi => ?_⟩
  rw [Nat.zero_add]
  refine hb.2 i _ ?_
  have hi : i < 3 := hi
  rcases i with _ | _ | _ | i
  · rfl
  · rfl
  · rfl
  · omega
def h00 : LockH := ⟨none, 0⟩
theorem locks_new (w : World) (l : List LockL) (T : TypeId) (hf : ∀ x ∈ l, x.feats = [] ∧ x.name.size ≤ 9223372036854775807) : Locks (w.alloc (.cells ((l.map fun x => (x, h00)).flatMap lkC).toArray T)) (some ⟨w.heap.size, 0, none⟩) (l.map fun x => (x, h00)) := by
  have hb := Box.new w ((l.map fun x => (x, h00)).flatMap lkC) T
  refine ⟨.inr ⟨w.heap.size, 0, rfl, hb.1, fun i hi j u hj => ?_⟩, fun p hp => ?_⟩
  · have hjn : j < 9 := (List.getElem?_eq_some_iff.1 hj).1
    rw [Nat.zero_add]
    exact hb.2 _ _ ((flat_get lk_len _ i j hi hjn).trans hj)
  · obtain ⟨x, hx, rfl⟩ := List.mem_map.1 hp
    obtain ⟨h1, h2⟩ := hf x hx
    obtain ⟨xn, xv, xs, xm, xf⟩ := x
    dsimp only at h1 h2
    subst h1
    exact ⟨.inl rfl, Nat.zero_le _, Nat.le_refl _, h2⟩
theorem map5 {α β : Type} {l : List (α × β)} {a b c d e : α} (h : l.map (·.1) = [a, b, c, d, e]) : ∃ p q r s t, l = [(a, p), (b, q), (c, r), (d, s), (e, t)] := by
  match l, h with
  | [(_, p), (_, q), (_, r), (_, s), (_, t)], h =>
    simp only [List.map_cons, List.map_nil, List.cons.injEq, and_true] at h
    obtain ⟨rfl, rfl, rfl, rfl, rfl⟩ := h
    exact ⟨p, q, r, s, t, rfl⟩
theorem map2 {α β : Type} {l : List (α × β)} {a b : α} (h : l.map (·.1) = [a, b]) : ∃ p q, l = [(a, p), (b, q)] := by
  match l, h with
  | [(_, p), (_, q)], h =>
    simp only [List.map_cons, List.map_nil, List.cons.injEq, and_true] at h
    obtain ⟨rfl, rfl⟩ := h
    exact ⟨p, q, rfl⟩
theorem small_moves {us : List UnitP} {w w' : World} {e : Ending} (hs : isSm us) (h : MovesK w us [0, 0, 0] [lnL nmC] [lnL nmB, lnL nmA] e w') : ∃ A c ms, e = .returned (.slice A 5 c) ∧ Moves w' A ms ∧ ms.map (·.1) = [mv1 (lnL nmB), mv1 (lnL nmA), mv2 (lnL nmC), mv3 (lnL nmA), mv3 (lnL nmB)] ∧ KB w.heap.size w w' := by
  obtain ⟨A, c, fs, ds, ps, he, hm, h1, h2, h3, hk⟩ := h
  rw [small_cat hs] at he hm
  rw [news_small] at h1 h3
  rw [gone_small] at h2
  have h4 := ins_small h3
  have hms : ((fs ++ ds) ++ (insM (placeP [nmA, nmB]).1 ps).map (·.1)).map (·.1) = [mv1 (lnL nmB), mv1 (lnL nmA), mv2 (lnL nmC), mv3 (lnL nmA), mv3 (lnL nmB)] := by
    rw [List.map_append, List.map_append, h1, h2, List.map_map]
    show _ ++ (insM (placeP [nmA, nmB]).1 ps).map (·.1.1) = _
    rw [h4]
    rfl
  have hl := congrArg List.length hms
  rw [List.length_map] at hl
  rw [hl] at he
  exact ⟨A, c, _, he, hm, hms, hk⟩
set_option maxRecDepth 100000 in
set_option maxHeartbeats 4000000 in
theorem lawake_any (w : World) (hF : First w) : Calls Tryz.prog 6 #[] w (BoolK w true) := by
  have HF := hid hF
  clear hF
  go_enter Tryz.func6, Tryz.ntmps6
  go_wp2_with fail
  refine (lsmall_any _).mono ?_
  rintro _ u1 ⟨U1, us1, rfl, hun, hs, hk⟩
  have HK1 := hid hk
  have HGR := hid (pgroups_any U1 3 us1 (some ⟨u1.heap.size, 0, none⟩) 3 [0, 0, 0] (u1.alloc (.cells #[.int .i64 0, .int .i64 0, .int .i64 0] 3)) (HF.out.kb (kb_tr hk (kb_new _ _))) (hun.kb (kb_new _ _)) (ints_new _ _) (by decide))
  rw [sm_len hs, small_groups hs] at HGR
  clear hun hs hk
  go_wp2_with fail
  refine HGR.out.mono ?_
  rintro _ u2 ⟨A2, c2, gps, rfl, hgs, hat, hk⟩
  have HK2 := hid (kb_tr (kb_tr HK1.out (kb_new _ _)) hk)
  have HGS := hid hgs
  have HAT := hid hat
  have hgl : gps.length = 2 := by have h0 := congrArg List.length hgs; rwa [List.length_map] at h0
  rw [hgl]
  have HGL := hid hgl
  clear hgs hat hk hgl HGR
  go_upto_region 3 with fail
  refine wp_name ?_
  intro u3 hu3
  have HN3 := hid (show Locks u3 (some ⟨u2.heap.size, 0, none⟩) [(lnL nmB, h00), (lnL nmA, h00)] from by rw [hu3]; exact locks_new u2 [lnL nmB, lnL nmA] 33 (by decide))
  have HKN3 := hid (show KB u2.heap.size u2 u3 from by rw [hu3]; exact kb_new _ _)
  have HAT3 := hid (HAT.out.kb HKN3.out)
  have HK3 := hid (kb_tr HK2.out HKN3.out)
  clear hu3 HAT
  go_wp2_with fail
  refine (lsmall_any _).mono ?_
  rintro _ u4 ⟨U4, us4, rfl, hun, hs, hk⟩
  have HK4 := hid (kb_tr HK3.out hk)
  have HKN4 := hid hk
  have HB1 := hid (kb_new u4 (.cells #[.int .i64 0, .int .i64 0, .int .i64 0] 3))
  have HMV := hid (fun (v : World) (hv : v = (u4.alloc (.cells #[.int .i64 0, .int .i64 0, .int .i64 0] 3)).alloc (.cells (([lnL nmC].map fun x => (x, h00)).flatMap lkC).toArray 33)) => show Calls Tryz.prog 14 #[.agg #[.slice U4 3 3], .slice (some ⟨u4.heap.size, 0, none⟩) 3 3, .slice (some ⟨u4.heap.size + 1, 0, none⟩) 1 1, .slice (some ⟨u2.heap.size, 0, none⟩) 2 2] v (fun e w' => ∃ A c ms, e = .returned (.slice A 5 c) ∧ Moves w' A ms ∧ ms.map (·.1) = [mv1 (lnL nmB), mv1 (lnL nmA), mv2 (lnL nmC), mv3 (lnL nmA), mv3 (lnL nmB)] ∧ KB v.heap.size v w') from by
    have hk2 : KB u4.heap.size u4 v := by rw [hv]; exact kb_tr HB1.out (kb_new _ _)
    have hc : Locks v (some ⟨u4.heap.size + 1, 0, none⟩) [(lnL nmC, h00)] := by
      rw [hv]
      have h0 := locks_new (u4.alloc (.cells #[.int .i64 0, .int .i64 0, .int .i64 0] 3)) [lnL nmC] 33 (by decide)
      rwa [World.size_alloc] at h0
    have hi : IntsAt v (some ⟨u4.heap.size, 0, none⟩) [0, 0, 0] := by rw [hv]; exact (ints_new u4 _).kb (kb_new _ _)
    have h1 := pmoves_any U4 3 us4 (some ⟨u4.heap.size, 0, none⟩) 3 [0, 0, 0] (some ⟨u4.heap.size + 1, 0, none⟩) 1 [(lnL nmC, h00)] (some ⟨u2.heap.size, 0, none⟩) 2 [(lnL nmB, h00), (lnL nmA, h00)] v (HF.out.kb (kb_tr HK4.out hk2)) (hun.kb hk2) hi (by decide) hc ((HN3.out.kb HKN4.out).kb hk2) (by decide) (by decide)
    rw [sm_len hs] at h1
    exact h1.mono fun e w' h => small_moves hs h)
  clear hun hs hk
  go_wp2_with fail
  refine (HMV.out _ rfl).mono ?_
  rintro _ u5 ⟨A5, c5, ms, rfl, hms, hml, hk⟩
  have HK5 := hid (kb_tr HK4.out (kb_tr (kb_tr HB1.out (kb_new _ _)) hk))
  have HKN5 := hid (kb_tr HKN4.out (kb_tr (kb_tr HB1.out (kb_new _ _)) hk))
  have HMS := hid hms
  obtain ⟨p0, p1, p2, p3, p4, hme⟩ := map5 hml
  subst hme
  have HDO := hid (show Calls Tryz.prog 9 #[.slice (some ⟨u5.heap.size, 0, none⟩) 1 1, .slice A5 5 c5] (u5.alloc (.cells (([lnL nmC].map fun x => (x, h00)).flatMap lkC).toArray 33)) (DoK (u5.alloc (.cells (([lnL nmC].map fun x => (x, h00)).flatMap lkC).toArray 33)) (some [lnL nmA, lnL nmB])) from by
    have h1 := pdo_any (some ⟨u5.heap.size, 0, none⟩) 1 [(lnL nmC, h00)] A5 c5 _ (u5.alloc (.cells (([lnL nmC].map fun x => (x, h00)).flatMap lkC).toArray 33)) (locks_new u5 [lnL nmC] 33 (by decide)) (hms.kb (kb_new _ _)) (List.pairwise_singleton _ _) (by decide) (Nat.le_of_ble_eq_true rfl)
    rw [hml, show ([(lnL nmC, h00)] : List LP).map (·.1) = [lnL nmC] from rfl, do_small] at h1
    exact h1)
  clear hms hml hk HMV
  go_wp2_with fail
  refine HDO.out.mono ?_
  rintro _ u6 ⟨A6, c6, ps6, hp6, rfl, -, hlk, hk⟩
  have HK56 := hid (kb_tr (kb_new _ _) hk : KB u5.heap.size u5 u6)
  have HK6 := hid (kb_tr HK5.out HK56.out)
  have HAT6 := hid ((HAT3.out.kb HKN5.out).kb HK56.out)
  clear hk HDO
  obtain ⟨q0, q1, hpe⟩ := map2 hp6
  subst hpe
  rcases hlk.row with h0 | ⟨b6, o6, rfl, hl6, hc6⟩
  · cases h0
  rcases HMS.out.row with h0 | ⟨b5, o5, rfl, hl5, hc5⟩
  · cases h0
  have hc5 := hid hc5
  have hc6 := hid hc6
  clear hlk hp6
  match gps, HGS, HGL, HAT6 with
  | [⟨g1, G1, d1⟩, ⟨g2, G2, d2⟩], HGS, HGL, HAT6 =>
  have hg := HGS.out
  simp only [List.map_cons, List.map_nil, List.cons.injEq, and_true] at hg
  obtain ⟨rfl, rfl⟩ := hg
  rcases HAT6.out.row with h0 | ⟨b2, o2, rfl, hl2, hc2⟩
  · cases h0
  have a0 : u6.cell? ⟨b2, o2, none⟩ = some (.slice G1 1 d1) := hc2 0 (Nat.le_of_ble_eq_true rfl) 0 _ rfl
  have al0 := hl2
  rcases HAT6.out.sub _ (List.mem_cons_self ..) with h0 | ⟨b3, o3, hG1, hl3, hc3⟩
  · cases h0
  dsimp only at hG1
  subst hG1
  have a1 : u6.cell? ⟨b3, o3, none⟩ = some (.string ⟨#[97, 110, 116]⟩) := hc3 0 (Nat.le_of_ble_eq_true rfl) 0 _ rfl
  have al1 := hl3
  clear hl2 hc2 hl3 hc3
  have HIS0 := hid (fun u => show Calls Tryz.prog 17 #[.agg #[.int .i64 1, .string ⟨#[98, 101, 101]⟩, .int .i64 0, .int .i64 0, .int .i64 0, .string ⟨#[]⟩, .string ⟨#[]⟩, .string ⟨#[]⟩, .int .u64 0, .slice p0.A 0 p0.c], .int .i64 1, .string ⟨#[98, 101, 101]⟩] u (BoolK u true) from by have h := lis_any (lnL nmB) p0 1 1 nmB u; rwa [show (((1 : Int) == 1) && sameB (lnL nmB).name nmB) = true from by kernel_rfl] at h)
  have HIS2 := hid (fun u => show Calls Tryz.prog 17 #[.agg #[.int .i64 2, .string ⟨#[99, 111, 119]⟩, .int .i64 0, .int .i64 0, .int .i64 0, .string ⟨#[]⟩, .string ⟨#[]⟩, .string ⟨#[]⟩, .int .u64 0, .slice p2.A 0 p2.c], .int .i64 2, .string ⟨#[99, 111, 119]⟩] u (BoolK u true) from by have h := lis_any (lnL nmC) p2 2 2 nmC u; rwa [show (((2 : Int) == 2) && sameB (lnL nmC).name nmC) = true from by kernel_rfl] at h)
  have HIS3 := hid (fun u => show Calls Tryz.prog 17 #[.agg #[.int .i64 3, .string ⟨#[97, 110, 116]⟩, .int .i64 0, .int .i64 0, .int .i64 0, .string ⟨#[]⟩, .string ⟨#[]⟩, .string ⟨#[]⟩, .int .u64 0, .slice p3.A 0 p3.c], .int .i64 3, .string ⟨#[97, 110, 116]⟩] u (BoolK u true) from by have h := lis_any (lnL nmA) p3 3 3 nmA u; rwa [show (((3 : Int) == 3) && sameB (lnL nmA).name nmA) = true from by kernel_rfl] at h)
  have m0_0 : u6.cell? ⟨b5, o5, none⟩ = some (.int .i64 1) := cell_kb hl5 HK56.out (hc5.out 0 (Nat.le_of_ble_eq_true rfl) 0 _ rfl)
  have m0_1 : u6.cell? ⟨b5, o5 + 1, none⟩ = some (.string ⟨#[98, 101, 101]⟩) := cell_kb hl5 HK56.out (hc5.out 0 (Nat.le_of_ble_eq_true rfl) 1 _ rfl)
  have m0_2 : u6.cell? ⟨b5, o5 + 2, none⟩ = some (.int .i64 0) := cell_kb hl5 HK56.out (hc5.out 0 (Nat.le_of_ble_eq_true rfl) 2 _ rfl)
  have m0_3 : u6.cell? ⟨b5, o5 + 3, none⟩ = some (.int .i64 0) := cell_kb hl5 HK56.out (hc5.out 0 (Nat.le_of_ble_eq_true rfl) 3 _ rfl)
  have m0_4 : u6.cell? ⟨b5, o5 + 4, none⟩ = some (.int .i64 0) := cell_kb hl5 HK56.out (hc5.out 0 (Nat.le_of_ble_eq_true rfl) 4 _ rfl)
  have m0_5 : u6.cell? ⟨b5, o5 + 5, none⟩ = some (.string ⟨#[]⟩) := cell_kb hl5 HK56.out (hc5.out 0 (Nat.le_of_ble_eq_true rfl) 5 _ rfl)
  have m0_6 : u6.cell? ⟨b5, o5 + 6, none⟩ = some (.string ⟨#[]⟩) := cell_kb hl5 HK56.out (hc5.out 0 (Nat.le_of_ble_eq_true rfl) 6 _ rfl)
  have m0_7 : u6.cell? ⟨b5, o5 + 7, none⟩ = some (.string ⟨#[]⟩) := cell_kb hl5 HK56.out (hc5.out 0 (Nat.le_of_ble_eq_true rfl) 7 _ rfl)
  have m0_8 : u6.cell? ⟨b5, o5 + 8, none⟩ = some (.int .u64 0) := cell_kb hl5 HK56.out (hc5.out 0 (Nat.le_of_ble_eq_true rfl) 8 _ rfl)
  have m0_9 : u6.cell? ⟨b5, o5 + 9, none⟩ = some (.slice p0.A 0 p0.c) := cell_kb hl5 HK56.out (hc5.out 0 (Nat.le_of_ble_eq_true rfl) 9 _ rfl)
  have ml := Nat.lt_of_lt_of_le hl5 HK56.out.size
  go_wp2_with fail
  refine (HIS0.out _).mono ?_
  rintro _ u7 ⟨rfl, hk⟩
  have HK57 := hid (kb_tr HK56.out hk)
  have HK67 := hid hk
  clear hk m0_0 m0_1 m0_2 m0_3 m0_4 m0_5 m0_6 m0_7 m0_8 m0_9 ml a0 a1 al0 al1
  have m2_0 : u7.cell? ⟨b5, o5 + 20, none⟩ = some (.int .i64 2) := cell_kb hl5 HK57.out (hc5.out 2 (Nat.le_of_ble_eq_true rfl) 0 _ rfl)
  have m2_1 : u7.cell? ⟨b5, o5 + 21, none⟩ = some (.string ⟨#[99, 111, 119]⟩) := cell_kb hl5 HK57.out (hc5.out 2 (Nat.le_of_ble_eq_true rfl) 1 _ rfl)
  have m2_2 : u7.cell? ⟨b5, o5 + 22, none⟩ = some (.int .i64 0) := cell_kb hl5 HK57.out (hc5.out 2 (Nat.le_of_ble_eq_true rfl) 2 _ rfl)
  have m2_3 : u7.cell? ⟨b5, o5 + 23, none⟩ = some (.int .i64 0) := cell_kb hl5 HK57.out (hc5.out 2 (Nat.le_of_ble_eq_true rfl) 3 _ rfl)
  have m2_4 : u7.cell? ⟨b5, o5 + 24, none⟩ = some (.int .i64 0) := cell_kb hl5 HK57.out (hc5.out 2 (Nat.le_of_ble_eq_true rfl) 4 _ rfl)
  have m2_5 : u7.cell? ⟨b5, o5 + 25, none⟩ = some (.string ⟨#[]⟩) := cell_kb hl5 HK57.out (hc5.out 2 (Nat.le_of_ble_eq_true rfl) 5 _ rfl)
  have m2_6 : u7.cell? ⟨b5, o5 + 26, none⟩ = some (.string ⟨#[]⟩) := cell_kb hl5 HK57.out (hc5.out 2 (Nat.le_of_ble_eq_true rfl) 6 _ rfl)
  have m2_7 : u7.cell? ⟨b5, o5 + 27, none⟩ = some (.string ⟨#[]⟩) := cell_kb hl5 HK57.out (hc5.out 2 (Nat.le_of_ble_eq_true rfl) 7 _ rfl)
  have m2_8 : u7.cell? ⟨b5, o5 + 28, none⟩ = some (.int .u64 0) := cell_kb hl5 HK57.out (hc5.out 2 (Nat.le_of_ble_eq_true rfl) 8 _ rfl)
  have m2_9 : u7.cell? ⟨b5, o5 + 29, none⟩ = some (.slice p2.A 0 p2.c) := cell_kb hl5 HK57.out (hc5.out 2 (Nat.le_of_ble_eq_true rfl) 9 _ rfl)
  have ml := Nat.lt_of_lt_of_le hl5 HK57.out.size
  go_wp2_with fail
  refine (HIS2.out _).mono ?_
  rintro _ u8 ⟨rfl, hk⟩
  have HK58 := hid (kb_tr HK57.out hk)
  have HK68 := hid (kb_tr HK67.out hk)
  clear hk m2_0 m2_1 m2_2 m2_3 m2_4 m2_5 m2_6 m2_7 m2_8 m2_9 ml
  have m3_0 : u8.cell? ⟨b5, o5 + 30, none⟩ = some (.int .i64 3) := cell_kb hl5 HK58.out (hc5.out 3 (Nat.le_of_ble_eq_true rfl) 0 _ rfl)
  have m3_1 : u8.cell? ⟨b5, o5 + 31, none⟩ = some (.string ⟨#[97, 110, 116]⟩) := cell_kb hl5 HK58.out (hc5.out 3 (Nat.le_of_ble_eq_true rfl) 1 _ rfl)
  have m3_2 : u8.cell? ⟨b5, o5 + 32, none⟩ = some (.int .i64 0) := cell_kb hl5 HK58.out (hc5.out 3 (Nat.le_of_ble_eq_true rfl) 2 _ rfl)
  have m3_3 : u8.cell? ⟨b5, o5 + 33, none⟩ = some (.int .i64 0) := cell_kb hl5 HK58.out (hc5.out 3 (Nat.le_of_ble_eq_true rfl) 3 _ rfl)
  have m3_4 : u8.cell? ⟨b5, o5 + 34, none⟩ = some (.int .i64 0) := cell_kb hl5 HK58.out (hc5.out 3 (Nat.le_of_ble_eq_true rfl) 4 _ rfl)
  have m3_5 : u8.cell? ⟨b5, o5 + 35, none⟩ = some (.string ⟨#[]⟩) := cell_kb hl5 HK58.out (hc5.out 3 (Nat.le_of_ble_eq_true rfl) 5 _ rfl)
  have m3_6 : u8.cell? ⟨b5, o5 + 36, none⟩ = some (.string ⟨#[]⟩) := cell_kb hl5 HK58.out (hc5.out 3 (Nat.le_of_ble_eq_true rfl) 6 _ rfl)
  have m3_7 : u8.cell? ⟨b5, o5 + 37, none⟩ = some (.string ⟨#[]⟩) := cell_kb hl5 HK58.out (hc5.out 3 (Nat.le_of_ble_eq_true rfl) 7 _ rfl)
  have m3_8 : u8.cell? ⟨b5, o5 + 38, none⟩ = some (.int .u64 0) := cell_kb hl5 HK58.out (hc5.out 3 (Nat.le_of_ble_eq_true rfl) 8 _ rfl)
  have m3_9 : u8.cell? ⟨b5, o5 + 39, none⟩ = some (.slice p3.A 0 p3.c) := cell_kb hl5 HK58.out (hc5.out 3 (Nat.le_of_ble_eq_true rfl) 9 _ rfl)
  have ml := Nat.lt_of_lt_of_le hl5 HK58.out.size
  go_wp2_with fail
  refine (HIS3.out _).mono ?_
  rintro _ u9 ⟨rfl, hk⟩
  have HK69 := hid (kb_tr HK68.out hk)
  clear hk m3_0 m3_1 m3_2 m3_3 m3_4 m3_5 m3_6 m3_7 m3_8 m3_9 ml
  have n0 : u9.cell? ⟨b6, o6, none⟩ = some (.string ⟨#[97, 110, 116]⟩) := cell_kb hl6 HK69.out (hc6.out 0 (Nat.le_of_ble_eq_true rfl) 0 _ rfl)
  have nl := Nat.lt_of_lt_of_le hl6 HK69.out.size
  go_wp2_with fail
  go_ret
  exact ⟨rfl, kb_tr HK6.out HK69.out⟩
end Go.Proofs.YtlmkglgjdmjnkaaGreatDoor
namespace Go.Proofs.YtlmkglgjdmjnkaaGreatDoor
open Go.RowKit Go.Lib
open Rw
set_option linter.unusedVariables false
set_option linter.unusedSimpArgs false

theorem walk_PlanDoes (A : Option Addr) (a : Nat) (xa : List Int) (B : Option Addr) (b : Nat) (xb : List Int) (C : Option Addr) (c : Nat) (xk : List Int) (w : World) (hA : IntsAt w A xa) (hna : xa.length ≤ 9223372036854775807) (hB : IntsAt w B xb) (hnb : xb.length ≤ 9223372036854775807) (hC : IntsAt w C xk) (hnk : xk.length ≤ 9223372036854775807) (hF : First w) : Calls Tryz.prog 3 #[.slice A xa.length a, .slice B xb.length b, .slice C xk.length c] w (BoolK w true) :=
  does_any w A B C a b c xa xb xk hA hB hC hna hnb hnk fun u hb => lawake_any u (hF.kb hb)
end Go.Proofs.YtlmkglgjdmjnkaaGreatDoor
