/- Parts 16 of the proofs. -/
import Derived.Test.YtlmkglgjdmjnkaaGreatDoorQ14
import Derived.Test.YtlmkglgjdmjnkaaGreatDoorQ15
import Derived.Test.YtlmkglgjdmjnkaaGreatDoorQ13
import Derived.RegionTactic
namespace Go.Proofs.YtlmkglgjdmjnkaaGreatDoor
open Go.RowKit Go.Lib
open Rw
set_option linter.unusedVariables false
set_option linter.unusedSimpArgs false
theorem un_take {l : List LP} {k : Nat} (hu : UnN (l.map (·.1))) (hk : k < l.length) : (atN l[k].1.name ((l.take k).map (·.1))).isNone = true := by
  rw [any_none]
  simp only [Bool.not_eq_true', List.any_eq_false]
  intro x hx
  obtain ⟨p, hp, rfl⟩ := List.mem_map.1 hx
  obtain ⟨i, hi, rfl⟩ := List.mem_iff_getElem.1 hp
  rw [List.length_take] at hi
  intro e
  have e := nmIs_iff.1 e
  rw [List.getElem_take] at e
  unfold UnN at hu
  rw [List.pairwise_map] at hu
  exact List.pairwise_iff_getElem.1 hu i k (by omega) hk (by omega) e
theorem atN_mem {l : List LockL} (hu : UnN l) {x : LockL} (hx : x ∈ l) : atN x.name l = some x := by
  cases h : atN x.name l with
  | none => exact absurd rfl (atN_none (by rw [h]; rfl) x hx)
  | some y =>
    have h1 := List.find?_some h
    have h2 := List.mem_of_find?_eq_some h
    have h3 := nmIs_iff.1 h1
    obtain ⟨i, hi, rfl⟩ := List.mem_iff_getElem.1 hx
    obtain ⟨k, hk, rfl⟩ := List.mem_iff_getElem.1 h2
    rcases Nat.lt_trichotomy i k with e | e | e
    · exact absurd h3.symm (List.pairwise_iff_getElem.1 hu i k hi hk e)
    · subst e; rfl
    · exact absurd h3 (List.pairwise_iff_getElem.1 hu k i hk hi e)
def zLk : LockL := ⟨⟨#[]⟩, ⟨0, 0, 0, ⟨#[]⟩, ⟨#[]⟩⟩, ⟨#[]⟩, 0, []⟩
def Found (now : List LP) (n : ByteArray) (x : LockL) (b : Bool) : Prop := (b = true ∧ atN n (now.map (·.1)) = some x) ∨ (b = false ∧ atN n (now.map (·.1)) = none)
theorem look_map {w0 w : World} {g n : Nat} {now : List LP} {nm : ByteArray} (h : MapN w g n now) (hu : UnN (now.map (·.1))) (hs : ∀ p ∈ now, LkSub w0 p) (hb : KB w0.heap.size w0 w) (hf : nm.size ≤ 9223372036854775807) :
    ∃ (x : LockL) (hd : LockH) (b : Bool), (Instr.lookup 58 (.map (some g)) (.string nm) true).run Tryz.prog w = .ok (.tuple #[x.val hd, .bool b]) w ∧ LockIs w x hd ∧ Found now nm x b := by
  cases e : atN nm (now.map (·.1)) with
  | none => exact ⟨zLk, ⟨none, 0⟩, false, h.lookNo e hf, ⟨.inl rfl, Nat.zero_le _, Nat.le_refl _, Nat.zero_le _⟩, .inr ⟨rfl, e⟩⟩
  | some x =>
    obtain ⟨p, hp, rfl⟩ := List.mem_map.1 (List.mem_of_find?_eq_some e)
    have hn := nmIs_iff.1 (List.find?_some e)
    subst hn
    exact ⟨p.1, p.2, true, h.look hp hf, LkSub.mono _ _ _ (Mono.kb hb) (hs p hp), .inl ⟨rfl, e⟩⟩
theorem Found.same {now : List LP} {x y : LockL} {b : Bool} (h : Found now y.name x b) : sameAt y (now.map (·.1)) = (b && eqLk x y) := by
  rcases h with ⟨rfl, h⟩ | ⟨rfl, h⟩ <;> rw [sameAt, h] <;> rfl
theorem Found.no {now : List LP} {x : LockL} {n : ByteArray} {b : Bool} (h : Found now n x b) : (atN n (now.map (·.1))).isNone = !b := by
  rcases h with ⟨rfl, h⟩ | ⟨rfl, h⟩ <;> rw [h] <;> rfl
set_option maxRecDepth 100000 in
set_option maxHeartbeats 8000000 in
theorem pdo_any (A : Option Addr) (c : Nat) (hl : List LP) (M : Option Addr) (mc : Nat) (ml : List MP) (w : World) (hA : Locks w A hl) (hM : Moves w M ml) (hu : UnN (hl.map (·.1))) (hn : hl.length ≤ 1000) (hm : ml.length ≤ 1000) : Calls Tryz.prog 9 #[.slice A hl.length c, .slice M ml.length mc] w (DoK w (doL (hl.map (·.1), []) (ml.map (·.1)))) := by
  have hmm : ∀ (t : TypeId) (w : World), (Instr.makeMap t none).run Tryz.prog w = .ok (.map (some w.heap.size)) (w.alloc (.map #[] 0)) := fun t w => run_makeMap t w
  have HM := hid hM
  have HU := hid hu
  have HA := hid hA
  have HT := hid (fun (k : Nat) (hk : k < hl.length) => un_take hu hk)
  have HMP := hid (show MapN (w.alloc (.map #[] 0)) w.heap.size 0 [] from ⟨_, World.ownsMap_made w Tryz.prog 9 lkR, Agr.start⟩)
  have HB0 := hid (kb_new w (.map #[] 0))
  have HR0 := hid (show doL (hl.map (·.1), []) (ml.map (·.1)) = doL (hl.map (·.1), []) ((ml.map (·.1)).drop 0) from rfl)
  clear hA hM hu
  generalize doL (hl.map (·.1), []) (ml.map (·.1)) = res at *
  generalize hmm2 : ml.length = m at *
  have HMM := hid hmm2
  clear hmm2
  obtain ⟨n0, hn0⟩ : ∃ n, hl.length = n := ⟨_, rfl⟩
  have HN0 := hid hn0
  rw [hn0] at hn ⊢
  clear hn0
  go_enter Tryz.func9, Tryz.ntmps9
  go_upto_block 0 with fail
  refine wp_name ?_
  intro w0 hw0
  rw [← hw0] at HMP HB0
  clear hw0
  go_wp2_with fail
  go_loopw [20] (fun iv wr => ∃ (k : Nat), iv = .int .i64 (k : Int) ∧ k ≤ n0 ∧ Hid (MapN wr w.heap.size k (hl.take k)) ∧ Hid (KB w.heap.size w wr)) (fun iv _ => n0 - (intOf iv).toNat)
  case atStart => exact ⟨0, rfl, Nat.zero_le _, HMP, HB0⟩
  case round =>
    rename World => wr
    obtain ⟨k, rfl, hk, HMK, HK⟩ := hrel
    have k0 : (0 : Int) ≤ (k : Int) := by omega
    by_cases hlt : k < n0
    · have h1 : k < hl.length := by rw [HN0.out]; exact hlt
      have k1 : (k : Int) < (n0 : Int) := by omega
      obtain ⟨p, off, hA, hix, hcx⟩ := lock_at (HA.out.kb HK.out) h1
      subst hA
      have HTK := hid (HT.out k h1)
      have HTA := hid (show hl.take (k + 1) = hl.take k ++ [hl[k]] from by rw [List.take_succ_eq_append_getElem h1])
      have HCX := hid hcx
      have HFI := hid hix.fit
      clear hix hcx
      generalize hl[k] = x at *
      clear h1
      have x0 := HCX.out.c0
      have x1 := HCX.out.c1
      have x2 := HCX.out.c2
      have x3 := HCX.out.c3
      have x4 := HCX.out.c4
      have x5 := HCX.out.c5
      have x6 := HCX.out.c6
      have x7 := HCX.out.c7
      have x8 := HCX.out.c8
      have xl := HCX.out.lt
      go_upto_region 5 with fail
      refine wp_name ?_
      intro w1 hw1
      have HG := hid (show Box w1 wr.heap.size (lkC x) from by rw [hw1]; exact Box.new wr (lkC x) 33)
      have HK1 := hid (show KB wr.heap.size wr w1 from by rw [hw1]; exact kb_new _ _)
      have HKK := hid (kb_tr HK.out HK1.out)
      clear hw1 x0 x1 x2 x3 x4 x5 x6 x7 x8 xl HCX
      have HM1 := hid (HMK.out.kb HK1.out)
      obtain ⟨D, hown, hagr⟩ := HM1.out
      have HOW := hid hown
      have HAG := hid hagr
      have HSZ := hid HMK.out.lt
      clear hown hagr HMK HM1
      have x0 := HG.out.2 0 _ rfl
      have x1 := HG.out.2 1 _ rfl
      have x2 := HG.out.2 2 _ rfl
      have x3 := HG.out.2 3 _ rfl
      have x4 := HG.out.2 4 _ rfl
      have x5 := HG.out.2 5 _ rfl
      have x6 := HG.out.2 6 _ rfl
      have x7 := HG.out.2 7 _ rfl
      have x8 := HG.out.2 8 _ rfl
      have xl := HG.out.1
      go_wp2_with (at_mapUpdate; refine wpList_mapUpdate_own _ rfl _ _ _ 58 rfl 9 33 keyLaw Tryz.underlying58 lkR w.heap.size k D rfl HOW.out (by unfold maxLen; omega) _ _ (kyN x.1.name) rfl rfl (key_mk HFI.out) (.held (x.1.val x.2)) [] rfl ?_; intro w3 hown3 hgrow3)
      have HM3 := hid (show MapN w3 w.heap.size (k + 1) (hl.take (k + 1)) from ⟨_, hown3, by rw [HTA.out]; exact HAG.out.put HTK.out⟩)
      have HB3 := hid (show KB w.heap.size w w3 from HKK.out.grown hgrow3 HKK.out.size (fun q e => by cases e; exact Nat.le_refl _))
      clear hown3 hgrow3 x0 x1 x2 x3 x4 x5 x6 x7 x8 xl
      go_roundw
      case rel => exact ⟨k + 1, by go_num, by omega, HM3, HB3⟩
      case measure => simp [intOf] <;> omega
    · obtain rfl : k = n0 := by omega
      have k1 : ¬ (k : Int) < (k : Int) := by omega
      have HM0 := hid (show MapN wr w.heap.size k hl from by have := HMK.out; rwa [List.take_of_length_le (by rw [HN0.out]; exact Nat.le_refl _)] at this)
      have HSU := hid HA.out.sub
      clear HMK HT hmm HA
      go_upto_block 2 with fail
      go_wp2_with fail
      go_loopw [31, 9] (fun iv hv w2 => ∃ (j : Nat) (v2 : Value) (now hand : List LP), iv = .int .i64 (j : Int) ∧ hv = v2 ∧ j ≤ m ∧ now.length ≤ k + j ∧ hand.length ≤ j ∧ Hid (res = doL (now.map (·.1), hand.map (·.1)) ((ml.map (·.1)).drop j)) ∧ Hid (UnN (now.map (·.1))) ∧ Hid (∀ p ∈ now, LkSub w p) ∧ Hid (MapN w2 w.heap.size (k + j) now) ∧ Hid (RowLk w w2 v2 hand) ∧ Hid (∀ q, v2.ownBlock = some q → q ≠ w.heap.size) ∧ Hid (KB w.heap.size w w2)) (fun iv _ _ => m - (intOf iv).toNat)
      case atStart => exact ⟨0, _, hl, [], rfl, rfl, Nat.zero_le _, by rw [HN0.out]; omega, Nat.le_refl _, HR0, HU, HSU, HM0, hid RowLk.nil, hid (fun q e => by cases e), HK⟩
      case round =>
        clear HK HM0 HR0 HU HSU
        rename World => w2
        obtain ⟨j, v2, now, hand, rfl, rfl, hj, hnl, hhl, HD, HUN, HSU, HMP, HHR, HAP, HK⟩ := hrel
        have j0 : (0 : Int) ≤ (j : Int) := by omega
        by_cases hlt : j < m
        · have h1 : j < ml.length := by rw [HMM.out]; exact hlt
          have k1 : (j : Int) < (m : Int) := by omega
          obtain ⟨p, off, hA, hix, hkd, hcx⟩ := move_at (HM.out.kb HK.out) h1
          subst hA
          have HIX := hid hix
          have HIW := hid (show LkSub w (ml[j].1.line, ml[j].2) from HM.out.sub _ (List.getElem_mem h1))
          have HCX := hid hcx
          have HKD := hid hkd
          have HST := hid (do_drop (s := (now.map (·.1), hand.map (·.1))) (l := ml.map (·.1)) (k := j) (by simpa using h1))
          rw [List.getElem_map] at HST
          clear hix hcx hkd
          generalize ml[j] = mm at *
          have x0 := HKD.out
          have x1 := HCX.out.c0
          have x2 := HCX.out.c1
          have x3 := HCX.out.c2
          have x4 := HCX.out.c3
          have x5 := HCX.out.c4
          have x6 := HCX.out.c5
          have x7 := HCX.out.c6
          have x8 := HCX.out.c7
          have x9 := HCX.out.c8
          have xl := HCX.out.lt
          go_upto_region 11 with fail
          refine wp_name ?_
          intro u1 hu1
          have HG := hid (show Box u1 w2.heap.size (mvC mm) from by rw [hu1]; exact Box.new w2 (mvC mm) 35)
          have HK1 := hid (show KB w2.heap.size w2 u1 from by rw [hu1]; exact kb_new _ _)
          have HKK := hid (kb_tr HK.out HK1.out)
          clear hu1 x0 x1 x2 x3 x4 x5 x6 x7 x8 x9 xl HCX HKD
          have HM1 := hid (HMP.out.kb HK1.out)
          have HI1 := hid (HIX.out.kb HK1.out)
          obtain ⟨x, hd, b, hlk, hxi, hfo⟩ := look_map HM1.out HUN.out HSU.out HKK.out HIX.out.fit
          have HXI := hid hxi
          have HFO := hid hfo
          clear hxi hfo
          generalize hg1 : w2.heap.size = g1 at *
          have x0 := HG.out.2 1 _ rfl
          have xl := HG.out.1
          dsimp only [LockL.val] at hlk
          go_upto_block 4 with fail
          refine wp_name ?_
          intro u2 hu2
          have HG2 := hid (show Box u2 u1.heap.size (lkC (x, hd)) from by rw [hu2]; exact Box.new u1 (lkC (x, hd)) 33)
          have HK2 := hid (show KB u1.heap.size u1 u2 from by rw [hu2]; exact kb_new _ _)
          have HKK2 := hid (kb_tr HKK.out HK2.out)
          have HM2 := hid (HM1.out.kb HK2.out)
          have HH2 := hid (HHR.out.kb (kb_tr (hg1 ▸ HK1.out) HK2.out))
          have HGG := hid (HG.out.kb HK2.out)
          clear hu2 x0 xl hlk HM1 HG
          have y0 := HGG.out.2 0 _ rfl
          have y1 := HGG.out.2 1 _ rfl
          have y2 := HGG.out.2 2 _ rfl
          have y3 := HGG.out.2 3 _ rfl
          have y4 := HGG.out.2 4 _ rfl
          have y5 := HGG.out.2 5 _ rfl
          have y6 := HGG.out.2 6 _ rfl
          have y7 := HGG.out.2 7 _ rfl
          have y8 := HGG.out.2 8 _ rfl
          have y9 := HGG.out.2 9 _ rfl
          have yl := HGG.out.1
          have z0 := HG2.out.2 0 _ rfl
          have z1 := HG2.out.2 1 _ rfl
          have z2 := HG2.out.2 2 _ rfl
          have z3 := HG2.out.2 3 _ rfl
          have z4 := HG2.out.2 4 _ rfl
          have z5 := HG2.out.2 5 _ rfl
          have z6 := HG2.out.2 6 _ rfl
          have z7 := HG2.out.2 7 _ rfl
          have z8 := HG2.out.2 8 _ rfl
          have zl := HG2.out.1
          by_cases hk1 : mm.1.kind = 1
          · have e1 : (mm.1.kind == 1) = true := by rw [beq_iff_eq]; exact hk1
            have HS := hid (HD.out.trans (by rw [HST.out, step1 hk1]))
            obtain ⟨Ah, ch, rfl, hch, hlh⟩ := HH2.out.locks HKK2.out
            clear hch hlh
            obtain ⟨n2, hn2⟩ : ∃ n, hand.length = n := ⟨_, rfl⟩
            rw [hn2] at HH2 HAP hhl
            rw [hn2]
            have HN2 := hid hn2
            clear hn2
            have hszw : w.heap.size ≤ u2.heap.size := HKK2.out.size
            go_wp2_with (at_builtin; refine wpList_app1y EKlocks rfl (.tmp 47) (.tmp 50) rfl (lkC (mm.1.line, mm.2)) (show u2.ownsRow w.heap.size 33 9 (.slice Ah n2 ch) n2 (hand.flatMap lkC) from by have h := HH2.out.own; unfold OwnL at h; rwa [HN2.out] at h) rfl rfl rfl (lk_one (mm.1.line, mm.2)) (by unfold maxLen; omega) (by omega) hszw ?_; intro v' w3 h2 h3 h4 h5)
            have h4 : u2.grownBy w3 (Value.slice Ah n2 ch).ownBlock := h4
            have h5 : ∀ k, v'.ownBlock = some k → (Value.slice Ah n2 ch).ownBlock = some k ∨ u2.heap.size ≤ k := h5
            have HB3 := hid (show KB w.heap.size w w3 from Go.RowKit.Below.trans HKK2.out h3.kb)
            have HMX := hid (show MapN w3 w.heap.size (k + (j + 1)) now from by
              obtain ⟨D, ho, ha⟩ := HM2.out.kept h4 (fun e => HAP.out _ e.symm rfl)
              exact ⟨D, ho.mono (by omega), ha⟩)
            have HHX := hid (show RowLk w w3 v' (hand ++ [(mm.1.line, mm.2)]) from ⟨OwnL.snoc (by rw [HN2.out]; exact h2), fun y hy => by
              rcases List.mem_append.1 hy with hy | hy
              · exact HHR.out.sub y hy
              · rcases List.mem_singleton.1 hy with rfl
                exact HIW.out⟩)
            have HAX := hid (show ∀ q, v'.ownBlock = some q → q ≠ w.heap.size from fun q e => by
              rcases h5 q e with h6 | h6
              · exact HAP.out q h6
              · have := HM2.out.lt
                omega)
            clear h2 h3 h4 h5
            refine ⟨⟨j + 1, _, now, hand ++ [(mm.1.line, mm.2)], by go_num, rfl, by omega, by omega, by rw [List.length_append, HN2.out]; simp; omega, hid (by rw [HS.out, List.map_append]; rfl), HUN, HSU, HMX, HHX, HAX, HB3⟩, ?_⟩
            simp [intOf] <;> omega
          · have e1 : (mm.1.kind == 1) = false := by rw [beq_eq_false_iff_ne]; exact hk1
            by_cases hk2 : mm.1.kind = 2
            · have e2 : (mm.1.kind == 2) = true := by rw [beq_iff_eq]; exact hk2
              have e3 : (mm.1.kind == 3) = false := by rw [beq_eq_false_iff_ne]; omega
              have HSM := hid (psame_any x mm.1.line hd mm.2 u2 (HXI.out.kb HK2.out) (HI1.out.kb HK2.out))
              have HSA := hid (Found.same (y := mm.1.line) HFO.out)
              have HNO := hid (show eqLk x mm.1.line = false ∨ b = false → res = none from fun h => by
                rw [HD.out, HST.out, step0 hk1 (fun q => by rw [HSA.out] at q; rcases h with h | h <;> rw [h] at q <;> simp at q) (fun q => by omega)])
              have HYE := hid (show eqLk x mm.1.line = true → b = true → res = doL (outN mm.1.line.name (now.map (·.1)), hand.map (·.1)) ((ml.map (·.1)).drop (j + 1)) from fun h hb => by
                rw [HD.out, HST.out, step2 hk2 (by rw [HSA.out, h, hb]; rfl)])
              clear HSA HST HD
              dsimp only [LockL.val] at HSM
              generalize eqLk x mm.1.line = r at *
              cases b with
              | false =>
                have HRS := hid (HNO.out (.inr rfl))
                clear HNO HYE HSM
                go_wp2_with fail
                try rw [Exit.noGoto_ret]
                try (first | go_ret | go_ret2)
                unfold DoK
                rw [HRS.out]
                exact ⟨rfl, HKK2.out⟩
              | true =>
                cases r with
                | false =>
                  have HRS := hid (HNO.out (.inl rfl))
                  clear HNO HYE
                  go_wp2_with fail
                  refine HSM.out.mono ?_
                  rintro _ w4 ⟨rfl, hb⟩
                  have HK4 := hid (kb_tr HKK2.out hb)
                  have HG4 := hid (HGG.out.kb hb)
                  clear hb y0 y1 y2 y3 y4 y5 y6 y7 y8 y9 yl z0 z1 z2 z3 z4 z5 z6 z7 z8 zl
                  have y0 := HG4.out.2 0 _ rfl
                  have yl := HG4.out.1
                  go_wp2_with fail
                  try rw [Exit.noGoto_ret]
                  try (first | go_ret | go_ret2)
                  unfold DoK
                  rw [HRS.out]
                  exact ⟨rfl, HK4.out⟩
                | true =>
                  have HRS := hid (HYE.out rfl rfl)
                  clear HNO HYE
                  go_wp2_with fail
                  refine HSM.out.mono ?_
                  rintro _ w4 ⟨rfl, hb⟩
                  have HK4 := hid (kb_tr HKK2.out hb)
                  have HG4 := hid (HGG.out.kb hb)
                  have HM4 := hid (HM2.out.kb hb)
                  have HH4 := hid (HH2.out.kb hb)
                  obtain ⟨D, hown, hagr⟩ := HM4.out
                  have HOW := hid hown
                  have HAG := hid hagr
                  clear hown hagr hb y0 y1 y2 y3 y4 y5 y6 y7 y8 y9 yl z0 z1 z2 z3 z4 z5 z6 z7 z8 zl
                  have y1 := HG4.out.2 1 _ rfl
                  have yl := HG4.out.1
                  go_wp2_with (at_delete; refine wpList_delete_own _ rfl (.tmp 65) (.tmp 68) 58 9 rfl 33 keyLaw Tryz.underlying58 lkR w.heap.size (k + j) D rfl HOW.out _ (kyN mm.1.line.name) rfl (key_mk HIX.out.fit) ?_; intro w5 hown5 hturn5)
                  have hg5 := hturn5.grown
                  have HB5 := hid (show KB w.heap.size w w5 from HK4.out.grown hg5 HK4.out.size (fun q e => by cases e; exact Nat.le_refl _))
                  have HM5 := hid (show MapN w5 w.heap.size (k + (j + 1)) (outP mm.1.line.name now) from ⟨_, hown5.mono (by omega), HAG.out.del _⟩)
                  have HH5 := hid (HH4.out.grown hg5 (fun q h1 h2 => HAP.out q h1 (by cases h2; rfl)))
                  have HU5 := hid (show UnN ((outP mm.1.line.name now).map (·.1)) from by rw [map_outP]; exact HUN.out.out _)
                  have HS5 := hid (show ∀ p ∈ outP mm.1.line.name now, LkSub w p from fun p hp => HSU.out p (List.mem_filter.1 hp).1)
                  have HL5 := hid (show (outP mm.1.line.name now).length ≤ now.length from List.length_filter_le _ _)
                  clear hown5 hturn5 hg5
                  refine ⟨⟨j + 1, _, _, hand, by go_num, rfl, by omega, by have := HL5.out; omega, by omega, hid (by rw [HRS.out, map_outP]), HU5, HS5, HM5, HH5, HAP, HB5⟩, ?_⟩
                  simp [intOf] <;> omega
            · have e2 : (mm.1.kind == 2) = false := by rw [beq_eq_false_iff_ne]; exact hk2
              by_cases hk3 : mm.1.kind = 3
              · have e3 : (mm.1.kind == 3) = true := by rw [beq_iff_eq]; exact hk3
                obtain ⟨Ah, ch, rfl, hch, hlh⟩ := HH2.out.locks HKK2.out
                have HHA := hid (phas_any Ah ch hand mm.1.line mm.2 u2 hlh (HI1.out.kb HK2.out) (by omega))
                have HFN := hid HFO.out.no
                have HNO := hid (show b = true ∨ ((hand.map (·.1)).any fun y => eqLk y mm.1.line) = false → res = none from fun h => by
                  rw [HD.out, HST.out, step0 hk1 (fun q => hk2 q.1) (fun q => by rw [HFN.out] at q; rcases h with h | h <;> rw [h] at q <;> simp at q)])
                have HYE := hid (show b = false → ((hand.map (·.1)).any fun y => eqLk y mm.1.line) = true → res = doL (now.map (·.1) ++ [mm.1.line], hand.map (·.1)) ((ml.map (·.1)).drop (j + 1)) from fun hb h => by
                  rw [HD.out, HST.out, step3 hk3 (by rw [HFN.out, hb]; rfl) h])
                clear HD HST hch hlh
                dsimp only [LockL.val] at HHA
                generalize ((hand.map (·.1)).any fun y => eqLk y mm.1.line) = r at *
                obtain ⟨n2, hn2⟩ : ∃ n, hand.length = n := ⟨_, rfl⟩
                rw [hn2] at HH2 HAP hhl HHA
                rw [hn2]
                have HN2 := hid hn2
                clear hn2
                cases b with
                | true =>
                  have HRS := hid (HNO.out (.inl rfl))
                  clear HNO HYE HHA
                  go_wp2_with fail
                  try rw [Exit.noGoto_ret]
                  try (first | go_ret | go_ret2)
                  unfold DoK
                  rw [HRS.out]
                  exact ⟨rfl, HKK2.out⟩
                | false =>
                  cases r with
                  | false =>
                    have HRS := hid (HNO.out (.inr rfl))
                    clear HNO HYE
                    go_wp2_with fail
                    refine HHA.out.mono ?_
                    rintro _ w4 ⟨rfl, hb⟩
                    have HK4 := hid (kb_tr HKK2.out hb)
                    clear hb
                    go_wp2_with fail
                    try rw [Exit.noGoto_ret]
                    try (first | go_ret | go_ret2)
                    unfold DoK
                    rw [HRS.out]
                    exact ⟨rfl, HK4.out⟩
                  | true =>
                    have HRS := hid (HYE.out rfl rfl)
                    clear HNO HYE
                    go_wp2_with fail
                    refine HHA.out.mono ?_
                    rintro _ w4 ⟨rfl, hb⟩
                    have HK4 := hid (kb_tr HKK2.out hb)
                    have HG4 := hid (HGG.out.kb hb)
                    have HM4 := hid (HM2.out.kb hb)
                    have HH4 := hid (HH2.out.kb hb)
                    obtain ⟨D, hown, hagr⟩ := HM4.out
                    have HOW := hid hown
                    have HAG := hid hagr
                    clear hown hagr hb y0 y1 y2 y3 y4 y5 y6 y7 y8 y9 yl z0 z1 z2 z3 z4 z5 z6 z7 z8 zl
                    have y0 := HG4.out.2 0 _ rfl
                    have y1 := HG4.out.2 1 _ rfl
                    have y2 := HG4.out.2 2 _ rfl
                    have y3 := HG4.out.2 3 _ rfl
                    have y4 := HG4.out.2 4 _ rfl
                    have y5 := HG4.out.2 5 _ rfl
                    have y6 := HG4.out.2 6 _ rfl
                    have y7 := HG4.out.2 7 _ rfl
                    have y8 := HG4.out.2 8 _ rfl
                    have y9 := HG4.out.2 9 _ rfl
                    have yl := HG4.out.1
                    go_wp2_with (at_mapUpdate; refine wpList_mapUpdate_own _ rfl _ _ _ 58 rfl 9 33 keyLaw Tryz.underlying58 lkR w.heap.size (k + j) D rfl HOW.out (by unfold maxLen; omega) _ _ (kyN mm.1.line.name) rfl rfl (key_mk HIX.out.fit) (.held (mm.1.line.val mm.2)) [] rfl ?_; intro w5 hown5 hg5)
                    have HB5 := hid (show KB w.heap.size w w5 from HK4.out.grown hg5 HK4.out.size (fun q e => by cases e; exact Nat.le_refl _))
                    have HM5 := hid (show MapN w5 w.heap.size (k + (j + 1)) (now ++ [(mm.1.line, mm.2)]) from ⟨_, hown5, HAG.out.put (p := (mm.1.line, mm.2)) HFN.out⟩)
                    have HH5 := hid (HH4.out.grown hg5 (fun q h1 h2 => HAP.out q h1 (by cases h2; rfl)))
                    have HU5 := hid (show UnN ((now ++ [(mm.1.line, mm.2)]).map (·.1)) from by rw [List.map_append]; exact HUN.out.put HFN.out)
                    have HS5 := hid (show ∀ p ∈ now ++ [(mm.1.line, mm.2)], LkSub w p from fun y hy => by
                      rcases List.mem_append.1 hy with hy | hy
                      · exact HSU.out y hy
                      · rcases List.mem_singleton.1 hy with rfl
                        exact HIW.out)
                    clear hown5 hg5
                    refine ⟨⟨j + 1, _, _, hand, by go_num, rfl, by omega, by rw [List.length_append]; simp; omega, by rw [HN2.out]; omega, hid (by rw [HRS.out, List.map_append]; rfl), HU5, HS5, HM5, HH5, HAP, HB5⟩, ?_⟩
                    simp [intOf] <;> omega
              · have e3 : (mm.1.kind == 3) = false := by rw [beq_eq_false_iff_ne]; exact hk3
                have HRS := hid (show res = none from by rw [HD.out, HST.out, step0 hk1 (fun q => hk2 q.1) (fun q => hk3 q.1)])
                go_wp2_with fail
                try rw [Exit.noGoto_ret]
                try (first | go_ret | go_ret2)
                unfold DoK
                rw [HRS.out]
                exact ⟨rfl, HKK2.out⟩
        · obtain rfl : j = m := by omega
          have k1 : ¬ (j : Int) < (j : Int) := by omega
          have HRS := hid (show res = some (sortN (now.map (·.1))) from by rw [HD.out, do_end (by rw [List.length_map, HMM.out]; exact Nat.le_refl _)])
          have HVA := hid (fun u => pvalues_any w.heap.size u)
          clear HD HMM HM HHR HAP
          go_wp2_with fail
          refine (HVA.out _).mono ?_
          rintro _ w3 ⟨rfl, hw3⟩
          have HK3 := hid (show KB w2.heap.size w2 w3 from by rw [hw3]; exact kb_new _ _)
          have HKK3 := hid (kb_tr HK.out HK3.out)
          have HC3 := hid (show w3.cell? ⟨w2.heap.size, 0, none⟩ = some (.map (some w.heap.size)) from by rw [hw3]; exact (Box.new w2 [.map (some w.heap.size)] 58).2 0 _ rfl)
          have HS3 := hid (psorted_any w2.heap.size w.heap.size (k + j) now w3 HC3.out (HMP.out.kb HK3.out) HUN.out (by omega) (by omega))
          clear hw3 HVA HC3 HMP HK3
          go_wp2_with fail
          refine HS3.out.mono ?_
          rintro _ w4 ⟨ms, As, cs, rfl, hp, hs, hli, hb⟩
          have HK4 := hid (kb_tr HKK3.out hb)
          have HL4 := hid (show Locks w4 As ms from ⟨hli, fun p hm => LkSub.mono _ _ _ (Mono.kb HK4.out) (HSU.out p (hp.mem_iff.1 hm))⟩)
          have HRM := hid (show res = some (ms.map (·.1)) from by rw [HRS.out, hs])
          have hml : ms.length ≤ 3000 := by rw [hp.length_eq]; omega
          clear hp hs hli hb HS3 HRS HSU HUN HKK3 HK
          obtain ⟨nq, hnq⟩ : ∃ n, ms.length = n := ⟨_, rfl⟩
          rw [hnq] at hml
          rw [hnq]
          have HNQ := hid hnq
          clear hnq
          go_upto_block 5 with fail
          go_wp2_with fail
          go_loopw [94, 14] (fun iv ov w5 => ∃ (i : Nat) (v5 : Value) (out : List LP), iv = .int .i64 (i : Int) ∧ ov = v5 ∧ i ≤ nq ∧ Hid (out.length = i) ∧ Hid (out.map (·.1) = (ms.map (·.1)).take i) ∧ Hid (Deep 33 9 lkC LkSub w5 w4.heap.size v5 out) ∧ Hid (KB w4.heap.size w4 w5)) (fun iv _ _ => nq - (intOf iv).toNat)
          case atStart => exact ⟨0, _, [], rfl, rfl, Nat.zero_le _, hid rfl, hid rfl, hid Deep.nil, hid (kb_refl _)⟩
          case round =>
            rename World => w5
            obtain ⟨i, v5, out, rfl, hv5, hi, HOL, HOM, HDP, HK5⟩ := hrel
            have hv5 := hv5.symm
            subst hv5
            have i0 : (0 : Int) ≤ (i : Int) := by omega
            by_cases hlt : i < nq
            · have h1 : i < ms.length := by rw [HNQ.out]; exact hlt
              have i1 : (i : Int) < (nq : Int) := by omega
              obtain ⟨p, off, hA, hix, hcx⟩ := lock_at (HL4.out.kb HK5.out) h1
              subst hA
              have HTA := hid (show (ms.map (·.1)).take (i + 1) = (ms.map (·.1)).take i ++ [ms[i].1] from by rw [List.take_succ_eq_append_getElem (by simpa using h1), List.getElem_map])
              have HCX := hid hcx
              have HIX := hid hix
              clear hix hcx
              generalize ms[i] = x at *
              clear h1
              have x0 := HCX.out.c0
              have x1 := HCX.out.c1
              have x2 := HCX.out.c2
              have x3 := HCX.out.c3
              have x4 := HCX.out.c4
              have x5 := HCX.out.c5
              have x6 := HCX.out.c6
              have x7 := HCX.out.c7
              have x8 := HCX.out.c8
              have xl := HCX.out.lt
              go_upto_region 24 with fail
              refine wp_name ?_
              intro u1 hu1
              have HG := hid (show Box u1 w5.heap.size (lkC x) from by rw [hu1]; exact Box.new w5 (lkC x) 33)
              have HK1 := hid (show KB w5.heap.size w5 u1 from by rw [hu1]; exact kb_new _ _)
              have HKU := hid (kb_tr HK5.out HK1.out)
              have HD1 := hid (HDP.out.kb LkSub.mono HK1.out)
              have HCP := hid (pcopied_any x.1 x.2 u1 (HIX.out.kb HK1.out))
              clear hu1 x0 x1 x2 x3 x4 x5 x6 x7 x8 xl HCX HIX HDP
              unfold CopyK at HCP
              dsimp only [LockL.val] at HCP
              have x0 := HG.out.2 0 _ rfl
              have x1 := HG.out.2 1 _ rfl
              have x2 := HG.out.2 2 _ rfl
              have x3 := HG.out.2 3 _ rfl
              have x4 := HG.out.2 4 _ rfl
              have x5 := HG.out.2 5 _ rfl
              have x6 := HG.out.2 6 _ rfl
              have x7 := HG.out.2 7 _ rfl
              have x8 := HG.out.2 8 _ rfl
              have xl := HG.out.1
              go_wp2_with fail
              refine HCP.out.mono ?_
              rintro _ u2 ⟨hd, rfl, hsub, hb⟩
              have HK2 := hid (kb_tr HKU.out hb)
              have hD2 := HD1.out.kb LkSub.mono hb
              have hsu : LkSub (mask u2 w4.heap.size v5.ownBlock) (x.1, hd) := LkSub.mono _ _ _ (mask_less HKU.out.size (fun q e => HD1.out.lt q e)) hsub
              have hsz : w4.heap.size ≤ u2.heap.size := HK2.out.size
              clear hsub hb x0 x1 x2 x3 x4 x5 x6 x7 x8 xl
              go_wp2_with (at_builtin; refine wpList_app1y EKlocks rfl (.tmp 98) (.tmp 101) rfl (lkC (x.1, hd)) hD2.1 rfl rfl rfl (lk_one (x.1, hd)) (by rw [HOL.out]; unfold maxLen; omega) (by rw [HOL.out]; omega) hsz ?_; intro v' w' h2 h3 h4 h5; have HDN := hid (Deep.snoc LkSub.mono hD2 hsu h2 h4 h5); have HB3 := hid (show KB w4.heap.size w4 w' from Go.RowKit.Below.trans HK2.out h3.kb))
              clear h2 h3 h4 h5 hD2 hsu
              go_roundw
              case rel => exact ⟨i + 1, _, out ++ [(x.1, hd)], by go_num, rfl, by omega, hid (by rw [List.length_append, HOL.out]; rfl), hid (by rw [HTA.out, List.map_append, HOM.out]; rfl), HDN, HB3⟩
              case measure => simp [intOf] <;> omega
            · obtain rfl : i = nq := by omega
              have i1 : ¬ (i : Int) < (i : Int) := by omega
              obtain ⟨A9, c9, rfl, hc9, hl9, hs9⟩ := HDP.out.fresh lk_len LkSub.mono
              have HF := hid (And.intro hc9 (And.intro hl9 hs9))
              have HRF := hid (show res = some (out.map (·.1)) from by rw [HRM.out, HOM.out, List.take_of_length_le (by rw [List.length_map, HNQ.out]; exact Nat.le_refl _)])
              clear hc9 hl9 hs9
              go_wp2_with fail
              try rw [Exit.noGoto_ret]
              try (first | go_ret | go_ret2)
              unfold DoK
              rw [HRF.out]
              exact ⟨A9, c9, out, rfl, rfl, HF.out.1, ⟨HF.out.2.1.mono (Mono.of_mask _ _ _), fun p hp => LkSub.mono _ _ _ (Mono.of_mask _ _ _) (HF.out.2.2 p hp)⟩, kb_tr HK4.out HK5.out⟩
end Go.Proofs.YtlmkglgjdmjnkaaGreatDoor
namespace Go.Proofs.YtlmkglgjdmjnkaaGreatDoor
open Go.RowKit Go.Lib
open Rw
set_option linter.unusedVariables false
set_option linter.unusedSimpArgs false
def nmsL : List ByteArray := [⟨#[97, 110, 116]⟩, ⟨#[98, 101, 101]⟩, ⟨#[99, 111, 119]⟩, ⟨#[100, 111, 103]⟩]
theorem gnames_any (w : World) : Calls Tryz.prog 52 #[] w fun e w' => e = .returned (.slice (some ⟨w.heap.size, 0, none⟩) 4 4) ∧ w' = w.alloc (.cells (nmsL.map Value.string).toArray 9) := by
  go_enter Tryz.func52, Tryz.ntmps52
  go_wp2_with fail
  go_ret
  exact ⟨rfl, rfl⟩
def vrsL : List Ver := [⟨1, 0, 0, ⟨#[]⟩, ⟨#[]⟩⟩, ⟨1, 2, 0, ⟨#[]⟩, ⟨#[]⟩⟩, ⟨2, 0, 0, ⟨#[97, 46, 49]⟩, ⟨#[]⟩⟩, ⟨2, 0, 0, ⟨#[]⟩, ⟨#[]⟩⟩]
theorem gversions_any (w : World) : Calls Tryz.prog 49 #[] w fun e w' => e = .returned (.slice (some ⟨w.heap.size, 0, none⟩) 4 4) ∧ w' = w.alloc (.cells (vrsL.flatMap Ver.cells).toArray 29) := by
  go_enter Tryz.func49, Tryz.ntmps49
  go_wp2_with fail
  go_ret
  exact ⟨rfl, rfl⟩
set_option maxHeartbeats 1000000 in
theorem genv_any (n : Int) (w : World) : Calls Tryz.prog 51 #[.int .i64 n] w fun e w' => (∃ s : ByteArray, e = .returned (.agg #[.string s, .string ⟨#[]⟩, .string ⟨#[]⟩])) ∧ KB w.heap.size w w' := by
  have HP := hid (fun u => gplace_any n 3 u (by omega) (by omega))
  obtain ⟨z1, z2⟩ := placeI_bd n 3 (by omega)
  generalize placeI n 3 = z at *
  go_enter Tryz.func51, Tryz.ntmps51
  go_upto_region 2 with fail
  refine wp_name ?_
  intro u1 hu1
  have O2 := hid (show Own w.heap.size u1 w.heap.size [.string ⟨#[]⟩, .string ⟨#[]⟩, .string ⟨#[]⟩] from by rw [hu1]; exact (Own.new w [.string ⟨#[]⟩, .string ⟨#[]⟩, .string ⟨#[]⟩] 54 (Nat.le_refl _)).alloc _)
  have O3 := hid (show Own w.heap.size u1 (w.heap.size + 1) [.string ⟨#[]⟩, .string ⟨#[]⟩, .string ⟨#[]⟩] from by rw [hu1]; exact Own.new2 w _ [.string ⟨#[]⟩, .string ⟨#[]⟩, .string ⟨#[]⟩] 54 (Nat.le_refl _))
  have HK1 := hid (show KB w.heap.size w u1 from by rw [hu1]; exact kb_tr (kb_new _ _) (kb_new _ _))
  have hne : w.heap.size ≠ w.heap.size + 1 := by omega
  have hle : w.heap.size ≤ w.heap.size + 1 := by omega
  have HG := hid (And.intro hne hle)
  clear hu1 hne hle
  obtain ⟨g2, hg2⟩ : ∃ g, g = w.heap.size := ⟨_, rfl⟩
  obtain ⟨g3, hg3⟩ : ∃ g, g = w.heap.size + 1 := ⟨_, rfl⟩
  have HG2 := hid hg2
  have HG3 := hid hg3
  rw [← hg3] at O3
  have O2' := hid (show Own w.heap.size u1 g2 _ from by rw [hg2]; exact O2.out)
  rw [← hg3, ← hg2]
  clear O2 hg2 hg3
  have y0 := O3.out.box.2 0 _ rfl
  have y1 := O3.out.box.2 1 _ rfl
  have y2 := O3.out.box.2 2 _ rfl
  have yl := O3.out.box.1
  have sf : ∀ j, u1.frozen? ⟨g3, j, none⟩ = false := O3.out.soft
  go_wp2_with fail
  refine (HP.out _).mono ?_
  rintro _ _ ⟨rfl, rfl⟩
  have zc : z = 0 ∨ z = 1 ∨ z = 2 := by omega
  rcases zc with rfl | rfl | rfl
  all_goals
    go_upto_region 3 with fail
    refine wp_name ?_
    intro u3 hu3
    have H3 := hid (show ∃ s, Own w.heap.size u3 g3 [.string s, .string ⟨#[]⟩, .string ⟨#[]⟩] from ⟨_, by rw [hu3]; exact (O3.out.put (j := 0) (by simp) _).alloc _⟩)
    have H2 := hid (show Own w.heap.size u3 g2 [.string ⟨#[]⟩, .string ⟨#[]⟩, .string ⟨#[]⟩] from by rw [hu3]; exact (O2'.out.other (by rw [HG2.out, HG3.out]; exact HG.out.1) _).alloc _)
    have HB := hid (show KB w.heap.size w u3 from by rw [hu3]; exact kb_allocB (kb_putJ HK1.out (by rw [HG3.out]; exact HG.out.2) _) (by rw [World.size_setCell]; exact HK1.out.size) _)
    clear hu3 y0 y1 y2 yl sf O3 O2' HP
    obtain ⟨s, h3⟩ := H3.out
    have y0 := h3.box.2 0 _ rfl
    have y1 := h3.box.2 1 _ rfl
    have y2 := h3.box.2 2 _ rfl
    have yl := h3.box.1
    have x0 := H2.out.box.2 0 _ rfl
    have x1 := H2.out.box.2 1 _ rfl
    have x2 := H2.out.box.2 2 _ rfl
    have xl := H2.out.box.1
    have sf : ∀ j, u3.frozen? ⟨g2, j, none⟩ = false := H2.out.soft
    go_wp2_with fail
    refine body_name ?_
    intro w9 hw9
    have O9 : Own w.heap.size w9 g2 [.string s, .string ⟨#[]⟩, .string ⟨#[]⟩] := by rw [hw9]; exact ((H2.out.put (j := 0) (by simp) _).put (j := 1) (by simp) _).put (j := 2) (by simp) _
    have B9 : KB w.heap.size w w9 := by rw [hw9]; exact kb_putJ (kb_putJ (kb_putJ HB.out (by rw [HG2.out]; exact Nat.le_refl _) _) (by rw [HG2.out]; exact Nat.le_refl _) _) (by rw [HG2.out]; exact Nat.le_refl _) _
    clear hw9 y0 y1 y2 yl x0 x1 x2 xl sf
    have k0 := O9.box.2 0 _ rfl
    have k1 := O9.box.2 1 _ rfl
    have k2 := O9.box.2 2 _ rfl
    refine bodyPost_ret (v := .agg #[.string s, .string ⟨#[]⟩, .string ⟨#[]⟩]) (by simp [results, Tryz.results51, go_sem, k0, k1, k2]) rfl ?_
    exact ⟨⟨s, rfl⟩, B9⟩
end Go.Proofs.YtlmkglgjdmjnkaaGreatDoor
namespace Go.Proofs.YtlmkglgjdmjnkaaGreatDoor
open Go.RowKit Go.Lib
set_option linter.unusedVariables false
set_option linter.unusedSimpArgs false
def upd (T : Nat → Value) (j : Nat) (v : Value) : Nat → Value := fun m => if m = j then v else T m
section
variable {P : Program} {ops : Array Oper} {Q : Exit → Act → World → Prop}
def waits (ops : Array Oper) (i j : Nat) : Bool := match ops[i]? with
  | some o => o.after.any fun e => Region.binds .any e && (e.on == j)
  | none => false
theorem waits_spec {i j : Nat} {o : Oper} (ho : ops[i]? = some o) (h : waits ops i j = true) : ∃ e ∈ o.after, Region.binds .any e = true ∧ e.on = j := by
  unfold waits at h
  rw [ho] at h
  dsimp only at h
  rw [← Array.any_toList, List.any_eq_true] at h
  obtain ⟨e, he, h⟩ := h
  have he := Array.mem_toList_iff.1 he
  simp only [Bool.and_eq_true, beq_iff_eq] at h
  exact ⟨e, he, h⟩
theorem dep_of {d : Nat → Bool} {i j : Nat} {o : Oper} (ho : ops[i]? = some o) (h : waits ops i j = true) (hd : ∀ e ∈ o.after, Region.binds .any e = true → d e.on = true) : d j = true := by
  obtain ⟨e, he, hb, rfl⟩ := waits_spec ho h
  exact hd e he hb
theorem shut_of {d : Nat → Bool} {i j : Nat} (hs : shutD .any ops d) (h : waits ops i j = true) (hi : d i = true) : d j = true := by
  cases ho : ops[i]? with
  | none => unfold waits at h; rw [ho] at h; cases h
  | some o =>
    obtain ⟨e, he, hb, rfl⟩ := waits_spec ho h
    exact hs i o ho hi e he hb
theorem not_yet {d : Nat → Bool} {i j : Nat} (hs : shutD .any ops d) (h : waits ops i j = true) (hj : d j = false) : d i = false := by
  cases hi : d i
  · rfl
  · rw [shut_of hs h hi] at hj; cases hj
def OpOwes (P : Program) (ops : Array Oper) (Q : Exit → Act → World → Prop) (mk : (Nat → Value) → Act) (F : Nat → (Nat → Bool) → World → Value → Prop) (W : (Nat → Bool) → World → (Nat → Value) → Prop) (j : Nat) : Prop :=
  ∀ (d : Nat → Bool) (T : Nat → Value) (x : World) (o : Oper) (a : Act), ops[j]? = some o → d j = false → (∀ e ∈ o.after, Region.binds .any e = true → d e.on = true) → shutD .any ops d → W d x T → (∀ m, d m = true → F m d x (T m)) → a = mk T →
    wpOp P ops Q j (fun a' x' => ∃ v, a' = mk (upd T j v) ∧ W (more d j) x' (upd T j v) ∧ F j (more d j) x' v ∧ ∀ m u, d m = true → F m d x u → F m (more d j) x' u) a x
theorem wp_region_T (mk : (Nat → Value) → Act) (F : Nat → (Nat → Bool) → World → Value → Prop) (W : (Nat → Bool) → World → (Nat → Value) → Prop) (T0 : Nat → Value) (n : Nat) (hsz : ops.size = n) {id : Nat} {a : Act} {w : World} (hm : P.follows .mixedOrders = true) (hb : backOk .any ops = true) (ha : a = mk T0) (h0 : W (fun _ => false) w.drew T0)
    (step : ∀ j, j < n → OpOwes P ops Q mk F W j)
    (done : ∀ d T x, (∀ i, i < n → d i = true) → W d x T → (∀ m, m < n → F m d x (T m)) → ∀ a, a = mk T → Q .normal a x) : (Code.region id ops true).wp P Q a w := by
  subst hsz
  refine wp_region_inv (fun d a x => ∃ T, a = mk T ∧ W d x T ∧ ∀ m, d m = true → F m d x (T m)) hm hb ⟨T0, ha, h0, fun m h => by cases h⟩ ?_ ?_
  · rintro d a x i o ho hd hdep hsh ⟨T, rfl, hW, hF⟩
    refine wpOp_mono ?_ (step i (Array.getElem?_eq_some_iff.1 ho).1 d T x o _ ho hd hdep hsh hW hF rfl)
    rintro a' x' ⟨v, rfl, hW', hj, hmv⟩
    refine ⟨_, rfl, hW', fun m hmd => ?_⟩
    unfold upd
    split
    · rename_i h; subst h; exact hj
    · rename_i h
      unfold more at hmd
      rw [if_neg h] at hmd
      exact hmv m _ hmd (hF m hmd)
  · rintro d a x hall ⟨T, rfl, hW, hF⟩
    exact done d T x hall hW (fun m hm => hF m (hall m hm)) _ rfl
end
end Go.Proofs.YtlmkglgjdmjnkaaGreatDoor
