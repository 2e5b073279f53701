/- Sets: the reference's Minus, Exact; its functions in one form for the laws. -/
import Derived.Test.YtjceaniffooohaaGreatDoorSetR
namespace Go.Proofs.YtjceaniffooohaaGreatDoor
open Go.RowKit Go.Lib
open Rw
set_option linter.unusedVariables false
set_option linter.unusedSimpArgs false

set_option maxHeartbeats 1000000 in
theorem rbehind3_any (v : Ver) (w : World) : Calls Tryz.prog 160 #[v.val] w (CutPost w ⟨0, bareV v, true⟩) := by
  go_enter Tryz.func160, Tryz.ntmps160
  go_wp2_with fail
  refine (rcore_any v _).mono ?_
  rintro _ w1 ⟨rfl, hb1⟩
  have hs1 := (soft_2 (cs := v.cells) (ds := zeroC.cells) hb1).2
  obtain ⟨hx1, hy1, hbw1⟩ := box_2 (cs := v.cells) (ds := zeroC.cells) hb1
  have HX := hid hx1
  have HY := hid hy1
  have HS := hid hs1
  have HBW := hid hbw1
  have hl0 := hx1.1
  have hl1 := hy1.1
  clear hb1 hx1 hy1 hbw1 hs1
  generalize bareV v = u at *
  have hf : ∀ j, w1.frozen? ⟨w.heap.size + 1, j, none⟩ = false := HS.out
  obtain ⟨t0, t1, t2, t3, t4, t5, t6⟩ := HY.out.get7
  have hlr := HY.out.1
  go_wp2_with fail
  refine ret7 HY.out (v := (CutL.val ⟨0, u, true⟩)) (fun w3 h3 => ?_) rfl (fun w3 h3 => CutPost.of rfl rfl (HBW.out.trans (h3.mono (by omega))))
  obtain ⟨k0, k1, k2, k3, k4, k5, k6⟩ := h3.get7
  simp [results, Tryz.results160, go_sem, k0, k1, k2, k3, k4, k5, k6]
section
variable {n n2 : Nat} {w : World} {A B C D : Option Addr} {l m p q : List SpanL} {v : Ver}
theorem law_orR (N : Nat) (c d c2 d2 : Nat) (_ : First w) (h : SetAt n w A l B m) (k : SetAt n2 w C p D q) (hN : 1 + 2 * (n + n2) ≤ N) (hn : n + n2 ≤ 5000) : Calls Tryz.prog 38 #[setV A l.length c B m.length d, setV C p.length c2 D q.length d2] w (SetBack N w (orS l m p q).1 (orS l m p q).2) := by
  have h1 := h.nrel; have h2 := h.npre; have h3 := k.nrel; have h4 := k.npre
  refine (rsor_any A B C D c d c2 d2 l m p q w h.rel h.pre k.rel k.pre h.frel h.fpre k.frel k.fpre (by omega) (by omega) (by omega) (by omega)).mono fun e w' hp => ?_
  rw [h.val.ok, k.val.ok] at hp
  rw [orS_val h.val k.val]
  dsimp only
  have g1 := rorL_good h.frel k.frel
  have g2 := rorL_good h.fpre k.fpre
  exact SetBack.of hp g1.1 g2.1 (by omega) (by omega) (h.val.or k.val)
theorem law_withinR (c d c2 d2 : Nat) (_ : First w) (h : SetAt n w A l B m) (k : SetAt n2 w C p D q) (hn : n + n2 ≤ 5000) : Calls Tryz.prog 35 #[setV A l.length c B m.length d, setV C p.length c2 D q.length d2] w (BoolPost w (withinS l m p q)) := by
  have h1 := h.nrel; have h2 := h.npre; have h3 := k.nrel; have h4 := k.npre
  exact rswithin_any A B C D c d c2 d2 l m p q w h.rel h.pre k.rel k.pre h.frel h.fpre k.frel k.fpre (by omega) (by omega) (by omega) (by omega)
theorem law_sameR (c d c2 d2 : Nat) (h : SetAt n w A l B m) (k : SetAt n2 w C p D q) (hn : n + n2 ≤ 5000) : Calls Tryz.prog 20 #[setV A l.length c B m.length d, setV C p.length c2 D q.length d2] w (BoolPost w (sameS l m p q)) := by
  have h1 := h.nrel; have h2 := h.npre; have h3 := k.nrel; have h4 := k.npre
  exact rssame_any A B C D c d c2 d2 l m p q w h.rel h.pre k.rel k.pre (by omega) (by omega) (by omega) (by omega)
theorem law_mayR (c d : Nat) (_ : First w) (h : SetAt n w A l B m) (hn : n ≤ 5000) : Calls Tryz.prog 32 #[setV A l.length c B m.length d] w (BoolPost w true) := by
  have h1 := h.nrel; have h2 := h.npre
  have k := rsmay_any A B c d l m w h.rel h.pre h.frel h.fpre (by omega) (by omega)
  rw [h.val.ok] at k
  exact k
theorem law_hasR (c d : Nat) (_ : First w) (h : SetAt n w A l B m) (hv : v.fit) (hn : n ≤ 5000) : Calls Tryz.prog 33 #[setV A l.length c B m.length d, v.val] w (BoolPost w (hasS l m v)) := by
  have h1 := h.nrel; have h2 := h.npre
  exact rshas_any A B c d l m v w h.rel h.pre h.frel h.fpre (by omega) (by omega) hv
theorem law_noneR (w : World) : Calls Tryz.prog 37 #[] w (SetBack 0 w [] []) := (rsnone_any w).mono fun _ _ h => SetBack.of h.set fit_nil fit_nil (Nat.le_refl _) (Nat.le_refl _) ValS.nil
end
end Go.Proofs.YtjceaniffooohaaGreatDoor
