import Derived.Test.YtplmlahpmnjneaaGreatDoorNSb
import Derived.Test.YtplmlahpmnjneaaGreatDoorNBe
import Derived.Test.YtplmlahpmnjneaaGreatDoorNBf
namespace Go.Proofs.YtplmlahpmnjneaaGreatDoor
open Go.RowKit Go.Lib
open Rw
set_option linter.unusedVariables false
set_option linter.unusedSimpArgs false
set_option maxRecDepth 100000 in
set_option maxHeartbeats 1000000 in
theorem rssame_any (A B C D : Option Addr) (c d c2 d2 : Nat) (l m p q : List SpanL) (w : World) (hl : Spans w A l) (hm : Spans w B m) (hp : Spans w C p) (hq : Spans w D q)
    (hln : l.length ≤ 4398046511104) (hmn : m.length ≤ 4398046511104) (hpn : p.length ≤ 4398046511104) (hqn : q.length ≤ 4398046511104) :
    Calls Tryz.prog 20 #[setV A l.length c B m.length d, setV C p.length c2 D q.length d2] w (BoolPost w (sameS l m p q)) := by
  generalize hr : sameS l m p q = r
  have HR := hid hr
  have HB0 := hid (below_tr (below_new w (.cells [.slice A l.length c, .slice B m.length d].toArray 24)) (below_new _ (.cells [.slice C p.length c2, .slice D q.length d2].toArray 24)))
  have HC := hid (same_any A C c c2 l p _ (hl.below HB0.out) (hp.below HB0.out) hln hpn)
  have HD := hid (fun w' (h : Below w.heap.size w w') => same_any B D d d2 m q w' (hm.below h) (hq.below h) hmn hqn)
  clear hr hl hm hp hq
  generalize l.length = n at *
  generalize m.length = n2 at *
  generalize p.length = n3 at *
  generalize q.length = n4 at *
  cases h1 : sameR l p
  · go_enter Tryz.func20, Tryz.ntmps20
    go_wp2_with fail
    refine HC.out.mono ?_
    rintro _ w1 ⟨rfl, hb1⟩
    rw [h1]
    go_wp2_with fail
    go_ret
    exact ⟨by rw [← HR.out, sameS, h1]; rfl, below_tr HB0.out hb1⟩
  · go_enter Tryz.func20, Tryz.ntmps20
    go_wp2_with fail
    refine HC.out.mono ?_
    rintro _ w1 ⟨rfl, hb1⟩
    rw [h1]
    obtain ⟨hx, hy, hb1'⟩ := box_2 (cs := [.slice A n c, .slice B n2 d]) (ds := [.slice C n3 c2, .slice D n4 d2]) hb1
    obtain ⟨y0, y1⟩ := hx.get2
    obtain ⟨z0, z1⟩ := hy.get2
    have HB1 := hid hb1'
    clear hx hy hb1 hb1'
    go_wp2_with fail
    refine (HD.out _ HB1.out).mono ?_
    rintro _ w2 ⟨rfl, hb2⟩
    clear y0 y1 z0 z1
    go_wp2_with fail
    go_ret
    exact ⟨by rw [← HR.out, sameS, h1]; rfl, below_tr HB1.out hb2⟩
end Go.Proofs.YtplmlahpmnjneaaGreatDoor
namespace Go.Proofs.YtplmlahpmnjneaaGreatDoor
open Go.RowKit Go.Lib
open Rw
set_option linter.unusedVariables false
set_option linter.unusedSimpArgs false
section
variable {n n2 : Nat} {w : World} {A B C D : Option Addr} {l m p q : List SpanL} {v : Ver}
theorem law_sameR (c d c2 d2 : Nat) (h : SetAt n w A l B m) (k : SetAt n2 w C p D q) (hn : n + n2 ≤ 5000) : Calls Tryz.prog 20 #[setV A l.length c B m.length d, setV C p.length c2 D q.length d2] w (BoolPost w (sameS l m p q)) := by
  have h1 := h.nrel; have h2 := h.npre; have h3 := k.nrel; have h4 := k.npre
  exact rssame_any A B C D c d c2 d2 l m p q w h.rel h.pre k.rel k.pre (by omega) (by omega) (by omega) (by omega)
end
end Go.Proofs.YtplmlahpmnjneaaGreatDoor
