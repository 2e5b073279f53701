import Derived.Test.YtiebekmefjbenaaGreatDoorZLo
import Derived.Test.YtiebekmefjbenaaGreatDoorZMa
set_option linter.unusedVariables false
set_option linter.unusedSimpArgs false
namespace Go.Proofs.YtiebekmefjbenaaGreatDoor
open Go.RowKit Go.Lib
open Rw
theorem rq {w w':World} {A:Option Addr} {zs:List Int} (h:IntsAt w A zs) (hb:KB w.heap.size w w'):IntsAt w' A zs:=IntsAt.below (w:=und w) h (uf hb)
structure ShSt (w:World) (g B:Nat) (nm:ByteArray) (u:World) (A:Option Addr) (c:Nat) (es:List EntryL):Prop where
 own:Own w.heap.size u g [.string nm,.slice A es.length c]
 ents:yL (xH u B none) A es
 cap:es.length≤c
 may:zQ z7 ⟨nm,es⟩=true
 ok:EntsOk es
 res:Own w.heap.size u w.heap.size [.string ⟨#[]⟩,.slice none 0 0]
 kb:KB w.heap.size w u
 base:B≤u.heap.size
theorem ShSt.on {w u u':World} {g B:Nat} {nm:ByteArray} {A:Option Addr} {c:Nat} {es:List EntryL} (h:ShSt w g B nm u A c es) (hb:KB u.heap.size u u'):ShSt w g B nm u' A c es :=
 ⟨h.own.kb hb,RowOf.mono EntryAt.mono h.ents (rm hb),h.cap,h.may,h.ok,h.res.kb hb,zA h.kb hb,Nat.le_trans h.base hb.size⟩
theorem cg {es:List EntryL} {x:EntryL} (h:EntsOk es) (hf:x.rc.v.fit) (hs:∀ f∈x.rc.feats,yP f) (hl:es.length≤1000):EntsOk (es++[x]) :=
 ⟨fun y hy=>by
  rcases List.mem_append.1 hy with hy | hy
  ·exact h.fit y hy
  ·(rcases List.mem_singleton.1 hy with rfl);exact hf,fun y hy=>by
  rcases List.mem_append.1 hy with hy | hy
  ·exact h.small y hy
  ·rcases List.mem_singleton.1 hy with rfl
   exact hs,by rw [List.length_append,List.length_singleton]; omega⟩
theorem bZ {ps:List EP} {es:List EntryL} {x:EntryL} {n:Nat} (h:ps.map (·.1)=es++[x]) (hn:es.length=n) (hk:n < ps.length) (b:Bool):(ps.set n (({ ps[n].1 with yanked:=b }:EntryL),ps[n].2)).map (·.1)=es++[{ x with yanked:=b }]:=by
 have e:ps[n].1=x:=by
  (have:(ps.map (·.1))[n]?=some x:=by rw [h,← hn,List.getElem?_append_right (Nat.le_refl _)]; simp);rw [List.getElem?_map,List.getElem?_eq_getElem hk] at this;injection this
 rw [List.map_set,h,e,List.set_append_right _ _ (by omega),hn,Nat.sub_self];rfl
theorem Zk {α:Type} {n B g:Nat} {f:α→List Value} {w:World} {l:List α} (h:Lies n f w (some ⟨g,0,none⟩) l) (hB:B≤g):Lies n f (xH w B none) (some ⟨g,0,none⟩) l:=by
 rcases h with h | ⟨b,off,e,hlt,hc⟩
 ·exact .inl h
 ·(injection e with e);(injection e with e1 e2 e3);subst e1; subst e2;exact .inr ⟨g,0,rfl,by rw [xL]; exact hlt,fun i hi j u hj=>wQ.2 ⟨⟨hB,fun e=>by cases e⟩,hc i hi j u hj⟩⟩
theorem cX (w:World):RecLies w ⟨none,0,none,0,none,0⟩ jy:=⟨.inl rfl,.inl rfl,.inl rfl,by decide,by decide,by decide⟩
theorem fc (nm:ByteArray):EntsOk (shB nm).entries:=⟨(fun x hx=>by
 rcases List.mem_singleton.1 hx with rfl
 exact Xw 1 0 0),(fun x hx f hf=>by
 rcases List.mem_singleton.1 hx with rfl
 exact absurd hf (List.not_mem_nil)),by simp [shB]⟩
end Go.Proofs.YtiebekmefjbenaaGreatDoor
