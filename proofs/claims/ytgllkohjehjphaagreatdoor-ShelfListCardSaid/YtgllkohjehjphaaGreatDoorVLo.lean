import Derived.Deep.RegionLaw
import Derived.Shelf.Abstract
import Derived.Shelf.Strings.BuilderK
import Derived.Test.YtgllkohjehjphaaGreatDoorVJb
set_option linter.unusedVariables false
set_option linter.unusedSimpArgs false
namespace Go.Proofs.YtgllkohjehjphaaGreatDoor
open Go.RowKit Go.Lib
open Rw
structure PinL where
 name:ByteArray
 shelf:ByteArray
def zd {α:Type} (q:α→Bool):Nat→List α→Int
 | _,[]=>-1
 | i,x::l=>if q x then (i:Int) else zd q (i+1) l
section
variable {α:Type} {q:α→Bool}
end
def wj (l:List ShelfL):Nat→List ShelfL→Bool
 | _,[]=>true
 | i,s::r=>zQ z7 s&&decide (¬ zd (fun x=>yH x.name s.name) 0 l < (i:Int))&&wj l (i+1) r
def zw (l:List ShelfL):Bool:=decide (l.length≤4)&&wj l 0 l
def vt (l:List PinL) (i:Nat) (p:PinL):Bool:=match i with
 | 0=>true
 | j+1=>match l[j]? with
  | some q=>Op.bytesLess (bts q.name) (bts p.name)
  | none=>true
def sU (l:List PinL):Nat→List PinL→Bool
 | _,[]=>true
 | i,p::r=>zg (bts p.name)&&zg (bts p.shelf)&&vt l i p&&sU l (i+1) r
def wG (l:List PinL):Bool:=sU l 0 l
def ni (nm:ByteArray) (s:ShelfL):Bool:=decide (0≤zd (fun x:EntryL=>yH x.rc.name nm) 0 s.entries)
def xQ (l:List ShelfL) (p:List PinL) (nm:ByteArray):Int × Int :=
 if !zw l then (0,1) else if !wG p then (0,15) else
 match p[(zd (fun x:PinL=>yH x.name nm) 0 p).toNat]?,decide (0≤zd (fun x:PinL=>yH x.name nm) 0 p) with
 | some t,true=>if zd (fun x:ShelfL=>yH x.name t.shelf) 0 l < 0 then (0,12) else (zd (fun x:ShelfL=>yH x.name t.shelf) 0 l,0)
 | _,_=>if zd (ni nm) 0 l < 0 then (0,9) else (zd (ni nm) 0 l,0)
def fT (es:List EntryL) (i:Nat):List Nat→List Nat
 | []=>[i]
 | k::r=>match es[k]?,es[i]? with
  | some x,some y=>if xX x.rc.v y.rc.v < 0 then k::fT es i r else i::k::r
  | _,_=>i::k::r
def z8 (nm:ByteArray):Nat→List EntryL→List Nat
 | _,[]=>[]
 | i,x::l=>if yH x.rc.name nm then i::z8 nm (i+1) l else z8 nm (i+1) l
def tP (s:ShelfL) (nm:ByteArray):List Nat:=if zQ z7 s then (z8 nm 0 s.entries).foldl (fun l i=>fT s.entries i l) [] else []
def tp (l:List Nat):List Int:=List.map (fun x:Nat=>(x:Int)) l
theorem uS (b:ByteArray):yH b b=true:=by rw [yH,beq_iff_eq]
theorem WZ {a b c:Ver} (ha:yF a=true) (hb:yF b=true) (hc:yF c=true) (h:¬ xX a b < 0) (k:¬ xX b c < 0):¬ xX a c < 0:=by
 intro e;have h1:=@pU b a hb ha;have h2:=@pU a b ha hb;rcases Int.lt_trichotomy (xX b a) 0 with q | q | q
 ·exact k (pt hb ha hc q e)
 ·exact k (by rw [jn hb ha hc q]; exact e)
 ·exact h (h2.2 q)
theorem bV {a b:Ver} (ha:yF a=true) (hb:yF b=true) (h:¬ xX b a < 0) (h2:xX a b≠0):xX a b < 0:=by
 have h1:=@pU b a hb ha;omega
theorem iL {r:RecL} (h:(z5 r).1=0):yF r.v=true:=by
 rw [z5] at h;split at h
 ·cases h
 ·split at h
  ·cases h
  ·rename_i k; simpa using k
theorem ev {x:EntryL} (h:vo z7 x.rc=(x.sum,0)):yF x.rc.v=true:=by
 rw [vo] at h;split at h
 ·rename_i k; exact iL k
 ·rename_i k
  (injection h with h1 h2);exact absurd h2 k
theorem hG:∀ {l ah:List EntryL},yA z7 ah l=true→∀ (j:Nat) (hj:j < l.length),vo z7 l[j].rc=(l[j].sum,0)∧zi (bts l[j].rc.name) l[j].rc.v 0 (ah++l.take j) < 0
 | [],ah,_,j,hj=>by simp at hj
 | x::l,ah,h,j,hj=>by
  rw [yA,Bool.and_eq_true,wD,Bool.and_eq_true,decide_eq_true_eq,decide_eq_true_eq] at h;rcases j with _ | j
  ·refine ⟨h.1.1,?_⟩;rw [List.getElem_cons_zero,List.take_zero,List.append_nil];exact h.1.2
  ·have:=hG h.2 j (by simpa using hj);rw [List.getElem_cons_succ,List.take_succ_cons];rw [List.append_assoc,List.singleton_append] at this;exact this
theorem nB {s:ShelfL} (h:zQ z7 s=true):yA z7 [] s.entries=true:=by
 rw [zQ,Bool.and_eq_true] at h;exact h.2
theorem tQ {s:ShelfL} (h:zQ z7 s=true) {i:Nat} (hi:i < s.entries.length):yF s.entries[i].rc.v=true:=ev (hG (nB h) i hi).1
theorem qw {a b:ByteArray}:yH a b=true↔bts a=bts b:=by rw [yH,beq_iff_eq,bts,bts]
theorem il {s:ShelfL} (h:zQ z7 s=true) {i j:Nat} (hij:i < j) (hj:j < s.entries.length) (hn:bts s.entries[i].rc.name=bts s.entries[j].rc.name):xX s.entries[i].rc.v s.entries[j].rc.v≠0:=by
 intro e;have k:=(hG (nB h) j hj).2;rw [List.nil_append,jp,List.all_eq_true] at k
 have hm:s.entries[i]∈s.entries.take j:=by
  rw [List.mem_take_iff_getElem];exact ⟨i,by omega,rfl⟩
 have:=k _ hm;rw [js,decide_eq_true hn,cJ,tQ h (by omega),tQ h hj,decide_eq_true e] at this;cases this
end Go.Proofs.YtgllkohjehjphaaGreatDoor
