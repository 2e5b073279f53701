import Derived.Test.YtiebekmefjbenaaGreatDoorZLk
set_option linter.unusedVariables false
set_option linter.unusedSimpArgs false
namespace Go.Proofs.YtiebekmefjbenaaGreatDoor
open Go.RowKit Go.Lib
open Rw
def zd {α:Type} (q:α→Bool):Nat→List α→Int
 | _,[]=>-1
 | i,x::l=>if q x then (i:Int) else zd q (i+1) l
section
variable {α:Type} {q:α→Bool}
end
def wj (l:List ShelfL):Nat→List ShelfL→Bool
 | _,[]=>true
 | i,s::r=>zQ z7 s&&decide (¬ zd (fun x=>yH x.name s.name) 0 l < (i:Int))&&wj l (i+1) r
def zw (l:List ShelfL):Bool:=decide (l.length≤4)&&wj l 0 l
theorem uS (b:ByteArray):yH b b=true:=by rw [yH,beq_iff_eq]
theorem iL {r:RecL} (h:(z5 r).1=0):yF r.v=true:=by
 rw [z5] at h;split at h
 ·cases h
 ·split at h
  ·cases h
  ·rename_i k; simpa using k
theorem ev {x:EntryL} (h:vo z7 x.rc=(x.sum,0)):yF x.rc.v=true:=by
 rw [vo] at h;split at h
 ·rename_i k; exact iL k
 ·rename_i k
  (injection h with h1 h2);exact absurd h2 k
theorem hG:∀ {l ah:List EntryL},yA z7 ah l=true→∀ (j:Nat) (hj:j < l.length),vo z7 l[j].rc=(l[j].sum,0)∧zi (bts l[j].rc.name) l[j].rc.v 0 (ah++l.take j) < 0
 | [],ah,_,j,hj=>by simp at hj
 | x::l,ah,h,j,hj=>by
  rw [yA,Bool.and_eq_true,wD,Bool.and_eq_true,decide_eq_true_eq,decide_eq_true_eq] at h;rcases j with _ | j
  ·refine ⟨h.1.1,?_⟩;rw [List.getElem_cons_zero,List.take_zero,List.append_nil];exact h.1.2
  ·have:=hG h.2 j (by simpa using hj);rw [List.getElem_cons_succ,List.take_succ_cons];rw [List.append_assoc,List.singleton_append] at this;exact this
theorem nB {s:ShelfL} (h:zQ z7 s=true):yA z7 [] s.entries=true:=by
 rw [zQ,Bool.and_eq_true] at h;exact h.2
theorem tQ {s:ShelfL} (h:zQ z7 s=true) {i:Nat} (hi:i < s.entries.length):yF s.entries[i].rc.v=true:=ev (hG (nB h) i hi).1
end Go.Proofs.YtiebekmefjbenaaGreatDoor
namespace Go.Proofs.YtiebekmefjbenaaGreatDoor
open Go.RowKit Go.Lib
open Rw
end Go.Proofs.YtiebekmefjbenaaGreatDoor
namespace Go.Proofs.YtiebekmefjbenaaGreatDoor
open Go.RowKit Go.Lib
open Rw
theorem eP:∀ (l ah m:List EntryL),yA z7 ah (l++m)=(yA z7 ah l&&yA z7 (ah++l) m)
 | [],ah,m=>by rw [List.nil_append,List.append_nil,yA,Bool.true_and]
 | x::l,ah,m=>by
  rw [List.cons_append,yA,yA,eP l (ah++[x]) m,Bool.and_assoc,List.append_assoc,List.singleton_append]
theorem kj {s:ShelfL} {r:RecL} (hp:(kS z7 s r).2=0):(kS z7 s r).1=⟨s.name,s.entries++[⟨r,(vo z7 r).1,false⟩]⟩∧s.entries.length < 64∧∀ b,zQ z7 ⟨s.name,s.entries++[⟨r,(vo z7 r).1,b⟩]⟩=true:=by
 have h1:zQ z7 s=true:=by
  cases h:zQ z7 s
  ·rw [Wn h] at hp; cases hp
  ·rfl
 have h2:(vo z7 r).2=0:=by
  rcases Decidable.em ((vo z7 r).2=0) with h | h
  ·exact h
  ·rw [VZ h1 h] at hp; exact hp
 (have h3:¬ 0≤zi (bts r.name) r.v 0 s.entries:=fun h=>by rw [Wk h1 h2 h] at hp; cases hp);(have h4:¬ 64≤s.entries.length:=fun h=>by rw [Wq h1 h2 h3 h] at hp; cases hp);refine ⟨by rw [WQ h1 h2 h3 h4],by omega,fun b=>?_⟩;rw [zQ,Bool.and_eq_true,Bool.and_eq_true] at h1;rw [zQ,eP,h1.1.1,h1.2];simp only [List.nil_append,yA,wD,List.length_append,List.length_singleton,Bool.and_true,Bool.true_and,Bool.and_eq_true,decide_eq_true_eq];refine ⟨by omega,?_,by omega⟩;rw [← h2]
def VC:Ver:=⟨1,0,0,⟨#[]⟩,⟨#[]⟩⟩
def cV:ByteArray:=⟨#[98]⟩
def ya:ByteArray:=⟨#[111,110,101]⟩
def jy:RecL:=⟨cV,VC,[],[],[]⟩
theorem ZB:(z5 jy).1=0:=by decide +kernel
theorem Wv {nm:ByteArray} (h:zg (bts nm)=true):kS z7 ⟨nm,[]⟩ jy=(⟨nm,[⟨jy,z7 (qp jy),false⟩]⟩,0):=by
 (have e:vo z7 jy=(z7 (qp jy),0):=by rw [vo,if_pos ZB]);(have hm:zQ z7 ⟨nm,[]⟩=true:=by rw [zQ,h]; rfl);rw [WQ hm (by rw [e]) (by rw [zi]; decide) (by simp),e];rfl
def shB (nm:ByteArray):ShelfL:=⟨nm,[⟨jy,z7 (qp jy),false⟩]⟩
theorem tK {nm:ByteArray} (h:zg (bts nm)=true):zQ z7 (shB nm)=true:=by
 have hp:=Wv h;have:=(kj (s:=⟨nm,[]⟩) (r:=jy) (by rw [hp])).2.2 false;(have e:vo z7 jy=(z7 (qp jy),0):=by rw [vo,if_pos ZB]);rw [e] at this;exact this
theorem one_mayQ {a:ShelfL} (ha:zQ z7 a=true):zw [a]=true:=by
 simp [zw,wj,zd,ha,uS]
end Go.Proofs.YtiebekmefjbenaaGreatDoor
