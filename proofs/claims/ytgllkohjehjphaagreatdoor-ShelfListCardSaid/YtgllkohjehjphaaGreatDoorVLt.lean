import Derived.Test.YtgllkohjehjphaaGreatDoorVLk
import Derived.Test.YtgllkohjehjphaaGreatDoorVLo
set_option linter.unusedVariables false
set_option linter.unusedSimpArgs false
namespace Go.Proofs.YtgllkohjehjphaaGreatDoor
open Go.RowKit Go.Lib
open Rw
theorem eP:∀ (l ah m:List EntryL),yA z7 ah (l++m)=(yA z7 ah l&&yA z7 (ah++l) m)
 | [],ah,m=>by rw [List.nil_append,List.append_nil,yA,Bool.true_and]
 | x::l,ah,m=>by
  rw [List.cons_append,yA,yA,eP l (ah++[x]) m,Bool.and_assoc,List.append_assoc,List.singleton_append]
theorem kj {s:ShelfL} {r:RecL} (hp:(kS z7 s r).2=0):(kS z7 s r).1=⟨s.name,s.entries++[⟨r,(vo z7 r).1,false⟩]⟩∧s.entries.length < 64∧∀ b,zQ z7 ⟨s.name,s.entries++[⟨r,(vo z7 r).1,b⟩]⟩=true:=by
 have h1:zQ z7 s=true:=by
  cases h:zQ z7 s
  ·rw [Wn h] at hp; cases hp
  ·rfl
 have h2:(vo z7 r).2=0:=by
  rcases Decidable.em ((vo z7 r).2=0) with h | h
  ·exact h
  ·rw [VZ h1 h] at hp; exact hp
 (have h3:¬ 0≤zi (bts r.name) r.v 0 s.entries:=fun h=>by rw [Wk h1 h2 h] at hp; cases hp);(have h4:¬ 64≤s.entries.length:=fun h=>by rw [Wq h1 h2 h3 h] at hp; cases hp);refine ⟨by rw [WQ h1 h2 h3 h4],by omega,fun b=>?_⟩;rw [zQ,Bool.and_eq_true,Bool.and_eq_true] at h1;rw [zQ,eP,h1.1.1,h1.2];simp only [List.nil_append,yA,wD,List.length_append,List.length_singleton,Bool.and_true,Bool.true_and,Bool.and_eq_true,decide_eq_true_eq];refine ⟨by omega,?_,by omega⟩;rw [← h2]
def VC:Ver:=⟨1,0,0,⟨#[]⟩,⟨#[]⟩⟩
def cV:ByteArray:=⟨#[98]⟩
def ya:ByteArray:=⟨#[111,110,101]⟩
def jy:RecL:=⟨cV,VC,[],[],[]⟩
theorem ZB:(z5 jy).1=0:=by decide +kernel
theorem Wv {nm:ByteArray} (h:zg (bts nm)=true):kS z7 ⟨nm,[]⟩ jy=(⟨nm,[⟨jy,z7 (qp jy),false⟩]⟩,0):=by
 (have e:vo z7 jy=(z7 (qp jy),0):=by rw [vo,if_pos ZB]);(have hm:zQ z7 ⟨nm,[]⟩=true:=by rw [zQ,h]; rfl);rw [WQ hm (by rw [e]) (by rw [zi]; decide) (by simp),e];rfl
def shB (nm:ByteArray):ShelfL:=⟨nm,[⟨jy,z7 (qp jy),false⟩]⟩
theorem tK {nm:ByteArray} (h:zg (bts nm)=true):zQ z7 (shB nm)=true:=by
 have hp:=Wv h;have:=(kj (s:=⟨nm,[]⟩) (r:=jy) (by rw [hp])).2.2 false;(have e:vo z7 jy=(z7 (qp jy),0):=by rw [vo,if_pos ZB]);rw [e] at this;exact this
theorem one_mayQ {a:ShelfL} (ha:zQ z7 a=true):zw [a]=true:=by
 simp [zw,wj,zd,ha,uS]
end Go.Proofs.YtgllkohjehjphaaGreatDoor
