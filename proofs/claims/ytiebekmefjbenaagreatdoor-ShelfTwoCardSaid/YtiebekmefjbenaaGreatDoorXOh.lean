import Derived.Test.YtiebekmefjbenaaGreatDoorXNd
import Derived.Test.YtiebekmefjbenaaGreatDoorXNk
set_option linter.unusedVariables false
set_option linter.unusedSimpArgs false
namespace Go.Proofs.YtiebekmefjbenaaGreatDoor
open Go.RowKit Go.Lib
open Rw
theorem int_at {w:World} {A:Option Addr} {d:List Nat} {k:Nat} (h:pz w A (tp d)) (hk:k < d.length):∃ b off,A=some ⟨b,off,none⟩∧b < w.heap.size∧w.cell? ⟨b,off+k,none⟩=some (.int .i64 (d[k]:Int)):=by
 (have hk':k < (tp d).length:=by simpa [tp] using hk);obtain ⟨b,off,hA,hl,hc⟩:=RowOf.at_ h hk';unfold IntAtJ at hc;rw [Nat.mul_one] at hc;exact ⟨b,off,hA,hl,by rw [hc]; simp [tp]⟩
theorem sum_ok {r:RecL} (h:(z5 r).1=0):vo z7 r=(z7 (qp r),0):=by rw [vo,if_pos h]
theorem put_in {s:ShelfL} {r:RecL} (hm:zQ z7 s=true) (hr:(z5 r).1=0) (hl:s.entries.length < 64) (hp:zi (bts r.name) r.v 0 s.entries < 0):kS z7 s r=(⟨s.name,s.entries++[⟨r,z7 (qp r),false⟩]⟩,0):=by
 rw [WQ hm (by rw [sum_ok hr]) (by omega) (by omega),sum_ok hr]
theorem put_twice {s:ShelfL} {r:RecL} (hm:zQ z7 s=true) (hr:(z5 r).1=0) (hp:¬ zi (bts r.name) r.v 0 s.entries < 0):kS z7 s r=(⟨⟨#[]⟩,[]⟩,8):=Wk hm (by rw [sum_ok hr]) (by omega)
theorem put_may {nm:ByteArray} {l:List EntryL} {r:RecL} (hm:zQ z7 ⟨nm,l⟩=true) (hr:(z5 r).1=0) (hl:l.length < 64) (hp:zi (bts r.name) r.v 0 l < 0) (b:Bool):zQ z7 ⟨nm,l++[⟨r,z7 (qp r),b⟩]⟩=true:=by
 have:=(kj (s:=⟨nm,l⟩) (r:=r) (by rw [put_in hm hr hl hp])).2.2 b
 rwa [sum_ok hr] at this
theorem hit_sym {p q:EntryL}:js (bts p.rc.name) p.rc.v q=js (bts q.rc.name) q.rc.v p:=by
 unfold js cJ;by_cases h1:yF p.rc.v=true
 ·by_cases h2:yF q.rc.v=true
  ·rw [h1,h2];have a1:=@pU p.rc.v q.rc.v h1 h2;have a2:=@pU q.rc.v p.rc.v h2 h1;have e:(xX q.rc.v p.rc.v=0)=(xX p.rc.v q.rc.v=0):=propext (by omega);have e2:(bts q.rc.name=bts p.rc.name)=(bts p.rc.name=bts q.rc.name):=propext ⟨Eq.symm,Eq.symm⟩;rw [decide_eq_decide.2 (Iff.of_eq e),decide_eq_decide.2 (Iff.of_eq e2)]
  ·rw [Bool.not_eq_true _ |>.mp h2];simp
 ·rw [Bool.not_eq_true _ |>.mp h1];simp
theorem place_snoc {nm:List UInt8} {v:Ver} {l:List EntryL} {x:EntryL}:zi nm v 0 (l++[x]) < 0↔zi nm v 0 l < 0∧js nm v x=false:=by
 rw [jp,jp,List.all_append,Bool.and_eq_true];simp
theorem place_self {l:List EntryL} {x:EntryL} (h:yF x.rc.v=true):¬ zi (bts x.rc.name) x.rc.v 0 (l++[x]) < 0:=by
 rw [place_snoc];rintro ⟨-,e⟩;rw [js,cJ,h,pD h] at e;simp at e
theorem place_in {nm:List UInt8} {v:Ver} {l:List EntryL} {x:EntryL} (h:¬ zi nm v 0 l < 0):¬ zi nm v 0 (l++[x]) < 0:=fun e=>h (place_snoc.1 e).1
def told (s:ShelfL) (nm:ByteArray):List (Option EntryL):=(tP s nm).map fun i=>s.entries[i]?
theorem places_told {nm:ByteArray}:∀ (l ah:List EntryL),((z8 nm ah.length l).map fun i=>(ah++l)[i]?)=(l.filter fun x=>yH x.rc.name nm).map some
 | [],_=>rfl
 | x::l,ah=>by
  have h:=places_told (nm:=nm) l (ah++[x]);rw [List.length_append,List.length_singleton] at h;simp only [List.append_assoc,List.singleton_append] at h;rw [z8,List.filter_cons];split
  ·rw [List.map_cons,List.map_cons,h];simp
  ·exact h
theorem told_perm {s:ShelfL} (h:zQ z7 s=true) (nm:ByteArray):(told s nm).Perm ((s.entries.filter fun x=>yH x.rc.name nm).map some):=by
 have:=places_told (nm:=nm) s.entries [];rw [← this];exact (gG h nm).1.map _
def RO (a b:Option EntryL):Prop:=∃ x y,a=some x∧b=some y∧yF x.rc.v=true∧yF y.rc.v=true∧xX x.rc.v y.rc.v < 0
theorem told_rise {s:ShelfL} (h:zQ z7 s=true) (nm:ByteArray):(told s nm).Pairwise RO:=by
 rw [told,List.pairwise_map];refine (gG h nm).2.imp ?_;rintro a b ⟨x,y,e1,e2,e3⟩;exact ⟨x,y,e1,e2,pd h _ _ e1,pd h _ _ e2,e3⟩
theorem told_two {s t:ShelfL} (hs:zQ z7 s=true) (ht:zQ z7 t=true) (nm:ByteArray) (h:s.entries.Perm t.entries):told s nm=told t nm:=by
 refine List.Perm.eq_of_pairwise (le:=RO) ?_ (told_rise hs nm) (told_rise ht nm) ((told_perm hs nm).trans (((h.filter _).map some).trans (told_perm ht nm).symm));rintro a b - - ⟨x,y,rfl,rfl,h1,h2,h3⟩ ⟨z,u,e1,e2,-,-,h4⟩;(injection e1 with e1);(injection e2 with e2);subst e1; subst e2;have:=(pU h1 h2).1 h3;omega
theorem two_len {s t:ShelfL} (hs:zQ z7 s=true) (ht:zQ z7 t=true) (nm:ByteArray) (h:s.entries.Perm t.entries):(tP s nm).length=(tP t nm).length:=by
 have:=congrArg List.length (told_two hs ht nm h)
 rwa [told,told,List.length_map,List.length_map] at this
theorem two_at {s t:ShelfL} (hs:zQ z7 s=true) (ht:zQ z7 t=true) (nm:ByteArray) (h:s.entries.Perm t.entries) {i:Nat} (h1:i < (tP s nm).length) (h2:i < (tP t nm).length):∃ (k1:(tP s nm)[i] < s.entries.length) (k2:(tP t nm)[i] < t.entries.length),s.entries[(tP s nm)[i]]=t.entries[(tP t nm)[i]]:=by
 have e:=congrArg (fun l:List (Option EntryL)=>l[i]?) (told_two hs ht nm h);obtain ⟨k1,-⟩:=list_at hs nm h1;obtain ⟨k2,-⟩:=list_at ht nm h2;refine ⟨k1,k2,?_⟩;simp only [told,List.getElem?_map,List.getElem?_eq_getElem h1,List.getElem?_eq_getElem h2,Option.map_some] at e;rw [List.getElem?_eq_getElem k1,List.getElem?_eq_getElem k2] at e;(injection e with e);injection e with e
theorem two_puts {nm:ByteArray} {l:List EntryL} {p q:RecL} (hm:zQ z7 ⟨nm,l⟩=true) (hl:l.length < 60) (hp:(z5 p).1=0) (hq:(z5 q).1=0) :
 ((kS z7 ⟨nm,l⟩ p=(⟨nm,l++[⟨p,z7 (qp p),false⟩]⟩,0)∧kS z7 ⟨nm,l++[⟨p,z7 (qp p),false⟩]⟩ q=(⟨nm,l++[⟨p,z7 (qp p),false⟩]++[⟨q,z7 (qp q),false⟩]⟩,0)) ∧
  (kS z7 ⟨nm,l⟩ q=(⟨nm,l++[⟨q,z7 (qp q),false⟩]⟩,0)∧kS z7 ⟨nm,l++[⟨q,z7 (qp q),false⟩]⟩ p=(⟨nm,l++[⟨q,z7 (qp q),false⟩]++[⟨p,z7 (qp p),false⟩]⟩,0)) ∧
  zQ z7 ⟨nm,l++[⟨p,z7 (qp p),false⟩]++[⟨q,z7 (qp q),false⟩]⟩=true∧zQ z7 ⟨nm,l++[⟨q,z7 (qp q),false⟩]++[⟨p,z7 (qp p),false⟩]⟩=true) ∨
 (((kS z7 ⟨nm,l⟩ p).2=8∨(kS z7 (kS z7 ⟨nm,l⟩ p).1 q).2=8)∧((kS z7 ⟨nm,l⟩ q).2=8∨(kS z7 (kS z7 ⟨nm,l⟩ q).1 p).2=8)):=by
 have vp:=iL hp
 have vq:=iL hq
 by_cases h1:zi (bts p.name) p.v 0 l < 0
 ·have e1:=put_in (s:=⟨nm,l⟩) hm hp (by dsimp only; omega) h1;have m1:=put_may hm hp (by omega) h1 false;by_cases h2:zi (bts q.name) q.v 0 l < 0
  ·have e2:=put_in (s:=⟨nm,l⟩) hm hq (by dsimp only; omega) h2;have m2:=put_may hm hq (by omega) h2 false;by_cases h3:js (bts q.name) q.v ⟨p,z7 (qp p),false⟩=true
   ·have h4:js (bts p.name) p.v ⟨q,z7 (qp q),false⟩=true:=by
     rw [← h3];exact hit_sym (p:=⟨p,z7 (qp p),false⟩) (q:=⟨q,z7 (qp q),false⟩)
    refine .inr ⟨.inr ?_,.inr ?_⟩
    ·rw [e1,put_twice m1 hq];rw [place_snoc,h3];exact fun e=>by cases e.2
    ·rw [e2,put_twice m2 hp];rw [place_snoc,h4];exact fun e=>by cases e.2
   ·have h3':js (bts q.name) q.v ⟨p,z7 (qp p),false⟩=false:=Bool.not_eq_true _ |>.mp h3
    have h4:js (bts p.name) p.v ⟨q,z7 (qp q),false⟩=false:=by
     rw [← h3'];exact hit_sym (p:=⟨p,z7 (qp p),false⟩) (q:=⟨q,z7 (qp q),false⟩)
    have q1:=place_snoc.2 ⟨h2,h3'⟩;have q2:=place_snoc.2 ⟨h1,h4⟩;exact .inl ⟨⟨e1,put_in m1 hq (by dsimp only; rw [List.length_append,List.length_singleton]; omega) q1⟩,⟨e2,put_in m2 hp (by dsimp only; rw [List.length_append,List.length_singleton]; omega) q2⟩,put_may m1 hq (by rw [List.length_append,List.length_singleton]; omega) q1 false,put_may m2 hp (by rw [List.length_append,List.length_singleton]; omega) q2 false⟩
  ·refine .inr ⟨.inr ?_,.inl (by rw [put_twice hm hq h2])⟩;rw [e1,put_twice m1 hq (place_in h2)]
 ·refine .inr ⟨.inl (by rw [put_twice hm hp h1]),?_⟩;by_cases h2:zi (bts q.name) q.v 0 l < 0
  ·have e2:=put_in (s:=⟨nm,l⟩) hm hq (by dsimp only; omega) h2;have m2:=put_may hm hq (by omega) h2 false;refine .inr ?_;rw [e2,put_twice m2 hp (place_in h1)]
  ·exact .inl (by rw [put_twice hm hq h2])
theorem two_puts2 {nm:ByteArray} {l:List EntryL} {p q:RecL} (hm:zQ z7 ⟨nm,l⟩=true) (hl:l.length < 60) (hp:(z5 p).1=0) (hq:(z5 q).1=0) :
 (((kS z7 ⟨nm,l⟩ p).2=0∧(kS z7 (kS z7 ⟨nm,l⟩ p).1 q).2=0∧(kS z7 ⟨nm,l⟩ q).2=0∧(kS z7 (kS z7 ⟨nm,l⟩ q).1 p).2=0) ∧
  (kS z7 (kS z7 ⟨nm,l⟩ p).1 q).1=⟨nm,l++[⟨p,z7 (qp p),false⟩]++[⟨q,z7 (qp q),false⟩]⟩∧(kS z7 (kS z7 ⟨nm,l⟩ q).1 p).1=⟨nm,l++[⟨q,z7 (qp q),false⟩]++[⟨p,z7 (qp p),false⟩]⟩ ∧
  zQ z7 ⟨nm,l++[⟨p,z7 (qp p),false⟩]++[⟨q,z7 (qp q),false⟩]⟩=true∧zQ z7 ⟨nm,l++[⟨q,z7 (qp q),false⟩]++[⟨p,z7 (qp p),false⟩]⟩=true) ∨
 (((kS z7 ⟨nm,l⟩ p).2=8∨((kS z7 ⟨nm,l⟩ p).2=0∧(kS z7 (kS z7 ⟨nm,l⟩ p).1 q).2=8))∧((kS z7 ⟨nm,l⟩ q).2=8∨((kS z7 ⟨nm,l⟩ q).2=0∧(kS z7 (kS z7 ⟨nm,l⟩ q).1 p).2=8))):=by
 have code:∀ r,(z5 r).1=0→(kS z7 ⟨nm,l⟩ r).2=8∨(kS z7 ⟨nm,l⟩ r).2=0:=fun r hr=>by
  by_cases h:zi (bts r.name) r.v 0 l < 0
  ·exact .inr (by rw [put_in hm hr (by dsimp only; omega) h])
  ·exact .inl (by rw [put_twice hm hr h])
 rcases two_puts hm hl hp hq with ⟨⟨a1,a2⟩,⟨b1,b2⟩,c1,c2⟩ | ⟨a,b⟩
 ·exact .inl ⟨⟨by rw [a1],by rw [a1,a2],by rw [b1],by rw [b1,b2]⟩,by rw [a1,a2],by rw [b1,b2],c1,c2⟩
 ·refine .inr ⟨?_,?_⟩
  ·rcases code p hp with e | e
   ·exact .inl e
   ·exact .inr ⟨e,a.resolve_left (by rw [e]; decide)⟩
  ·rcases code q hq with e | e
   ·exact .inl e
   ·exact .inr ⟨e,b.resolve_left (by rw [e]; decide)⟩
theorem put_ok {s:ShelfL} {r:RecL} (hok:EntsOk s.entries) (hf:r.v.fit) (hs:∀ f∈r.feats,yP f) (hl:s.entries.length≤1000):EntsOk (kS z7 s r).1.entries:=by
 unfold kS;split
 ·exact fU
 ·split
  ·exact fU
  ·split
   ·exact fU
   ·split
    ·exact fU
    ·exact cg hok hf hs hl
theorem find_in {nm:ByteArray} {l:List EntryL} {p:RecL} {x:EntryL} {b:Bool} {s:Int} (hm:zQ z7 ⟨nm,l++[⟨p,s,b⟩]++[x]⟩=true) (hp:(z5 p).1=0):0≤findS z7 ⟨nm,l++[⟨p,s,b⟩]++[x]⟩ (bts p.name) p.v:=by
 rw [findS,hm,if_pos rfl];have:=place_in (x:=x) (place_self (l:=l) (x:=⟨p,s,b⟩) (iL hp));dsimp only at this ⊢;omega
end Go.Proofs.YtiebekmefjbenaaGreatDoor
