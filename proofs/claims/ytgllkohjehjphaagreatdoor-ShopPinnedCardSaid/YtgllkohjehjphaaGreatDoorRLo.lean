import Derived.Test.YtgllkohjehjphaaGreatDoorRLk
set_option linter.unusedVariables false
set_option linter.unusedSimpArgs false
namespace Go.Proofs.YtgllkohjehjphaaGreatDoor
open Go.RowKit Go.Lib
open Rw
structure PinL where
 name:ByteArray
 shelf:ByteArray
def PinAt (w:World) (b o:Nat) (x:PinL):Prop:=w.cell? ⟨b,o,none⟩=some (.string x.name)∧w.cell? ⟨b,o+1,none⟩=some (.string x.shelf)
theorem PinAt.stays:o0 PinAt:=fun _ _ _ _ _ hl hb ⟨h1,h2⟩=>⟨zU hl hb h1,zU hl hb h2⟩
abbrev Z6 (w:World) (A:Option Addr) (l:List PinL):Prop:=RowOf 2 PinAt w A l
def ShelfAt (w:World) (b o:Nat) (x:ShelfL):Prop:=w.cell? ⟨b,o,none⟩=some (.string x.name)∧∃ A c,w.cell? ⟨b,o+1,none⟩=some (.slice A x.entries.length c)∧yL w A x.entries∧x.entries.length≤c
theorem ShelfAt.stays:o0 ShelfAt:=fun _ _ _ _ _ hl hb ⟨h1,A,c,h2,h3,h4⟩=>⟨zU hl hb h1,A,c,zU hl hb h2,h3.kb EntryAt.stays hb,h4⟩
abbrev xc (w:World) (A:Option Addr) (l:List ShelfL):Prop:=RowOf 2 ShelfAt w A l
def zd {α:Type} (q:α→Bool):Nat→List α→Int
 | _,[]=>-1
 | i,x::l=>if q x then (i:Int) else zd q (i+1) l
section
variable {α:Type} {q:α→Bool}
theorem uT:∀ (l:List α) (i:Nat),zd q i l=-1∨((i:Int)≤zd q i l∧zd q i l < i+l.length)
 | [],i => .inl rfl
 | x::l,i=>by
  rw [zd];cases q x
  ·rw [if_neg (by simp)];rcases uT l (i+1) with h | ⟨h1,h2⟩
   ·exact .inl h
   ·refine .inr ⟨by omega,?_⟩;rw [List.length_cons];omega
  ·rw [if_pos rfl];refine .inr ⟨Int.le_refl _,?_⟩;rw [List.length_cons];omega
theorem fQ:∀ (l m:List α) (i:Nat),zd q i (l++m)=if zd q i l < 0 then zd q (i+l.length) m else zd q i l
 | [],m,i=>by simp [zd]
 | x::l,m,i=>by
  rw [List.cons_append,zd,zd];cases h:q x
  ·simp only [Bool.false_eq_true,if_false];rw [fQ l m (i+1),List.length_cons,show i+(l.length+1)=i+1+l.length by omega]
  ·simp only [if_true];rw [if_neg (by omega)]
theorem p8 {l:List α} {k:Nat} (h:k < l.length):zd q k (l.drop k)=if q l[k] then (k:Int) else zd q (k+1) (l.drop (k+1)):=by
 rw [List.drop_eq_getElem_cons h,zd]
theorem mL {l:List α} {k:Nat} (h:l.length≤k):zd q k (l.drop k)=-1:=by
 rw [List.drop_eq_nil_of_le h,zd]
theorem Xn {l:List α} {k:Nat} (h:k < l.length) (hq:q l[k]=true):∀ i,0≤zd q i l∧zd q i l≤((i+k:Nat):Int):=by
 induction l generalizing k with
 | nil=>simp at h
 | cons x l ih =>
  intro i;rw [zd];cases hx:q x
  ·rw [if_neg (by simp)];rcases k with _ | k
   ·rw [List.getElem_cons_zero] at hq;rw [hx] at hq; cases hq
   ·rw [List.getElem_cons_succ] at hq;obtain ⟨h1,h2⟩:=ih (by simpa using h) hq (i+1);exact ⟨h1,by omega⟩
  ·rw [if_pos rfl];omega
end
def wj (l:List ShelfL):Nat→List ShelfL→Bool
 | _,[]=>true
 | i,s::r=>zQ z7 s&&decide (¬ zd (fun x=>yH x.name s.name) 0 l < (i:Int))&&wj l (i+1) r
def zw (l:List ShelfL):Bool:=decide (l.length≤4)&&wj l 0 l
def vt (l:List PinL) (i:Nat) (p:PinL):Bool:=match i with
 | 0=>true
 | j+1=>match l[j]? with
  | some q=>Op.bytesLess (bts q.name) (bts p.name)
  | none=>true
def sU (l:List PinL):Nat→List PinL→Bool
 | _,[]=>true
 | i,p::r=>zg (bts p.name)&&zg (bts p.shelf)&&vt l i p&&sU l (i+1) r
def wG (l:List PinL):Bool:=sU l 0 l
def ni (nm:ByteArray) (s:ShelfL):Bool:=decide (0≤zd (fun x:EntryL=>yH x.rc.name nm) 0 s.entries)
def xQ (l:List ShelfL) (p:List PinL) (nm:ByteArray):Int × Int :=
 if !zw l then (0,1) else if !wG p then (0,15) else
 match p[(zd (fun x:PinL=>yH x.name nm) 0 p).toNat]?,decide (0≤zd (fun x:PinL=>yH x.name nm) 0 p) with
 | some t,true=>if zd (fun x:ShelfL=>yH x.name t.shelf) 0 l < 0 then (0,12) else (zd (fun x:ShelfL=>yH x.name t.shelf) 0 l,0)
 | _,_=>if zd (ni nm) 0 l < 0 then (0,9) else (zd (ni nm) 0 l,0)
def fT (es:List EntryL) (i:Nat):List Nat→List Nat
 | []=>[i]
 | k::r=>match es[k]?,es[i]? with
  | some x,some y=>if xX x.rc.v y.rc.v < 0 then k::fT es i r else i::k::r
  | _,_=>i::k::r
def z8 (nm:ByteArray):Nat→List EntryL→List Nat
 | _,[]=>[]
 | i,x::l=>if yH x.rc.name nm then i::z8 nm (i+1) l else z8 nm (i+1) l
def tP (s:ShelfL) (nm:ByteArray):List Nat:=if zQ z7 s then (z8 nm 0 s.entries).foldl (fun l i=>fT s.entries i l) [] else []
def zm (l:List ShelfL) (p:List PinL) (nm:ByteArray):Int × List Nat × Int :=
 if (xQ l p nm).2=0 then (match l[(xQ l p nm).1.toNat]? with | some s=>((xQ l p nm).1,tP s nm,0) | none=>(0,[],0)) else (0,[],(xQ l p nm).2)
def tp (l:List Nat):List Int:=List.map (fun x:Nat=>(x:Int)) l
theorem sq {l:List ShelfL} {nm:ByteArray} (h:zw l=true):xQ l [] nm=if zd (ni nm) 0 l < 0 then (0,9) else (zd (ni nm) 0 l,0):=by
 rw [xQ,h];simp [wG,sU,zd]
theorem uS (b:ByteArray):yH b b=true:=by rw [yH,beq_iff_eq]
theorem rD {l:List ShelfL} {nm:ByteArray} (h:zw l=true):(zd (ni nm) 0 l < 0∧zm l [] nm=(0,[],9))∨∃ k:Nat,∃ hk:k < l.length,zd (ni nm) 0 l=(k:Int)∧zm l [] nm=((k:Int),tP l[k] nm,0):=by
 rcases uT (q:=ni nm) l 0 with e | ⟨e1,e2⟩
 ·refine .inl ⟨by omega,?_⟩;(have ef:xQ l [] nm=(0,9):=by rw [sq h,if_pos (by omega)]);rw [zm,ef];rfl
 ·(have hk:(zd (ni nm) 0 l).toNat < l.length:=by omega);(have ef:xQ l [] nm=(((zd (ni nm) 0 l).toNat:Int),0):=by rw [sq h,if_neg (by omega),Int.toNat_of_nonneg (by omega)]);refine .inr ⟨(zd (ni nm) 0 l).toNat,hk,by omega,?_⟩;rw [zm,ef];dsimp only;rw [if_pos rfl,Int.toNat_natCast,List.getElem?_eq_getElem hk]
theorem Y1 {l:List ShelfL} {z:ShelfL} {nm:ByteArray} (h:zw l=true) (h2:zw (l++[z])=true) :
 if (zm l [] nm).2.2≠0 then (zm l [] nm).2.2=9∧((zm (l++[z]) [] nm).2.2=9∨((zm (l++[z]) [] nm).2.2=0∧(zm (l++[z]) [] nm).1=(l.length:Int))) else (zm (l++[z]) [] nm).2.2=0∧(zm l [] nm).1=(zm (l++[z]) [] nm).1∧(zm l [] nm).2.1=(zm (l++[z]) [] nm).2.1:=by
 have ha:=fQ (q:=ni nm) l [z] 0
 rcases rD (nm:=nm) h with ⟨h0,e⟩ | ⟨k,hk,h0,e⟩
 ·rw [e,if_pos (by decide)];refine ⟨rfl,?_⟩;rw [if_pos h0,Nat.zero_add] at ha;rcases rD (nm:=nm) h2 with ⟨h3,e3⟩ | ⟨j,hj,h3,e3⟩
  ·rw [e3]; exact .inl rfl
  ·rw [e3];refine .inr ⟨rfl,?_⟩;rw [zd,zd] at ha;split at ha
   ·rw [← ha,h3]
   ·omega
 ·rw [e,if_neg (by simp)];rw [if_neg (by omega)] at ha;rcases rD (nm:=nm) h2 with ⟨h3,e3⟩ | ⟨j,hj,h3,e3⟩
  ·omega
  ·(obtain rfl:j=k:=by omega);rw [e3];refine ⟨rfl,rfl,?_⟩;dsimp only;rw [List.getElem_append_left hk]
theorem bL {l:List ShelfL} (h:zw l=true) {k:Nat} (hk:k < l.length):zd (fun x:ShelfL=>yH x.name l[k].name) 0 l=(k:Int):=by
 have hg:∀ (m:List ShelfL) (i:Nat),wj l i m=true→∀ (j:Nat) (hj:j < m.length),¬ zd (fun x:ShelfL=>yH x.name m[j].name) 0 l < ((i+j:Nat):Int):=by
  intro m;induction m with
  | nil=>intro i _ j hj; simp at hj
  | cons s r ih =>
   intro i hi j hj;rw [wj,Bool.and_eq_true,Bool.and_eq_true,decide_eq_true_eq] at hi;rcases j with _ | j
   ·exact hi.1.2
   ·have:=ih (i+1) hi.2 j (by simpa using hj);rw [List.getElem_cons_succ,show i+(j+1)=i+1+j by omega];exact this
 rw [zw,Bool.and_eq_true] at h;have h1:=hg l 0 h.2 k hk;have h2:=Xn (q:=fun x:ShelfL=>yH x.name l[k].name) hk (uS _) 0;omega
theorem ZS {l:List ShelfL} {nm zo no:ByteArray} (h:zw l=true) {k:Nat} (hk:k < l.length) (h0:zd (ni nm) 0 l=(k:Int)) (h1:zg (bts nm)=true) (h2:zg (bts zo)=true) (h3:zg (bts no)=true) (h4:yH zo nm=false) (h5:zg (bts l[k].name)=true):zm l [⟨nm,l[k].name⟩] nm=((k:Int),tP l[k] nm,0)∧zm l [⟨zo,no⟩] nm=((k:Int),tP l[k] nm,0):=by
 have e1:xQ l [⟨nm,l[k].name⟩] nm=((k:Int),0):=by
  rw [xQ,h];simp only [wG,sU,h1,h5,vt,Bool.and_self,Bool.not_true,Bool.false_eq_true,if_false,zd,uS,if_true];simp only [Int.natCast_zero,Int.toNat_zero,List.getElem?_cons_zero,Int.le_refl,decide_true];rw [bL h hk,if_neg (by omega)]
 have e2:xQ l [⟨zo,no⟩] nm=((k:Int),0):=by
  rw [xQ,h];simp only [wG,sU,h2,h3,vt,Bool.and_self,Bool.not_true,Bool.false_eq_true,if_false,zd,h4];rw [h0,if_neg (by omega)];simp
 constructor
 ·rw [zm,e1]; dsimp only; rw [if_pos rfl,Int.toNat_natCast,List.getElem?_eq_getElem hk]
 ·rw [zm,e2]; dsimp only; rw [if_pos rfl,Int.toNat_natCast,List.getElem?_eq_getElem hk]
theorem Y3 {l:List ShelfL} (h:zw l=true) {k:Nat} (hk:k < l.length):zQ z7 l[k]=true:=by
 have hg:∀ (m:List ShelfL) (i:Nat),wj l i m=true→∀ (j:Nat) (hj:j < m.length),zQ z7 m[j]=true:=by
  intro m;induction m with
  | nil=>intro i _ j hj; simp at hj
  | cons s r ih =>
   intro i hi j hj;rw [wj,Bool.and_eq_true,Bool.and_eq_true,decide_eq_true_eq] at hi;rcases j with _ | j
   ·exact hi.1.1
   ·exact ih (i+1) hi.2 j (by simpa using hj)
 rw [zw,Bool.and_eq_true] at h;exact hg l 0 h.2 k hk
theorem WZ {a b c:Ver} (ha:yF a=true) (hb:yF b=true) (hc:yF c=true) (h:¬ xX a b < 0) (k:¬ xX b c < 0):¬ xX a c < 0:=by
 intro e;have h1:=@pU b a hb ha;have h2:=@pU a b ha hb;rcases Int.lt_trichotomy (xX b a) 0 with q | q | q
 ·exact k (pt hb ha hc q e)
 ·exact k (by rw [jn hb ha hc q]; exact e)
 ·exact h (h2.2 q)
theorem bV {a b:Ver} (ha:yF a=true) (hb:yF b=true) (h:¬ xX b a < 0) (h2:xX a b≠0):xX a b < 0:=by
 have h1:=@pU b a hb ha;omega
theorem iL {r:RecL} (h:(z5 r).1=0):yF r.v=true:=by
 rw [z5] at h;split at h
 ·cases h
 ·split at h
  ·cases h
  ·rename_i k; simpa using k
theorem ev {x:EntryL} (h:vo z7 x.rc=(x.sum,0)):yF x.rc.v=true:=by
 rw [vo] at h;split at h
 ·rename_i k; exact iL k
 ·rename_i k
  (injection h with h1 h2);exact absurd h2 k
theorem hG:∀ {l ah:List EntryL},yA z7 ah l=true→∀ (j:Nat) (hj:j < l.length),vo z7 l[j].rc=(l[j].sum,0)∧zi (bts l[j].rc.name) l[j].rc.v 0 (ah++l.take j) < 0
 | [],ah,_,j,hj=>by simp at hj
 | x::l,ah,h,j,hj=>by
  rw [yA,Bool.and_eq_true,wD,Bool.and_eq_true,decide_eq_true_eq,decide_eq_true_eq] at h;rcases j with _ | j
  ·refine ⟨h.1.1,?_⟩;rw [List.getElem_cons_zero,List.take_zero,List.append_nil];exact h.1.2
  ·have:=hG h.2 j (by simpa using hj);rw [List.getElem_cons_succ,List.take_succ_cons];rw [List.append_assoc,List.singleton_append] at this;exact this
theorem nB {s:ShelfL} (h:zQ z7 s=true):yA z7 [] s.entries=true:=by
 rw [zQ,Bool.and_eq_true] at h;exact h.2
theorem tQ {s:ShelfL} (h:zQ z7 s=true) {i:Nat} (hi:i < s.entries.length):yF s.entries[i].rc.v=true:=ev (hG (nB h) i hi).1
theorem qw {a b:ByteArray}:yH a b=true↔bts a=bts b:=by rw [yH,beq_iff_eq,bts,bts]
theorem il {s:ShelfL} (h:zQ z7 s=true) {i j:Nat} (hij:i < j) (hj:j < s.entries.length) (hn:bts s.entries[i].rc.name=bts s.entries[j].rc.name):xX s.entries[i].rc.v s.entries[j].rc.v≠0:=by
 intro e;have k:=(hG (nB h) j hj).2;rw [List.nil_append,jp,List.all_eq_true] at k
 have hm:s.entries[i]∈s.entries.take j:=by
  rw [List.mem_take_iff_getElem];exact ⟨i,by omega,rfl⟩
 have:=k _ hm;rw [js,decide_eq_true hn,cJ,tQ h (by omega),tQ h hj,decide_eq_true e] at this;cases this
def RV (es:List EntryL) (i j:Nat):Prop:=∃ x y,es[i]?=some x∧es[j]?=some y∧xX x.rc.v y.rc.v < 0
theorem lC (es:List EntryL) (i:Nat):∀ l:List Nat,(fT es i l).Perm (i::l)
 | []=>List.Perm.refl _
 | k::r=>by
  rw [fT];split
  ·split
   ·exact ((lC es i r).cons k).trans (List.Perm.swap i k r)
   ·exact List.Perm.refl _
  ·exact List.Perm.refl _
theorem WJ {es:List EntryL} {i k:Nat} {l:List Nat}:k∈fT es i l↔k=i∨k∈l:=by
 rw [(lC es i l).mem_iff,List.mem_cons]
theorem aC {es:List EntryL} (V:∀ (i:Nat) x,es[i]?=some x→yF x.rc.v=true) {i j k:Nat} (h1:RV es i j) (h2:RV es j k):RV es i k:=by
 obtain ⟨x,y,e1,e2,h⟩:=h1;obtain ⟨y',z,e3,e4,h'⟩:=h2;rw [e2] at e3;(injection e3 with e3);subst e3;exact ⟨x,z,e1,e4,pt (V _ _ e1) (V _ _ e2) (V _ _ e4) h h'⟩
theorem az {es:List EntryL} (V:∀ (i:Nat) x,es[i]?=some x→yF x.rc.v=true) {i j:Nat} (h1:RV es i j) (h2:RV es j i):False:=by
 obtain ⟨x,z,e1,e2,h⟩:=aC V h1 h2;rw [e1] at e2;(injection e2 with e2);subst e2;rw [pD (V _ _ e1)] at h;omega
theorem kU {es:List EntryL} (V:∀ (i:Nat) x,es[i]?=some x→yF x.rc.v=true) {i:Nat}:∀ {l:List Nat},l.Pairwise (RV es)→(∀ k∈l,RV es k i∨RV es i k)→(fT es i l).Pairwise (RV es)
 | [],_,_=>by rw [fT]; exact List.pairwise_singleton _ _
 | k::r,h,ht=>by
  rw [List.pairwise_cons] at h;rcases ht k (by simp) with q | q
  ·obtain ⟨x,y,e1,e2,e3⟩:=id q;rw [fT,e1,e2];dsimp only;rw [if_pos e3,List.pairwise_cons];refine ⟨fun a ha=>?_,kU V h.2 fun a ha=>ht a (by simp [ha])⟩;rcases WJ.1 ha with rfl | ha
   ·exact q
   ·exact h.1 a ha
  ·have hn:fT es i (k::r)=i::k::r:=by
    obtain ⟨x,y,e1,e2,e3⟩:=id q;rw [fT,e2,e1];dsimp only;rw [if_neg];intro e4;exact az V q ⟨y,x,e2,e1,e4⟩
   rw [hn,List.pairwise_cons,List.pairwise_cons];refine ⟨fun a ha=>?_,h⟩;rcases List.mem_cons.1 ha with rfl | ha
   ·exact q
   ·exact aC V q (h.1 a ha)
theorem ao {es:List EntryL} (V:∀ (i:Nat) x,es[i]?=some x→yF x.rc.v=true):∀ (ps acc:List Nat),acc.Pairwise (RV es)→(acc++ps).Pairwise (fun a b=>RV es a b∨RV es b a)→(ps.foldl (fun l i=>fT es i l) acc).Perm (acc++ps)∧(ps.foldl (fun l i=>fT es i l) acc).Pairwise (RV es)
 | [],acc,h,_=>by
  rw [List.foldl_nil,List.append_nil];exact ⟨List.Perm.refl _,h⟩
 | p::ps,acc,h,ht=>by
  rw [List.foldl_cons];(have h1:∀ k∈acc,RV es k p∨RV es p k:=fun k hk=>(List.pairwise_append.1 ht).2.2 k hk p (by simp));have hp:=lC es p acc;have hpp:(fT es p acc++ps).Perm (acc++p::ps):=(hp.append_right ps).trans (List.perm_middle.symm);obtain ⟨g1,g2⟩:=ao V ps (fT es p acc) (kU V h h1) ((hpp.pairwise_iff (fun h=>h.symm)).2 ht);exact ⟨g1.trans hpp,g2⟩
theorem gM {R:Nat→Nat→Prop}:∀ {l m:List Nat},l.Perm m→l.Pairwise R→m.Pairwise R→(∀ a b,R a b→R b a→False)→l=m
 | [],m,h,_,_,_=>by rw [List.nil_perm.1 h]
 | a::l,[],h,_,_,_=>by simp at h
 | a::l,b::m,h,h1,h2,hx=>by
  rw [List.pairwise_cons] at h1 h2
  have e:a=b:=by
   have ha:a∈b::m:=h.mem_iff.1 (by simp);have hb:b∈a::l:=h.mem_iff.2 (by simp);rcases List.mem_cons.1 ha with e | ha
   ·exact e
   ·rcases List.mem_cons.1 hb with e | hb
    ·exact e.symm
    ·exact (hx _ _ (h1.1 b hb) (h2.1 a ha)).elim
  subst e;rw [gM (List.Perm.cons_inv h) h1.2 h2.2 hx]
theorem uL {nm:ByteArray}:∀ {l:List EntryL} {i j:Nat},j∈z8 nm i l→i≤j∧∃ h:j - i < l.length,yH l[j - i].rc.name nm=true
 | [],i,j,h=>by simp [z8] at h
 | x::l,i,j,h=>by
  rw [z8] at h
  have go:j∈z8 nm (i+1) l→i≤j∧∃ h:j - i < (x::l).length,yH (x::l)[j - i].rc.name nm=true:=fun h=>by
   obtain ⟨h1,h2,h3⟩:=uL h;refine ⟨by omega,by simp; omega,?_⟩;(have e:j - i=j - (i+1)+1:=by omega);simp only [e,List.getElem_cons_succ];exact h3
  split at h
  ·rename_i hx
   rcases List.mem_cons.1 h with rfl | h
   ·refine ⟨Nat.le_refl _,by simp,?_⟩;simp only [Nat.sub_self,List.getElem_cons_zero];exact hx
   ·exact go h
  ·exact go h
theorem sJ {nm:ByteArray}:∀ {l:List EntryL} {i:Nat},(z8 nm i l).Pairwise (· < ·)
 | [],i=>by rw [z8]; exact List.Pairwise.nil
 | x::l,i=>by
  rw [z8];split
  ·rw [List.pairwise_cons];exact ⟨fun a ha=>by have:=(uL ha).1; omega,sJ⟩
  ·exact sJ
theorem qN {s:ShelfL} (h:zQ z7 s=true) (nm:ByteArray):(z8 nm 0 s.entries).Pairwise (fun a b=>RV s.entries a b∨RV s.entries b a):=by
 refine (List.Pairwise.and_mem.1 sJ).imp ?_;rintro a b ⟨ha,hb,hab⟩;obtain ⟨-,h1,h2⟩:=uL ha;obtain ⟨-,h3,h4⟩:=uL hb;simp only [Nat.sub_zero] at h1 h2 h3 h4;have hn:bts s.entries[a].rc.name=bts s.entries[b].rc.name:=(qw.1 h2).trans (qw.1 h4).symm;have hne:=il h hab h3 hn;by_cases hc:xX s.entries[b].rc.v s.entries[a].rc.v < 0
 ·exact .inr ⟨_,_,List.getElem?_eq_getElem h3,List.getElem?_eq_getElem h1,hc⟩
 ·exact .inl ⟨_,_,List.getElem?_eq_getElem h1,List.getElem?_eq_getElem h3,bV (tQ h h1) (tQ h h3) hc hne⟩
theorem pd {s:ShelfL} (h:zQ z7 s=true):∀ (i:Nat) x,s.entries[i]?=some x→yF x.rc.v=true:=fun i x e=>by
 obtain ⟨hi,rfl⟩:=List.getElem?_eq_some_iff.1 e;exact tQ h hi
theorem gG {s:ShelfL} (h:zQ z7 s=true) (nm:ByteArray):(tP s nm).Perm (z8 nm 0 s.entries)∧(tP s nm).Pairwise (RV s.entries):=by
 rw [tP,if_pos h];have:=ao (pd h) (z8 nm 0 s.entries) [] List.Pairwise.nil (by rw [List.nil_append]; exact qN h nm)
 rwa [List.nil_append] at this
theorem ZU {s:ShelfL} (h:zQ z7 s=true) {nm:ByteArray} {d:List Nat} (hp:d.Perm (z8 nm 0 s.entries)) (hs:d.Pairwise fun a b=>∀ x y,s.entries[a]?=some x→s.entries[b]?=some y→0≤xX y.rc.v x.rc.v):d=tP s nm:=by
 obtain ⟨k1,k2⟩:=gG h nm;(refine gM (hp.trans k1.symm) ?_ k2 fun a b=>az (pd h));have ha:=(hp.pairwise_iff (fun h=>h.symm)).2 (qN h nm);refine (ha.and hs).imp ?_;rintro a b ⟨h1,h2⟩;rcases h1 with q | ⟨x,y,e1,e2,e3⟩
 ·exact q
 ·have:=h2 y x e2 e1;omega
end Go.Proofs.YtgllkohjehjphaaGreatDoor
