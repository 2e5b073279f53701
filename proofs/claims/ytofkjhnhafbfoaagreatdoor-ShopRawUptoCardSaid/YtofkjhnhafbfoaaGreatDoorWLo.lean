import Derived.Test.YtofkjhnhafbfoaaGreatDoorSort
import Derived.Test.YtofkjhnhafbfoaaGreatDoorWLk
set_option linter.unusedVariables false
set_option linter.unusedSimpArgs false
namespace Go.Proofs.YtofkjhnhafbfoaaGreatDoor
open Go.RowKit Go.Lib
open Rw
structure PinL where
 name:ByteArray
 shelf:ByteArray
def PinAt (w:World) (b o:Nat) (x:PinL):Prop:=w.cell? ⟨b,o,none⟩=some (.string x.name)∧w.cell? ⟨b,o+1,none⟩=some (.string x.shelf)
theorem PinAt.stays:o0 PinAt:=fun _ _ _ _ _ hl hb ⟨h1,h2⟩=>⟨zU hl hb h1,zU hl hb h2⟩
abbrev Z6 (w:World) (A:Option Addr) (l:List PinL):Prop:=RowOf 2 PinAt w A l
def ShelfAt (w:World) (b o:Nat) (x:ShelfL):Prop:=w.cell? ⟨b,o,none⟩=some (.string x.name)∧∃ A c,w.cell? ⟨b,o+1,none⟩=some (.slice A x.entries.length c)∧yL w A x.entries∧x.entries.length≤c
theorem ShelfAt.stays:o0 ShelfAt:=fun _ _ _ _ _ hl hb ⟨h1,A,c,h2,h3,h4⟩=>⟨zU hl hb h1,A,c,zU hl hb h2,h3.kb EntryAt.stays hb,h4⟩
abbrev xc (w:World) (A:Option Addr) (l:List ShelfL):Prop:=RowOf 2 ShelfAt w A l
def zd {α:Type} (q:α→Bool):Nat→List α→Int
 | _,[]=>-1
 | i,x::l=>if q x then (i:Int) else zd q (i+1) l
section
variable {α:Type} {q:α→Bool}
theorem uT:∀ (l:List α) (i:Nat),zd q i l=-1∨((i:Int)≤zd q i l∧zd q i l < i+l.length)
 | [],i => .inl rfl
 | x::l,i=>by
  rw [zd];cases q x
  ·rw [if_neg (by simp)];rcases uT l (i+1) with h | ⟨h1,h2⟩
   ·exact .inl h
   ·refine .inr ⟨by omega,?_⟩;rw [List.length_cons];omega
  ·rw [if_pos rfl];refine .inr ⟨Int.le_refl _,?_⟩;rw [List.length_cons];omega
theorem p8 {l:List α} {k:Nat} (h:k < l.length):zd q k (l.drop k)=if q l[k] then (k:Int) else zd q (k+1) (l.drop (k+1)):=by
 rw [List.drop_eq_getElem_cons h,zd]
theorem mL {l:List α} {k:Nat} (h:l.length≤k):zd q k (l.drop k)=-1:=by
 rw [List.drop_eq_nil_of_le h,zd]
theorem Xn {l:List α} {k:Nat} (h:k < l.length) (hq:q l[k]=true):∀ i,0≤zd q i l∧zd q i l≤((i+k:Nat):Int):=by
 induction l generalizing k with
 | nil=>simp at h
 | cons x l ih =>
  intro i;rw [zd];cases hx:q x
  ·rw [if_neg (by simp)];rcases k with _ | k
   ·rw [List.getElem_cons_zero] at hq;rw [hx] at hq; cases hq
   ·rw [List.getElem_cons_succ] at hq;obtain ⟨h1,h2⟩:=ih (by simpa using h) hq (i+1);exact ⟨h1,by omega⟩
  ·rw [if_pos rfl];omega
end
def wj (l:List ShelfL):Nat→List ShelfL→Bool
 | _,[]=>true
 | i,s::r=>zQ z7 s&&decide (¬ zd (fun x=>yH x.name s.name) 0 l < (i:Int))&&wj l (i+1) r
def zw (l:List ShelfL):Bool:=decide (l.length≤4)&&wj l 0 l
def vt (l:List PinL) (i:Nat) (p:PinL):Bool:=match i with
 | 0=>true
 | j+1=>match l[j]? with
  | some q=>Op.bytesLess (bts q.name) (bts p.name)
  | none=>true
def sU (l:List PinL):Nat→List PinL→Bool
 | _,[]=>true
 | i,p::r=>zg (bts p.name)&&zg (bts p.shelf)&&vt l i p&&sU l (i+1) r
def wG (l:List PinL):Bool:=sU l 0 l
def ni (nm:ByteArray) (s:ShelfL):Bool:=decide (0≤zd (fun x:EntryL=>yH x.rc.name nm) 0 s.entries)
def xQ (l:List ShelfL) (p:List PinL) (nm:ByteArray):Int × Int :=
 if !zw l then (0,1) else if !wG p then (0,15) else
 match p[(zd (fun x:PinL=>yH x.name nm) 0 p).toNat]?,decide (0≤zd (fun x:PinL=>yH x.name nm) 0 p) with
 | some t,true=>if zd (fun x:ShelfL=>yH x.name t.shelf) 0 l < 0 then (0,12) else (zd (fun x:ShelfL=>yH x.name t.shelf) 0 l,0)
 | _,_=>if zd (ni nm) 0 l < 0 then (0,9) else (zd (ni nm) 0 l,0)
def fT (es:List EntryL) (i:Nat):List Nat→List Nat
 | []=>[i]
 | k::r=>match es[k]?,es[i]? with
  | some x,some y=>if xX x.rc.v y.rc.v < 0 then k::fT es i r else i::k::r
  | _,_=>i::k::r
def z8 (nm:ByteArray):Nat→List EntryL→List Nat
 | _,[]=>[]
 | i,x::l=>if yH x.rc.name nm then i::z8 nm (i+1) l else z8 nm (i+1) l
def tP (s:ShelfL) (nm:ByteArray):List Nat:=if zQ z7 s then (z8 nm 0 s.entries).foldl (fun l i=>fT s.entries i l) [] else []
def zm (l:List ShelfL) (p:List PinL) (nm:ByteArray):Int × List Nat × Int :=
 if (xQ l p nm).2=0 then (match l[(xQ l p nm).1.toNat]? with | some s=>((xQ l p nm).1,tP s nm,0) | none=>(0,[],0)) else (0,[],(xQ l p nm).2)
def tp (l:List Nat):List Int:=List.map (fun x:Nat=>(x:Int)) l
theorem sq {l:List ShelfL} {nm:ByteArray} (h:zw l=true):xQ l [] nm=if zd (ni nm) 0 l < 0 then (0,9) else (zd (ni nm) 0 l,0):=by
 rw [xQ,h];simp [wG,sU,zd]
theorem uS (b:ByteArray):yH b b=true:=by rw [yH,beq_iff_eq]
theorem WZ {a b c:Ver} (ha:yF a=true) (hb:yF b=true) (hc:yF c=true) (h:¬ xX a b < 0) (k:¬ xX b c < 0):¬ xX a c < 0:=by
 intro e;have h1:=@pU b a hb ha;have h2:=@pU a b ha hb;rcases Int.lt_trichotomy (xX b a) 0 with q | q | q
 ·exact k (pt hb ha hc q e)
 ·exact k (by rw [jn hb ha hc q]; exact e)
 ·exact h (h2.2 q)
theorem bV {a b:Ver} (ha:yF a=true) (hb:yF b=true) (h:¬ xX b a < 0) (h2:xX a b≠0):xX a b < 0:=by
 have h1:=@pU b a hb ha;omega
theorem iL {r:RecL} (h:(z5 r).1=0):yF r.v=true:=by
 rw [z5] at h;split at h
 ·cases h
 ·split at h
  ·cases h
  ·rename_i k; simpa using k
theorem ev {x:EntryL} (h:vo z7 x.rc=(x.sum,0)):yF x.rc.v=true:=by
 rw [vo] at h;split at h
 ·rename_i k; exact iL k
 ·rename_i k
  (injection h with h1 h2);exact absurd h2 k
theorem hG:∀ {l ah:List EntryL},yA z7 ah l=true→∀ (j:Nat) (hj:j < l.length),vo z7 l[j].rc=(l[j].sum,0)∧zi (bts l[j].rc.name) l[j].rc.v 0 (ah++l.take j) < 0
 | [],ah,_,j,hj=>by simp at hj
 | x::l,ah,h,j,hj=>by
  rw [yA,Bool.and_eq_true,wD,Bool.and_eq_true,decide_eq_true_eq,decide_eq_true_eq] at h;rcases j with _ | j
  ·refine ⟨h.1.1,?_⟩;rw [List.getElem_cons_zero,List.take_zero,List.append_nil];exact h.1.2
  ·have:=hG h.2 j (by simpa using hj);rw [List.getElem_cons_succ,List.take_succ_cons];rw [List.append_assoc,List.singleton_append] at this;exact this
theorem nB {s:ShelfL} (h:zQ z7 s=true):yA z7 [] s.entries=true:=by
 rw [zQ,Bool.and_eq_true] at h;exact h.2
theorem tQ {s:ShelfL} (h:zQ z7 s=true) {i:Nat} (hi:i < s.entries.length):yF s.entries[i].rc.v=true:=ev (hG (nB h) i hi).1
theorem qw {a b:ByteArray}:yH a b=true↔bts a=bts b:=by rw [yH,beq_iff_eq,bts,bts]
theorem il {s:ShelfL} (h:zQ z7 s=true) {i j:Nat} (hij:i < j) (hj:j < s.entries.length) (hn:bts s.entries[i].rc.name=bts s.entries[j].rc.name):xX s.entries[i].rc.v s.entries[j].rc.v≠0:=by
 intro e;have k:=(hG (nB h) j hj).2;rw [List.nil_append,jp,List.all_eq_true] at k
 have hm:s.entries[i]∈s.entries.take j:=by
  rw [List.mem_take_iff_getElem];exact ⟨i,by omega,rfl⟩
 have:=k _ hm;rw [js,decide_eq_true hn,cJ,tQ h (by omega),tQ h hj,decide_eq_true e] at this;cases this
end Go.Proofs.YtofkjhnhafbfoaaGreatDoor
namespace Go.Proofs.YtofkjhnhafbfoaaGreatDoor
open Go.RowKit Go.Lib Go.Shelf Go.Sort
open Rw
abbrev PlE (es:List EntryL):={i:Nat // i < es.length}
def Xx {es:List EntryL} (x:PlE es):Value := .int .i64 (x.1:Int)
theorem Wa {w w':World} (h:Below w.heap.size w w'):∃ q os',w'=grow (w.drewN q) os':=by
 refine ⟨w'.drawn - w.drawn,w'.heap.extract w.heap.size w'.heap.size,?_⟩;have h1:=h.drawn
 have h2:w'.heap=w.heap++w'.heap.extract w.heap.size w'.heap.size:=by
  apply Array.ext_getElem?;intro k;have hs:=h.size;rw [Array.getElem?_append];by_cases hk:k < w.heap.size
  ·rw [if_pos hk]; exact h.block k hk
  ·rw [if_neg hk,Array.getElem?_extract];by_cases hk2:k < w'.heap.size
   ·rw [if_pos (by omega)]; congr 1; omega
   ·rw [if_neg (by omega),Array.getElem?_eq_none (by omega)]
 have h3:=h.os;have h4:=h.tape;have h5:=h.output;cases w;cases w';simp only [grow,World.drewN] at h1 h2 h3 h4 h5 ⊢;subst h3; subst h4; subst h5;congr 1;omega
theorem UH {es:List EntryL} (hm:∀ (i:Nat) (x:EntryL),es[i]?=some x→yF x.rc.v=true):SWO (ltOf fun x y:PlE es=>xX es[x.1].rc.v es[y.1].rc.v) where
 irrefl x:=by simp [ltOf,pD (hm x.1 _ (List.getElem?_eq_getElem x.2))]
 trans x y z h1 h2:=by
  simp only [ltOf,decide_eq_true_eq] at *;exact pt (hm x.1 _ (List.getElem?_eq_getElem x.2)) (hm y.1 _ (List.getElem?_eq_getElem y.2)) (hm z.1 _ (List.getElem?_eq_getElem z.2)) h1 h2
 ntrans x y z h1 h2:=by
  simp only [ltOf,decide_eq_false_iff_not] at *;exact WZ (hm x.1 _ (List.getElem?_eq_getElem x.2)) (hm y.1 _ (List.getElem?_eq_getElem y.2)) (hm z.1 _ (List.getElem?_eq_getElem z.2)) h1 h2
section
variable {es:List EntryL} [Inhabited (PlE es)]
theorem sS {w:World} {g n:Nat} {d:Array (PlE es)} {os:Array Obj} (hg:g < w.heap.size):KB g w (sortWorld Xx w g 0 n d os):=by
 refine ⟨rfl,rfl,rfl,?_,fun k hk=>?_⟩
 ·show w.heap.size≤((w.heap.modify g _)++os).size;simp
 ·show ((w.heap.modify g _)++os)[k]?=_;rw [Array.getElem?_append_left (by simp; omega),Array.getElem?_modify,if_neg (by omega)]
end
def W4 (es:List EntryL) (g:Nat) (l:List Nat) (w:World) (e:Ending) (w':World):Prop :=
 e = .returned (.tuple #[])∧∃ d:List Nat,d.Perm l∧d.Pairwise (fun a b=>∀ x y,es[a]?=some x→es[b]?=some y→0≤xX y.rc.v x.rc.v)∧pz w' (some ⟨g,0,none⟩) (tp d)∧KB g w w'
theorem Vx (es:List EntryL) (l:List Nat) (hl:∀ i,i∈l→i < es.length):(l.pmap Subtype.mk hl).map (fun x:PlE es=>x.1)=l:=by
 rw [List.map_pmap]; simp
theorem ec (es:List EntryL) (F:Nat) (cb:Array Value) (g cap:Nat) (l:List Nat) (w:World) (hne:0 < l.length) (hl:∀ i,i∈l→i < es.length) (hm:∀ (i:Nat) (x:EntryL),es[i]?=some x→yF x.rc.v=true) (h:pz w (some ⟨g,0,none⟩) (tp l)) (hs:∀ j,w.frozen? ⟨g,j,none⟩=false) (hg:g < w.heap.size) (hln:l.length≤4398046511104)
 (eg:∀ args w,(callFunc F args).run Tryz.prog w = .ok (.enter F args) w)
 (hC:∀ u,KB g w u→∀ (i j:Nat) (hi:i < es.length) (hj:j < es.length),Calls Tryz.prog F (#[.int .i64 (i:Int),.int .i64 (j:Int)]++cb) u (sB u (xX es[i].rc.v es[j].rc.v))) :
 Calls Tryz.prog 73 #[.slice (some ⟨g,0,none⟩) l.length cap,.func (.func F) #[] cb] w (W4 es g l w):=by
 haveI:Inhabited (PlE es):=⟨⟨l[0],hl _ (List.getElem_mem _)⟩⟩
 have hd:(l.pmap Subtype.mk hl).toArray.size=l.length:=by simp
 have hH:Holds Xx w g 0 (l.pmap Subtype.mk hl).toArray:=by
  intro j hj;rw [hd] at hj;refine ⟨?_,hs _⟩;have:=(h.lay (k:=j) (by rw [tp,List.length_map]; exact hj)).2;unfold IntAtJ at this;rw [Nat.mul_one] at this;rw [this,getElem!_pos _ _ (by rw [hd]; exact hj)];simp [Xx,tp]
 have hv:(l.pmap Subtype.mk hl).toArray.toList.map (fun x:PlE es=>x.1)=l:=by rw [List.toList_toArray]; exact Vx es l hl
 generalize (l.pmap Subtype.mk hl).toArray=d at hd hH hv
 have hcmp:CmpLays1 Tryz.prog F cb Xx (fun x y:PlE es=>xX es[x.1].rc.v es[y.1].rc.v) g 0 d.size w:=fun m os dk _ x y =>
  (hC _ (sS hg) x.1 y.1 x.2 y.2).mono fun _ _ ⟨he,hb⟩=>⟨he,Wa hb⟩
 have hcon:=Any.slices_SortFunc Tryz.sortInt Xx (fun _=>rfl) (fun x y:PlE es=>xX es[x.1].rc.v es[y.1].rc.v) (UH hm) F cb g 0 cap d w eg hcmp hH hg (by omega)
 change Calls Tryz.prog 73 _ _ _ at hcon
 rw [hd] at hcon
 refine hcon.mono ?_
 rintro e w' ⟨rfl,d',n,os,hp,hso,rfl⟩
 obtain ⟨p1,_,p3⟩:=hp
 have q1:d'.extract 0 l.length=d':=by rw [← hd,← p1]; exact Array.extract_size
 have q2:d.extract 0 l.length=d:=by rw [← hd]; exact Array.extract_size
 rw [q1,q2] at p3
 have hp:=p3.map (fun x:PlE es=>x.1)
 rw [hv] at hp
 have hH':=holds_sortWorld Xx w g 0 n d d' os hg hH p1
 have hlen:d'.size=l.length:=by rw [p1,hd]
 refine ⟨rfl,d'.toList.map (fun x=>x.1),hp,?_,.inr ⟨g,0,rfl,Nat.lt_of_lt_of_le hg (sS (g:=g) hg).size,fun i hi=>?_⟩,sS hg⟩
 ·rw [List.pairwise_iff_getElem];intro i j hi hj hij x y hx hy;(have hi':i < d'.size:=by simpa using hi);(have hj':j < d'.size:=by simpa using hj);have:=hso i j (Nat.zero_le _) hij (by rw [← hd,← p1]; exact hj');rw [getElem!_pos d' i hi',getElem!_pos d' j hj'] at this;simp only [ltOf,decide_eq_false_iff_not] at this;simp only [List.getElem_map,Array.getElem_toList] at hx hy;rw [List.getElem?_eq_getElem d'[i].2] at hx;rw [List.getElem?_eq_getElem d'[j].2] at hy;(injection hx with hx);(injection hy with hy);subst hx; subst hy;exact Int.not_lt.1 this
 ·(have hi':i < d'.size:=by simpa [tp] using hi);have:=(hH' i hi').1;unfold IntAtJ;rw [Nat.mul_one,this,getElem!_pos d' i hi'];simp [Xx,tp]
theorem dI (A:Option Addr) (cap:Nat) (f:Value) (w:World):Calls Tryz.prog 73 #[.slice A 0 cap,f] w fun e w'=>e = .returned (.tuple #[])∧w'=w:=by
 have:=AnyF.slices_SortFunc_none (P:=Tryz.prog) (ρ:=Tryz.sortInt_ren) { Tryz.sortInt with } A cap f w;exact this
end Go.Proofs.YtofkjhnhafbfoaaGreatDoor
