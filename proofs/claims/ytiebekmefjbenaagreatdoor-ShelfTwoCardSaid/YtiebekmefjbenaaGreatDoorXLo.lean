import Derived.Shelf.SlSortCmp.WholeK
import Derived.Shelf.SlSortCmp.NoneTotal
import Derived.Test.YtiebekmefjbenaaGreatDoorSort
import Derived.Test.YtiebekmefjbenaaGreatDoorXLk
set_option linter.unusedVariables false
set_option linter.unusedSimpArgs false
namespace Go.Proofs.YtiebekmefjbenaaGreatDoor
open Go.RowKit Go.Lib
open Rw
def zd {α:Type} (q:α→Bool):Nat→List α→Int
 | _,[]=>-1
 | i,x::l=>if q x then (i:Int) else zd q (i+1) l
section
variable {α:Type} {q:α→Bool}
end
def wj (l:List ShelfL):Nat→List ShelfL→Bool
 | _,[]=>true
 | i,s::r=>zQ z7 s&&decide (¬ zd (fun x=>yH x.name s.name) 0 l < (i:Int))&&wj l (i+1) r
def zw (l:List ShelfL):Bool:=decide (l.length≤4)&&wj l 0 l
def fT (es:List EntryL) (i:Nat):List Nat→List Nat
 | []=>[i]
 | k::r=>match es[k]?,es[i]? with
  | some x,some y=>if xX x.rc.v y.rc.v < 0 then k::fT es i r else i::k::r
  | _,_=>i::k::r
def z8 (nm:ByteArray):Nat→List EntryL→List Nat
 | _,[]=>[]
 | i,x::l=>if yH x.rc.name nm then i::z8 nm (i+1) l else z8 nm (i+1) l
def tP (s:ShelfL) (nm:ByteArray):List Nat:=if zQ z7 s then (z8 nm 0 s.entries).foldl (fun l i=>fT s.entries i l) [] else []
def tp (l:List Nat):List Int:=List.map (fun x:Nat=>(x:Int)) l
theorem uS (b:ByteArray):yH b b=true:=by rw [yH,beq_iff_eq]
theorem WZ {a b c:Ver} (ha:yF a=true) (hb:yF b=true) (hc:yF c=true) (h:¬ xX a b < 0) (k:¬ xX b c < 0):¬ xX a c < 0:=by
 intro e;have h1:=@pU b a hb ha;have h2:=@pU a b ha hb;rcases Int.lt_trichotomy (xX b a) 0 with q | q | q
 ·exact k (pt hb ha hc q e)
 ·exact k (by rw [jn hb ha hc q]; exact e)
 ·exact h (h2.2 q)
theorem bV {a b:Ver} (ha:yF a=true) (hb:yF b=true) (h:¬ xX b a < 0) (h2:xX a b≠0):xX a b < 0:=by
 have h1:=@pU b a hb ha;omega
theorem iL {r:RecL} (h:(z5 r).1=0):yF r.v=true:=by
 rw [z5] at h;split at h
 ·cases h
 ·split at h
  ·cases h
  ·rename_i k; simpa using k
theorem ev {x:EntryL} (h:vo z7 x.rc=(x.sum,0)):yF x.rc.v=true:=by
 rw [vo] at h;split at h
 ·rename_i k; exact iL k
 ·rename_i k
  (injection h with h1 h2);exact absurd h2 k
theorem hG:∀ {l ah:List EntryL},yA z7 ah l=true→∀ (j:Nat) (hj:j < l.length),vo z7 l[j].rc=(l[j].sum,0)∧zi (bts l[j].rc.name) l[j].rc.v 0 (ah++l.take j) < 0
 | [],ah,_,j,hj=>by simp at hj
 | x::l,ah,h,j,hj=>by
  rw [yA,Bool.and_eq_true,wD,Bool.and_eq_true,decide_eq_true_eq,decide_eq_true_eq] at h;rcases j with _ | j
  ·refine ⟨h.1.1,?_⟩;rw [List.getElem_cons_zero,List.take_zero,List.append_nil];exact h.1.2
  ·have:=hG h.2 j (by simpa using hj);rw [List.getElem_cons_succ,List.take_succ_cons];rw [List.append_assoc,List.singleton_append] at this;exact this
theorem nB {s:ShelfL} (h:zQ z7 s=true):yA z7 [] s.entries=true:=by
 rw [zQ,Bool.and_eq_true] at h;exact h.2
theorem tQ {s:ShelfL} (h:zQ z7 s=true) {i:Nat} (hi:i < s.entries.length):yF s.entries[i].rc.v=true:=ev (hG (nB h) i hi).1
theorem qw {a b:ByteArray}:yH a b=true↔bts a=bts b:=by rw [yH,beq_iff_eq,bts,bts]
theorem il {s:ShelfL} (h:zQ z7 s=true) {i j:Nat} (hij:i < j) (hj:j < s.entries.length) (hn:bts s.entries[i].rc.name=bts s.entries[j].rc.name):xX s.entries[i].rc.v s.entries[j].rc.v≠0:=by
 intro e;have k:=(hG (nB h) j hj).2;rw [List.nil_append,jp,List.all_eq_true] at k
 have hm:s.entries[i]∈s.entries.take j:=by
  rw [List.mem_take_iff_getElem];exact ⟨i,by omega,rfl⟩
 have:=k _ hm;rw [js,decide_eq_true hn,cJ,tQ h (by omega),tQ h hj,decide_eq_true e] at this;cases this
end Go.Proofs.YtiebekmefjbenaaGreatDoor
namespace Go.Proofs.YtiebekmefjbenaaGreatDoor
open Go.RowKit Go.Lib Go.Shelf Go.Sort
open Rw
abbrev PlE (es:List EntryL):={i:Nat // i < es.length}
def Xx {es:List EntryL} (x:PlE es):Value := .int .i64 (x.1:Int)
theorem Wa {w w':World} (h:Below w.heap.size w w'):∃ q os',w'=grow (w.drewN q) os':=by
 refine ⟨w'.drawn - w.drawn,w'.heap.extract w.heap.size w'.heap.size,?_⟩;have h1:=h.drawn
 have h2:w'.heap=w.heap++w'.heap.extract w.heap.size w'.heap.size:=by
  apply Array.ext_getElem?;intro k;have hs:=h.size;rw [Array.getElem?_append];by_cases hk:k < w.heap.size
  ·rw [if_pos hk]; exact h.block k hk
  ·rw [if_neg hk,Array.getElem?_extract];by_cases hk2:k < w'.heap.size
   ·rw [if_pos (by omega)]; congr 1; omega
   ·rw [if_neg (by omega),Array.getElem?_eq_none (by omega)]
 have h3:=h.os;have h4:=h.tape;have h5:=h.output;cases w;cases w';simp only [grow,World.drewN] at h1 h2 h3 h4 h5 ⊢;subst h3; subst h4; subst h5;congr 1;omega
theorem UH {es:List EntryL} (hm:∀ (i:Nat) (x:EntryL),es[i]?=some x→yF x.rc.v=true):SWO (ltOf fun x y:PlE es=>xX es[x.1].rc.v es[y.1].rc.v) where
 irrefl x:=by simp [ltOf,pD (hm x.1 _ (List.getElem?_eq_getElem x.2))]
 trans x y z h1 h2:=by
  simp only [ltOf,decide_eq_true_eq] at *;exact pt (hm x.1 _ (List.getElem?_eq_getElem x.2)) (hm y.1 _ (List.getElem?_eq_getElem y.2)) (hm z.1 _ (List.getElem?_eq_getElem z.2)) h1 h2
 ntrans x y z h1 h2:=by
  simp only [ltOf,decide_eq_false_iff_not] at *;exact WZ (hm x.1 _ (List.getElem?_eq_getElem x.2)) (hm y.1 _ (List.getElem?_eq_getElem y.2)) (hm z.1 _ (List.getElem?_eq_getElem z.2)) h1 h2
section
variable {es:List EntryL} [Inhabited (PlE es)]
theorem sS {w:World} {g n:Nat} {d:Array (PlE es)} {os:Array Obj} (hg:g < w.heap.size):KB g w (sortWorld Xx w g 0 n d os):=by
 refine ⟨rfl,rfl,rfl,?_,fun k hk=>?_⟩
 ·show w.heap.size≤((w.heap.modify g _)++os).size;simp
 ·show ((w.heap.modify g _)++os)[k]?=_;rw [Array.getElem?_append_left (by simp; omega),Array.getElem?_modify,if_neg (by omega)]
end
def W4 (es:List EntryL) (g:Nat) (l:List Nat) (w:World) (e:Ending) (w':World):Prop :=
 e = .returned (.tuple #[])∧∃ d:List Nat,d.Perm l∧d.Pairwise (fun a b=>∀ x y,es[a]?=some x→es[b]?=some y→0≤xX y.rc.v x.rc.v)∧pz w' (some ⟨g,0,none⟩) (tp d)∧KB g w w'
theorem Vx (es:List EntryL) (l:List Nat) (hl:∀ i,i∈l→i < es.length):(l.pmap Subtype.mk hl).map (fun x:PlE es=>x.1)=l:=by
 rw [List.map_pmap]; simp
theorem ec (es:List EntryL) (F:Nat) (cb:Array Value) (g cap:Nat) (l:List Nat) (w:World) (hne:0 < l.length) (hl:∀ i,i∈l→i < es.length) (hm:∀ (i:Nat) (x:EntryL),es[i]?=some x→yF x.rc.v=true) (h:pz w (some ⟨g,0,none⟩) (tp l)) (hs:∀ j,w.frozen? ⟨g,j,none⟩=false) (hg:g < w.heap.size) (hln:l.length≤4398046511104)
 (eg:∀ args w,(callFunc F args).run Tryz.prog w = .ok (.enter F args) w)
 (hC:∀ u,KB g w u→∀ (i j:Nat) (hi:i < es.length) (hj:j < es.length),Calls Tryz.prog F (#[.int .i64 (i:Int),.int .i64 (j:Int)]++cb) u (sB u (xX es[i].rc.v es[j].rc.v))) :
 Calls Tryz.prog 38 #[.slice (some ⟨g,0,none⟩) l.length cap,.func (.func F) #[] cb] w (W4 es g l w):=by
 haveI:Inhabited (PlE es):=⟨⟨l[0],hl _ (List.getElem_mem _)⟩⟩
 have hd:(l.pmap Subtype.mk hl).toArray.size=l.length:=by simp
 have hH:Holds Xx w g 0 (l.pmap Subtype.mk hl).toArray:=by
  intro j hj;rw [hd] at hj;refine ⟨?_,hs _⟩;have:=(h.lay (k:=j) (by rw [tp,List.length_map]; exact hj)).2;unfold IntAtJ at this;rw [Nat.mul_one] at this;rw [this,getElem!_pos _ _ (by rw [hd]; exact hj)];simp [Xx,tp]
 have hv:(l.pmap Subtype.mk hl).toArray.toList.map (fun x:PlE es=>x.1)=l:=by rw [List.toList_toArray]; exact Vx es l hl
 generalize (l.pmap Subtype.mk hl).toArray=d at hd hH hv
 have hcmp:CmpLays1 Tryz.prog F cb Xx (fun x y:PlE es=>xX es[x.1].rc.v es[y.1].rc.v) g 0 d.size w:=fun m os dk _ x y =>
  (hC _ (sS hg) x.1 y.1 x.2 y.2).mono fun _ _ ⟨he,hb⟩=>⟨he,Wa hb⟩
 have hcon:=Any.slices_SortFunc Tryz.sortInt Xx (fun _=>rfl) (fun x y:PlE es=>xX es[x.1].rc.v es[y.1].rc.v) (UH hm) F cb g 0 cap d w eg hcmp hH hg (by omega)
 change Calls Tryz.prog 38 _ _ _ at hcon
 rw [hd] at hcon
 refine hcon.mono ?_
 rintro e w' ⟨rfl,d',n,os,hp,hso,rfl⟩
 obtain ⟨p1,_,p3⟩:=hp
 have q1:d'.extract 0 l.length=d':=by rw [← hd,← p1]; exact Array.extract_size
 have q2:d.extract 0 l.length=d:=by rw [← hd]; exact Array.extract_size
 rw [q1,q2] at p3
 have hp:=p3.map (fun x:PlE es=>x.1)
 rw [hv] at hp
 have hH':=holds_sortWorld Xx w g 0 n d d' os hg hH p1
 have hlen:d'.size=l.length:=by rw [p1,hd]
 refine ⟨rfl,d'.toList.map (fun x=>x.1),hp,?_,.inr ⟨g,0,rfl,Nat.lt_of_lt_of_le hg (sS (g:=g) hg).size,fun i hi=>?_⟩,sS hg⟩
 ·rw [List.pairwise_iff_getElem];intro i j hi hj hij x y hx hy;(have hi':i < d'.size:=by simpa using hi);(have hj':j < d'.size:=by simpa using hj);have:=hso i j (Nat.zero_le _) hij (by rw [← hd,← p1]; exact hj');rw [getElem!_pos d' i hi',getElem!_pos d' j hj'] at this;simp only [ltOf,decide_eq_false_iff_not] at this;simp only [List.getElem_map,Array.getElem_toList] at hx hy;rw [List.getElem?_eq_getElem d'[i].2] at hx;rw [List.getElem?_eq_getElem d'[j].2] at hy;(injection hx with hx);(injection hy with hy);subst hx; subst hy;exact Int.not_lt.1 this
 ·(have hi':i < d'.size:=by simpa [tp] using hi);have:=(hH' i hi').1;unfold IntAtJ;rw [Nat.mul_one,this,getElem!_pos d' i hi'];simp [Xx,tp]
theorem dI (A:Option Addr) (cap:Nat) (f:Value) (w:World):Calls Tryz.prog 38 #[.slice A 0 cap,f] w fun e w'=>e = .returned (.tuple #[])∧w'=w:=by
 have:=AnyF.slices_SortFunc_none (P:=Tryz.prog) (ρ:=Tryz.sortInt_ren) { Tryz.sortInt with } A cap f w;exact this
end Go.Proofs.YtiebekmefjbenaaGreatDoor
namespace Go.Proofs.YtiebekmefjbenaaGreatDoor
open Go.RowKit Go.Lib
open Rw
theorem eP:∀ (l ah m:List EntryL),yA z7 ah (l++m)=(yA z7 ah l&&yA z7 (ah++l) m)
 | [],ah,m=>by rw [List.nil_append,List.append_nil,yA,Bool.true_and]
 | x::l,ah,m=>by
  rw [List.cons_append,yA,yA,eP l (ah++[x]) m,Bool.and_assoc,List.append_assoc,List.singleton_append]
theorem kj {s:ShelfL} {r:RecL} (hp:(kS z7 s r).2=0):(kS z7 s r).1=⟨s.name,s.entries++[⟨r,(vo z7 r).1,false⟩]⟩∧s.entries.length < 64∧∀ b,zQ z7 ⟨s.name,s.entries++[⟨r,(vo z7 r).1,b⟩]⟩=true:=by
 have h1:zQ z7 s=true:=by
  cases h:zQ z7 s
  ·rw [Wn h] at hp; cases hp
  ·rfl
 have h2:(vo z7 r).2=0:=by
  rcases Decidable.em ((vo z7 r).2=0) with h | h
  ·exact h
  ·rw [VZ h1 h] at hp; exact hp
 (have h3:¬ 0≤zi (bts r.name) r.v 0 s.entries:=fun h=>by rw [Wk h1 h2 h] at hp; cases hp);(have h4:¬ 64≤s.entries.length:=fun h=>by rw [Wq h1 h2 h3 h] at hp; cases hp);refine ⟨by rw [WQ h1 h2 h3 h4],by omega,fun b=>?_⟩;rw [zQ,Bool.and_eq_true,Bool.and_eq_true] at h1;rw [zQ,eP,h1.1.1,h1.2];simp only [List.nil_append,yA,wD,List.length_append,List.length_singleton,Bool.and_true,Bool.true_and,Bool.and_eq_true,decide_eq_true_eq];refine ⟨by omega,?_,by omega⟩;rw [← h2]
def VC:Ver:=⟨1,0,0,⟨#[]⟩,⟨#[]⟩⟩
def cV:ByteArray:=⟨#[98]⟩
def ya:ByteArray:=⟨#[111,110,101]⟩
def jy:RecL:=⟨cV,VC,[],[],[]⟩
theorem ZB:(z5 jy).1=0:=by decide +kernel
theorem Wv {nm:ByteArray} (h:zg (bts nm)=true):kS z7 ⟨nm,[]⟩ jy=(⟨nm,[⟨jy,z7 (qp jy),false⟩]⟩,0):=by
 (have e:vo z7 jy=(z7 (qp jy),0):=by rw [vo,if_pos ZB]);(have hm:zQ z7 ⟨nm,[]⟩=true:=by rw [zQ,h]; rfl);rw [WQ hm (by rw [e]) (by rw [zi]; decide) (by simp),e];rfl
def shB (nm:ByteArray):ShelfL:=⟨nm,[⟨jy,z7 (qp jy),false⟩]⟩
theorem tK {nm:ByteArray} (h:zg (bts nm)=true):zQ z7 (shB nm)=true:=by
 have hp:=Wv h;have:=(kj (s:=⟨nm,[]⟩) (r:=jy) (by rw [hp])).2.2 false;(have e:vo z7 jy=(z7 (qp jy),0):=by rw [vo,if_pos ZB]);rw [e] at this;exact this
theorem one_mayQ {a:ShelfL} (ha:zQ z7 a=true):zw [a]=true:=by
 simp [zw,wj,zd,ha,uS]
end Go.Proofs.YtiebekmefjbenaaGreatDoor
