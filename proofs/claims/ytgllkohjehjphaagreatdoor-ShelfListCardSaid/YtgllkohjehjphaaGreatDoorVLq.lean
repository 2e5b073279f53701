import Derived.Test.YtgllkohjehjphaaGreatDoorSort
import Derived.Test.YtgllkohjehjphaaGreatDoorVLk
import Derived.Test.YtgllkohjehjphaaGreatDoorVLo
set_option linter.unusedVariables false
set_option linter.unusedSimpArgs false
namespace Go.Proofs.YtgllkohjehjphaaGreatDoor
open Go.RowKit Go.Lib Go.Shelf Go.Sort
open Rw
abbrev PlE (es:List EntryL):={i:Nat // i < es.length}
def Xx {es:List EntryL} (x:PlE es):Value := .int .i64 (x.1:Int)
theorem Wa {w w':World} (h:Below w.heap.size w w'):∃ q os',w'=grow (w.drewN q) os':=by
 refine ⟨w'.drawn - w.drawn,w'.heap.extract w.heap.size w'.heap.size,?_⟩;have h1:=h.drawn
 have h2:w'.heap=w.heap++w'.heap.extract w.heap.size w'.heap.size:=by
  apply Array.ext_getElem?;intro k;have hs:=h.size;rw [Array.getElem?_append];by_cases hk:k < w.heap.size
  ·rw [if_pos hk]; exact h.block k hk
  ·rw [if_neg hk,Array.getElem?_extract];by_cases hk2:k < w'.heap.size
   ·rw [if_pos (by omega)]; congr 1; omega
   ·rw [if_neg (by omega),Array.getElem?_eq_none (by omega)]
 have h3:=h.os;have h4:=h.tape;have h5:=h.output;cases w;cases w';simp only [grow,World.drewN] at h1 h2 h3 h4 h5 ⊢;subst h3; subst h4; subst h5;congr 1;omega
theorem UH {es:List EntryL} (hm:∀ (i:Nat) (x:EntryL),es[i]?=some x→yF x.rc.v=true):SWO (ltOf fun x y:PlE es=>xX es[x.1].rc.v es[y.1].rc.v) where
 irrefl x:=by simp [ltOf,pD (hm x.1 _ (List.getElem?_eq_getElem x.2))]
 trans x y z h1 h2:=by
  simp only [ltOf,decide_eq_true_eq] at *;exact pt (hm x.1 _ (List.getElem?_eq_getElem x.2)) (hm y.1 _ (List.getElem?_eq_getElem y.2)) (hm z.1 _ (List.getElem?_eq_getElem z.2)) h1 h2
 ntrans x y z h1 h2:=by
  simp only [ltOf,decide_eq_false_iff_not] at *;exact WZ (hm x.1 _ (List.getElem?_eq_getElem x.2)) (hm y.1 _ (List.getElem?_eq_getElem y.2)) (hm z.1 _ (List.getElem?_eq_getElem z.2)) h1 h2
section
variable {es:List EntryL} [Inhabited (PlE es)]
theorem sS {w:World} {g n:Nat} {d:Array (PlE es)} {os:Array Obj} (hg:g < w.heap.size):KB g w (sortWorld Xx w g 0 n d os):=by
 refine ⟨rfl,rfl,rfl,?_,fun k hk=>?_⟩
 ·show w.heap.size≤((w.heap.modify g _)++os).size;simp
 ·show ((w.heap.modify g _)++os)[k]?=_;rw [Array.getElem?_append_left (by simp; omega),Array.getElem?_modify,if_neg (by omega)]
end
def W4 (es:List EntryL) (g:Nat) (l:List Nat) (w:World) (e:Ending) (w':World):Prop :=
 e = .returned (.tuple #[])∧∃ d:List Nat,d.Perm l∧d.Pairwise (fun a b=>∀ x y,es[a]?=some x→es[b]?=some y→0≤xX y.rc.v x.rc.v)∧pz w' (some ⟨g,0,none⟩) (tp d)∧KB g w w'
theorem Vx (es:List EntryL) (l:List Nat) (hl:∀ i,i∈l→i < es.length):(l.pmap Subtype.mk hl).map (fun x:PlE es=>x.1)=l:=by
 rw [List.map_pmap]; simp
theorem ec (es:List EntryL) (F:Nat) (cb:Array Value) (g cap:Nat) (l:List Nat) (w:World) (hne:0 < l.length) (hl:∀ i,i∈l→i < es.length) (hm:∀ (i:Nat) (x:EntryL),es[i]?=some x→yF x.rc.v=true) (h:pz w (some ⟨g,0,none⟩) (tp l)) (hs:∀ j,w.frozen? ⟨g,j,none⟩=false) (hg:g < w.heap.size) (hln:l.length≤4398046511104)
 (eg:∀ args w,(callFunc F args).run Tryz.prog w = .ok (.enter F args) w)
 (hC:∀ u,KB g w u→∀ (i j:Nat) (hi:i < es.length) (hj:j < es.length),Calls Tryz.prog F (#[.int .i64 (i:Int),.int .i64 (j:Int)]++cb) u (sB u (xX es[i].rc.v es[j].rc.v))) :
 Calls Tryz.prog 82 #[.slice (some ⟨g,0,none⟩) l.length cap,.func (.func F) #[] cb] w (W4 es g l w):=by
 haveI:Inhabited (PlE es):=⟨⟨l[0],hl _ (List.getElem_mem _)⟩⟩
 have hd:(l.pmap Subtype.mk hl).toArray.size=l.length:=by simp
 have hH:Holds Xx w g 0 (l.pmap Subtype.mk hl).toArray:=by
  intro j hj;rw [hd] at hj;refine ⟨?_,hs _⟩;have:=(h.lay (k:=j) (by rw [tp,List.length_map]; exact hj)).2;unfold IntAtJ at this;rw [Nat.mul_one] at this;rw [this,getElem!_pos _ _ (by rw [hd]; exact hj)];simp [Xx,tp]
 have hv:(l.pmap Subtype.mk hl).toArray.toList.map (fun x:PlE es=>x.1)=l:=by rw [List.toList_toArray]; exact Vx es l hl
 generalize (l.pmap Subtype.mk hl).toArray=d at hd hH hv
 have hcmp:CmpLays1 Tryz.prog F cb Xx (fun x y:PlE es=>xX es[x.1].rc.v es[y.1].rc.v) g 0 d.size w:=fun m os dk _ x y =>
  (hC _ (sS hg) x.1 y.1 x.2 y.2).mono fun _ _ ⟨he,hb⟩=>⟨he,Wa hb⟩
 have hcon:=Any.slices_SortFunc Tryz.sortInt Xx (fun _=>rfl) (fun x y:PlE es=>xX es[x.1].rc.v es[y.1].rc.v) (UH hm) F cb g 0 cap d w eg hcmp hH hg (by omega)
 change Calls Tryz.prog 82 _ _ _ at hcon
 rw [hd] at hcon
 refine hcon.mono ?_
 rintro e w' ⟨rfl,d',n,os,hp,hso,rfl⟩
 obtain ⟨p1,_,p3⟩:=hp
 have q1:d'.extract 0 l.length=d':=by rw [← hd,← p1]; exact Array.extract_size
 have q2:d.extract 0 l.length=d:=by rw [← hd]; exact Array.extract_size
 rw [q1,q2] at p3
 have hp:=p3.map (fun x:PlE es=>x.1)
 rw [hv] at hp
 have hH':=holds_sortWorld Xx w g 0 n d d' os hg hH p1
 have hlen:d'.size=l.length:=by rw [p1,hd]
 refine ⟨rfl,d'.toList.map (fun x=>x.1),hp,?_,.inr ⟨g,0,rfl,Nat.lt_of_lt_of_le hg (sS (g:=g) hg).size,fun i hi=>?_⟩,sS hg⟩
 ·rw [List.pairwise_iff_getElem];intro i j hi hj hij x y hx hy;(have hi':i < d'.size:=by simpa using hi);(have hj':j < d'.size:=by simpa using hj);have:=hso i j (Nat.zero_le _) hij (by rw [← hd,← p1]; exact hj');rw [getElem!_pos d' i hi',getElem!_pos d' j hj'] at this;simp only [ltOf,decide_eq_false_iff_not] at this;simp only [List.getElem_map,Array.getElem_toList] at hx hy;rw [List.getElem?_eq_getElem d'[i].2] at hx;rw [List.getElem?_eq_getElem d'[j].2] at hy;(injection hx with hx);(injection hy with hy);subst hx; subst hy;exact Int.not_lt.1 this
 ·(have hi':i < d'.size:=by simpa [tp] using hi);have:=(hH' i hi').1;unfold IntAtJ;rw [Nat.mul_one,this,getElem!_pos d' i hi'];simp [Xx,tp]
theorem dI (A:Option Addr) (cap:Nat) (f:Value) (w:World):Calls Tryz.prog 82 #[.slice A 0 cap,f] w fun e w'=>e = .returned (.tuple #[])∧w'=w:=by
 have:=AnyF.slices_SortFunc_none (P:=Tryz.prog) (ρ:=Tryz.sortInt_ren) { Tryz.sortInt with } A cap f w;exact this
end Go.Proofs.YtgllkohjehjphaaGreatDoor
