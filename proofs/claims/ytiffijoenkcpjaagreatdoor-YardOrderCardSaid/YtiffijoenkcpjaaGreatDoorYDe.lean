import Derived.Test.YtiffijoenkcpjaaGreatDoorYDc
set_option linter.unusedVariables false
set_option linter.unusedSimpArgs false
namespace Go.Proofs.YtiffijoenkcpjaaGreatDoor
open Go.RowKit Go.Lib
open Rw
section
variable {α:Type} {n:Nat} {f:α→List Value}
theorem lN (hf:∀ a,(f a).length=n):∀ (l:List α) (i j:Nat) (hi:i < l.length),j < n→(l.flatMap f)[i * n+j]?=(f l[i])[j]?
 | [],i,j,h,_=>by simp at h
 | a::l,0,j,_,hj=>by
  rw [List.flatMap_cons,List.getElem?_append_left (by rw [hf]; omega)];simp
 | a::l,i+1,j,h,hj=>by
  have ih:=lN hf l i j (by simpa using h) hj;rw [List.flatMap_cons,List.getElem?_append_right (by rw [hf,Nat.succ_mul]; omega),hf];(have e:(i+1) * n+j - n=i * n+j:=by rw [Nat.succ_mul]; omega);rw [e];exact ih
def OwnL (e:TypeId) (n:Nat) (f:α→List Value) (w:World) (base:Nat) (v:Value) (l:List α):Prop:=w.ownsRow base e n v l.length (l.flatMap f)
variable {e:TypeId} {w w':World} {base:Nat} {v:Value} {l:List α}
theorem OwnL.nil:OwnL e n f w base (.slice none 0 0) ([]:List α):=World.ownsRow_nil _ _ _ _
theorem OwnL.below (h:OwnL e n f w base v l) (hb:Below w.heap.size w w'):OwnL e n f w' base v l:=pC h hb
theorem OwnL.kb (h:OwnL e n f w base v l) (hb:KB w.heap.size w w'):OwnL e n f w' base v l:=tG h hb
theorem OwnL.lies (hf:∀ a,(f a).length=n) (h:OwnL e n f w base v l):∃ A cap,v = .slice A l.length cap∧Lies n f w A l∧(∀ ad,A=some ad→base≤ad.block∧v.ownBlock=some ad.block)∧(l.length≤cap):=by
 rcases h.2 with ⟨hv,h0⟩ | ⟨g,cap,cur,hv,hg,hh,hle,r⟩
 ·have:l=[]:=List.eq_nil_of_length_eq_zero h0;subst this;exact ⟨none,0,hv,.inl rfl,(fun ad h=>by cases h),Nat.le_refl _⟩
 ·have hlt:g < w.heap.size:=by
   rcases Nat.lt_or_ge g w.heap.size with h | h
   ·exact h
   ·rw [Array.getElem?_eq_none h] at hh; cases hh
  subst hv;refine ⟨some ⟨g,0,none⟩,cap,rfl,.inr ⟨g,0,rfl,hlt,fun i hi j u hj=>?_⟩,(fun ad had=>by injection had with had; subst had; exact ⟨hg,rfl⟩),hle⟩
  have hjn:j < n:=by
   rcases Nat.lt_or_ge j n with h' | h'
   ·exact h'
   ·rw [List.getElem?_eq_none (by rw [hf]; exact h')] at hj; cases hj
  have hb1:i * n+j < l.length * n:=by
   have:(i+1) * n≤l.length * n:=Nat.mul_le_mul_right _ hi;rw [Nat.succ_mul] at this;omega
  have:=World.ownsRow.cellAt h (i * n+j) hb1;rw [Nat.zero_add,this,lN hf l i j hi hjn];exact hj
theorem OwnL.snoc {a:α} {v':Value} (h:w'.ownsRow base e n v' (l.length+1) (l.flatMap f++f a)):OwnL e n f w' base v' (l++[a]):=by
 unfold OwnL;rw [List.length_append,List.flatMap_append];simpa using h
theorem Lies.grown {A:Option Addr} {row:Option Nat} (h:Lies n f w A l) (hg:w.grownBy w' row) (hne:∀ ad,A=some ad→some ad.block≠row):Lies n f w' A l:=by
 rcases h with h | ⟨b,off,rfl,hlt,hc⟩
 ·exact .inl h
 ·exact .inr ⟨b,off,rfl,Nat.lt_of_lt_of_le hlt hg.size,fun i hi j u hj=>(World.cell?_of_block (a:=⟨b,_,none⟩) (w:=w) (hg.block b hlt (hne _ rfl))).trans (hc i hi j u hj)⟩
theorem Lies.put {A:Option Addr} {k j:Nat} (h:Lies n f w A l) (hne:∀ ad,A=some ad→ad.block≠k) (x:Value):Lies n f (w.setCell ⟨k,j,none⟩ x) A l:=by
 rcases h with h | ⟨b,off,rfl,hlt,hc⟩
 ·exact .inl h
 ·exact .inr ⟨b,off,rfl,by rw [World.size_setCell]; exact hlt,fun i hi q u hq=>(vF (hne _ rfl) x).trans (hc i hi q u hq)⟩
end
theorem xr {w:World} {base size n:Nat} {e:TypeId} {v:Value} {xs:List Value} (h:w.ownsRow base e size v n xs):∃ A c,v = .slice A n c:=by
 rcases h.2 with ⟨hv,h0⟩ | ⟨g,cap,cur,hv,-⟩
 ·exact ⟨none,0,by rw [hv,h0]⟩
 ·exact ⟨_,_,hv⟩
theorem XW (c:CompL):c.cells.length=7:=rfl
theorem Vd (v:Value) (h:v.oneCell'=true):∀ u∈[v],u.oneCell'=true:=fun u hu=>by rw [List.mem_singleton.1 hu]; exact h
theorem V2 (c:CompL):∀ u∈c.cells,u.oneCell'=true:=by
 intro u hu;simp only [CompL.cells,List.mem_cons,List.not_mem_nil,or_false] at hu;rcases hu with rfl | rfl | rfl | rfl | rfl | rfl | rfl<;>rfl
theorem Tryz.info86:(Tryz.prog.info? 86).map (fun i=>(i.zero,i.size,i.bytes))=some (some wl.val,7,72):=by kernel_rfl
theorem Tryz.info147:(Tryz.prog.info? 147).map (fun i=>(i.zero,i.size,i.bytes))=some (some (.slice none 0 0),1,24):=by kernel_rfl
theorem cK:EK Tryz.prog 147 86 7 72 := .mk' _ Tryz.underlying147 Tryz.info86 rfl (by omega)
theorem ZT:EK Tryz.prog 100 147 1 24 := .mk' _ Tryz.underlying100 Tryz.info147 rfl (by omega)
abbrev Vb (w:World) (base:Nat) (v:Value) (l:List CompL):Prop:=OwnL 86 7 CompL.cells w base v l
def HeadsAt (w:World) (base:Nat) (v:Value) (r:List (List CompL)):Prop :=
 ∃ hs:List Value,hs.length=r.length∧w.ownsRow base 147 1 v r.length hs∧∀ i (h:i < r.length),∃ Ai ci,hs[i]?=some (.slice Ai r[i].length ci)∧rf w Ai r[i]∧(r[i]≠[]→∀ ad,Ai=some ad→base≤ad.block∧v.ownBlock≠some ad.block)
section
variable {w w':World} {base:Nat} {v:Value} {r:List (List CompL)}
theorem Yv {A:Option Addr} {l:List CompL} (h:rf w A l) (hne:l≠[]):∀ ad,A=some ad→ad.block < w.heap.size:=by
 intro ad had;rcases h with h | ⟨b,off,rfl,hl,-⟩
 ·exact absurd h hne
 ·injection had with had; subst had; exact hl
theorem HeadsAt.nil:HeadsAt w base (.slice none 0 0) []:=⟨[],rfl,World.ownsRow_nil _ _ _ _,fun i h=>by simp at h⟩
theorem HeadsAt.below (h:HeadsAt w base v r) (hb:Below w.heap.size w w'):HeadsAt w' base v r:=by
 obtain ⟨hs,h1,h2,h3⟩:=h;refine ⟨hs,h1,pC h2 hb,fun i hi=>?_⟩;obtain ⟨Ai,ci,h4,h5,h6⟩:=h3 i hi;exact ⟨Ai,ci,h4,h5.below hb,h6⟩
theorem HeadsAt.kb (h:HeadsAt w base v r) (hb:KB w.heap.size w w'):HeadsAt w' base v r:=HeadsAt.below (w:=und w) h (uf hb)
theorem ZN {A:Option Addr} {l:List CompL} {g j:Nat} (h:rf w A l) (hne:l≠[]→∀ ad,A=some ad→ad.block≠g) (x:Value):rf (w.setCell ⟨g,j,none⟩ x) A l:=by
 by_cases hl:l=[]
 ·exact .inl hl
 ·exact Lies.put h (hne hl) x
theorem HeadsAt.put {g j:Nat} (h:HeadsAt w base v r) (hg:g < base) (x:Value):HeadsAt (w.setCell ⟨g,j,none⟩ x) base v r:=by
 obtain ⟨hs,h1,h2,h3⟩:=h;refine ⟨hs,h1,oR (o:=j) (vs:=[x]) h2 (fun e=>by have:=(h2.lt _ e).1; omega),fun i hi=>?_⟩;obtain ⟨Ai,ci,h4,h5,h6⟩:=h3 i hi;exact ⟨Ai,ci,h4,ZN h5 (fun hl ad had=>by have:=(h6 hl ad had).1; omega) x,h6⟩
theorem HeadsAt.key {A:Option Addr} {l:List CompL} {v':Value} (hg:w.grownBy w' v.ownBlock) (hv:∀ k,v'.ownBlock=some k→v.ownBlock=some k∨w.heap.size≤k)
 (h:rf w A l) (hb:l≠[]→∀ ad,A=some ad→base≤ad.block∧v.ownBlock≠some ad.block):rf w' A l∧(l≠[]→∀ ad,A=some ad→base≤ad.block∧v'.ownBlock≠some ad.block):=by
 by_cases hl:l=[]
 ·exact ⟨.inl hl,fun e=>absurd hl e⟩
 ·refine ⟨h.grown hg (fun ad had e=>(hb hl ad had).2 e.symm),fun _ ad had=>⟨(hb hl ad had).1,fun e=>?_⟩⟩;rcases hv _ e with e2 | e2
  ·exact (hb hl ad had).2 e2
  ·have:=Yv h hl ad had; omega
theorem HeadsAt.snoc {a:List CompL} {Aa:Option Addr} {ca:Nat} {v':Value} {hs:List Value} (h1:hs.length=r.length)
 (h3:∀ i (h:i < r.length),∃ Ai ci,hs[i]?=some (.slice Ai r[i].length ci)∧rf w Ai r[i]∧(r[i]≠[]→∀ ad,Ai=some ad→base≤ad.block∧v.ownBlock≠some ad.block))
 (h2:w'.ownsRow base 147 1 v' (r.length+1) (hs++[.slice Aa a.length ca])) (hg:w.grownBy w' v.ownBlock) (hv:∀ k,v'.ownBlock=some k→v.ownBlock=some k∨w.heap.size≤k)
 (ha:rf w Aa a) (hab:a≠[]→∀ ad,Aa=some ad→base≤ad.block∧v.ownBlock≠some ad.block):HeadsAt w' base v' (r++[a]):=by
 refine ⟨hs++[.slice Aa a.length ca],by simp [h1],by rw [List.length_append]; exact h2,fun i hi=>?_⟩
 rcases Nat.lt_or_ge i r.length with k | k
 ·obtain ⟨Ai,ci,h4,h5,h6⟩:=h3 i k;have h7:=HeadsAt.key hg hv h5 h6;rw [List.getElem_append_left k];exact ⟨Ai,ci,by rw [List.getElem?_append_left (by omega)]; exact h4,h7.1,h7.2⟩
 ·(have hi2:i=r.length:=by simp at hi; omega);subst hi2;have h7:=HeadsAt.key hg hv ha hab;(have e:(r++[a])[r.length]=a:=by simp);rw [e];exact ⟨Aa,ca,by rw [← h1]; simp,h7.1,h7.2⟩
theorem HeadsAt.alts (h:HeadsAt w base v r):∃ A c,v = .slice A r.length c∧Alts w A r:=by
 obtain ⟨hs,h1,h2,h3⟩:=h;rcases h2.2 with ⟨hv,h0⟩ | ⟨g,cap,cur,hv,hg,hh,hle,-⟩
 ·have:r=[]:=List.eq_nil_of_length_eq_zero h0;subst this;exact ⟨none,0,hv,.inl rfl⟩
 ·have hlt:g < w.heap.size:=by
   rcases Nat.lt_or_ge g w.heap.size with h | h
   ·exact h
   ·rw [Array.getElem?_eq_none h] at hh; cases hh
  subst hv;refine ⟨some ⟨g,0,none⟩,cap,rfl,.inr ⟨g,0,rfl,hlt,fun i hi=>?_⟩⟩;obtain ⟨Ai,ci,h4,h5,-⟩:=h3 i hi;refine ⟨Ai,ci,?_,h5⟩;have:=World.ownsRow.cellAt h2 i (by omega);rw [Nat.zero_add,this];exact h4
end
def rP (r:List (List CompL)) (xs:List (List UInt8)):Option (List (List CompL)):=(vg xs).map (r++·)
def t4 (l:List CompL) (ys:List (List UInt8)):Option (List CompL):=(yq ys).map (l++·)
theorem oK (xs:List (List UInt8)):rP [] xs=vg xs:=by rw [rP]; cases vg xs<;>simp
theorem qX (ys:List (List UInt8)):t4 [] ys=yq ys:=by rw [t4]; cases yq ys<;>simp
theorem kx (r:List (List CompL)):rP r []=some r:=by simp [rP,vg]
theorem nG (l:List CompL):t4 l []=some l:=by simp [t4,yq]
theorem mI (r:List (List CompL)) (x:List UInt8) (xs:List (List UInt8)):rP r (x::xs)=match yq (zV 44 [] x) with | none=>none | some a=>rP (r++[a]) xs:=by
 rw [rP,vg];cases yq (zV 44 [] x) with
 | none=>rfl
 | some a =>
  simp only [rP];cases vg xs<;>simp
theorem pY (l:List CompL) (y:List UInt8) (ys:List (List UInt8)):t4 l (y::ys)=match wH (Lib.trimB y 32) with | none=>none | some c=>t4 (l++[c]) ys:=by
 rw [t4,yq];cases wH (Lib.trimB y 32) with
 | none=>rfl
 | some c =>
  simp only [t4];cases yq ys<;>simp
theorem ue (sep:List UInt8):∀ {ps:List (List UInt8)} {p:List UInt8},p∈ps→p.length≤(zT sep ps).length
 | [q],p,h=>by rw [List.mem_singleton.1 h]; exact Nat.le_refl _
 | q::r::t,p,h=>by
  rcases List.mem_cons.1 h with rfl | h
  ·simp only [zT,List.length_append]; omega
  ·have:=ue sep h;simp only [zT,List.length_append] at this ⊢;omega
theorem uD {b:UInt8} {l p:List UInt8} (h:p∈zV b [] l):p.length≤l.length:=by
 have:=ue [b] h
 rwa [xz,List.nil_append] at this
theorem uo {l p:List UInt8} (h:p∈yZ [] l):p.length≤l.length:=by
 have:=ue [124,124] h
 rwa [(qu l [] (fun j hj=>by simp at hj)).2,List.nil_append] at this
theorem pL (l:List UInt8) (c:UInt8):(Lib.trimB l c).length≤l.length:=by
 rw [← kT]
 have h1:∀ m:List UInt8,(Lib.trimLeftB m c).length≤m.length:=fun m=>by
  rw [mq];exact (List.dropWhile_sublist _).length_le
 have h2:∀ m:List UInt8,(Lib.trimRightB m c).length≤m.length:=fun m=>by
  have:∀ (n:Nat) (m:List UInt8),m.length=n→(Lib.trimRightB m c).length≤m.length:=by
   intro n;induction n with
   | zero=>intro m hm; rw [List.eq_nil_of_length_eq_zero hm]; exact Nat.le_refl _
   | succ n ih =>
    intro m hm;(have hne:m≠[]:=fun e=>by rw [e] at hm; cases hm);have e:=List.dropLast_concat_getLast hne;rw [← e,xB];split
    ·have:=ih m.dropLast (by rw [List.length_dropLast,hm]; rfl);rw [List.length_append];simp only [List.length_singleton];omega
    ·exact Nat.le_refl _
  exact this _ m rfl
 have a1:=h2 (Lib.trimLeftB l c);have a2:=h1 l;omega
theorem nt:∀ {ys:List (List UInt8)} {l:List CompL},(∀ y∈ys,y.length≤1000000)→yq ys=some l→∀ c∈l,c.fit
 | [],l,_,h,c,hc=>by
  simp only [yq,Option.some.injEq] at h;subst h; simp at hc
 | y::ys,l,hy,h,c,hc=>by
  rw [yq] at h;cases hp:wH (Lib.trimB y 32) with
  | none=>rw [hp] at h; cases h
  | some d =>
   rw [hp] at h;cases hq:yq ys with
   | none=>rw [hq] at h; cases h
   | some m =>
    rw [hq] at h;simp only [Option.some.injEq] at h;subst h;rcases List.mem_cons.1 hc with rfl | hc
    ·refine bc hp ?_;have:=pL y 32;have:=hy y (by simp);omega
    ·exact nt (fun z hz=>hy z (List.mem_cons_of_mem _ hz)) hq c hc
theorem sT:∀ {xs:List (List UInt8)} {r:List (List CompL)},(∀ x∈xs,x.length≤1000000)→vg xs=some r→Z7 r
 | [],r,_,h=>by
  simp only [vg,Option.some.injEq] at h;subst h; intro a ha; simp at ha
 | x::xs,r,hx,h=>by
  rw [vg] at h;cases hp:yq (zV 44 [] x) with
  | none=>rw [hp] at h; cases h
  | some d =>
   rw [hp] at h;cases hq:vg xs with
   | none=>rw [hq] at h; cases h
   | some m =>
    rw [hq] at h;simp only [Option.some.injEq] at h;subst h;intro a ha;rcases List.mem_cons.1 ha with rfl | ha
    ·exact nt (fun y hy=>by have:=uD hy; have:=hx x (by simp); omega) hp
    ·exact sT (fun z hz=>hx z (List.mem_cons_of_mem _ hz)) hq a ha
theorem nj:∀ {ys:List (List UInt8)} {l:List CompL},yq ys=some l→l.length=ys.length
 | [],l,h=>by
  simp only [yq,Option.some.injEq] at h;subst h; rfl
 | y::ys,l,h=>by
  rw [yq] at h;cases hp:wH (Lib.trimB y 32) with
  | none=>rw [hp] at h; cases h
  | some d =>
   rw [hp] at h;cases hq:yq ys with
   | none=>rw [hq] at h; cases h
   | some m =>
    rw [hq] at h;simp only [Option.some.injEq] at h;subst h;simp [nj hq]
theorem oV:∀ {xs:List (List UInt8)} {r:List (List CompL)} {B:Nat},(∀ x∈xs,x.length≤B)→vg xs=some r→r.length=xs.length∧∀ a∈r,a.length≤B+1
 | [],r,_,_,h=>by
  simp only [vg,Option.some.injEq] at h;subst h; exact ⟨rfl,fun a ha=>by simp at ha⟩
 | x::xs,r,B,hx,h=>by
  rw [vg] at h;cases hp:yq (zV 44 [] x) with
  | none=>rw [hp] at h; cases h
  | some d =>
   rw [hp] at h;cases hq:vg xs with
   | none=>rw [hq] at h; cases h
   | some m =>
    rw [hq] at h;simp only [Option.some.injEq] at h;subst h;have ih:=oV (fun z hz=>hx z (List.mem_cons_of_mem _ hz)) hq;refine ⟨by simp [ih.1],fun a ha=>?_⟩;rcases List.mem_cons.1 ha with rfl | ha
    ·have h1:=nj hp;have h2:=(zk 44 x []).2;have h3:=hx x (by simp);omega
    ·exact ih.2 a ha
theorem oq {s:List UInt8} (h:96 < s.length):yB s=([],3):=by rw [yB,if_pos h]
theorem pK {s:List UInt8} (h:¬ 96 < s.length) (h2:vg (yZ [] s)=none):yB s=([],6):=by rw [yB,if_neg h,h2]
theorem oN {s:List UInt8} (h:¬ 96 < s.length) {r:List (List CompL)} (h2:vg (yZ [] s)=some r):yB s=if tD r then (if (xd r).length≤96 then (r,0) else ([],3)) else ([],6):=by rw [yB,if_neg h,h2]
theorem parseG_fit (s:List UInt8):Z7 (yB s).1:=by
 (have nil:Z7 []:=fun a ha=>by simp at ha);by_cases h:96 < s.length
 ·rw [oq h]; exact nil
 ·cases h2:vg (yZ [] s) with
  | none=>rw [pK h h2]; exact nil
  | some r =>
   rw [oN h h2];have:=sT (fun x hx=>by have:=uo hx; omega) h2;split
   ·split
    ·exact this
    ·exact nil
   ·exact nil
def Wc (w:World) (p:List (List CompL) × Int) (e:Ending) (w':World):Prop:=∃ A c,e = .returned (.tuple #[wL A p.1.length c,.int .i64 p.2])∧Alts w' A p.1∧KB w.heap.size w w'
theorem vI {w w':World} {n:Int} (h:KB w.heap.size w w'):Wc w ([],n) (.returned (.tuple #[wL none 0 0,.int .i64 n])) w':=⟨none,0,rfl,.nil,h⟩
structure PW (w:World) (B g2 g4 gp:Nat) (xs:List (List UInt8)) (v:Value) (r:List (List CompL)) (u:World):Prop where
 below:KB w.heap.size w u
 o2:Own w.heap.size u g2 [.slice none 0 0]
 o4:Own w.heap.size u g4 [v]
 held:Held u gp xs
 heads:HeadsAt u B v r
 lo2:g2 < B
 lo4:g4 < B
 lop:gp < B
 ne:g2≠g4
 nep:gp≠g4
 size:B≤u.heap.size
theorem Held.kb {w w':World} {g:Nat} {ls:List (List UInt8)} (h:Held w g ls) (hb:KB w.heap.size w w'):Held w' g ls:=Held.below (w:=und w) h (uf hb)
theorem PW.kb {w u u':World} {B g2 g4 gp:Nat} {xs:List (List UInt8)} {v:Value} {r:List (List CompL)} (h:PW w B g2 g4 gp xs v r u) (hb:KB u.heap.size u u'):PW w B g2 g4 gp xs v r u' :=
 ⟨zA h.below hb,h.o2.kb hb,h.o4.kb hb,h.held.kb hb,h.heads.kb hb,h.lo2,h.lo4,h.lop,h.ne,h.nep,Nat.le_trans h.size hb.size⟩
theorem qo {w:World} {g k:Nat} {ls:List (List UInt8)} (h:Held w g ls) (hk:k < ls.length) {y:ByteArray} (hy:bts y=ls[k]):w.cell? ⟨g,k,none⟩=some (.string y):=by
 have:=h.2 k hk;rw [List.getD_eq_getElem?_getD,List.getElem?_eq_getElem hk,Option.getD_some,← hy,gu] at this;exact this
theorem fC (l:List UInt8):∃ y:ByteArray,bts y=l∧y.size=l.length:=⟨xP l,zx l,by rw [← zF,zx]⟩
theorem ug:∀ (l cur:List UInt8),(yZ cur l).length≤l.length+1
 | [],cur=>by simp [yZ]
 | [a],cur=>by simp [yZ]
 | a::b::r,cur=>by
  unfold yZ;split
  ·have:=ug r [];simp only [List.length_cons]; omega
  ·have:=ug (b::r) (cur++[a]);simp only [List.length_cons] at this ⊢; omega
theorem Own.kbB {B B0:Nat} {w w':World} {g:Nat} {cs:List Value} (h:Own B0 w g cs) (hg:g < B) (hb:KB B w w'):Own B0 w' g cs :=
 ⟨⟨Nat.lt_of_lt_of_le h.box.1 hb.size,fun j u hj=>(Go.RowKit.Below.cell hb (p:=⟨g,j,none⟩) hg).trans (h.box.2 j u hj)⟩,fun j=>(Go.RowKit.Below.frozen hb (p:=⟨g,j,none⟩) hg).trans (h.soft j),h.low⟩
theorem Held.kbB {B:Nat} {w w':World} {g:Nat} {ls:List (List UInt8)} (h:Held w g ls) (hg:g < B) (hb:KB B w w'):Held w' g ls :=
 ⟨Nat.lt_of_lt_of_le h.1 hb.size,fun j hj=>(Go.RowKit.Below.cell hb (p:=⟨g,j,none⟩) hg).trans (h.2 j hj)⟩
theorem gP {w:World} {g k j:Nat} {ls:List (List UInt8)} (h:Held w g ls) (hg:g≠k) (x:Value):Held (w.setCell ⟨k,j,none⟩ x) g ls :=
 ⟨by rw [World.size_setCell]; exact h.1,fun q hq=>(vF hg x).trans (h.2 q hq)⟩
theorem tL {w w1:World} (h:KB w.heap.size w w1) {k j:Nat} (hk:w.heap.size≤k) (v:Value):KB w.heap.size w (w1.setCell ⟨k,j,none⟩ v):=Go.RowKit.Below.setCell h (p:=⟨k,j,none⟩) hk v
theorem PW.next {w u w':World} {B g2 g4 gp:Nat} {xs:List (List UInt8)} {v v':Value} {r:List (List CompL)} {a:List CompL} {Aa:Option Addr} {ca:Nat} {hs:List Value} (h:PW w B g2 g4 gp xs v r u) (h1:hs.length=r.length)
 (h3:∀ i (h:i < r.length),∃ Ai ci,hs[i]?=some (.slice Ai r[i].length ci)∧rf u Ai r[i]∧(r[i]≠[]→∀ ad,Ai=some ad→B≤ad.block∧v.ownBlock≠some ad.block))
 (h2:w'.ownsRow B 147 1 v' (r.length+1) (hs++[.slice Aa a.length ca])) (hb:KB B u w') (hg:u.grownBy w' v.ownBlock) (hv:∀ k,v'.ownBlock=some k→v.ownBlock=some k∨u.heap.size≤k)
 (ha:rf u Aa a) (hab:a≠[]→∀ ad,Aa=some ad→B≤ad.block∧v.ownBlock≠some ad.block) (hwB:w.heap.size≤B):PW w B g2 g4 gp xs v' (r++[a]) (w'.setCell ⟨g4,0,none⟩ v'):=by
 have o4:=(h.o4.kbB h.lo4 hb)
 refine ⟨tL (Go.RowKit.Below.trans h.below (Go.RowKit.Below.mono hb hwB)) o4.low v',(h.o2.kbB h.lo2 hb).other h.ne v',?_,gP (h.held.kbB h.lop hb) h.nep v',(HeadsAt.snoc h1 h3 h2 hg hv ha hab).put h.lo4 v',h.lo2,h.lo4,h.lop,h.ne,h.nep,?_⟩
 ·have:=o4.put (j:=0) (by simp) v';simpa using this
 ·rw [World.size_setCell]; exact Nat.le_trans h.size hb.size
end Go.Proofs.YtiffijoenkcpjaaGreatDoor
