import Derived.Test.YtiebekmefjbenaaGreatDoorZDc
set_option linter.unusedVariables false
set_option linter.unusedSimpArgs false
set_option maxRecDepth 100000
set_option maxHeartbeats 8000000
namespace Go.Proofs.YtiebekmefjbenaaGreatDoor
open Go.RowKit Go.Lib
open Rw
section
variable {α:Type} {n:Nat} {f:α→List Value}
theorem lN (hf:∀ a,(f a).length=n):∀ (l:List α) (i j:Nat) (hi:i < l.length),j < n→(l.flatMap f)[i * n+j]?=(f l[i])[j]?
 | [],i,j,h,_=>by simp at h
 | a::l,0,j,_,hj=>by
  rw [List.flatMap_cons,List.getElem?_append_left (by rw [hf]; omega)];simp
 | a::l,i+1,j,h,hj=>by
  have ih:=lN hf l i j (by simpa using h) hj;rw [List.flatMap_cons,List.getElem?_append_right (by rw [hf,Nat.succ_mul]; omega),hf];(have e:(i+1) * n+j - n=i * n+j:=by rw [Nat.succ_mul]; omega);rw [e];exact ih
def OwnL (e:TypeId) (n:Nat) (f:α→List Value) (w:World) (base:Nat) (v:Value) (l:List α):Prop:=w.ownsRow base e n v l.length (l.flatMap f)
variable {e:TypeId} {w w':World} {base:Nat} {v:Value} {l:List α}
theorem OwnL.nil:OwnL e n f w base (.slice none 0 0) ([]:List α):=World.ownsRow_nil _ _ _ _
theorem OwnL.below (h:OwnL e n f w base v l) (hb:Below w.heap.size w w'):OwnL e n f w' base v l:=pC h hb
theorem OwnL.kb (h:OwnL e n f w base v l) (hb:KB w.heap.size w w'):OwnL e n f w' base v l:=tG h hb
theorem OwnL.lies (hf:∀ a,(f a).length=n) (h:OwnL e n f w base v l):∃ A cap,v = .slice A l.length cap∧Lies n f w A l∧(∀ ad,A=some ad→base≤ad.block∧v.ownBlock=some ad.block)∧(l.length≤cap):=by
 rcases h.2 with ⟨hv,h0⟩ | ⟨g,cap,cur,hv,hg,hh,hle,r⟩
 ·have:l=[]:=List.eq_nil_of_length_eq_zero h0;subst this;exact ⟨none,0,hv,.inl rfl,(fun ad h=>by cases h),Nat.le_refl _⟩
 ·have hlt:g < w.heap.size:=by
   rcases Nat.lt_or_ge g w.heap.size with h | h
   ·exact h
   ·rw [Array.getElem?_eq_none h] at hh; cases hh
  subst hv;refine ⟨some ⟨g,0,none⟩,cap,rfl,.inr ⟨g,0,rfl,hlt,fun i hi j u hj=>?_⟩,(fun ad had=>by injection had with had; subst had; exact ⟨hg,rfl⟩),hle⟩
  have hjn:j < n:=by
   rcases Nat.lt_or_ge j n with h' | h'
   ·exact h'
   ·rw [List.getElem?_eq_none (by rw [hf]; exact h')] at hj; cases hj
  have hb1:i * n+j < l.length * n:=by
   have:(i+1) * n≤l.length * n:=Nat.mul_le_mul_right _ hi;rw [Nat.succ_mul] at this;omega
  have:=World.ownsRow.cellAt h (i * n+j) hb1;rw [Nat.zero_add,this,lN hf l i j hi hjn];exact hj
theorem OwnL.snoc {a:α} {v':Value} (h:w'.ownsRow base e n v' (l.length+1) (l.flatMap f++f a)):OwnL e n f w' base v' (l++[a]):=by
 unfold OwnL;rw [List.length_append,List.flatMap_append];simpa using h
theorem Lies.grown {A:Option Addr} {row:Option Nat} (h:Lies n f w A l) (hg:w.grownBy w' row) (hne:∀ ad,A=some ad→some ad.block≠row):Lies n f w' A l:=by
 rcases h with h | ⟨b,off,rfl,hlt,hc⟩
 ·exact .inl h
 ·exact .inr ⟨b,off,rfl,Nat.lt_of_lt_of_le hlt hg.size,fun i hi j u hj=>(World.cell?_of_block (a:=⟨b,_,none⟩) (w:=w) (hg.block b hlt (hne _ rfl))).trans (hc i hi j u hj)⟩
theorem Lies.put {A:Option Addr} {k j:Nat} (h:Lies n f w A l) (hne:∀ ad,A=some ad→ad.block≠k) (x:Value):Lies n f (w.setCell ⟨k,j,none⟩ x) A l:=by
 rcases h with h | ⟨b,off,rfl,hlt,hc⟩
 ·exact .inl h
 ·exact .inr ⟨b,off,rfl,by rw [World.size_setCell]; exact hlt,fun i hi q u hq=>(vF (hne _ rfl) x).trans (hc i hi q u hq)⟩
end
theorem xr {w:World} {base size n:Nat} {e:TypeId} {v:Value} {xs:List Value} (h:w.ownsRow base e size v n xs):∃ A c,v = .slice A n c:=by
 rcases h.2 with ⟨hv,h0⟩ | ⟨g,cap,cur,hv,-⟩
 ·exact ⟨none,0,by rw [hv,h0]⟩
 ·exact ⟨_,_,hv⟩
theorem XW (c:CompL):c.cells.length=7:=rfl
theorem Vd (v:Value) (h:v.oneCell'=true):∀ u∈[v],u.oneCell'=true:=fun u hu=>by rw [List.mem_singleton.1 hu]; exact h
theorem V2 (c:CompL):∀ u∈c.cells,u.oneCell'=true:=by
 intro u hu;simp only [CompL.cells,List.mem_cons,List.not_mem_nil,or_false] at hu;rcases hu with rfl | rfl | rfl | rfl | rfl | rfl | rfl<;>rfl
theorem Tryz.info88:(Tryz.prog.info? 88).map (fun i=>(i.zero,i.size,i.bytes))=some (some wl.val,7,72):=by kernel_rfl
theorem Tryz.info207:(Tryz.prog.info? 207).map (fun i=>(i.zero,i.size,i.bytes))=some (some (.slice none 0 0),1,24):=by kernel_rfl
theorem cK:EK Tryz.prog 207 88 7 72 := .mk' _ Tryz.underlying207 Tryz.info88 rfl (by omega)
theorem ZT:EK Tryz.prog 188 207 1 24 := .mk' _ Tryz.underlying188 Tryz.info207 rfl (by omega)
abbrev Vb (w:World) (base:Nat) (v:Value) (l:List CompL):Prop:=OwnL 88 7 CompL.cells w base v l
def HeadsAt (w:World) (base:Nat) (v:Value) (r:List (List CompL)):Prop :=
 ∃ hs:List Value,hs.length=r.length∧w.ownsRow base 207 1 v r.length hs∧∀ i (h:i < r.length),∃ Ai ci,hs[i]?=some (.slice Ai r[i].length ci)∧rf w Ai r[i]∧(r[i]≠[]→∀ ad,Ai=some ad→base≤ad.block∧v.ownBlock≠some ad.block)
section
variable {w w':World} {base:Nat} {v:Value} {r:List (List CompL)}
theorem Yv {A:Option Addr} {l:List CompL} (h:rf w A l) (hne:l≠[]):∀ ad,A=some ad→ad.block < w.heap.size:=by
 intro ad had;rcases h with h | ⟨b,off,rfl,hl,-⟩
 ·exact absurd h hne
 ·injection had with had; subst had; exact hl
theorem HeadsAt.nil:HeadsAt w base (.slice none 0 0) []:=⟨[],rfl,World.ownsRow_nil _ _ _ _,fun i h=>by simp at h⟩
theorem HeadsAt.below (h:HeadsAt w base v r) (hb:Below w.heap.size w w'):HeadsAt w' base v r:=by
 obtain ⟨hs,h1,h2,h3⟩:=h;refine ⟨hs,h1,pC h2 hb,fun i hi=>?_⟩;obtain ⟨Ai,ci,h4,h5,h6⟩:=h3 i hi;exact ⟨Ai,ci,h4,h5.below hb,h6⟩
theorem HeadsAt.kb (h:HeadsAt w base v r) (hb:KB w.heap.size w w'):HeadsAt w' base v r:=HeadsAt.below (w:=und w) h (uf hb)
theorem ZN {A:Option Addr} {l:List CompL} {g j:Nat} (h:rf w A l) (hne:l≠[]→∀ ad,A=some ad→ad.block≠g) (x:Value):rf (w.setCell ⟨g,j,none⟩ x) A l:=by
 by_cases hl:l=[]
 ·exact .inl hl
 ·exact Lies.put h (hne hl) x
theorem HeadsAt.put {g j:Nat} (h:HeadsAt w base v r) (hg:g < base) (x:Value):HeadsAt (w.setCell ⟨g,j,none⟩ x) base v r:=by
 obtain ⟨hs,h1,h2,h3⟩:=h;refine ⟨hs,h1,oR (o:=j) (vs:=[x]) h2 (fun e=>by have:=(h2.lt _ e).1; omega),fun i hi=>?_⟩;obtain ⟨Ai,ci,h4,h5,h6⟩:=h3 i hi;exact ⟨Ai,ci,h4,ZN h5 (fun hl ad had=>by have:=(h6 hl ad had).1; omega) x,h6⟩
theorem HeadsAt.key {A:Option Addr} {l:List CompL} {v':Value} (hg:w.grownBy w' v.ownBlock) (hv:∀ k,v'.ownBlock=some k→v.ownBlock=some k∨w.heap.size≤k)
 (h:rf w A l) (hb:l≠[]→∀ ad,A=some ad→base≤ad.block∧v.ownBlock≠some ad.block):rf w' A l∧(l≠[]→∀ ad,A=some ad→base≤ad.block∧v'.ownBlock≠some ad.block):=by
 by_cases hl:l=[]
 ·exact ⟨.inl hl,fun e=>absurd hl e⟩
 ·refine ⟨h.grown hg (fun ad had e=>(hb hl ad had).2 e.symm),fun _ ad had=>⟨(hb hl ad had).1,fun e=>?_⟩⟩;rcases hv _ e with e2 | e2
  ·exact (hb hl ad had).2 e2
  ·have:=Yv h hl ad had; omega
theorem HeadsAt.snoc {a:List CompL} {Aa:Option Addr} {ca:Nat} {v':Value} {hs:List Value} (h1:hs.length=r.length)
 (h3:∀ i (h:i < r.length),∃ Ai ci,hs[i]?=some (.slice Ai r[i].length ci)∧rf w Ai r[i]∧(r[i]≠[]→∀ ad,Ai=some ad→base≤ad.block∧v.ownBlock≠some ad.block))
 (h2:w'.ownsRow base 207 1 v' (r.length+1) (hs++[.slice Aa a.length ca])) (hg:w.grownBy w' v.ownBlock) (hv:∀ k,v'.ownBlock=some k→v.ownBlock=some k∨w.heap.size≤k)
 (ha:rf w Aa a) (hab:a≠[]→∀ ad,Aa=some ad→base≤ad.block∧v.ownBlock≠some ad.block):HeadsAt w' base v' (r++[a]):=by
 refine ⟨hs++[.slice Aa a.length ca],by simp [h1],by rw [List.length_append]; exact h2,fun i hi=>?_⟩
 rcases Nat.lt_or_ge i r.length with k | k
 ·obtain ⟨Ai,ci,h4,h5,h6⟩:=h3 i k;have h7:=HeadsAt.key hg hv h5 h6;rw [List.getElem_append_left k];exact ⟨Ai,ci,by rw [List.getElem?_append_left (by omega)]; exact h4,h7.1,h7.2⟩
 ·(have hi2:i=r.length:=by simp at hi; omega);subst hi2;have h7:=HeadsAt.key hg hv ha hab;(have e:(r++[a])[r.length]=a:=by simp);rw [e];exact ⟨Aa,ca,by rw [← h1]; simp,h7.1,h7.2⟩
theorem HeadsAt.alts (h:HeadsAt w base v r):∃ A c,v = .slice A r.length c∧Alts w A r:=by
 obtain ⟨hs,h1,h2,h3⟩:=h;rcases h2.2 with ⟨hv,h0⟩ | ⟨g,cap,cur,hv,hg,hh,hle,-⟩
 ·have:r=[]:=List.eq_nil_of_length_eq_zero h0;subst this;exact ⟨none,0,hv,.inl rfl⟩
 ·have hlt:g < w.heap.size:=by
   rcases Nat.lt_or_ge g w.heap.size with h | h
   ·exact h
   ·rw [Array.getElem?_eq_none h] at hh; cases hh
  subst hv;refine ⟨some ⟨g,0,none⟩,cap,rfl,.inr ⟨g,0,rfl,hlt,fun i hi=>?_⟩⟩;obtain ⟨Ai,ci,h4,h5,-⟩:=h3 i hi;refine ⟨Ai,ci,?_,h5⟩;have:=World.ownsRow.cellAt h2 i (by omega);rw [Nat.zero_add,this];exact h4
end
def rP (r:List (List CompL)) (xs:List (List UInt8)):Option (List (List CompL)):=(vg xs).map (r++·)
def t4 (l:List CompL) (ys:List (List UInt8)):Option (List CompL):=(yq ys).map (l++·)
theorem oK (xs:List (List UInt8)):rP [] xs=vg xs:=by rw [rP]; cases vg xs<;>simp
theorem qX (ys:List (List UInt8)):t4 [] ys=yq ys:=by rw [t4]; cases yq ys<;>simp
theorem kx (r:List (List CompL)):rP r []=some r:=by simp [rP,vg]
theorem nG (l:List CompL):t4 l []=some l:=by simp [t4,yq]
theorem mI (r:List (List CompL)) (x:List UInt8) (xs:List (List UInt8)):rP r (x::xs)=match yq (zV 44 [] x) with | none=>none | some a=>rP (r++[a]) xs:=by
 rw [rP,vg];cases yq (zV 44 [] x) with
 | none=>rfl
 | some a =>
  simp only [rP];cases vg xs<;>simp
theorem pY (l:List CompL) (y:List UInt8) (ys:List (List UInt8)):t4 l (y::ys)=match wH (Lib.trimB y 32) with | none=>none | some c=>t4 (l++[c]) ys:=by
 rw [t4,yq];cases wH (Lib.trimB y 32) with
 | none=>rfl
 | some c =>
  simp only [t4];cases yq ys<;>simp
theorem ue (sep:List UInt8):∀ {ps:List (List UInt8)} {p:List UInt8},p∈ps→p.length≤(zT sep ps).length
 | [q],p,h=>by rw [List.mem_singleton.1 h]; exact Nat.le_refl _
 | q::r::t,p,h=>by
  rcases List.mem_cons.1 h with rfl | h
  ·simp only [zT,List.length_append]; omega
  ·have:=ue sep h;simp only [zT,List.length_append] at this ⊢;omega
theorem uD {b:UInt8} {l p:List UInt8} (h:p∈zV b [] l):p.length≤l.length:=by
 have:=ue [b] h
 rwa [xz,List.nil_append] at this
theorem uo {l p:List UInt8} (h:p∈yZ [] l):p.length≤l.length:=by
 have:=ue [124,124] h
 rwa [(qu l [] (fun j hj=>by simp at hj)).2,List.nil_append] at this
theorem pL (l:List UInt8) (c:UInt8):(Lib.trimB l c).length≤l.length:=by
 rw [← kT]
 have h1:∀ m:List UInt8,(Lib.trimLeftB m c).length≤m.length:=fun m=>by
  rw [mq];exact (List.dropWhile_sublist _).length_le
 have h2:∀ m:List UInt8,(Lib.trimRightB m c).length≤m.length:=fun m=>by
  have:∀ (n:Nat) (m:List UInt8),m.length=n→(Lib.trimRightB m c).length≤m.length:=by
   intro n;induction n with
   | zero=>intro m hm; rw [List.eq_nil_of_length_eq_zero hm]; exact Nat.le_refl _
   | succ n ih =>
    intro m hm;(have hne:m≠[]:=fun e=>by rw [e] at hm; cases hm);have e:=List.dropLast_concat_getLast hne;rw [← e,xB];split
    ·have:=ih m.dropLast (by rw [List.length_dropLast,hm]; rfl);rw [List.length_append];simp only [List.length_singleton];omega
    ·exact Nat.le_refl _
  exact this _ m rfl
 have a1:=h2 (Lib.trimLeftB l c);have a2:=h1 l;omega
theorem nt:∀ {ys:List (List UInt8)} {l:List CompL},(∀ y∈ys,y.length≤1000000)→yq ys=some l→∀ c∈l,c.fit
 | [],l,_,h,c,hc=>by
  simp only [yq,Option.some.injEq] at h;subst h; simp at hc
 | y::ys,l,hy,h,c,hc=>by
  rw [yq] at h;cases hp:wH (Lib.trimB y 32) with
  | none=>rw [hp] at h; cases h
  | some d =>
   rw [hp] at h;cases hq:yq ys with
   | none=>rw [hq] at h; cases h
   | some m =>
    rw [hq] at h;simp only [Option.some.injEq] at h;subst h;rcases List.mem_cons.1 hc with rfl | hc
    ·refine bc hp ?_;have:=pL y 32;have:=hy y (by simp);omega
    ·exact nt (fun z hz=>hy z (List.mem_cons_of_mem _ hz)) hq c hc
theorem sT:∀ {xs:List (List UInt8)} {r:List (List CompL)},(∀ x∈xs,x.length≤1000000)→vg xs=some r→Z7 r
 | [],r,_,h=>by
  simp only [vg,Option.some.injEq] at h;subst h; intro a ha; simp at ha
 | x::xs,r,hx,h=>by
  rw [vg] at h;cases hp:yq (zV 44 [] x) with
  | none=>rw [hp] at h; cases h
  | some d =>
   rw [hp] at h;cases hq:vg xs with
   | none=>rw [hq] at h; cases h
   | some m =>
    rw [hq] at h;simp only [Option.some.injEq] at h;subst h;intro a ha;rcases List.mem_cons.1 ha with rfl | ha
    ·exact nt (fun y hy=>by have:=uD hy; have:=hx x (by simp); omega) hp
    ·exact sT (fun z hz=>hx z (List.mem_cons_of_mem _ hz)) hq a ha
theorem nj:∀ {ys:List (List UInt8)} {l:List CompL},yq ys=some l→l.length=ys.length
 | [],l,h=>by
  simp only [yq,Option.some.injEq] at h;subst h; rfl
 | y::ys,l,h=>by
  rw [yq] at h;cases hp:wH (Lib.trimB y 32) with
  | none=>rw [hp] at h; cases h
  | some d =>
   rw [hp] at h;cases hq:yq ys with
   | none=>rw [hq] at h; cases h
   | some m =>
    rw [hq] at h;simp only [Option.some.injEq] at h;subst h;simp [nj hq]
theorem oV:∀ {xs:List (List UInt8)} {r:List (List CompL)} {B:Nat},(∀ x∈xs,x.length≤B)→vg xs=some r→r.length=xs.length∧∀ a∈r,a.length≤B+1
 | [],r,_,_,h=>by
  simp only [vg,Option.some.injEq] at h;subst h; exact ⟨rfl,fun a ha=>by simp at ha⟩
 | x::xs,r,B,hx,h=>by
  rw [vg] at h;cases hp:yq (zV 44 [] x) with
  | none=>rw [hp] at h; cases h
  | some d =>
   rw [hp] at h;cases hq:vg xs with
   | none=>rw [hq] at h; cases h
   | some m =>
    rw [hq] at h;simp only [Option.some.injEq] at h;subst h;have ih:=oV (fun z hz=>hx z (List.mem_cons_of_mem _ hz)) hq;refine ⟨by simp [ih.1],fun a ha=>?_⟩;rcases List.mem_cons.1 ha with rfl | ha
    ·have h1:=nj hp;have h2:=(zk 44 x []).2;have h3:=hx x (by simp);omega
    ·exact ih.2 a ha
theorem oq {s:List UInt8} (h:96 < s.length):yB s=([],3):=by rw [yB,if_pos h]
theorem pK {s:List UInt8} (h:¬ 96 < s.length) (h2:vg (yZ [] s)=none):yB s=([],6):=by rw [yB,if_neg h,h2]
theorem oN {s:List UInt8} (h:¬ 96 < s.length) {r:List (List CompL)} (h2:vg (yZ [] s)=some r):yB s=if tD r then (if (xd r).length≤96 then (r,0) else ([],3)) else ([],6):=by rw [yB,if_neg h,h2]
def Wc (w:World) (p:List (List CompL) × Int) (e:Ending) (w':World):Prop:=∃ A c,e = .returned (.tuple #[wL A p.1.length c,.int .i64 p.2])∧Alts w' A p.1∧KB w.heap.size w w'
theorem vI {w w':World} {n:Int} (h:KB w.heap.size w w'):Wc w ([],n) (.returned (.tuple #[wL none 0 0,.int .i64 n])) w':=⟨none,0,rfl,.nil,h⟩
structure PW (w:World) (B g2 g4 gp:Nat) (xs:List (List UInt8)) (v:Value) (r:List (List CompL)) (u:World):Prop where
 below:KB w.heap.size w u
 o2:Own w.heap.size u g2 [.slice none 0 0]
 o4:Own w.heap.size u g4 [v]
 held:Held u gp xs
 heads:HeadsAt u B v r
 lo2:g2 < B
 lo4:g4 < B
 lop:gp < B
 ne:g2≠g4
 nep:gp≠g4
 size:B≤u.heap.size
theorem Held.kb {w w':World} {g:Nat} {ls:List (List UInt8)} (h:Held w g ls) (hb:KB w.heap.size w w'):Held w' g ls:=Held.below (w:=und w) h (uf hb)
theorem PW.kb {w u u':World} {B g2 g4 gp:Nat} {xs:List (List UInt8)} {v:Value} {r:List (List CompL)} (h:PW w B g2 g4 gp xs v r u) (hb:KB u.heap.size u u'):PW w B g2 g4 gp xs v r u' :=
 ⟨zA h.below hb,h.o2.kb hb,h.o4.kb hb,h.held.kb hb,h.heads.kb hb,h.lo2,h.lo4,h.lop,h.ne,h.nep,Nat.le_trans h.size hb.size⟩
theorem qo {w:World} {g k:Nat} {ls:List (List UInt8)} (h:Held w g ls) (hk:k < ls.length) {y:ByteArray} (hy:bts y=ls[k]):w.cell? ⟨g,k,none⟩=some (.string y):=by
 have:=h.2 k hk;rw [List.getD_eq_getElem?_getD,List.getElem?_eq_getElem hk,Option.getD_some,← hy,gu] at this;exact this
theorem fC (l:List UInt8):∃ y:ByteArray,bts y=l∧y.size=l.length:=⟨xP l,zx l,by rw [← zF,zx]⟩
theorem ug:∀ (l cur:List UInt8),(yZ cur l).length≤l.length+1
 | [],cur=>by simp [yZ]
 | [a],cur=>by simp [yZ]
 | a::b::r,cur=>by
  unfold yZ;split
  ·have:=ug r [];simp only [List.length_cons]; omega
  ·have:=ug (b::r) (cur++[a]);simp only [List.length_cons] at this ⊢; omega
theorem Own.kbB {B B0:Nat} {w w':World} {g:Nat} {cs:List Value} (h:Own B0 w g cs) (hg:g < B) (hb:KB B w w'):Own B0 w' g cs :=
 ⟨⟨Nat.lt_of_lt_of_le h.box.1 hb.size,fun j u hj=>(Go.RowKit.Below.cell hb (p:=⟨g,j,none⟩) hg).trans (h.box.2 j u hj)⟩,fun j=>(Go.RowKit.Below.frozen hb (p:=⟨g,j,none⟩) hg).trans (h.soft j),h.low⟩
theorem Held.kbB {B:Nat} {w w':World} {g:Nat} {ls:List (List UInt8)} (h:Held w g ls) (hg:g < B) (hb:KB B w w'):Held w' g ls :=
 ⟨Nat.lt_of_lt_of_le h.1 hb.size,fun j hj=>(Go.RowKit.Below.cell hb (p:=⟨g,j,none⟩) hg).trans (h.2 j hj)⟩
theorem gP {w:World} {g k j:Nat} {ls:List (List UInt8)} (h:Held w g ls) (hg:g≠k) (x:Value):Held (w.setCell ⟨k,j,none⟩ x) g ls :=
 ⟨by rw [World.size_setCell]; exact h.1,fun q hq=>(vF hg x).trans (h.2 q hq)⟩
theorem tL {w w1:World} (h:KB w.heap.size w w1) {k j:Nat} (hk:w.heap.size≤k) (v:Value):KB w.heap.size w (w1.setCell ⟨k,j,none⟩ v):=Go.RowKit.Below.setCell h (p:=⟨k,j,none⟩) hk v
theorem PW.next {w u w':World} {B g2 g4 gp:Nat} {xs:List (List UInt8)} {v v':Value} {r:List (List CompL)} {a:List CompL} {Aa:Option Addr} {ca:Nat} {hs:List Value} (h:PW w B g2 g4 gp xs v r u) (h1:hs.length=r.length)
 (h3:∀ i (h:i < r.length),∃ Ai ci,hs[i]?=some (.slice Ai r[i].length ci)∧rf u Ai r[i]∧(r[i]≠[]→∀ ad,Ai=some ad→B≤ad.block∧v.ownBlock≠some ad.block))
 (h2:w'.ownsRow B 207 1 v' (r.length+1) (hs++[.slice Aa a.length ca])) (hb:KB B u w') (hg:u.grownBy w' v.ownBlock) (hv:∀ k,v'.ownBlock=some k→v.ownBlock=some k∨u.heap.size≤k)
 (ha:rf u Aa a) (hab:a≠[]→∀ ad,Aa=some ad→B≤ad.block∧v.ownBlock≠some ad.block) (hwB:w.heap.size≤B):PW w B g2 g4 gp xs v' (r++[a]) (w'.setCell ⟨g4,0,none⟩ v'):=by
 have o4:=(h.o4.kbB h.lo4 hb)
 refine ⟨tL (Go.RowKit.Below.trans h.below (Go.RowKit.Below.mono hb hwB)) o4.low v',(h.o2.kbB h.lo2 hb).other h.ne v',?_,gP (h.held.kbB h.lop hb) h.nep v',(HeadsAt.snoc h1 h3 h2 hg hv ha hab).put h.lo4 v',h.lo2,h.lo4,h.lop,h.ne,h.nep,?_⟩
 ·have:=o4.put (j:=0) (by simp) v';simpa using this
 ·rw [World.size_setCell]; exact Nat.le_trans h.size hb.size
theorem gD (s:ByteArray) (w:World):Calls Tryz.prog 181 #[.string s] w (Wc w (yB (bts s))):=by
 have HLS:=hid (zF s);go_enter Tryz.func181,Tryz.ntmps181;(go_upto_region 1 with fail);refine zI ?_;intro w1 hw1;have O2:=hid (show Own w.heap.size w1 w.heap.size [.slice none 0 0] by rw [hw1]; exact Own.new w [.slice none 0 0] 190 (Nat.le_refl _));have HB:=hid (show KB w.heap.size w w1 by rw [hw1]; exact zG _ _);clear hw1;by_cases h96:96 < s.size
 ·have HP:=hid (oq (s:=bts s) (by rw [HLS.out]; exact h96));(have i96:(96:Int) < (s.size:Int):=by omega);have y0:=O2.out.box.2 0 _ rfl;have sf:∀ j,w1.frozen? ⟨w.heap.size,j,none⟩=false:=O2.out.soft;have yl:=O2.out.box.1;(go_wp2_with fail);refine zP ?_;intro w9 hw9;(have O9:Own w.heap.size w9 w.heap.size [.slice none 0 0]:=by rw [hw9]; exact O2.out.put (j:=0) (by simp) _);(have B9:KB w.heap.size w w9:=by rw [hw9]; exact tL HB.out (Nat.le_refl _) _);clear hw9;have k0:=O9.box.2 0 _ rfl;refine bodyPost_ret (v := .tuple #[wL none 0 0,.int .i64 3]) (by simp [results,Tryz.results181,go_sem,k0]) rfl ?_;rw [show yB (bts s)=([],3) from HP.out];exact vI B9
 ·have HPN:=hid (pK (s:=bts s) (by rw [HLS.out]; exact h96));have HPS:=hid (fun r=>oN (s:=bts s) (by rw [HLS.out]; exact h96) (r:=r));(have i96:¬ (96:Int) < (s.size:Int):=by omega);(go_upto_region 4 with fail);refine zI ?_;intro w2 hw2;have O4:=hid (show Own w.heap.size w2 w1.heap.size [.slice none 0 0] by rw [hw2]; exact Own.new w1 [.slice none 0 0] 190 HB.out.size);(have HN4:w.heap.size≠w1.heap.size:=by have:=O2.out.box.1; omega);have O2:=hid (show Own w.heap.size w2 w.heap.size [.slice none 0 0] by rw [hw2]; exact O2.out.alloc _);have HB:=hid (show KB w.heap.size w w2 by rw [hw2]; exact zA HB.out (zG _ _));clear hw2;generalize w1.heap.size=g4 at *;(go_wp2_with fail);refine (bB s w2 (by omega)).mono ?_;rintro _ w3 ⟨gp,cp,rfl,hgp,hgpl,hcp,hcell,hb⟩;have HXL:=hid (fun x (hx:x∈yZ [] (bts s))=>(show x.length≤96 by have h1:=uo hx; have h2:=HLS.out; omega));have hxn:(yZ [] (bts s)).length≤97:=by have h1:=ug (bts s) []; have h2:=HLS.out; omega
  have HPW:=hid (show PW w w3.heap.size w.heap.size g4 gp (yZ [] (bts s)) (.slice none 0 0) [] w3 from
   ⟨zA HB.out hb.kb,O2.out.below hb,O4.out.below hb,⟨hgpl,hcell⟩,.nil,Nat.lt_of_lt_of_le O2.out.box.1 hb.size,Nat.lt_of_lt_of_le O4.out.box.1 hb.size,hgpl,HN4,(by have:=O4.out.box.1; omega),Nat.le_refl _⟩)
  have hwB:w.heap.size≤w3.heap.size:=HPW.out.below.size;clear hcell hb O2 O4 HB hgpl hgp;generalize yZ [] (bts s)=xs at *;generalize hn:xs.length=n at *;have HN:=hid hn;clear hn;have HWB:=hid hwB;generalize hB:w3.heap.size=B at *;clear hB;(go_upto_block 0 with fail);(go_wp2_with fail);go_loopw [6] (fun i wr=>∃ (k:Nat) (v:Value) (r:List (List CompL)),i = .int .i64 k∧k≤n∧r.length=k∧Hid (rP r (xs.drop k)=vg xs)∧Hid (PW w B w.heap.size g4 gp xs v r wr)) (fun i _=>n - (intOf i).toNat)
  case atStart=>exact ⟨0,_,[],rfl,Nat.zero_le _,rfl,hid (by rw [List.drop_zero]; exact oK xs),HPW⟩
  case round =>
   obtain ⟨k,v,r,rfl,hk,hrk,HS,HPW⟩:=hrel;by_cases hlt:k < n
   ·(have hlt':k < xs.length:=by rw [HN.out]; exact hlt);(have i0:(0:Int)≤(k:Int):=by omega);(have i1:(k:Int) < (n:Int):=by omega);obtain ⟨y,hy,hyn⟩:=fC xs[k];have cy:=qo HPW.out.held hlt' hy;(have hy96:y.size≤96:=by rw [hyn]; exact HXL.out _ (List.getElem_mem hlt'));have HXK:=hid (List.drop_eq_getElem_cons hlt');rw [← hy] at HXK;have hgl:=HPW.out.held.1;clear hyn hy;(go_wp2_with fail);refine (tn y 44 wr (by omega)).mono ?_;rintro _ w4 ⟨gq,cq,rfl,hgq,hgql,hcq,hcell,hb⟩;have HQ:=hid (show Held w4 gq (zV 44 [] (bts y)) from ⟨hgql,hcell⟩);have HZL:=hid (fun z (hz:z∈zV 44 [] (bts y))=>(show z.length≤96 by have h1:=uD hz; rw [zF] at h1; omega));have HCP:=hid (show rP r (bts y::xs.drop (k+1))=match yq (zV 44 [] (bts y)) with | none=>none | some a=>rP (r++[a]) (xs.drop (k+1)) from mI _ _ _);rw [← HXK.out,HS.out] at HCP;(have hzn:(zV 44 [] (bts y)).length≤97:=by have h1:=(zk 44 (bts y) []).2; rw [zF] at h1; omega);have HPW:=hid (HPW.out.kb hb.kb);have hB4:=HPW.out.size;clear hcell hb cy hgq;generalize zV 44 [] (bts y)=zs at *;generalize hm:zs.length=m at *;have HM:=hid hm;clear hm hgl;(go_upto_block 2 with fail);(go_wp2_with fail);go_loopw [9,7] (fun j vs ur=>∃ (q:Nat) (l:List CompL) (va:Value),j = .int .i64 q∧va=vs∧q≤m∧l.length=q∧Hid (t4 l (zs.drop q)=yq zs)∧Hid (Vb ur w4.heap.size va l)∧Hid (KB w4.heap.size w4 ur)) (fun j _ _=>m - (intOf j).toNat)
    case atStart=>exact ⟨0,[],_,rfl,rfl,Nat.zero_le _,rfl,hid (by rw [List.drop_zero]; exact qX zs),hid .nil,hid (zH _)⟩
    case round =>
     (rename World=>ur);obtain ⟨q,l,va,rfl,rfl,hq,hlq,HCF,HOX,HBU⟩:=hrel;by_cases hlq2:q < m
     ·(have hlq':q < zs.length:=by rw [HM.out]; exact hlq2);(have j0:(0:Int)≤(q:Int):=by omega);(have j1:(q:Int) < (m:Int):=by omega);obtain ⟨z,hz,hzn⟩:=fC zs[q];have HQU:=hid (HQ.out.kb HBU.out);have cz:=qo HQU.out hlq' hz;(have hz96:z.size≤96:=by rw [hzn]; exact HZL.out _ (List.getElem_mem hlq'));have HZK:=hid (List.drop_eq_getElem_cons hlq');rw [← hz] at HZK;have HCC:=hid (pY l (bts z) (zs.drop (q+1)));rw [← HZK.out,HCF.out] at HCC;have hgl:=HQU.out.1;clear hzn hz;(go_wp2_with fail);refine (b9 z ur (by omega)).mono ?_;rintro _ u1 ⟨t,rfl,ht,hb1⟩;have HBU1:=hid (zA HBU.out hb1.kb);have HOX1:=hid (HOX.out.below hb1);(have ht96:t.size≤96:=by have h1:=pL (bts z) 32; rw [← ht,zF,zF] at h1; omega);have HXP:=hid (iP t u1 (by omega));rw [ht] at HXP;clear ht hb1 cz;cases ho:wH (Lib.trimB (bts z) 32) with
      | none =>
       rw [ho] at HXP HCC;clear ho;have HNO:Hid (yB (bts s)=([],6)):=hid (HPN.out (by rw [HCP.out,HCC.out]));(go_wp2_with fail);refine HXP.out.mono ?_;rintro _ u2 ⟨cc,rfl,-,hb2⟩;dsimp only [Option.isSome_none];have HPU:=hid (HPW.out.kb (zA HBU1.out hb2.kb));clear hb2 HXP;(go_upto_if 45 with fail);refine zI ?_;intro u3 hu3;have HPU:=hid (show PW w B w.heap.size g4 gp xs v r u3 by rw [hu3]; exact HPU.out.kb (zG _ (.cells cc.cells.toArray 88)));clear hu3;have y0:=HPU.out.o2.box.2 0 _ rfl;have sf:∀ j,u3.frozen? ⟨w.heap.size,j,none⟩=false:=HPU.out.o2.soft;have yl:=HPU.out.o2.box.1;(go_wp2_with fail);refine zP ?_;intro w9 hw9;(have O9:Own w.heap.size w9 w.heap.size [.slice none 0 0]:=by rw [hw9]; exact HPU.out.o2.put (j:=0) (by simp) _);(have B9:KB w.heap.size w w9:=by rw [hw9]; exact tL HPU.out.below (Nat.le_refl _) _);clear hw9;have k0:=O9.box.2 0 _ rfl;refine bodyPost_ret (v := .tuple #[wL none 0 0,.int .i64 6]) (by simp [results,Tryz.results181,go_sem,k0]) rfl ?_;rw [show yB (bts s)=([],6) from HNO.out];exact vI B9
      | some x =>
       rw [ho] at HXP HCC;clear ho;(go_wp2_with fail);refine HXP.out.mono ?_;rintro _ u2 ⟨cc,rfl,hcc,hb2⟩;obtain rfl:cc=x:=hcc x rfl;dsimp only [Option.isSome_some];have HBU2:=hid (zA HBU1.out hb2.kb);have HOX2:=hid (HOX1.out.below hb2);clear hb2 HXP hcc;(go_upto_if 45 with fail);refine zI ?_;intro u3 hu3;have HX3:=hid (show Box u3 u2.heap.size cc.cells by rw [hu3]; exact Box.new u2 cc.cells 88);have HOX3:=hid (show Vb u3 w4.heap.size va l by rw [hu3]; exact HOX2.out.below (zL _ _));have HBU3:=hid (show KB w4.heap.size w4 u3 by rw [hu3]; exact zA HBU2.out (zG _ _));clear hu3;obtain ⟨x0,x1,x2,x3,x4,x5,x6⟩:=HX3.out.get7;have xl:=HX3.out.1;have hsz:=HBU3.out.size;(have hl97:l.length≤97:=by omega);(go_wp2_with (first | (at_builtin; refine vu cK rfl (.tmp 47) (.tmp 49) rfl (CompL.cells cc) HOX3.out rfl rfl rfl (V2 _) (by unfold maxLen; omega) (by omega) hsz ?_; intro v' w' h2 h3 h4)));go_roundw
       case rel=>exact ⟨q+1,l++[cc],_,by go_num,rfl,by omega,by rw [List.length_append,hlq]; rfl,hid HCC.out.symm,hid (OwnL.snoc h2),hid (Go.RowKit.Below.trans HBU3.out h3.kb)⟩
       case measure=>simp [intOf]; omega
     ·obtain rfl:q=m:=by omega
      have HCE:Hid (yq zs=some l):=hid (by
       have:=HCF.out;rw [List.drop_eq_nil_of_le (by rw [HM.out]; exact Nat.le_refl _),nG] at this
       exact this.symm)
      subst hlq;subst hrk;(have hge:¬ (l.length:Int) < (l.length:Int):=by omega);rw [HCE.out] at HCP;obtain ⟨Aa,ca,rfl,hcs,hab,-⟩:=OwnL.lies XW HOX.out;have HPU:=hid (HPW.out.kb HBU.out);have HCS:=hid hcs
      have HAB:Hid (∀ ad,Aa=some ad→B≤ad.block∧v.ownBlock≠some ad.block):=hid (fun ad had=>by
       have h1:=(hab ad had).1;refine ⟨by omega,fun e=>?_⟩;obtain ⟨hs,-,h2,-⟩:=HPW.out.heads;have:=(h2.lt _ e).2
       omega)
      obtain ⟨hs,e1,e2,e3⟩:=HPU.out.heads;have HE1:=hid e1;have HE2:=hid e2;have HE3:=hid e3;clear hcs hab HOX e1 e2 e3;have y0:=HPU.out.o4.box.2 0 _ rfl;have sf:∀ j,ur.frozen? ⟨g4,j,none⟩=false:=HPU.out.o4.soft;have yl:=HPU.out.o4.box.1;have hsz:=HPU.out.size;(have hr97:r.length≤97:=by omega);have HL4:=hid HPU.out.lo4;(go_wp2_with (first | (at_builtin; refine wI ZT rfl (.tmp 52) (.tmp 54) rfl [.slice Aa l.length ca] HE2.out rfl rfl rfl (Vd _ rfl) (by unfold maxLen; omega) (by omega) hsz ?_; intro v' w' h2 h3 h4 h5; obtain ⟨A9,c9,rfl⟩:=xr h2; have HNX:=hid (HPU.out.next HE1.out HE3.out h2 h3.kb h4 h5 HCS.out (fun _=>HAB.out) HWB.out); have HO4:=hid (HPU.out.o4.kbB HL4.out h3.kb); clear h2 h3 h4 h5 y0 sf yl; have y0:=HO4.out.box.2 0 _ rfl; have sf:∀ j,w'.frozen? ⟨g4,j,none⟩=false:=HO4.out.soft; have yl:=HO4.out.box.1)));go_roundw
      case rel=>exact ⟨r.length+1,_,r++[l],by go_num,by omega,by rw [List.length_append]; rfl,hid HCP.out.symm,HNX⟩
      case measure=>simp [intOf]; omega
   ·(obtain rfl:k=n:=by omega);subst hrk;have hge:¬ (r.length:Int) < (r.length:Int):=by omega
    have HAE:Hid (vg xs=some r):=hid (by
     have:=HS.out;rw [List.drop_eq_nil_of_le (by rw [HN.out]; exact Nat.le_refl _),kx] at this
     exact this.symm)
    have HPR:=hid (HPS.out r HAE.out);have HRF:=hid (sT (fun x hx=>by have:=HXL.out x hx; omega) HAE.out);have HRL:=hid (oV (B:=96) (fun x hx=>HXL.out x hx) HAE.out);obtain ⟨A,c,rfl,hal⟩:=HPW.out.heads.alts;have HAL:=hid hal;have y0:=HPW.out.o4.box.2 0 _ rfl;have yl:=HPW.out.o4.box.1;clear hal;have HFW:=hid (gJ A c r wr HAL.out HRF.out (by omega) (fun a ha=>by have:=HRL.out.2 a ha; omega));(go_wp2_with fail);refine HFW.out.mono ?_;rintro _ u1 ⟨rfl,hb1⟩;have HPU:=hid (HPW.out.kb hb1.kb);have HAL:=hid (HAL.out.below hb1);clear hb1 y0 yl;cases hfe:tD r
    ·rw [hfe] at HPR;have y0:=HPU.out.o2.box.2 0 _ rfl;have sf:∀ j,u1.frozen? ⟨w.heap.size,j,none⟩=false:=HPU.out.o2.soft;have yl:=HPU.out.o2.box.1;(go_wp2_with fail);refine zP ?_;intro w9 hw9;(have O9:Own w.heap.size w9 w.heap.size [.slice none 0 0]:=by rw [hw9]; exact HPU.out.o2.put (j:=0) (by simp) _);(have B9:KB w.heap.size w w9:=by rw [hw9]; exact tL HPU.out.below (Nat.le_refl _) _);clear hw9;have k0:=O9.box.2 0 _ rfl;refine bodyPost_ret (v := .tuple #[wL none 0 0,.int .i64 6]) (by simp [results,Tryz.results181,go_sem,k0]) rfl ?_;rw [show yB (bts s)=([],6) from HPR.out];exact vI B9
    ·rw [hfe,if_pos rfl] at HPR;have HTX:=hid (oi A c r u1 HAL.out HRF.out (vb hfe).1 (vb hfe).2);clear hfe;have y4:=HPU.out.o4.box.2 0 _ rfl;have yl4:=HPU.out.o4.box.1;(go_wp2_with fail);refine HTX.out.mono ?_;rintro _ u2 ⟨t,rfl,ht,hb2⟩;have HPU:=hid (HPU.out.kb hb2.kb);have HAL:=hid (HAL.out.below hb2);have HTL:Hid ((xd r).length=t.size):=hid (by rw [← ht,zF]);rw [HTL.out] at HPR;clear ht hb2 y4 yl4;have y0:=HPU.out.o2.box.2 0 _ rfl;have sf:∀ j,u2.frozen? ⟨w.heap.size,j,none⟩=false:=HPU.out.o2.soft;have yl:=HPU.out.o2.box.1;have y4:=HPU.out.o4.box.2 0 _ rfl;have yl4:=HPU.out.o4.box.1;by_cases ht96:t.size≤96
     ·rw [if_pos ht96] at HPR;(have i96b:¬ (96:Int) < (t.size:Int):=by omega);(go_wp2_with fail);refine zP ?_;intro w9 hw9;(have O9:Own w.heap.size w9 w.heap.size [.slice A r.length c]:=by rw [hw9]; exact HPU.out.o2.put (j:=0) (by simp) _);have B9:KB w.heap.size w w9:=by rw [hw9]; exact tL HPU.out.below (Nat.le_refl _) _
      have A9:Alts w9 A r:=by
       rw [hw9];obtain ⟨A',c',e,h⟩:=(HPU.out.heads.put (j:=0) HPU.out.lo2 (.slice A r.length c)).alts;(injection e with e);rw [← e] at h; exact h
      clear hw9;have k0:=O9.box.2 0 _ rfl;refine bodyPost_ret (v := .tuple #[wL A r.length c,.int .i64 0]) (by simp [results,Tryz.results181,go_sem,k0]) rfl ?_;rw [show yB (bts s)=(r,0) from HPR.out];exact ⟨A,c,rfl,A9,B9⟩
     ·rw [if_neg ht96] at HPR;(have i96b:(96:Int) < (t.size:Int):=by omega);(go_wp2_with fail);refine zP ?_;intro w9 hw9;(have O9:Own w.heap.size w9 w.heap.size [.slice none 0 0]:=by rw [hw9]; exact HPU.out.o2.put (j:=0) (by simp) _);(have B9:KB w.heap.size w w9:=by rw [hw9]; exact tL HPU.out.below (Nat.le_refl _) _);clear hw9;have k0:=O9.box.2 0 _ rfl;refine bodyPost_ret (v := .tuple #[wL none 0 0,.int .i64 3]) (by simp [results,Tryz.results181,go_sem,k0]) rfl ?_;rw [show yB (bts s)=([],3) from HPR.out];exact vI B9
end Go.Proofs.YtiebekmefjbenaaGreatDoor
