import Derived.Test.YtiffijoenkcpjaaGreatDoorYJx
set_option linter.unusedVariables false
set_option linter.unusedSimpArgs false
namespace Go.Proofs.YtiffijoenkcpjaaGreatDoor
open Go.RowKit Go.Lib
structure RK where
 w0:World
 A:Option Addr
 c:Nat
 all:List ByteArray
structure RS (K:RK) (w:World) (ws:List ByteArray) (ns:List NodeL) (bad:Bool):Prop where
 kb:KB K.w0.heap.size K.w0 w
 st:∃ (p:Nat) (v:Value),ws=K.all.drop p∧p≤K.all.length∧Own K.w0.heap.size w K.w0.heap.size [.slice K.A K.all.length K.c,.int .i64 p,v,.bool bad]∧Texts K.w0 K.A K.all∧OwnL 278 5 NodeL.cells w (K.w0.heap.size+1) v ns
def uU (x:List UInt8):List ByteArray→Bool
 | []=>false
 | y::_=>decide (bts y=x)
end Go.Proofs.YtiffijoenkcpjaaGreatDoor
namespace Go.Proofs.YtiffijoenkcpjaaGreatDoor
open Go.RowKit Go.Lib
open Rw
section
variable {α:Type}
theorem wM {f:α→List UInt8} {l:List α} {k:Nat} (h:k < l.length):(l.take (k+1)).flatMap f=(l.take k).flatMap f++f l[k]:=by
 rw [List.take_succ_eq_append_getElem h,List.flatMap_append];simp
theorem xV {f:α→List UInt8} {l:List α} {B:Nat} (h:∀ x∈l,(f x).length≤B):∀ k,k≤l.length→((l.take k).flatMap f).length≤B * k
 | 0,_=>by simp
 | k+1,hk=>by
  rw [wM (by omega:k < l.length),List.length_append,Nat.mul_succ];have h1:=xV h k (by omega);have h2:=h l[k] (List.getElem_mem _);omega
theorem f5 {f:α→List UInt8} (l:List α):(l.take l.length).flatMap f=l.flatMap f:=by rw [List.take_length]
theorem uZ {f:α→Int} {l:List α} {k:Nat} (h:k < l.length):yj f (l.drop k)=if f l[k]=0 then yj f (l.drop (k+1)) else f l[k]:=by
 rw [List.drop_eq_getElem_cons h]; rfl
theorem tf {f:α→Int} {l:List α} {k:Nat} (h:l.length≤k):yj f (l.drop k)=0:=by
 rw [List.drop_eq_nil_of_le h]; rfl
theorem pH {f:α→Int}:∀ {l:List α},yj f l=0→∀ x∈l,f x=0
 | [],_,x,hx=>by simp at hx
 | a::l,h,x,hx=>by
  rw [yj] at h;split at h
  ·rename_i h0
   rcases List.mem_cons.1 hx with rfl | hx
   ·exact h0
   ·exact pH h x hx
  ·rename_i h0; exact absurd h h0
theorem wF {f:α→Int} {l:List α} {k:Nat} (h:k < l.length):zS f k (l.drop k)=if f l[k]=0 then zS f (k+1) (l.drop (k+1)) else (f l[k],(k:Int)):=by
 rw [List.drop_eq_getElem_cons h]; rfl
theorem wq {f:α→Int} {l:List α} {k:Nat} (h:l.length≤k):zS f k (l.drop k)=(0,0):=by
 rw [List.drop_eq_nil_of_le h]; rfl
theorem tS {f:α→Int}:∀ {l:List α} {i:Nat},(zS f i l).1=0→∀ x∈l,f x=0
 | [],_,_,x,hx=>by simp at hx
 | a::l,i,h,x,hx=>by
  rw [zS] at h;split at h
  ·rename_i h0
   rcases List.mem_cons.1 hx with rfl | hx
   ·exact h0
   ·exact tS h x hx
  ·rename_i h0; exact absurd h h0
theorem vx {p:α→Bool} {l:List α} {k:Nat} (h:k < l.length):(l.drop k).all p=(p l[k]&&(l.drop (k+1)).all p):=by
 rw [List.drop_eq_getElem_cons h,List.all_cons]
theorem r9 {p:α→Bool} {l:List α} {k:Nat} (h:l.length≤k):(l.drop k).all p=true:=by
 rw [List.drop_eq_nil_of_le h]; rfl
theorem qy {p:α→Bool} {l:List α} {k:Nat} (h:k < l.length):(l.drop k).any p=(p l[k] || (l.drop (k+1)).any p):=by
 rw [List.drop_eq_getElem_cons h,List.any_cons]
theorem mS {p:α→Bool} {l:List α} {k:Nat} (h:l.length≤k):(l.drop k).any p=false:=by
 rw [List.drop_eq_nil_of_le h]; rfl
end
theorem ng {nm:List UInt8} {v:Ver} {l:List EntryL} {k:Nat} (h:k < l.length):zi nm v k (l.drop k)=if js nm v l[k] then (k:Int) else zi nm v (k+1) (l.drop (k+1)):=by
 rw [List.drop_eq_getElem_cons h]; rfl
theorem kX {nm:List UInt8} {v:Ver} {l:List EntryL} {k:Nat} (h:l.length≤k):zi nm v k (l.drop k)=-1:=by
 rw [List.drop_eq_nil_of_le h]; rfl
theorem ub {s:List UInt8} (h:zg s=true):1≤s.length∧s.length≤16:=by
 simp only [zg,Bool.and_eq_true,decide_eq_true_eq] at h; exact h.1
theorem wA {s:List UInt8} (h:zY s=true):1≤s.length∧s.length≤12:=by
 simp only [zY,Bool.and_eq_true,decide_eq_true_eq] at h; exact h.1
theorem tY {s:List UInt8} (h:xI s=true):s.length≤96:=by
 simp only [xI,Bool.and_eq_true,decide_eq_true_eq] at h;obtain ⟨h,-⟩:=h;unfold yB at h;split at h
 ·simp at h
 ·omega
theorem rW {s:List UInt8} (h:ye s=true):s.length≤96:=by
 simp only [ye,Bool.and_eq_true,decide_eq_true_eq] at h; exact h.1
theorem aR {own nm rng:List UInt8} (h:wY own nm rng=0):zg nm=true∧nm≠own∧xI rng=true:=by
 unfold wY at h;split at h
 ·simp at h
 ·rename_i h1
  split at h
  ·simp at h
  ·rename_i h2
   split at h
   ·simp at h
   ·rename_i h3; exact ⟨by simpa using h1,h2,by simpa using h3⟩
theorem lF {own:List UInt8} {alone:Bool} {x:WishL} (h:uW own alone x=0):zg (bts x.name)=true∧xI (bts x.rng)=true∧x.feats.length≤6∧∀ s∈x.feats,zY (bts s)=true:=by
 unfold uW at h;split at h
 ·rename_i hw
  split at h
  ·rename_i hf
   obtain ⟨h1,-,h2⟩:=aR hw;simp only [yO,Bool.and_eq_true,decide_eq_true_eq] at hf;exact ⟨h1,h2,hf.1.1.1,fun s hs=>List.all_eq_true.1 hf.1.2 s hs⟩
  ·simp at h
 ·rename_i hw; exact absurd h hw
theorem tN {own:List UInt8} {alone:Bool} {x:WishL} (h:uW own alone x=0):(xg x).length≤300:=by
 obtain ⟨h1,h2,h3,h4⟩:=lF h;have a:=(ub h1).2;have b:=tY h2
 have c:=xC [44] 12 (x.feats.map bts) (fun p hp=>by
  obtain ⟨s,hs,rfl⟩:=List.mem_map.1 hp
  exact (wA (h4 s hs)).2)
 simp only [List.length_map,List.length_cons,List.length_nil] at c
 have d:(if x.feats=[] then [45] else zT [44] (x.feats.map bts)).length≤78:=by
  split
  ·simp
  ·omega
 (have e:(if x.bare then jG else lp).length≤4:=by split<;>simp [jG,lp]);simp only [xg,zv,zT,nlT,Vc,List.length_append,List.length_cons,List.length_nil];omega
theorem uO {s:ByteArray} (h:ye (bts s)=true):(vh s).length≤102:=by
 have a:=rW h;unfold vh;split
 ·simp
 ·simp only [zv,zT,nlT,Z8,List.length_append,List.length_cons,List.length_nil]; omega
theorem eB {s:ByteArray} (h:bts s=[]∨zY (bts s)=true):(if bts s=[] then [] else zv [uF,bts s]).length≤20:=by
 split
 ·simp
 ·rename_i h0
  have:=(wA (h.resolve_left h0)).2;simp only [zv,zT,nlT,uF,List.length_append,List.length_cons,List.length_nil]; omega
structure NeedOk (own:List UInt8) (n:NeedL):Prop where
 any1:n.any.length≠0
 any3:n.any.length≤3
 wishes:∀ x∈n.any,uW own (decide (n.any.length=1)) x=0
 whn:ye (bts n.whn)=true
 opt:bts n.opt=[]∨zY (bts n.opt)=true
theorem Xv {own:List UInt8} {n:NeedL} (h:yg own n=0):NeedOk own n:=by
 unfold yg at h;split at h
 ·simp at h
 ·rename_i h1
  split at h
  ·simp at h
  ·rename_i h2
   split at h
   ·rename_i h3
    split at h
    ·rename_i h4
     split at h
     ·rename_i h5; exact ⟨h1,by omega,pH h3,h4,h5⟩
     ·simp at h
    ·simp at h
   ·rename_i h3; exact absurd h h3
theorem oJ {own:List UInt8} {n:NeedL} (h:NeedOk own n):(zp n).length≤1100:=by
 have a:=xV (f:=xg) (B:=300) (fun x hx=>tN (h.wishes x hx)) n.any.length (Nat.le_refl _);rw [f5] at a;have b:=uO h.whn;have c:=eB h.opt;have d:=h.any3;unfold zp;simp only [List.length_append];have e:(zv [wZ]).length=5:=rfl;omega
structure BarOk (own:List UInt8) (b:BarL):Prop where
 name:zg (bts b.name)=true
 rng:xI (bts b.rng)=true
 whn:ye (bts b.whn)=true
theorem VQ {own:List UInt8} {b:BarL} (h:uY own b=0):BarOk own b:=by
 unfold uY at h;split at h
 ·rename_i hw
  split at h
  ·rename_i hm
   obtain ⟨h1,-,h2⟩:=aR hw;exact ⟨h1,h2,hm⟩
  ·simp at h
 ·rename_i hw; exact absurd h hw
theorem qt {own:List UInt8} {b:BarL} (h:BarOk own b):(tz b).length≤300:=by
 have x:=(ub h.name).2;have y:=tY h.rng;have z:=uO h.whn;simp only [tz,zv,zT,nlT,Z4,List.length_append,List.length_cons,List.length_nil];omega
theorem sN (b:UInt8):∀ (l cur:List UInt8),zT [b] (zV b cur l)=cur++l
 | [],cur=>by simp [zV,zT]
 | c::r,cur=>by
  unfold zV;split
  ·rename_i hc
   have ih:=sN b r [];have hl:=(zk b r []).1
   match hs:zV b [] r,hl with
   | p::q,_ =>
    rw [hs] at ih;rw [zT,ih,hc];simp
  ·rw [sN b r (cur++[c])]; simp
theorem f6 {s:List UInt8} (h:(xp s).1≠0):s.length≤29:=by
 unfold xp at h;split at h
 ·rename_i hw; have:=(wA hw).2; omega
 ·split at h
  ·rename_i hw
   have:=(wA hw.2).2;rw [List.length_drop] at this; omega
  ·split at h
   ·rename_i a b hs
    split at h
    ·rename_i hw
     simp only [Bool.and_eq_true] at hw;have h1:=(ub hw.1).2;have h2:=(wA hw.2).2;have h3:=sN 47 s [];rw [hs] at h3;simp only [zT,List.nil_append] at h3;rw [← h3];simp only [List.length_append,List.length_cons,List.length_nil]; omega
    ·simp at h
   ·simp at h
structure FeatOk (f:FeatL):Prop where
 name:zY (bts f.name)=true
 len:f.of_.length≤6
 items:∀ s∈f.of_,(xp (bts s)).1≠0
theorem co {l:List FeatL} (h:zt l=true):l.length≤8∧∀ f∈l,FeatOk f:=by
 simp only [zt,Bool.and_eq_true,decide_eq_true_eq] at h;refine ⟨h.1.1,fun f hf=>?_⟩;have:=List.all_eq_true.1 h.2 f hf;simp only [ux,Bool.and_eq_true,decide_eq_true_eq] at this;refine ⟨this.1.1.1,this.1.1.2,fun s hs=>?_⟩;have h2:=List.all_eq_true.1 this.2 s hs;simp only [xi,Bool.and_eq_true] at h2;simpa using h2.1
theorem tH {f:FeatL} (h:FeatOk f):(tF f).length≤300:=by
 have c:=xC [32] 29 (qn::bts f.name::f.of_.map bts) (fun p hp=>by
  rcases List.mem_cons.1 hp with rfl | hp
  ·simp [qn]
  ·rcases List.mem_cons.1 hp with rfl | hp
   ·have:=(wA h.name).2; omega
   ·obtain ⟨s,hs,rfl⟩:=List.mem_map.1 hp
    exact f6 (h.items s hs))
 simp only [List.length_map,List.length_cons,List.length_nil] at c;have d:=h.len;simp only [tF,zv,nlT,List.length_append,List.length_cons,List.length_nil];omega
structure RecOk (r:RecL):Prop where
 name:zg (bts r.name)=true
 v:yF r.v=true
 needs:r.needs.length≤8
 bars:r.bars.length≤8
 need:∀ n∈r.needs,NeedOk (bts r.name) n
 bar:∀ b∈r.bars,BarOk (bts r.name) b
 feats:r.feats.length≤8
 feat:∀ f∈r.feats,FeatOk f
theorem YS {v:Ver} (hm:yF v=true):(Xb v).length≤37:=by
 obtain ⟨-,-,-,-,hp⟩:=yN hm;unfold Xb;split
 ·simp
 ·rw [oz,Bool.or_eq_true] at hp;rcases hp with hp | hp
  ·exact absurd hp (by assumption)
  ·have:=qr hp;simp only [List.length_cons]; omega
theorem bf {v:Ver} (hm:yF v=true):(jP v).length≤14:=by
 obtain ⟨a,b,c,-,-⟩:=yN hm;have:=uA a;have:=uA b;have:=uA c;simp only [jP,List.length_append,List.length_cons]; omega
theorem pf (v:Ver):(vL v).length≤88:=by
 unfold vL;split
 ·rename_i h
  have:=bf h;have:=gb h;have:=YS h;simp only [List.length_append]; omega
 ·simp
def zy (r:RecL):List UInt8:=zv [si,bts r.name,vL r.v]
theorem og {r:RecL} (h:zg (bts r.name)=true):(zy r).length≤120:=by
 have:=(ub h).2;have:=pf r.v;simp only [zy,zv,zT,nlT,si,List.length_append,List.length_cons,List.length_nil]; omega
theorem iQ (r:RecL):qp r=zy r++r.needs.flatMap zp++r.bars.flatMap tz++r.feats.flatMap tF:=rfl
theorem Zl {r:RecL} (h1:zg (bts r.name)=true) (h2:yF r.v=true) (h3:¬ (8 < r.needs.length∨8 < r.bars.length)) (h4:(zS (yg (bts r.name)) 0 r.needs).1=0) (h5:(zS (uY (bts r.name)) 0 r.bars).1=0) (h6:zt r.feats=true):RecOk r :=
 ⟨h1,h2,by omega,by omega,fun n hn=>Xv (tS h4 n hn),fun b hb=>VQ (tS h5 b hb),(co h6).1,(co h6).2⟩
end Go.Proofs.YtiffijoenkcpjaaGreatDoor
namespace Go.Proofs.YtiffijoenkcpjaaGreatDoor
open Go.RowKit Go.Lib
end Go.Proofs.YtiffijoenkcpjaaGreatDoor
