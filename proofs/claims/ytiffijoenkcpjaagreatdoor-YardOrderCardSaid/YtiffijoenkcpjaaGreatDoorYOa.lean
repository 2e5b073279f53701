import Derived.Test.YtiffijoenkcpjaaGreatDoorYMa
set_option linter.unusedVariables false
set_option linter.unusedSimpArgs false
namespace Go.Proofs.YtiffijoenkcpjaaGreatDoor
open Go.RowKit Go.Lib
open Rw
structure VerN (v:Ver):Prop where
 pat:v.pat=0
 pre:v.pre=⟨#[]⟩∨v.pre=⟨#[114,99,46,49]⟩
def FewOk (s:ByteArray):Prop:=xI (bts s)=true∧s.size≤16
def WhenOk (s:ByteArray):Prop:=ye (bts s)=true∧s.size≤16
instance (s:ByteArray):Decidable (FewOk s):=by unfold FewOk; infer_instance
instance (s:ByteArray):Decidable (WhenOk s):=by unfold WhenOk; infer_instance
def verF (p q:Int):Ver:=⟨p,q,0,⟨#[]⟩,⟨#[]⟩⟩
theorem few_star:FewOk ⟨#[42]⟩:=by decide +kernel
theorem few_texts:∀ v∈([7,6,3,1,2]:List Int),∀ p∈([0,1,2]:List Int),∀ q∈([0,1]:List Int),xI (zh ⟨v,3,verF p q⟩)=true∧(zh ⟨v,3,verF p q⟩).length≤16:=by decide +kernel
theorem few_ok {m:Nat} {v p q:Int} (hv:Vn[m]?=some (.int .i64 v)) (h9:v≠9) (hp:0≤p∧p < 3) (hq:0≤q∧q < 2) {s:ByteArray} (h:bts s=zh ⟨v,3,⟨p,q,0,⟨#[]⟩,⟨#[]⟩⟩⟩):FewOk s:=by
 have h1:v∈([7,6,3,1,2]:List Int):=by
  (have:m=0∨m=1∨m=2∨m=3∨m=4∨m=5∨6≤m:=by omega);rcases this with rfl | rfl | rfl | rfl | rfl | rfl | hm
  ·injection hv with e; injection e with e1 e2; omega
  ·injection hv with e; injection e with e1 e2; subst e2; decide
  ·injection hv with e; injection e with e1 e2; subst e2; decide
  ·injection hv with e; injection e with e1 e2; subst e2; decide
  ·injection hv with e; injection e with e1 e2; subst e2; decide
  ·injection hv with e; injection e with e1 e2; subst e2; decide
  ·rw [List.getElem?_eq_none (by simp [Vn]; omega)] at hv; cases hv
 have h2:p∈([0,1,2]:List Int):=by
  (have:p=0∨p=1∨p=2:=by omega);rcases this with rfl | rfl | rfl<;>decide
 have h3:q∈([0,1]:List Int):=by
  (have:q=0∨q=1:=by omega);rcases this with rfl | rfl<;>decide
 have h4:=few_texts v h1 p h2 q h3;have hl:=zF s;rw [h] at hl;exact ⟨by rw [h]; exact h4.1,by have:=h4.2; unfold verF at this; omega⟩
theorem when_none:WhenOk ⟨#[]⟩:=by decide +kernel
def oss3:List ByteArray:=[⟨#[111,115]⟩,⟨#[97,114,99,104]⟩,⟨#[97,98,105]⟩]
def eqs2:List ByteArray:=[⟨#[32,61,32]⟩,⟨#[32,33,61,32]⟩]
theorem when_texts:∀ a∈oss3,∀ b∈eqs2,∀ s∈ZY,ye (bts a++bts b++bts s)=true∧(bts a++bts b++bts s).length≤16:=by decide +kernel
theorem when_ok {a b s:ByteArray} (ha:a∈oss3) (hb:b∈eqs2) (hs:s∈ZY):WhenOk (a++b++s):=by
 have h:=when_texts a ha b hb s hs;(have e:bts (a++b++s)=bts a++bts b++bts s:=by rw [zK,zK]);have hl:=zF (a++b++s);rw [e] at hl;exact ⟨by rw [e]; exact h.1,by omega⟩
def nmP (n:Int):ByteArray:=gL.getD (vZ n 5).toNat ⟨#[]⟩
theorem nmP_mem (n:Int):nmP n∈gL:=by
 have h:=p9 n 5 (by omega);(have:(vZ n 5).toNat < gL.length:=by show _ < 5; omega);unfold nmP;rw [List.getD_eq_getElem?_getD,List.getElem?_eq_getElem this];exact List.getElem_mem _
theorem placeI_pos {n k:Int} (h:0≤n) (hk:0 < k):vZ n k=n % k:=by
 unfold vZ;rw [Int.tmod_eq_emod_of_nonneg h,if_neg (by have:=Int.emod_nonneg n (by omega:k≠0); omega)]
theorem names_ne:∀ i < 5,∀ j < 5,i≠j→gL.getD i ⟨#[]⟩≠gL.getD j ⟨#[]⟩:=by decide +kernel
theorem nmP_ne {n p:Int} (h:0≤n) (hp:0≤p) (hp2:p < 4):bts (nmP (n+1+p))≠bts (nmP n):=by
 intro e;have e:=xE e;unfold nmP at e;rw [placeI_pos h (by omega),placeI_pos (by omega:0≤n+1+p) (by omega)] at e;refine names_ne _ ?_ _ ?_ ?_ e<;>omega
theorem names_ok:∀ s∈gL,zg (bts s)=true:=by decide +kernel
theorem words_ok:∀ s∈ZY,zY (bts s)=true:=by decide +kernel
structure WishOk (own:Int) (x:WishL):Prop where
 name:∃ p:Int,0≤p∧p < 4∧x.name=nmP (own+1+p)
 rng:FewOk x.rng
 feats:∃ k,x.feats=qJ.take k
structure NeedOk2 (own:Int) (x:NeedL):Prop where
 len:x.any.length=1∨x.any.length=2
 any:∀ y∈x.any,WishOk own y
 alone:x.any.length≠1→∀ y∈x.any,y.feats=[]
 whn:WhenOk x.whn
 opt:x.opt=⟨#[]⟩∨x.opt∈ZY
structure BarOk2 (own:Int) (x:BarL):Prop where
 name:∃ p:Int,0≤p∧p < 4∧x.name=nmP (own+1+p)
 rng:FewOk x.rng
 whn:WhenOk x.whn
theorem whom_ok2 {own p:Int} {nm rng:ByteArray} (ho:0≤own) (h1:0≤p) (h2:p < 4) (hn:nm=nmP (own+1+p)) (hr:FewOk rng):wY (bts (nmP own)) (bts nm) (bts rng)=0:=by
 subst hn;unfold wY;rw [names_ok _ (nmP_mem _),hr.1];simp [nmP_ne ho h1 h2]
theorem wt_take (k:Nat):qJ.take k=[]∨qJ.take k=[⟨#[120]⟩]∨qJ.take k=[⟨#[120]⟩,⟨#[121]⟩]:=by
 match k with
 | 0=>exact .inl rfl
 | 1=>exact .inr (.inl rfl)
 | k+2=>exact .inr (.inr (by simp [qJ]))
theorem wish_ok2 {own:Int} {x:WishL} {al:Bool} (ho:0≤own) (h:WishOk own x) (ha:al=false→x.feats=[]):uW (bts (nmP own)) al x=0:=by
 obtain ⟨p,h1,h2,h3⟩:=h.name;unfold uW;rw [whom_ok2 ho h1 h2 h3 h.rng,if_pos rfl,if_pos];obtain ⟨k,hk⟩:=h.feats;rw [hk];rw [hk] at ha;rcases wt_take k with e | e | e
 ·rw [e]; cases al<;>decide
 ·rw [e] at ha ⊢;cases al
  ·cases ha rfl
  ·decide +kernel
 ·rw [e] at ha ⊢;cases al
  ·cases ha rfl
  ·decide +kernel
theorem first_zero {α:Type} {f:α→Int}:∀ {l:List α},(∀ x∈l,f x=0)→yj f l=0
 | [],_=>rfl
 | x::l,h=>by rw [yj,if_pos (h x (List.mem_cons_self ..))]; exact first_zero fun y hy=>h y (List.mem_cons_of_mem _ hy)
theorem firstAt_zero2 {α:Type} {f:α→Int}:∀ {l:List α} (i:Nat),(∀ x∈l,f x=0)→(zS f i l).1=0
 | [],_,_=>rfl
 | x::l,i,h=>by rw [zS,if_pos (h x (List.mem_cons_self ..))]; exact firstAt_zero2 _ fun y hy=>h y (List.mem_cons_of_mem _ hy)
theorem opt_ok {o:ByteArray} (h:o=⟨#[]⟩∨o∈ZY):bts o=[]∨zY (bts o)=true:=by
 rcases h with rfl | h
 ·exact .inl mi
 ·exact .inr (words_ok _ h)
theorem need_ok2 {own:Int} {x:NeedL} (ho:0≤own) (h:NeedOk2 own x):yg (bts (nmP own)) x=0:=by
 unfold yg;have hl:=h.len;rw [if_neg (by omega),if_neg (by omega)];(have hw:yj (uW (bts (nmP own)) (decide (x.any.length=1))) x.any=0:=first_zero fun y hy=>wish_ok2 ho (h.any y hy) fun e=>h.alone (of_decide_eq_false e) y hy);rw [hw,if_pos rfl,h.whn.1,if_pos rfl,if_pos (opt_ok h.opt)]
theorem bar_ok2 {own:Int} {x:BarL} (ho:0≤own) (h:BarOk2 own x):uY (bts (nmP own)) x=0:=by
 obtain ⟨p,h1,h2,h3⟩:=h.name;unfold uY;rw [whom_ok2 ho h1 h2 h3 h.rng,if_pos rfl,h.whn.1,if_pos rfl]
abbrev lessT (a b:ByteArray):Prop:=Op.bytesLess (bts a) (bts b)=true
def RiseB (l:List ByteArray):Prop:=l.Pairwise lessT
theorem rises_of:∀ {l:List ByteArray},RiseB l→xF (l.map bts)=true
 | [],_=>rfl
 | [a],_=>rfl
 | a::b::r,h=>by
  have h:=List.pairwise_cons.1 h;show (Op.bytesLess (bts a) (bts b)&&xF ((b::r).map bts))=true;rw [h.1 b (List.mem_cons_self ..),rises_of h.2]; rfl
theorem rise_put {l:List ByteArray} {s:ByteArray} {k:Nat} (h:RiseB l) (h1:∀ x∈l.take k,lessT x s) (h2:∀ t,l[k]?=some t→lessT s t):RiseB (l.take k++[s]++l.drop k):=by
 have h3:∀ y∈l.drop k,lessT s y:=fun y hy=>by
  rcases Nat.lt_or_ge k l.length with hk | hk
  ·have e:=List.drop_eq_getElem_cons hk;have hp:RiseB (l.drop k):=List.Pairwise.sublist (List.drop_sublist _ _) h;rw [e] at hp hy;have hs:=h2 _ (List.getElem?_eq_getElem hk);rcases List.mem_cons.1 hy with rfl | hy
   ·exact hs
   ·exact nk _ _ _ hs ((List.pairwise_cons.1 hp).1 _ hy)
  ·rw [List.drop_eq_nil_of_le hk] at hy; cases hy
 refine List.pairwise_append.2 ⟨List.pairwise_append.2 ⟨List.Pairwise.sublist (List.take_sublist _ _) h,List.pairwise_singleton _ _,fun x hx y hy=>by rcases List.mem_singleton.1 hy with rfl; exact h1 x hx⟩,List.Pairwise.sublist (List.drop_sublist _ _) h,fun x hx y hy=>?_⟩;rcases List.mem_append.1 hx with hx | hx
 ·exact nk _ _ _ (h1 x hx) (h3 y hy)
 ·(rcases List.mem_singleton.1 hx with rfl);exact h3 y hy
def fnames:List ByteArray:=[⟨#[100,101,102,97,117,108,116]⟩,⟨#[120]⟩,⟨#[121]⟩,⟨#[122]⟩]
def ItemOk2 (ne:List NeedL) (s:ByteArray):Prop:=(∃ n∈ne,n.opt∈ZY∧s=⟨#[63]⟩++n.opt)∨(∃ n∈ne,∃ w:WishL,n.any=[w]∧w.name∈gL∧s=w.name++⟨#[47]⟩++⟨#[120]⟩)
structure FeatsIn (ne:List NeedL) (l:List FeatL) (pend:ByteArray→Prop):Prop where
 names:(l.map (·.name)).Sublist fnames
 rise:∀ f∈l,RiseB f.of_
 len:∀ f∈l,f.of_.length≤5
 items:∀ f∈l,∀ s∈f.of_,ItemOk2 ne s∨(s∈fnames∧(s∈l.map (·.name)∨pend s))
theorem fnames_rise:RiseB fnames:=by unfold RiseB lessT; decide +kernel
theorem fnames_word:∀ s∈fnames,zY (bts s)=true∧xp (bts s)=(1,bts s,[])∧s.size≤7:=by decide +kernel
theorem opts_item:∀ o∈ZY,xp (63::bts o)=(2,bts o,[]):=by decide +kernel
theorem pulls_item:∀ n∈gL,xp (bts n++[47]++[120])=(3,bts n,[120]):=by decide +kernel
theorem item_opt2 {o:ByteArray} (h:o∈ZY):xp (bts (⟨#[63]⟩++o))=(2,bts o,[]):=by
 rw [zK,show bts (⟨#[63]⟩:ByteArray)=[63] from zN [63]];exact opts_item o h
theorem item_pull {n:ByteArray} (h:n∈gL):xp (bts (n++⟨#[47]⟩++⟨#[120]⟩))=(3,bts n,[120]):=by
 rw [zK,zK,show bts (⟨#[47]⟩:ByteArray)=[47] from zN [47],show bts (⟨#[120]⟩:ByteArray)=[120] from zN [120]];exact pulls_item n h
theorem feats_ok {ne:List NeedL} {l:List FeatL} {pend:ByteArray→Prop} (h:FeatsIn ne l pend) (hp:∀ s,pend s→False):zt l=true∧∀ f∈l,uE ne f=0:=by
 (have hit:∀ f∈l,∀ s∈f.of_,ItemOk2 ne s∨(s∈fnames∧s∈l.map (·.name)):=fun f hf s hs=>(h.items f hf s hs).imp id fun k=>⟨k.1,k.2.resolve_right (hp s)⟩);constructor
 ·unfold zt;have h1:l.length≤4:=by have:=h.names.length_le; rw [List.length_map] at this; exact this
  have h2:xF (l.map fun f=>bts f.name)=true:=by
   have:=rises_of (List.Pairwise.sublist h.names fnames_rise)
   rwa [List.map_map] at this
  rw [h2,decide_eq_true (by omega:l.length≤8),Bool.true_and,Bool.true_and,List.all_eq_true];intro f hf;unfold ux;have hn:f.name∈fnames:=h.names.subset (List.mem_map_of_mem hf);rw [(fnames_word _ hn).1,decide_eq_true (Nat.le_trans (h.len f hf) (by omega)),rises_of (h.rise f hf),Bool.true_and,Bool.true_and,Bool.true_and,List.all_eq_true];intro s hs;unfold xi;rcases hit f hf s hs with (⟨n,hn,ho,rfl⟩ | ⟨n,hn,w,-,hw,rfl⟩) | ⟨hs1,hs2⟩
  ·rw [item_opt2 ho]; rfl
  ·rw [item_pull hw]; rfl
  ·rw [(fnames_word _ hs1).2.1];obtain ⟨g,hg,e⟩:=List.mem_map.1 hs2
   have:tT l (bts s)=true:=by
    unfold tT;rw [Bool.or_eq_true];exact .inr (List.any_eq_true.2 ⟨g,hg,by rw [← e]; exact decide_eq_true rfl⟩)
   simp [this]
 ·intro f hf;(refine first_zero fun s hs=>?_);unfold vj;rcases hit f hf s hs with (⟨n,hn,ho,rfl⟩ | ⟨n,hn,w,e,hw,rfl⟩) | ⟨hs1,hs2⟩
  ·rw [item_opt2 ho];have:ym ne (bts n.opt)=true:=List.any_eq_true.2 ⟨n,hn,decide_eq_true rfl⟩;simp [this]
  ·rw [item_pull hw];have:vA ne (bts w.name)=true:=List.any_eq_true.2 ⟨n,hn,by rw [e]; exact decide_eq_true rfl⟩;simp [this]
  ·rw [(fnames_word _ hs1).2.1]; rfl
theorem flat_le {α:Type} {f:α→List UInt8} {b:Nat}:∀ {l:List α},(∀ x∈l,(f x).length≤b)→(l.flatMap f).length≤l.length * b
 | [],_=>by simp
 | x::l,h=>by
  rw [List.flatMap_cons,List.length_append,List.length_cons,Nat.succ_mul];have:=h x (List.mem_cons_self ..);(have:=flat_le (l:=l) fun y hy=>h y (List.mem_cons_of_mem _ hy));omega
theorem join_le {b:Nat}:∀ {l:List (List UInt8)},(∀ x∈l,x.length≤b)→(zT [32] l).length≤l.length * (b+1)
 | [],_=>by simp [zT]
 | [x],h=>by
  have:=h x (List.mem_cons_self ..);simp only [zT,List.length_singleton];omega
 | x::y::r,h=>by
  (have e:zT [32] (x::y::r)=x++32::zT [32] (y::r):=by rw [zT]; simp);have h1:=h x (List.mem_cons_self ..);(have h2:=join_le (l:=y::r) fun z hz=>h z (List.mem_cons_of_mem _ hz));rw [e,List.length_append,List.length_cons,List.length_cons (a:=x),Nat.succ_mul];omega
theorem line_le {b:Nat} {l:List (List UInt8)} (h:∀ x∈l,x.length≤b):(zv l).length≤l.length * (b+1)+1:=by
 have:=join_le h;rw [zv,List.length_append];exact Nat.succ_le_succ this
theorem when_le {s:ByteArray} (h:WhenOk s):(vh s).length≤40:=by
 unfold vh;split
 ·simp
 ·have:=zF s
  exact Nat.le_trans (line_le (b:=16) fun x hx=>by
   simp only [List.mem_cons,List.not_mem_nil,or_false] at hx;rcases hx with rfl | rfl
   ·decide
   ·have:=h.2; omega) (by simp)
theorem wish_le {own:Int} {x:WishL} (h:WishOk own x):(xg x).length≤100:=by
 obtain ⟨p,-,-,hn⟩:=h.name;have h1:=aL _ (nmP_mem (own+1+p));have l1:=zF x.name;have l2:=zF x.rng;rw [← hn] at h1;have h2:=h.rng.2;obtain ⟨k,hk⟩:=h.feats;unfold xg;refine Nat.le_trans (line_le (b:=16) fun y hy=>?_) (by simp);simp only [List.mem_cons,List.not_mem_nil,or_false] at hy;rcases hy with rfl | rfl | rfl | rfl | rfl
 ·decide
 ·omega
 ·rw [hk];rcases wt_take k with e | e | e<;>rw [e]<;>decide +kernel
 ·split<;>decide
 ·omega
theorem need_le {own:Int} {x:NeedL} (h:NeedOk2 own x):(zp x).length≤400:=by
 unfold zp;(have h1:(x.any.flatMap xg).length≤x.any.length * 100:=flat_le fun y hy=>wish_le (h.any y hy));have h2:=when_le h.whn;have h3:=h.len;have h5:(zv [wZ]).length=5:=by decide
 have h4:(if bts x.opt=[] then [] else zv [uF,bts x.opt]).length≤40:=by
  split
  ·simp
  ·have:=zF x.opt
   have hs:x.opt.size≤3:=by
    rcases h.opt with e | e
    ·rw [e]; decide
    ·exact jr _ e
   exact Nat.le_trans (line_le (b:=8) fun y hy=>by
    simp only [List.mem_cons,List.not_mem_nil,or_false] at hy;rcases hy with rfl | rfl
    ·decide
    ·omega) (by simp)
 rw [List.length_append,List.length_append,List.length_append];omega
theorem bar_le {own:Int} {x:BarL} (h:BarOk2 own x):(tz x).length≤100:=by
 obtain ⟨p,-,-,hn⟩:=h.name;have h1:=aL _ (nmP_mem (own+1+p));have l1:=zF x.name;have l2:=zF x.rng;rw [← hn] at h1;have h2:=h.rng.2;have h3:=when_le h.whn;unfold tz
 have:(zv [Z4,bts x.name,bts x.rng]).length≤52:=Nat.le_trans (line_le (b:=16) fun y hy=>by
  simp only [List.mem_cons,List.not_mem_nil,or_false] at hy;rcases hy with rfl | rfl | rfl
  ·decide
  ·omega
  ·omega) (by simp)
 rw [List.length_append];omega
theorem item_le {ne:List NeedL} {s:ByteArray} (h:ItemOk2 ne s):s.size≤16:=by
 rcases h with ⟨n,-,ho,rfl⟩ | ⟨n,-,w,-,hw,rfl⟩
 ·have:=jr _ ho;rw [ByteArray.size_append,show (⟨#[63]⟩:ByteArray).size=1 from rfl]; omega
 ·have:=aL _ hw;rw [ByteArray.size_append,ByteArray.size_append,show (⟨#[47]⟩:ByteArray).size=1 from rfl,show (⟨#[120]⟩:ByteArray).size=1 from rfl]; omega
theorem feat_le {ne:List NeedL} {l:List FeatL} {pend:ByteArray→Prop} (h:FeatsIn ne l pend):∀ f∈l,(tF f).length≤200:=by
 intro f hf;have hn:f.name∈fnames:=h.names.subset (List.mem_map_of_mem hf);have hs:=(fnames_word _ hn).2.2;have l1:=zF f.name;have hl:=h.len f hf;unfold tF;refine Nat.le_trans (line_le (b:=16) fun y hy=>?_) (by rw [List.length_cons,List.length_cons,List.length_map]; omega);rcases List.mem_cons.1 hy with rfl | hy
 ·decide
 ·rcases List.mem_cons.1 hy with rfl | hy
  ·omega
  ·obtain ⟨s,hs,rfl⟩:=List.mem_map.1 hy;have:=zF s;rcases h.items f hf s hs with k | ⟨k,-⟩
   ·have:=item_le k; omega
   ·have:=(fnames_word _ k).2.2; omega
structure RecOk2 (own:Int) (r:RecL):Prop where
 name:r.name=nmP own
 maj:0≤r.v.maj∧r.v.maj < 3
 min:0≤r.v.min∧r.v.min < 2
 ver:VerN r.v
 bld:r.v.bld=⟨#[]⟩∨r.v.bld=⟨#[55]⟩
 nlen:r.needs.length≤2
 needs:∀ n∈r.needs,NeedOk2 own n
 blen:r.bars.length≤1
 bars:∀ b∈r.bars,BarOk2 own b
 feats:FeatsIn r.needs r.feats fun _=>False
theorem vers_ok:∀ a∈([0,1,2]:List Int),∀ b∈([0,1]:List Int),∀ p∈([⟨#[]⟩,⟨#[114,99,46,49]⟩]:List ByteArray),∀ q∈([⟨#[]⟩,⟨#[55]⟩]:List ByteArray),yF ⟨a,b,0,p,q⟩=true∧(vL ⟨a,b,0,p,q⟩).length≤16:=by decide +kernel
theorem ver_ok {own:Int} {r:RecL} (h:RecOk2 own r):yF r.v=true∧(vL r.v).length≤16:=by
 have h1:=h.maj;have h2:=h.min;have h3:=h.ver.pat;have h4:=h.ver.pre;have h5:=h.bld;generalize r.v=v at *;obtain ⟨a,b,c,p,q⟩:=v;dsimp only at *;subst h3;refine vers_ok a ?_ b ?_ p ?_ q ?_
 ·(have:a=0∨a=1∨a=2:=by omega);rcases this with rfl | rfl | rfl<;>decide
 ·(have:b=0∨b=1:=by omega);rcases this with rfl | rfl<;>decide
 ·rcases h4 with rfl | rfl
  ·exact List.mem_cons_self ..
  ·exact List.mem_cons_of_mem _ (List.mem_cons_self ..)
 ·rcases h5 with rfl | rfl
  ·exact List.mem_cons_self ..
  ·exact List.mem_cons_of_mem _ (List.mem_cons_self ..)
theorem rec_ok2 {own:Int} {r:RecL} (ho:0≤own) (h:RecOk2 own r):(z5 r).1=0:=by
 have hv:=ver_ok h;(have hf:=feats_ok h.feats fun _ k=>k);have hb:=h.blen;have hn:=h.nlen;(have h1:(zS (yg (bts r.name)) 0 r.needs).1=0:=firstAt_zero2 0 fun n hn=>by rw [h.name]; exact need_ok2 ho (h.needs n hn));(have h2:(zS (uY (bts r.name)) 0 r.bars).1=0:=firstAt_zero2 0 fun n hn=>by rw [h.name]; exact bar_ok2 ho (h.bars n hn));have h3:(zS (uE r.needs) 0 r.feats).1=0:=firstAt_zero2 0 hf.2
 have hl:(qp r).length≤4096:=by
  have t1:(zv [si,bts r.name,vL r.v]).length≤52:=Nat.le_trans (line_le (b:=16) fun y hy=>by
   simp only [List.mem_cons,List.not_mem_nil,or_false] at hy;have:=zF r.name;have h8:=aL _ (nmP_mem own);rw [← h.name] at h8;rcases hy with rfl | rfl | rfl
   ·decide
   ·omega
   ·exact hv.2) (by simp)
  (have t2:(r.needs.flatMap zp).length≤r.needs.length * 400:=flat_le fun n hn=>need_le (h.needs n hn));(have t3:(r.bars.flatMap tz).length≤r.bars.length * 100:=flat_le fun n hn=>bar_le (h.bars n hn));have t4:(r.feats.flatMap tF).length≤r.feats.length * 200:=flat_le (feat_le h.feats);(have t5:r.feats.length≤4:=by have:=h.feats.names.length_le; rw [List.length_map] at this; exact this);unfold qp;rw [List.length_append,List.length_append,List.length_append];omega
 unfold z5;(have hnm:zg (bts r.name)=true:=by rw [h.name]; exact names_ok _ (nmP_mem _));rw [hnm,hv.1,h1,h2,hf.1,h3];simp only [Bool.not_true,Bool.false_eq_true,if_false,ne_eq,not_true_eq_false];rw [if_neg (by omega),if_neg (by omega)]
end Go.Proofs.YtiffijoenkcpjaaGreatDoor
