import Derived.Test.YtiebekmefjbenaaGreatDoorZJx
set_option linter.unusedVariables false
set_option linter.unusedSimpArgs false
namespace Go.Proofs.YtiebekmefjbenaaGreatDoor
open Go.RowKit Go.Lib
structure RK where
 w0:World
 A:Option Addr
 c:Nat
 all:List ByteArray
structure RS (K:RK) (w:World) (ws:List ByteArray) (ns:List NodeL) (bad:Bool):Prop where
 kb:KB K.w0.heap.size K.w0 w
 st:∃ (p:Nat) (v:Value),ws=K.all.drop p∧p≤K.all.length∧Own K.w0.heap.size w K.w0.heap.size [.slice K.A K.all.length K.c,.int .i64 p,v,.bool bad]∧Texts K.w0 K.A K.all∧OwnL 237 5 NodeL.cells w (K.w0.heap.size+1) v ns
theorem RS.on {K:RK} {w w':World} {ws:List ByteArray} {ns:List NodeL} {bad:Bool} (h:RS K w ws ns bad) (hb:KB w.heap.size w w'):RS K w' ws ns bad:=by
 obtain ⟨p,v,hp,hl,ho,ht,hv⟩:=h.st;exact ⟨zA h.kb hb,p,v,hp,hl,ho.kb hb,ht,hv.kb hb⟩
theorem RS.worse {K:RK} {w:World} {ws:List ByteArray} {ns:List NodeL} {bad:Bool} (h:RS K w ws ns bad):RS K (w.setCell ⟨K.w0.heap.size,3,none⟩ (.bool true)) ws ns true:=by
 obtain ⟨p,v,hp,hl,ho,ht,hv⟩:=h.st;exact ⟨yV h.kb (Nat.le_refl _) _,p,v,hp,hl,by simpa using ho.put (j:=3) (by simp) (.bool true),ht,tc hv⟩
theorem RS.next {K:RK} {w:World} {p:Nat} {ns:List NodeL} {bad:Bool} {v:Value} (h:RS K w (K.all.drop p) ns bad) (hp:p < K.all.length)
 (ho:Own K.w0.heap.size w K.w0.heap.size [.slice K.A K.all.length K.c,.int .i64 p,v,.bool bad]) (hv:OwnL 237 5 NodeL.cells w (K.w0.heap.size+1) v ns) :
 RS K (w.setCell ⟨K.w0.heap.size,1,none⟩ (.int .i64 ((p:Int)+1))) (K.all.drop p).tail ns bad:=by
 obtain ⟨_,_,_,_,_,ht,_⟩:=h.st
 refine ⟨yV h.kb (Nat.le_refl _) _,p+1,v,by rw [List.tail_drop],by omega,?_,ht,tc hv⟩
 have:=ho.put (j:=1) (by simp) (.int .i64 ((p:Int)+1))
 simpa using this
def YR (K:RK) (wr:World):Nat:=match wr.cell? ⟨K.w0.heap.size,1,none⟩ with
 | some (.int _ p)=>K.all.length - p.toNat
 | _=>0
theorem RS.left {K:RK} {w:World} {ws:List ByteArray} {ns:List NodeL} {bad:Bool} (h:RS K w ws ns bad):YR K w=ws.length:=by
 obtain ⟨p,v,hp,hl,ho,-⟩:=h.st;have:=ho.box.2 1 _ rfl;unfold YR;rw [this,hp,List.length_drop];simp
def uU (x:List UInt8):List ByteArray→Bool
 | []=>false
 | y::_=>decide (bts y=x)
def qC (K:RK) (ws:List ByteArray) (ns:List NodeL) (r:Option (MT × zb)):Ending→World→Prop:=fun e w'=>match r with
 | some (t,r)=>e = .returned (.int .i64 ((ns.length+t.size - 1:Nat):Int))∧∃ ws',ws'.map bts=r∧RS K w' ws' (ns++t.lay ns.length) false
 | none=>∃ (n:Int) (ws':List ByteArray) (ns':List NodeL),e = .returned (.int .i64 n)∧RS K w' ws' ns' true∧ws'.length+ns'.length≤ws.length+ns.length∧ws'.length≤ws.length
def od (K:RK) (f:FuncId) (part:zb→Option (MT × zb)) (n:Nat):Prop :=
 ∀ (w:World) (ws:List ByteArray) (ns:List NodeL) (bad:Bool),RS K w ws ns bad→ws.length < n→ws.length+ns.length≤800000→Calls Tryz.prog f #[cI K.w0] w (qC K ws ns (if bad=true then none else part (ws.map bts)))
theorem Yb {K:RK} {w':World} {ws:List ByteArray} {ns:List NodeL} {r:Option (MT × zb)} {e:Ending} (h:qC K ws ns r e w'):∃ x:Int,e = .returned (.int .i64 x)∧Hid (qC K ws ns r (.returned (.int .i64 x)) w'):=by
 cases r with
 | none =>
  obtain ⟨x,ws',ns',rfl,h⟩:=h;exact ⟨x,rfl,hid ⟨x,ws',ns',rfl,h⟩⟩
 | some q =>
  obtain ⟨t,r⟩:=q;obtain ⟨rfl,h⟩:=h;exact ⟨_,rfl,hid ⟨rfl,h⟩⟩
def qi (K:RK) (ws:List ByteArray) (ns:List NodeL) (kw:List UInt8) (mk:MT→MT→MT) (part:zb→Option (MT × zb)) (R:Option (MT × zb)) (x:Int) (wr:World):Prop :=
 (∃ (a:MT) (ws':List ByteArray),x=((ns.length+a.size - 1:Nat):Int)∧RS K wr ws' (ns++a.lay ns.length) false∧ws'.length+a.size≤ws.length∧R=xY kw mk part (ws'.map bts).length a (ws'.map bts)) ∨
 (∃ (ws':List ByteArray) (ns':List NodeL),RS K wr ws' ns' true∧ws'.length+ns'.length≤ws.length+ns.length∧ws'.length≤ws.length∧R=none)
theorem qK {K:RK} {ws:List ByteArray} {ns:List NodeL} {kw:List UInt8} {mk:MT→MT→MT} {part:zb→Option (MT × zb)} {bad:Bool} (hp:wP part) {e:Ending} {w':World}
 (h:qC K ws ns (if bad=true then none else part (ws.map bts)) e w'):∃ x:Int,e = .returned (.int .i64 x)∧Hid (qi K ws ns kw mk part (if bad=true then none else vq kw mk part (ws.map bts)) x w'):=by
 cases bad with
 | true =>
  rw [if_pos rfl] at h ⊢
  obtain ⟨x,ws',ns',h1,h2,h3,h4⟩:=h
  exact ⟨x,h1,hid (.inr ⟨ws',ns',h2,h3,h4,rfl⟩)⟩
 | false =>
  rw [if_neg (by simp)] at h ⊢
  unfold vq
  cases hq:part (ws.map bts) with
  | none =>
   rw [hq] at h
   obtain ⟨x,ws',ns',h1,h2,h3,h4⟩:=h
   exact ⟨x,h1,hid (.inr ⟨ws',ns',h2,h3,h4,rfl⟩)⟩
  | some q =>
   obtain ⟨a,r⟩:=q
   rw [hq] at h
   obtain ⟨h1,ws',rfl,h2⟩:=h
   have h3:=(hp _ _ _ hq).2.2
   rw [List.length_map,List.length_map] at h3
   exact ⟨_,h1,hid (.inl ⟨a,ws',rfl,h2,by omega,rfl⟩)⟩
theorem pW {K:RK} {ws r:List ByteArray} {ns:List NodeL} {kw:List UInt8} {mk:MT→MT→MT} {part:zb→Option (MT × zb)} {R:Option (MT × zb)} {a:MT} {op:Int} {y:ByteArray}
 (hp:wP part) (hz:∀ a b,(mk a b).size=a.size+b.size+1)
 (hm:∀ a b s,(mk a b).lay s=a.lay s++(b.lay (s+a.size)++[⟨op,((s+a.size - 1:Nat):Int),((s+a.size+b.size - 1:Nat):Int),0,zc⟩]))
 (hr:r.length+1+a.size≤ws.length) (hR:R=xY kw mk part ((y::r).map bts).length a ((y::r).map bts)) (hy:bts y=kw) {e:Ending} {w':World}
 (h:qC K r (ns++a.lay ns.length) (if false=true then none else part (r.map bts)) e w'):∃ x:Int,e = .returned (.int .i64 x)∧∃ (ws':List ByteArray) (ns':List NodeL) (bad:Bool),ws'.length≤r.length∧ws'.length+ns'.length≤ws.length+ns.length∧Hid (RS K w' ws' ns' bad) ∧
  Hid (∀ u,RS K u ws' (ns'++[⟨op,((ns.length+a.size - 1:Nat):Int),x,0,zc⟩]) bad→qi K ws ns kw mk part R ((ns'.length:Nat):Int) u):=by
 rw [if_neg (by simp)] at h
 rw [List.map_cons,n8 hp a _ _ hy] at hR
 have ha:=a.size_pos
 cases hq:part (r.map bts) with
 | none =>
  rw [hq] at h hR
  obtain ⟨x,ws',ns',h1,h2,h3,h4⟩:=h
  rw [List.length_append,MT.lay_len] at h3
  refine ⟨x,h1,ws',ns',true,h4,by omega,hid h2,hid fun u hu => .inr ⟨ws',_,hu,?_,by omega,hR⟩⟩
  rw [List.length_append,List.length_singleton]; omega
 | some q =>
  obtain ⟨b,r2⟩:=q
  rw [hq] at h hR
  obtain ⟨h1,ws',rfl,h2⟩:=h
  rw [List.length_append,MT.lay_len] at h1 h2
  have h3:=(hp _ _ _ hq).2.2
  rw [List.length_map,List.length_map] at h3
  have hb:=b.size_pos
  have h4:=(hp _ _ _ hq).1
  rw [List.length_map,List.length_map] at h4
  refine ⟨_,h1,ws',_,false,by omega,?_,hid h2,hid fun u hu => .inl ⟨mk a b,ws',?_,?_,?_,hR⟩⟩
  ·simp only [List.length_append,MT.lay_len]; omega
  ·rw [hz]; simp only [List.length_append,MT.lay_len]; omega
  ·rw [hm];simpa only [List.append_assoc] using hu
  ·rw [hz]; omega
theorem bh {K:RK} {w':World} {x:ByteArray} {r:List ByteArray} {ns:List NodeL} {n:Nat} {e:Ending} (hx:bts x=cG) (h:qC K r ns (if false=true then none else wW n (r.map bts)) e w') :
 ∃ y:Int,e = .returned (.int .i64 y)∧∃ (ws':List ByteArray) (ns':List NodeL) (bad:Bool),ws'.length+ns'.length≤r.length+ns.length∧Hid (RS K w' ws' ns' bad) ∧
  Hid (∀ u,RS K u ws' (ns'++[⟨2,y,0,0,zc⟩]) bad→qC K (x::r) ns (wW (n+1) ((x::r).map bts)) (.returned (.int .i64 ns'.length)) u):=by
 rw [if_neg (by simp)] at h
 have hf:wW (n+1) ((x::r).map bts)=match wW n (r.map bts) with | none=>none | some (t,ws')=>some (.not t,ws'):=by
  rw [List.map_cons,wW,if_pos hx]; rfl
 rw [hf]
 cases hq:wW n (r.map bts) with
 | none =>
  rw [hq] at h
  obtain ⟨y,ws',ns',h1,h2,h3,h4⟩:=h
  refine ⟨y,h1,ws',ns',true,h3,hid h2,hid fun u hu=>⟨_,ws',_,rfl,hu,?_,?_⟩⟩
  ·simp only [List.length_append,List.length_cons,List.length_nil]; omega
  ·simp only [List.length_cons]; omega
 | some q =>
  obtain ⟨t,r2⟩:=q
  rw [hq] at h
  obtain ⟨h1,ws',rfl,h2⟩:=h
  have h3:=(vv n _ _ _ hq).2.2
  rw [List.length_map,List.length_map] at h3
  have hb:=t.size_pos
  refine ⟨_,h1,ws',_,false,?_,hid h2,hid fun u hu=>⟨?_,ws',rfl,?_⟩⟩
  ·rw [List.length_append,MT.lay_len]; omega
  ·rw [List.length_append,MT.lay_len,MT.size];rfl
  ·rw [MT.lay];simpa only [List.append_assoc] using hu
theorem io {K:RK} {w':World} {x:ByteArray} {r:List ByteArray} {ns:List NodeL} {n:Nat} {e:Ending} (hx:bts x=[40]) (h:qC K r ns (if false=true then none else yI (wW n) (r.map bts)) e w') :
 ∃ y:Int,e = .returned (.int .i64 y)∧∃ (ws':List ByteArray) (ns':List NodeL) (bad:Bool),ws'.length≤r.length∧ws'.length+ns'.length≤r.length+ns.length∧Hid (RS K w' ws' ns' bad) ∧
  Hid (∀ u,RS K u ws'.tail ns' bad→uU [41] ws'=true→qC K (x::r) ns (wW (n+1) ((x::r).map bts)) (.returned (.int .i64 y)) u) ∧
  Hid (∀ u,RS K u ws' ns' true→uU [41] ws'=false→qC K (x::r) ns (wW (n+1) ((x::r).map bts)) (.returned (.int .i64 y)) u):=by
 rw [if_neg (by simp)] at h
 have hf:wW (n+1) ((x::r).map bts)=match yI (wW n) (r.map bts) with | some (t,c::ws')=>if c=[41] then some (t,ws') else none | _=>none:=by
  rw [List.map_cons,wW,if_neg (by rw [hx]; decide),if_pos hx]; rfl
 rw [hf]
 cases hq:yI (wW n) (r.map bts) with
 | none =>
  rw [hq] at h
  obtain ⟨y,ws',ns',h1,h2,h3,h4⟩:=h
  have hl:ws'.tail.length≤ws'.length:=by simp
  refine ⟨y,h1,ws',ns',true,h4,h3,hid h2,hid fun u hu _=>⟨y,ws'.tail,ns',rfl,hu,?_,?_⟩,hid fun u hu _=>⟨y,ws',ns',rfl,hu,?_,?_⟩⟩
  all_goals (simp only [List.length_cons]; omega)
 | some q =>
  obtain ⟨t,r2⟩:=q
  rw [hq] at h
  obtain ⟨h1,ws',rfl,h2⟩:=h
  have h3:=vf (vv n) _ _ _ hq
  rw [List.length_map,List.length_map] at h3
  refine ⟨_,h1,ws',_,false,by omega,?_,hid h2,hid fun u hu hc=>?_,hid fun u hu hc=>?_⟩
  ·rw [List.length_append,MT.lay_len]; omega
  ·rcases ws' with _ | ⟨c,ws'⟩
   ·cases hc
   ·(have hc2:bts c=[41]:=by simpa [uU] using hc);simp only [List.map_cons];rw [if_pos hc2];exact ⟨rfl,ws',rfl,hu⟩
  ·have hn:(match (some (t,ws'.map bts):Option (MT × zb)) with | some (t,c::ws')=>if c=[41] then some (t,ws') else none | _=>none)=none:=by
    rcases ws' with _ | ⟨c,ws'⟩
    ·rfl
    ·exact if_neg (by simpa [uU] using hc)
   rw [hn];refine ⟨_,ws',_,rfl,hu,?_,?_⟩
   ·rw [List.length_append,MT.lay_len]; simp only [List.length_cons]; omega
   ·simp only [List.length_cons]; omega
theorem au (w:ByteArray) (r:List ByteArray):tu (bts w) (r.map bts)=isR (bts w) (wU r) (wU r.tail) false (r.tail.tail.map bts):=by
 unfold isR;rw [if_neg (by simp)];(have e0:zY (bts zc)=false:=by rw [show bts zc=[] from mi]; rfl);rcases r with _ | ⟨x,r⟩
 ·simp only [List.map_nil,tu,List.tail_nil,wU,e0];cases tB (bts w)<;>rfl
 ·rcases r with _ | ⟨y,r⟩
  ·simp only [List.map_cons,List.map_nil,tu,List.tail_cons,List.tail_nil,wU,e0];cases tB (bts w)<;>rfl
  ·simp only [List.map_cons,tu,List.tail_cons,wU,sY];cases tB (bts w) with
   | none=>rfl
   | some n=>rfl
end Go.Proofs.YtiebekmefjbenaaGreatDoor
namespace Go.Proofs.YtiebekmefjbenaaGreatDoor
open Go.RowKit Go.Lib
open Rw
section
variable {α:Type}
theorem wM {f:α→List UInt8} {l:List α} {k:Nat} (h:k < l.length):(l.take (k+1)).flatMap f=(l.take k).flatMap f++f l[k]:=by
 rw [List.take_succ_eq_append_getElem h,List.flatMap_append];simp
theorem xV {f:α→List UInt8} {l:List α} {B:Nat} (h:∀ x∈l,(f x).length≤B):∀ k,k≤l.length→((l.take k).flatMap f).length≤B * k
 | 0,_=>by simp
 | k+1,hk=>by
  rw [wM (by omega:k < l.length),List.length_append,Nat.mul_succ];have h1:=xV h k (by omega);have h2:=h l[k] (List.getElem_mem _);omega
theorem f5 {f:α→List UInt8} (l:List α):(l.take l.length).flatMap f=l.flatMap f:=by rw [List.take_length]
theorem uZ {f:α→Int} {l:List α} {k:Nat} (h:k < l.length):yj f (l.drop k)=if f l[k]=0 then yj f (l.drop (k+1)) else f l[k]:=by
 rw [List.drop_eq_getElem_cons h]; rfl
theorem tf {f:α→Int} {l:List α} {k:Nat} (h:l.length≤k):yj f (l.drop k)=0:=by
 rw [List.drop_eq_nil_of_le h]; rfl
theorem pH {f:α→Int}:∀ {l:List α},yj f l=0→∀ x∈l,f x=0
 | [],_,x,hx=>by simp at hx
 | a::l,h,x,hx=>by
  rw [yj] at h;split at h
  ·rename_i h0
   rcases List.mem_cons.1 hx with rfl | hx
   ·exact h0
   ·exact pH h x hx
  ·rename_i h0; exact absurd h h0
theorem wF {f:α→Int} {l:List α} {k:Nat} (h:k < l.length):zS f k (l.drop k)=if f l[k]=0 then zS f (k+1) (l.drop (k+1)) else (f l[k],(k:Int)):=by
 rw [List.drop_eq_getElem_cons h]; rfl
theorem wq {f:α→Int} {l:List α} {k:Nat} (h:l.length≤k):zS f k (l.drop k)=(0,0):=by
 rw [List.drop_eq_nil_of_le h]; rfl
theorem tS {f:α→Int}:∀ {l:List α} {i:Nat},(zS f i l).1=0→∀ x∈l,f x=0
 | [],_,_,x,hx=>by simp at hx
 | a::l,i,h,x,hx=>by
  rw [zS] at h;split at h
  ·rename_i h0
   rcases List.mem_cons.1 hx with rfl | hx
   ·exact h0
   ·exact tS h x hx
  ·rename_i h0; exact absurd h h0
theorem vx {p:α→Bool} {l:List α} {k:Nat} (h:k < l.length):(l.drop k).all p=(p l[k]&&(l.drop (k+1)).all p):=by
 rw [List.drop_eq_getElem_cons h,List.all_cons]
theorem r9 {p:α→Bool} {l:List α} {k:Nat} (h:l.length≤k):(l.drop k).all p=true:=by
 rw [List.drop_eq_nil_of_le h]; rfl
theorem qy {p:α→Bool} {l:List α} {k:Nat} (h:k < l.length):(l.drop k).any p=(p l[k] || (l.drop (k+1)).any p):=by
 rw [List.drop_eq_getElem_cons h,List.any_cons]
theorem mS {p:α→Bool} {l:List α} {k:Nat} (h:l.length≤k):(l.drop k).any p=false:=by
 rw [List.drop_eq_nil_of_le h]; rfl
end
theorem ng {nm:List UInt8} {v:Ver} {l:List EntryL} {k:Nat} (h:k < l.length):zi nm v k (l.drop k)=if js nm v l[k] then (k:Int) else zi nm v (k+1) (l.drop (k+1)):=by
 rw [List.drop_eq_getElem_cons h]; rfl
theorem kX {nm:List UInt8} {v:Ver} {l:List EntryL} {k:Nat} (h:l.length≤k):zi nm v k (l.drop k)=-1:=by
 rw [List.drop_eq_nil_of_le h]; rfl
theorem ub {s:List UInt8} (h:zg s=true):1≤s.length∧s.length≤16:=by
 simp only [zg,Bool.and_eq_true,decide_eq_true_eq] at h; exact h.1
theorem wA {s:List UInt8} (h:zY s=true):1≤s.length∧s.length≤12:=by
 simp only [zY,Bool.and_eq_true,decide_eq_true_eq] at h; exact h.1
theorem tY {s:List UInt8} (h:xI s=true):s.length≤96:=by
 simp only [xI,Bool.and_eq_true,decide_eq_true_eq] at h;obtain ⟨h,-⟩:=h;unfold yB at h;split at h
 ·simp at h
 ·omega
theorem rW {s:List UInt8} (h:ye s=true):s.length≤96:=by
 simp only [ye,Bool.and_eq_true,decide_eq_true_eq] at h; exact h.1
theorem aR {own nm rng:List UInt8} (h:wY own nm rng=0):zg nm=true∧nm≠own∧xI rng=true:=by
 unfold wY at h;split at h
 ·simp at h
 ·rename_i h1
  split at h
  ·simp at h
  ·rename_i h2
   split at h
   ·simp at h
   ·rename_i h3; exact ⟨by simpa using h1,h2,by simpa using h3⟩
theorem lF {own:List UInt8} {alone:Bool} {x:WishL} (h:uW own alone x=0):zg (bts x.name)=true∧xI (bts x.rng)=true∧x.feats.length≤6∧∀ s∈x.feats,zY (bts s)=true:=by
 unfold uW at h;split at h
 ·rename_i hw
  split at h
  ·rename_i hf
   obtain ⟨h1,-,h2⟩:=aR hw;simp only [yO,Bool.and_eq_true,decide_eq_true_eq] at hf;exact ⟨h1,h2,hf.1.1.1,fun s hs=>List.all_eq_true.1 hf.1.2 s hs⟩
  ·simp at h
 ·rename_i hw; exact absurd h hw
theorem tN {own:List UInt8} {alone:Bool} {x:WishL} (h:uW own alone x=0):(xg x).length≤300:=by
 obtain ⟨h1,h2,h3,h4⟩:=lF h;have a:=(ub h1).2;have b:=tY h2
 have c:=xC [44] 12 (x.feats.map bts) (fun p hp=>by
  obtain ⟨s,hs,rfl⟩:=List.mem_map.1 hp
  exact (wA (h4 s hs)).2)
 simp only [List.length_map,List.length_cons,List.length_nil] at c
 have d:(if x.feats=[] then [45] else zT [44] (x.feats.map bts)).length≤78:=by
  split
  ·simp
  ·omega
 (have e:(if x.bare then jG else lp).length≤4:=by split<;>simp [jG,lp]);simp only [xg,zv,zT,nlT,Vc,List.length_append,List.length_cons,List.length_nil];omega
theorem uO {s:ByteArray} (h:ye (bts s)=true):(vh s).length≤102:=by
 have a:=rW h;unfold vh;split
 ·simp
 ·simp only [zv,zT,nlT,Z8,List.length_append,List.length_cons,List.length_nil]; omega
theorem eB {s:ByteArray} (h:bts s=[]∨zY (bts s)=true):(if bts s=[] then [] else zv [uF,bts s]).length≤20:=by
 split
 ·simp
 ·rename_i h0
  have:=(wA (h.resolve_left h0)).2;simp only [zv,zT,nlT,uF,List.length_append,List.length_cons,List.length_nil]; omega
structure NeedOk (own:List UInt8) (n:NeedL):Prop where
 any1:n.any.length≠0
 any3:n.any.length≤3
 wishes:∀ x∈n.any,uW own (decide (n.any.length=1)) x=0
 whn:ye (bts n.whn)=true
 opt:bts n.opt=[]∨zY (bts n.opt)=true
theorem Xv {own:List UInt8} {n:NeedL} (h:yg own n=0):NeedOk own n:=by
 unfold yg at h;split at h
 ·simp at h
 ·rename_i h1
  split at h
  ·simp at h
  ·rename_i h2
   split at h
   ·rename_i h3
    split at h
    ·rename_i h4
     split at h
     ·rename_i h5; exact ⟨h1,by omega,pH h3,h4,h5⟩
     ·simp at h
    ·simp at h
   ·rename_i h3; exact absurd h h3
theorem oJ {own:List UInt8} {n:NeedL} (h:NeedOk own n):(zp n).length≤1100:=by
 have a:=xV (f:=xg) (B:=300) (fun x hx=>tN (h.wishes x hx)) n.any.length (Nat.le_refl _);rw [f5] at a;have b:=uO h.whn;have c:=eB h.opt;have d:=h.any3;unfold zp;simp only [List.length_append];have e:(zv [wZ]).length=5:=rfl;omega
structure BarOk (own:List UInt8) (b:BarL):Prop where
 name:zg (bts b.name)=true
 rng:xI (bts b.rng)=true
 whn:ye (bts b.whn)=true
theorem VQ {own:List UInt8} {b:BarL} (h:uY own b=0):BarOk own b:=by
 unfold uY at h;split at h
 ·rename_i hw
  split at h
  ·rename_i hm
   obtain ⟨h1,-,h2⟩:=aR hw;exact ⟨h1,h2,hm⟩
  ·simp at h
 ·rename_i hw; exact absurd h hw
theorem qt {own:List UInt8} {b:BarL} (h:BarOk own b):(tz b).length≤300:=by
 have x:=(ub h.name).2;have y:=tY h.rng;have z:=uO h.whn;simp only [tz,zv,zT,nlT,Z4,List.length_append,List.length_cons,List.length_nil];omega
theorem sN (b:UInt8):∀ (l cur:List UInt8),zT [b] (zV b cur l)=cur++l
 | [],cur=>by simp [zV,zT]
 | c::r,cur=>by
  unfold zV;split
  ·rename_i hc
   have ih:=sN b r [];have hl:=(zk b r []).1
   match hs:zV b [] r,hl with
   | p::q,_ =>
    rw [hs] at ih;rw [zT,ih,hc];simp
  ·rw [sN b r (cur++[c])]; simp
theorem f6 {s:List UInt8} (h:(xp s).1≠0):s.length≤29:=by
 unfold xp at h;split at h
 ·rename_i hw; have:=(wA hw).2; omega
 ·split at h
  ·rename_i hw
   have:=(wA hw.2).2;rw [List.length_drop] at this; omega
  ·split at h
   ·rename_i a b hs
    split at h
    ·rename_i hw
     simp only [Bool.and_eq_true] at hw;have h1:=(ub hw.1).2;have h2:=(wA hw.2).2;have h3:=sN 47 s [];rw [hs] at h3;simp only [zT,List.nil_append] at h3;rw [← h3];simp only [List.length_append,List.length_cons,List.length_nil]; omega
    ·simp at h
   ·simp at h
structure FeatOk (f:FeatL):Prop where
 name:zY (bts f.name)=true
 len:f.of_.length≤6
 items:∀ s∈f.of_,(xp (bts s)).1≠0
theorem co {l:List FeatL} (h:zt l=true):l.length≤8∧∀ f∈l,FeatOk f:=by
 simp only [zt,Bool.and_eq_true,decide_eq_true_eq] at h;refine ⟨h.1.1,fun f hf=>?_⟩;have:=List.all_eq_true.1 h.2 f hf;simp only [ux,Bool.and_eq_true,decide_eq_true_eq] at this;refine ⟨this.1.1.1,this.1.1.2,fun s hs=>?_⟩;have h2:=List.all_eq_true.1 this.2 s hs;simp only [xi,Bool.and_eq_true] at h2;simpa using h2.1
theorem tH {f:FeatL} (h:FeatOk f):(tF f).length≤300:=by
 have c:=xC [32] 29 (qn::bts f.name::f.of_.map bts) (fun p hp=>by
  rcases List.mem_cons.1 hp with rfl | hp
  ·simp [qn]
  ·rcases List.mem_cons.1 hp with rfl | hp
   ·have:=(wA h.name).2; omega
   ·obtain ⟨s,hs,rfl⟩:=List.mem_map.1 hp
    exact f6 (h.items s hs))
 simp only [List.length_map,List.length_cons,List.length_nil] at c;have d:=h.len;simp only [tF,zv,nlT,List.length_append,List.length_cons,List.length_nil];omega
structure RecOk (r:RecL):Prop where
 name:zg (bts r.name)=true
 v:yF r.v=true
 needs:r.needs.length≤8
 bars:r.bars.length≤8
 need:∀ n∈r.needs,NeedOk (bts r.name) n
 bar:∀ b∈r.bars,BarOk (bts r.name) b
 feats:r.feats.length≤8
 feat:∀ f∈r.feats,FeatOk f
theorem YS {v:Ver} (hm:yF v=true):(Xb v).length≤37:=by
 obtain ⟨-,-,-,-,hp⟩:=yN hm;unfold Xb;split
 ·simp
 ·rw [oz,Bool.or_eq_true] at hp;rcases hp with hp | hp
  ·exact absurd hp (by assumption)
  ·have:=qr hp;simp only [List.length_cons]; omega
theorem bf {v:Ver} (hm:yF v=true):(jP v).length≤14:=by
 obtain ⟨a,b,c,-,-⟩:=yN hm;have:=uA a;have:=uA b;have:=uA c;simp only [jP,List.length_append,List.length_cons]; omega
theorem pf (v:Ver):(vL v).length≤88:=by
 unfold vL;split
 ·rename_i h
  have:=bf h;have:=gb h;have:=YS h;simp only [List.length_append]; omega
 ·simp
def zy (r:RecL):List UInt8:=zv [si,bts r.name,vL r.v]
theorem og {r:RecL} (h:zg (bts r.name)=true):(zy r).length≤120:=by
 have:=(ub h).2;have:=pf r.v;simp only [zy,zv,zT,nlT,si,List.length_append,List.length_cons,List.length_nil]; omega
theorem iQ (r:RecL):qp r=zy r++r.needs.flatMap zp++r.bars.flatMap tz++r.feats.flatMap tF:=rfl
theorem Zl {r:RecL} (h1:zg (bts r.name)=true) (h2:yF r.v=true) (h3:¬ (8 < r.needs.length∨8 < r.bars.length)) (h4:(zS (yg (bts r.name)) 0 r.needs).1=0) (h5:(zS (uY (bts r.name)) 0 r.bars).1=0) (h6:zt r.feats=true):RecOk r :=
 ⟨h1,h2,by omega,by omega,fun n hn=>Xv (tS h4 n hn),fun b hb=>VQ (tS h5 b hb),(co h6).1,(co h6).2⟩
theorem gH {r:RecL} (h:RecOk r):(qp r).length≤20000:=by
 have a:=og h.name;have b:=xV (f:=zp) (B:=1100) (fun x hx=>oJ (h.need x hx)) r.needs.length (Nat.le_refl _);have c:=xV (f:=tz) (B:=300) (fun x hx=>qt (h.bar x hx)) r.bars.length (Nat.le_refl _);have d:=xV (f:=tF) (B:=300) (fun x hx=>tH (h.feat x hx)) r.feats.length (Nat.le_refl _);rw [f5] at b c d;have:=h.needs;have:=h.bars;have:=h.feats;rw [iQ];simp only [List.length_append]; omega
end Go.Proofs.YtiebekmefjbenaaGreatDoor
namespace Go.Proofs.YtiebekmefjbenaaGreatDoor
open Go.RowKit Go.Lib
theorem gd {α:Type} {f:α→α→Bool} {a b:List α} {k:Nat} (ha:k < a.length) (hb:k < b.length):eqL f (a.drop k) (b.drop k)=(f a[k] b[k]&&eqL f (a.drop (k+1)) (b.drop (k+1))):=by
 rw [List.drop_eq_getElem_cons ha,List.drop_eq_getElem_cons hb]; rfl
theorem ZC {α:Type} {f:α→α→Bool} {a b:List α} {k:Nat} (ha:a.length≤k) (hb:b.length≤k):eqL f (a.drop k) (b.drop k)=true:=by
 rw [List.drop_eq_nil_of_le ha,List.drop_eq_nil_of_le hb]; rfl
theorem im {α:Type} {f:α→α→Bool}:∀ {a b:List α},a.length≠b.length→eqL f a b=false
 | [],[],h=>absurd rfl h
 | [],_::_,_=>rfl
 | _::_,[],_=>rfl
 | x::a,y::b,h=>by
  rw [eqL,im (a:=a) (b:=b) (fun e=>h (by rw [List.length_cons,List.length_cons,e])),Bool.and_false]
theorem grows_drop {a b:List EntryL} {k:Nat} (ha:k < a.length) (hb:k < b.length):growsL (a.drop k) (b.drop k)=(sameEn a[k] b[k]&&growsL (a.drop (k+1)) (b.drop (k+1))):=by
 rw [List.drop_eq_getElem_cons ha,List.drop_eq_getElem_cons hb]; rfl
theorem grows_end {a b:List EntryL} {k:Nat} (ha:a.length≤k):growsL (a.drop k) (b.drop k)=true:=by
 rw [List.drop_eq_nil_of_le ha]; rfl
theorem grows_len:∀ {a b:List EntryL},b.length < a.length→growsL a b=false
 | [],_,h=>absurd h (Nat.not_lt_zero _)
 | _::_,[],_=>rfl
 | x::a,y::b,h=>by
  rw [growsL,grows_len (a:=a) (b:=b) (by simpa using h),Bool.and_false]
theorem qI {sumB:List UInt8→Int} {l:List EntryL} {k:Nat} (h:k < l.length):yA sumB (l.take k) (l.drop k)=(wD sumB (l.take k) l[k]&&yA sumB (l.take (k+1)) (l.drop (k+1))):=by
 rw [List.drop_eq_getElem_cons h,yA,List.take_succ_eq_append_getElem h]
theorem oG {sumB:List UInt8→Int} {l a:List EntryL} {k:Nat} (h:l.length≤k):yA sumB a (l.drop k)=true:=by
 rw [List.drop_eq_nil_of_le h]; rfl
theorem Yc {x:EntryL} (h:yF x.rc.v=true):js (bts x.rc.name) x.rc.v x=true:=by
 unfold js cJ;rw [decide_eq_true rfl,h,pD h]; rfl
theorem WY {r:RecL} (h:(z5 r).1=0):yF r.v=true:=by
 unfold z5 at h;split at h
 ·simp at h
 ·split at h
  ·simp at h
  ·rename_i h2; simpa using h2
theorem WE {sumB:List UInt8→Int} {r:RecL} {n:Int} (h:vo sumB r=(n,0)):(z5 r).1=0∧n=sumB (qp r):=by
 unfold vo at h;split at h
 ·rename_i h0
  (injection h with h1 h2);exact ⟨h0,h1.symm⟩
 ·rename_i h0
  (injection h with h1 h2);exact absurd h2 h0
theorem gO {nm:List UInt8} {v:Ver}:∀ (l:List EntryL) (i:Nat),zi nm v i l < 0∨((i:Int)≤zi nm v i l∧zi nm v i l < i+l.length)
 | [],i => .inl (by rw [zi]; decide)
 | x::l,i=>by
  rw [zi];split
  ·exact .inr ⟨Int.le_refl _,by simp only [List.length_cons]; omega⟩
  ·rcases gO (nm:=nm) (v:=v) l (i+1) with h | h
   ·exact .inl h
   ·refine .inr ⟨by omega,?_⟩;simp only [List.length_cons]; omega
theorem aK {l:List EntryL} {k:Nat} (h:k < l.length) (hv:yF l[k].rc.v=true):(zi (bts l[k].rc.name) l[k].rc.v 0 l=(k:Int))↔zi (bts l[k].rc.name) l[k].rc.v 0 (l.take k) < 0:=by
 have e:l=l.take k++l.drop k:=(List.take_append_drop k l).symm;(have hl:(l.take k).length=k:=by rw [List.length_take]; omega);have hp:=jM (nm:=bts l[k].rc.name) (v:=l[k].rc.v) (l.take k) (l.drop k) 0;rw [← e,hl,Nat.zero_add,List.drop_eq_getElem_cons h,zi,if_pos (Yc hv)] at hp;rw [hp];by_cases h0:zi (bts l[k].rc.name) l[k].rc.v 0 (l.take k) < 0
 ·rw [if_pos h0]; exact ⟨fun _=>h0,fun _=>rfl⟩
 ·rw [if_neg h0];refine ⟨fun e=>?_,fun h=>absurd h h0⟩;rcases gO (nm:=bts l[k].rc.name) (v:=l[k].rc.v) (l.take k) 0 with h1 | h1
  ·exact h1
  ·rw [hl] at h1; omega
theorem Z2 {sumB:List UInt8→Int} {l:List EntryL} {k:Nat} (h:k < l.length):(decide (vo sumB l[k].rc=(l[k].sum,0))&&decide (zi (bts l[k].rc.name) l[k].rc.v 0 l=(k:Int)))=wD sumB (l.take k) l[k]:=by
 unfold wD;by_cases hs:vo sumB l[k].rc=(l[k].sum,0)
 ·have:=aK h (WY (WE hs).1);rw [decide_eq_true hs,Bool.true_and,Bool.true_and];exact decide_eq_decide.2 this
 ·rw [decide_eq_false hs,Bool.false_and,Bool.false_and]
theorem entries_all {sumB:List UInt8→Int}:∀ (l a:List EntryL),yA sumB a l=true→∀ x∈l,vo sumB x.rc=(x.sum,0)
 | [],_,_,x,hx=>by simp at hx
 | y::l,a,h,x,hx=>by
  rw [yA,Bool.and_eq_true] at h;rcases List.mem_cons.1 hx with rfl | hx
  ·have:=h.1;simp only [wD,Bool.and_eq_true,decide_eq_true_eq] at this;exact this.1
  ·exact entries_all l _ h.2 x hx
end Go.Proofs.YtiebekmefjbenaaGreatDoor
