import Derived.Test.YtiffijoenkcpjaaGreatDoorProg
import Derived.Below
import Derived.BigQuiet
import Derived.Deep.DeepFit
import Derived.Deep.DeepMust
import Derived.Deep.LoopGhost
import Derived.Deep.QuietTactic
import Derived.JoinedTies
import Derived.KernelRfl
import Derived.Laws.AppendOwn
import Derived.Laws.AppendOwnNone
import Derived.Lib.Hide
import Derived.Lib.Strings
import Derived.StillTailTactics
import Derived.WalkKit
import Derived.WalkLawsBesides
import Derived.WalkSpells
import GoSem.ClaimJoined
set_option linter.unusedVariables false
set_option linter.unusedSimpArgs false
set_option maxRecDepth 100000
set_option maxHeartbeats 2000000
namespace Go.Proofs.YtiffijoenkcpjaaGreatDoor
open Go.RowKit Go.Lib
structure Below (B:Nat) (w w':World):Prop extends Go.RowKit.Below B w w' where
 drawn:w.drawn≤w'.drawn
namespace Below
variable {B:Nat} {a w w' c:World}
theorem refl (B:Nat) (w:World):Below B w w:=⟨.refl B w,Nat.le_refl _⟩
theorem trans (h:Below B a w) (k:Below B w c):Below B a c:=⟨h.toBelow.trans k.toBelow,Nat.le_trans h.drawn k.drawn⟩
theorem mono {B':Nat} (h:Below B w w') (hB:B'≤B):Below B' w w':=⟨h.toBelow.mono hB,h.drawn⟩
theorem drew (h:Below B a w):Below B a w.drew:=⟨h.toBelow.drew,Nat.le_succ_of_le h.drawn⟩
theorem alloc (h:Below B a w) (hB:B≤w.heap.size) (o:Obj):Below B a (w.alloc o):=⟨h.toBelow.alloc hB o,h.drawn⟩
theorem setCell (h:Below B a w) {p:Addr} (hp:B≤p.block) (u:Value):Below B a (w.setCell p u):=⟨h.toBelow.setCell hp u,h.drawn⟩
theorem grown {row:Option Nat} (h:Below B a w) (hg:w.grownBy w' row) (hd:w.drawn≤w'.drawn) (hB:B≤w.heap.size) (hr:∀ k,row=some k→B≤k):Below B a w':=⟨h.toBelow.grown hg hB hr,Nat.le_trans h.drawn hd⟩
theorem cell {p:Addr} (h:Below B w w') (hp:p.block < B):w'.cell? p=w.cell? p:=h.toBelow.cell hp
theorem frozen {p:Addr} (h:Below B w w') (hp:p.block < B):w'.frozen? p=w.frozen? p:=h.toBelow.frozen hp
end Below
theorem XH {W w1:World} (hb:Below W.heap.size W w1):(∀ b o,b < W.heap.size→w1.cell? ⟨b,o,none⟩=W.cell? ⟨b,o,none⟩)∧(∀ b o,b < W.heap.size→w1.frozen? ⟨b,o,none⟩=W.frozen? ⟨b,o,none⟩) :=
 ⟨fun b o h=>hb.cell (p:=⟨b,o,none⟩) h,fun b o h=>hb.frozen (p:=⟨b,o,none⟩) h⟩
abbrev bts (s:ByteArray):List UInt8:=s.toList
theorem yX (s:ByteArray):s.toList=s.data.toList:=ByteArray.toList_eq s
theorem zF (s:ByteArray):(bts s).length=s.size:=by rw [bts,yX]; rfl
theorem wR (s:ByteArray) (k:Nat) (h:k < s.size):(bts s)[k]'(by rw [zF]; exact h)=s[k]:=by simp only [bts,yX]; rfl
theorem X9 (s:ByteArray) (k:Nat) (h:k < s.size):s[k]∈bts s:=by rw [← wR s k h]; exact List.getElem_mem _
theorem v9 (s:ByteArray) (k:Nat) (h:k < s.size):(bts s).take (k+1)=(bts s).take k++[s[k]]:=by
 rw [List.take_succ_eq_append_getElem (by rw [zF]; exact h),wR s k h]
theorem yr {p:UInt8→Bool} (s:ByteArray) (k:Nat) (h:k < s.size) (hp:p s[k]=false):(bts s).all p=false:=by
 rw [List.all_eq_false];exact ⟨s[k],X9 s k h,by simp [hp]⟩
theorem yb {p:UInt8→Bool} (s:ByteArray) (k:Nat) (h:k < s.size) (ha:((bts s).take k).all p=true) (hp:p s[k]=true):((bts s).take (k+1)).all p=true:=by
 rw [v9 s k h,List.all_append,ha]; simp [hp]
theorem yD (s:ByteArray):(bts s).take s.size=bts s:=List.take_of_length_le (by rw [zF]; omega)
theorem xE {a b:ByteArray} (h:bts a=bts b):a=b:=by
 simp only [bts,yX] at h;cases a; cases b;exact congrArg _ (Array.toList_inj.1 h)
theorem sj {s:ByteArray}:(bts s).isEmpty=true↔s.size=0:=by rw [List.isEmpty_iff_length_eq_zero,zF]
def zz (c:UInt8):Bool:=decide (48≤c.toNat∧c.toNat≤57)
def zr (l:List UInt8):Bool:=l.all zz&&!l.isEmpty
def jX (l:List UInt8):Value := .string ⟨l.toArray⟩
theorem gu (s:ByteArray):jX (bts s) = .string s:=by rw [jX,bts,yX]
theorem uB (s:ByteArray) (a b:Nat):Value.string (s.extract a b)=jX (((bts s).drop a).take (b - a)):=by rw [jX,bts,yX,Lib.extract_eq]
def zV (b:UInt8):List UInt8→List UInt8→List (List UInt8)
 | cur,[]=>[cur]
 | cur,c::r=>if c=b then cur::zV b [] r else zV b (cur++[c]) r
theorem zk (b:UInt8):∀ (l cur:List UInt8),1≤(zV b cur l).length∧(zV b cur l).length≤l.length+1
 | [],cur=>by simp [zV]
 | c::r,cur=>by
  unfold zV;split
  ·have:=zk b r []; simp only [List.length_cons]; omega
  ·have:=zk b r (cur++[c]); simp only [List.length_cons]; omega
theorem oP (b:UInt8) (s:ByteArray) (k fr:Nat) (h:k < s.size) (hf:fr≤k):zV b (((bts s).take k).drop fr) ((bts s).drop k) =
 if s[k]=b then ((bts s).take k).drop fr::zV b [] ((bts s).drop (k+1)) else zV b (((bts s).take (k+1)).drop fr) ((bts s).drop (k+1)):=by
 have e:=List.drop_eq_getElem_cons (l:=bts s) (i:=k) (by rw [zF]; exact h)
 rw [wR s k h] at e
 rw [e,v9 s k h]
 conv=>lhs; unfold zV
 have:fr≤((bts s).take k).length:=by
  have:=zF s;rw [List.length_take];omega
 rw [List.drop_append_of_le_length this]
theorem uH (l:List UInt8) (a b:Nat):(l.take b).drop a=(l.drop a).take (b - a):=by rw [List.drop_take]
structure EK (P:Program) (t e:TypeId) (size bytes:Nat):Prop where
 ht:P.underlying t=some (.slice e)
 info:∃ (i:TypeInfo) (z:Value),P.info? e=some i∧i.zero=some z∧i.size=size∧i.bytes=bytes∧z.cells.size=size
 pos:0 < size
theorem EK.mk' {P:Program} {t e:TypeId} {size bytes:Nat} (z:Value) (ht:P.underlying t=some (.slice e)) (h:(P.info? e).map (fun i=>(i.zero,i.size,i.bytes))=some (some z,size,bytes)) (hz:z.cells.size=size) (hp:0 < size):EK P t e size bytes:=by
 obtain ⟨i,h1,h2,h3,h4⟩:=info_parts h;exact ⟨ht,⟨i,z,h1,h2,h3,h4,hz⟩,hp⟩
section
variable {P:Program} {w w0 w1 w2:World} {B base size n bytes:Nat} {t e:TypeId} {v:Value} {xs:List Value}
theorem pC (h:w1.ownsRow base e size v n xs) (hb:Below w1.heap.size w1 w2):w2.ownsRow base e size v n xs:=by
 obtain ⟨h1,h2⟩:=h;refine ⟨h1,?_⟩;rcases h2 with h2 | ⟨g,cap,cur,hv,hg,hh,r⟩
 ·exact .inl h2
 ·refine .inr ⟨g,cap,cur,hv,hg,?_,r⟩
  have hlt:g < w1.heap.size:=by
   rcases Nat.lt_or_ge g w1.heap.size with h | h
   ·exact h
   ·rw [Array.getElem?_eq_none h] at hh; cases hh
  rw [hb.block g hlt]; exact hh
theorem vN (h:w.ownsRow base e size v n xs) (hn:0 < n):∃ g cap,v = .slice (some ⟨g,0,none⟩) n cap∧base≤g∧g < w.heap.size∧n≤cap∧∀ j,j < n * size→w.cell? ⟨g,j,none⟩=xs[j]?:=by
 have h2:=h.2;rcases h2 with ⟨_,h2⟩ | ⟨g,cap,cur,hv,hg,hh,hle,r⟩
 ·omega
 ·subst hv
  have hlt:g < w.heap.size:=by
   rcases Nat.lt_or_ge g w.heap.size with h | h
   ·exact h
   ·rw [Array.getElem?_eq_none h] at hh; cases hh
  exact ⟨g,cap,rfl,hg,hlt,hle,fun j hj=>h.cellAt j hj⟩
end
def tw (w:World) (A:Option Addr) (m size:Nat) (xs:List Value):Prop:=xs.length=m * size∧(A=none→m=0)∧∀ ad,A=some ad→∀ j u,xs[j]?=some u→w.cell? (ad.add j)=some u
section
variable {P:Program} {w w0:World} {B base size n bytes:Nat} {t e:TypeId} {v:Value} {xs:List Value}
theorem qF (E:EK P t e size bytes) (ty:TypeId) (hown:w.ownsRow base e size v n xs) {ad:Addr} {m c:Nat} {news:List Value} (hl:news.length=m * size) (hc:∀ j u,news[j]?=some u→w.cell? (ad.add j)=some u) (h1:∀ u∈news,u.oneCell'=true)
 (h63:n+m≤maxLen) (hb:(n+m) * bytes≤140737488355328) {v':Value} {w':World} (hr:(Builtin.append_ #[t,t] ty #[v,.slice (some ad) m c]).run P w = .ok v' w'):w.drawn≤w'.drawn:=by
 obtain ⟨i,z,hi,hz0,hz1,hz2,hz3⟩:=E.info
 subst hz1
 subst hz2
 have hM:maxLen=9223372036854775807:=rfl
 rcases hown.2 with ⟨rfl,rfl⟩ | ⟨g,cap,cur,rfl,_,hg,hnc,_,hcs,_⟩
 ·rcases Nat.eq_zero_or_pos m with rfl | hm
  ·simp [Builtin.append_,run_underlying E.ht,sizeOf,typeInfo,hi,Builtin.lenOf,Builtin.firstCells,loadCells,loadCellsFrom] at hr;rw [← hr.2]; exact Nat.le_refl _
  ·rw [run_append_nil (P:=P) w t ty e i z E.ht hi hz0 ad m c news hl hc (by omega) (by omega) (by simp only [Nat.zero_add] at hb; omega)] at hr;(injection hr with _ hr);rw [← hr]; exact Nat.le_succ _
 ·by_cases hroom:n+m≤cap
  ·(have hfit:n * i.size+news.length≤cur.size:=by rw [hl,hcs,← Nat.add_mul]; exact Nat.mul_le_mul_right _ hroom);rw [run_append_room (P:=P) w t ty e i E.ht hi g n cap cur hg ad m c news hl hc h1 hroom hfit] at hr;(injection hr with _ hr);rw [← hr]; exact Nat.le_refl _
  ·rw [run_append_grow (P:=P) w t ty e i z E.ht hi hz0 ⟨g,0,none⟩ n cap xs hown.1 (hown.cells (g:=g) rfl) ad m c news hl hc (by omega) (by omega) (growslice_fits (by omega) hb)] at hr;(injection hr with _ hr);rw [← hr]; exact Nat.le_succ _
theorem Y4 (E:EK P t e size bytes) (ty:TypeId) (hown:w.ownsRow base e size v n xs) {A:Option Addr} {m c:Nat} {news:List Value} (hs:tw w A m size news) (h1:∀ u∈news,u.oneCell'=true)
 (h63:n+m≤maxLen) (hb:(n+m) * bytes≤140737488355328) (hbase:base≤w.heap.size) :
 ∃ v' w',(Builtin.append_ #[t,t] ty #[v,.slice A m c]).run P w = .ok v' w'∧w'.ownsRow base e size v' (n+m) (xs++news)∧Below base w w'∧w.grownBy w' v.ownBlock:=by
 obtain ⟨i,z,hi,hz0,hz1,hz2,hz3⟩:=E.info
 obtain ⟨hl,hnil,hsrc⟩:=hs
 cases A with
 | none =>
  obtain rfl:=hnil rfl
  have hn:news=[]:=List.eq_nil_of_length_eq_zero (by simpa using hl)
  subst hn
  refine ⟨v,w,?_,by simpa using hown,Below.refl _ _,World.grownBy.refl w _⟩
  rcases hown.2 with ⟨rfl,rfl⟩ | ⟨g,cap,cur,rfl,_,_,hnc,_⟩
  ·simp [Builtin.append_,run_underlying E.ht,sizeOf,typeInfo,hi,Builtin.lenOf,Builtin.firstCells]
  ·simp [Builtin.append_,run_underlying E.ht,sizeOf,typeInfo,hi,Builtin.lenOf,Builtin.firstCells,hnc,storeCells]
 | some ad =>
  obtain ⟨v',w',hr,h2,h3,_⟩:=run_append_own (P:=P) w base t ty e i z size bytes E.ht hi hz0 hz1 hz2 hz3 E.pos v n xs hown ad m c news hl (hsrc ad rfl) h1 h63 hb hbase
  exact ⟨v',w',hr,h2,(Below.refl _ _).grown h3 (qF E ty hown hl (hsrc ad rfl) h1 h63 hb hr) hbase (fun k hk=>(hown.lt k hk).1),h3⟩
theorem hU (E:EK P t e size bytes) {o:Oper} {a:Act} {K:Act→World→Prop} {Q:Exit→Act→World→Prop} (s x:Operand)
 (ho:o.op = .call { callee := .builtin .append,args:=#[s,x],argTypes:=#[t,t] }) (hs:a.eval s=v) (hown:w.ownsRow base e size v n xs) {A:Option Addr} {m c:Nat} {news:List Value} (hx:a.eval x = .slice A m c)
 (hsrc:tw w A m size news) (h1:∀ u∈news,u.oneCell'=true) (h63:n+m≤maxLen) (hb:(n+m) * bytes≤140737488355328) (hbase:base≤w.heap.size)
 (h:∀ v' w',w'.ownsRow base e size v' (n+m) (xs++news)→Below base w w'→w.grownBy w' v.ownBlock→K (a.put o.dst v') w'):o.wp P a w K Q:=by
 obtain ⟨v',w',hrun,h2,h3,h4⟩:=Y4 (P:=P) E o.type hown (A:=A) (m:=m) (c:=c) hsrc h1 h63 hb hbase
 unfold Oper.wp execOp
 simp only [ho,resolve,invoke,builtin,Sem.run_bind,Sem.run_pure,Result.andThen_ok,List.map_toArray,List.map_cons,List.map_nil,hs,hx,hrun]
 exact h v' w' h2 h3 h4
theorem zW (E:EK P t e size bytes) {ops:Array Oper} {rest:List Oper} {o:Oper} {a:Act} {Q:Exit→Act→World→Prop} (hgd:o.guard=none) (s x:Operand)
 (ho:o.op = .call { callee := .builtin .append,args:=#[s,x],argTypes:=#[t,t] }) (hs:a.eval s=v) (hown:w.ownsRow base e size v n xs) {A:Option Addr} {m c:Nat} {news:List Value} (hx:a.eval x = .slice A m c)
 (hsrc:tw w A m size news) (h1:∀ u∈news,u.oneCell'=true) (h63:n+m≤maxLen) (hb:(n+m) * bytes≤140737488355328) (hbase:base≤w.heap.size)
 (h:∀ v' w',w'.ownsRow base e size v' (n+m) (xs++news)→Below base w w'→w.grownBy w' v.ownBlock→wpList P ops Q rest (a.put o.dst v') w'):wpList P ops Q (o::rest) a w :=
 wpList_plain hgd fun _ hK=>hU E s x ho hs hown hx hsrc h1 h63 hb hbase fun v' w' h2 h3 h4=>hK _ _ (h v' w' h2 h3 h4)
theorem step_appx (E:EK P t e size bytes) {ops:Array Oper} {o:Oper} {a:Act} {K:Act→World→Prop} {Q:Exit→Act→World→Prop} {F:Prop} (hgd:o.guard=none) (s x:Operand)
 (ho:o.op = .call { callee := .builtin .append,args:=#[s,x],argTypes:=#[t,t] }) (hs:a.eval s=v) (hown:w.ownsRow base e size v n xs) {A:Option Addr} {m c:Nat} {news:List Value} (hx:a.eval x = .slice A m c)
 (hsrc:tw w A m size news) (h1:∀ u∈news,u.oneCell'=true) (h63:n+m≤maxLen) (hb:(n+m) * bytes≤140737488355328) (hbase:base≤w.heap.size)
 (h:∀ v' w',w'.ownsRow base e size v' (n+m) (xs++news)→Below base w w'→w.grownBy w' v.ownBlock→K (a.put o.dst v') w') :
 if Region.wanted o (yielded ops a.tmps)=true then Oper.wp P o a w K Q else F:=by
 rw [if_pos (by simp [Region.wanted,hgd])]
 exact hU E s x ho hs hown hx hsrc h1 h63 hb hbase h
theorem wu (E:EK P t e size bytes) {ops:Array Oper} {rest:List Oper} {o:Oper} {a:Act} {Q:Exit→Act→World→Prop} (hgd:o.guard=none) (s x:Operand)
 (ho:o.op = .call { callee := .builtin .append,args:=#[s,x],argTypes:=#[t,t] }) (news:List Value)
 (hown:w.ownsRow base e size v n xs) (hb:Below B w0 w) (hs:a.eval s=v) (hx:a.eval x = .slice (some ⟨w.heap.size,0,none⟩) 1 1) (hl:news.length=size) (h1:∀ u∈news,u.oneCell'=true)
 (hm:n+1≤maxLen) (hn:(n+1) * bytes≤140737488355328) (hB:B≤base) (hbase:base≤w.heap.size)
 (h:∀ v' w',w'.ownsRow base e size v' (n+1) (xs++news)→Below B w0 w'→w.heap.size+1≤w'.heap.size→wpList P ops Q rest (a.put o.dst v') w') :
 wpList P ops Q (o::rest) a (w.alloc (.cells news.toArray e)):=by
 refine zW E hgd s x ho hs (hown.alloc _) hx ⟨by omega,(fun k=>by cases k),fun ad k j u hj=>?_⟩ h1 hm hn (by simp; omega) ?_
 ·(injection k with k);subst k
  have hz:∀ q:Nat,(Addr.mk w.heap.size 0 none).add q=⟨w.heap.size,q,none⟩:=by
   intro q;unfold Addr.add;split<;>simp_all
  rw [hz,World.cell?_alloc_at _ _ _ _ rfl];simpa using hj
 ·intro v' w' h2 h3 h4;have hsz:=h4.size;simp at hsz;exact h v' w' h2 ((hb.alloc (by omega) _).trans (h3.mono hB)) (by omega)
end
theorem Tryz.info9:(Tryz.prog.info? 9).map (fun i=>(i.zero,i.size,i.bytes))=some (some (.string ⟨#[]⟩),1,16):=by kernel_rfl
theorem yd:EK Tryz.prog 128 9 1 16 := .mk' _ Tryz.underlying128 Tryz.info9 rfl (by omega)
def tq (l:List UInt8):Int:=l.foldl (fun n c=>10 * n+((c.toNat:Int) - 48)) 0
theorem uQ (l:List UInt8) (c:UInt8):tq (l++[c])=10 * tq l+((c.toNat:Int) - 48):=by simp [tq,List.foldl_append]
def yv (l:List UInt8):Bool:=l.isEmpty || decide (4 < l.length) || (l.head?==some 48&&decide (1 < l.length)) || !l.all zz
def za (l:List UInt8):Int × Bool:=if yv l then (0,false) else (tq l,true)
theorem wE:∀ (n:Nat) (l:List UInt8),l.length=n→l.all zz=true→0≤tq l∧tq l < 10 ^ n
 | 0,l,h,_=>by
  obtain rfl:l=[]:=List.eq_nil_of_length_eq_zero h;simp [tq]
 | n+1,l,h,ha=>by
  obtain ⟨l',c,rfl⟩:∃ l' c,l=l'++[c]:=⟨l.dropLast,l.getLast (by intro e; subst e; simp at h),(List.dropLast_concat_getLast _).symm⟩;rw [List.all_append,Bool.and_eq_true] at ha;have ih:=wE n l' (by simpa using h) ha.1;(have hc:zz c=true:=by simpa using ha.2);simp only [zz,decide_eq_true_eq] at hc;rw [uQ];(have:(10:Int) ^ (n+1)=10 * 10 ^ n:=by rw [Int.pow_succ]; omega);rw [this];(have hh:((c.toNat:Int))≤57∧(48:Int)≤c.toNat:=by omega);omega
def tA (c:UInt8):Bool:=decide (97≤c.toNat∧c.toNat≤122∨48≤c.toNat∧c.toNat≤57∨c.toNat=45)
def tC (l:List UInt8):Bool:=!l.isEmpty&&decide (l.length≤8)&&l.all tA
def zO (l:List UInt8):List (List UInt8):=zV 46 [] l
def uI (l:List UInt8):Bool:=decide ((zO l).length≤4)&&(zO l).all tC
def yx (l:List UInt8):Bool:=!zr l || (za l).2
def fF (l:List UInt8):Bool:=uI l&&(zO l).all yx
def vZ (v n:Int):Int:=if v.tmod n < 0 then v.tmod n+n else v.tmod n
theorem aW (v n:Int) (hn:0 < n):-n < v.tmod n∧v.tmod n < n:=⟨by have:=Int.lt_tmod_of_pos v hn; omega,Int.tmod_lt_of_pos v hn⟩
theorem p9 (v n:Int) (hn:0 < n):0≤vZ v n∧vZ v n < n:=by
 have:=aW v n hn;unfold vZ; split<;>omega
theorem Z3 {a b:Int} (h:a=b):Ending.returned (.int .i64 a) = .returned (.int .i64 b):=by rw [h]
theorem s8 (v n:Int) (w:World) (hn:0 < n) (hn2:n≤1000000):Calls Tryz.prog 23 #[.int .i64 v,.int .i64 n] w fun e w'=>e = .returned (.int .i64 (vZ v n))∧w=w':=by
 have hb:=aW v n hn;(have hz:(n==0)=false:=by simp; omega);obtain ⟨hb1,hb2⟩:=hb;cases hlt:decide (v.tmod n < 0)
 ·have HP:=hid (show vZ v n=v.tmod n by rw [vZ,if_neg (by simpa using hlt)]);go_enter Tryz.func23,Tryz.ntmps23;(go_wp2_with fail);go_ret;exact ⟨Z3 HP.out.symm,rfl⟩
 ·have HP:=hid (show vZ v n=v.tmod n+n by rw [vZ,if_pos (by simpa using hlt)]);go_enter Tryz.func23,Tryz.ntmps23;(go_wp2_with fail);go_ret;exact ⟨Z3 HP.out.symm,rfl⟩
def IntsAt (w:World) (A:Option Addr) (zs:List Int):Prop:=zs=[]∨∃ b off,A=some ⟨b,off,none⟩∧b < w.heap.size∧∀ i,i < zs.length→w.cell? ⟨b,off+i,none⟩=some (.int .i64 (zs.getD i 0))
theorem IntsAt.below {w w':World} {A:Option Addr} {zs:List Int} (h:IntsAt w A zs) (hb:Below w.heap.size w w'):IntsAt w' A zs:=by
 rcases h with h | ⟨b,off,rfl,hlt,hc⟩
 ·exact .inl h
 ·exact .inr ⟨b,off,rfl,Nat.lt_of_lt_of_le hlt hb.size,fun i hi=>(hb.cell (p:=⟨b,_,none⟩) hlt).trans (hc i hi)⟩
def atL (zs:List Int) (i:Int):Int:=if i < 0∨(zs.length:Int)≤i then 0 else zs.getD i.toNat 0
theorem cu (A:Option Addr) (cap:Nat) (zs:List Int) (i:Int) (w:World) (h:IntsAt w A zs) (hi:0≤i) (hi2:i≤1000000000) (hln:zs.length≤9223372036854775807):Calls Tryz.prog 42 #[.slice A zs.length cap,.int .i64 i] w fun e w'=>e = .returned (.int .i64 (atL zs i))∧w=w':=by
 obtain ⟨k,rfl⟩:=Int.eq_ofNat_of_zero_le hi;by_cases hlt:k < zs.length
 ·rcases h with h | ⟨b,off,rfl,hb,hc⟩
  ·subst h; simp at hlt
  ·have HP:=hid (show atL zs (k:Int)=zs.getD k 0 by rw [atL,if_neg (by omega),Int.toNat_natCast]);have hcell:=hc k hlt;(have h1:(k:Int) < (zs.length:Int):=by omega);clear hc;generalize zs.length=n at *;generalize zs.getD k 0=z at *;go_enter Tryz.func42,Tryz.ntmps42;(go_wp2_with fail);go_ret;exact ⟨Z3 HP.out.symm,rfl⟩
 ·have HP:=hid (show atL zs (k:Int)=0 by rw [atL,if_pos (by omega)]);(have h1:(zs.length:Int)≤(k:Int):=by omega);clear h;generalize zs.length=n at *;go_enter Tryz.func42,Tryz.ntmps42;(go_wp2_with fail);go_ret;exact ⟨Z3 HP.out.symm,rfl⟩
def xh (zs:List Int) (i n:Int):Int:=vZ (atL zs i) n
theorem vO (zs:List Int) (i n:Int) (hn:0 < n):0≤xh zs i n∧xh zs i n < n:=p9 _ _ hn
theorem un (A:Option Addr) (cap:Nat) (zs:List Int) (i n:Int) (w:World) (h:IntsAt w A zs) (hi:0≤i) (hi2:i≤1000000000) (hln:zs.length≤9223372036854775807) (hn:0 < n) (hn2:n≤1000000):Calls Tryz.prog 21 #[.slice A zs.length cap,.int .i64 i,.int .i64 n] w fun e w'=>e = .returned (.int .i64 (xh zs i n))∧w=w':=by
 have h1:=hid (cu A cap zs i w h hi hi2 hln);have h2:=hid (s8 (atL zs i) n w hn hn2);have HF:=hid (show xh zs i n=vZ (atL zs i) n from rfl);clear h;generalize xh zs i n=r at *;generalize vZ (atL zs i) n=q at *;generalize atL zs i=z at *;generalize zs.length=m at *;go_enter Tryz.func21,Tryz.ntmps21;(go_wp2_with fail);refine h1.out.mono ?_;rintro _ _ ⟨rfl,rfl⟩;(go_wp2_with fail);refine h2.out.mono ?_;rintro _ _ ⟨rfl,rfl⟩;(go_wp2_with fail);go_ret;exact ⟨Z3 HF.out.symm,rfl⟩
theorem XA (n:Int) (w:World):Calls Tryz.prog 150 #[.int .i64 n] w fun e w'=>e = .returned (.bool (decide (0≤n∧n≤9999)))∧w=w':=by
 by_cases h0:0≤n
 ·by_cases h1:n≤9999
  ·go_enter Tryz.func150,Tryz.ntmps150;go_wp2;go_ret;exact ⟨by simp [h0,h1],rfl⟩
  ·(have hd:decide (n≤9999)=false:=by simpa using h1);go_enter Tryz.func150,Tryz.ntmps150;go_wp2;go_ret;exact ⟨by simp [h1],rfl⟩
 ·(have hd:decide (0≤n)=false:=by simpa using h0);go_enter Tryz.func150,Tryz.ntmps150;go_wp2;go_ret;exact ⟨by simp [h0],rfl⟩
theorem yW (s:ByteArray) (w:World) (hs:s.size≤9223372036854775807):Calls Tryz.prog 191 #[.string s] w fun e w'=>e = .returned (.bool (zr (bts s)))∧w=w':=by
 go_enter Tryz.func191,Tryz.ntmps191;go_wp2
 go_loop [2,3,6,11,12,13,14,15,16,17,18] (fun a i k u1 u2 u3 u4 u5 u6 u7 u8=>∃ n:Nat,n≤s.size∧k = .int .i64 n∧((bts s).take n).all zz=true) (fun _ _ k _ _ _ _ _ _ _ _=>s.size - (intOf k).toNat)
 case atStart=>exact ⟨0,Nat.zero_le _,rfl,rfl⟩
 case round =>
  obtain ⟨n,hn,rfl,hall⟩:=hrel;have HA:=hid hall;clear hall;go_wp2
  ·go_ret;(have hl:n < s.size:=by assumption);refine ⟨?_,rfl⟩;rw [zr,yr s n hl (by simp [zz]; omega)]; rfl
  ·go_round
   case rel=>exact ⟨n+1,by omega,by go_num,yb s n (by assumption) HA.out (by simp [zz]; omega)⟩
   case measure=>simp [intOf]; omega
  ·go_ret;(have hl:n < s.size:=by assumption);refine ⟨?_,rfl⟩;rw [zr,yr s n hl (by simp [zz]; omega)]; rfl
  ·go_ret;(have he:n=s.size:=by omega);subst he;have h:=HA.out;rw [yD] at h;refine ⟨?_,rfl⟩;rw [zr,h]; rfl
def s9 (w:World) (ls:List (List UInt8)) (e:Ending) (w':World):Prop :=
 ∃ g cap,e = .returned (.slice (some ⟨g,0,none⟩) ls.length cap)∧w.heap.size≤g∧g < w'.heap.size∧ls.length≤cap∧(∀ j,j < ls.length→w'.cell? ⟨g,j,none⟩=some (jX (ls.getD j [])))∧Below w.heap.size w w'
theorem eI {w w':World} {v:Value} {ls:List (List UInt8)} (h:w'.ownsRow w.heap.size 9 1 v ls.length (ls.map jX)) (hp:0 < ls.length) (hb:Below w.heap.size w w'):s9 w ls (.returned v) w':=by
 obtain ⟨g,cap,rfl,hg,hlt,hc,hcell⟩:=vN h hp;refine ⟨g,cap,rfl,hg,hlt,hc,fun j hj=>?_,hb⟩;rw [hcell j (by omega)];simp [hj]
theorem mu {a b:Int} (h:(a==b)=true):a=b:=by simpa using h
theorem WK {a b:Int} (h:(a==b)=false):¬ a=b:=by simpa using h
theorem cW {a b:UInt8} (h:((a.toNat:Int)==(b.toNat:Int))=true):a=b:=UInt8.toNat_inj.1 (by have:=mu h; omega)
theorem ZO {a b:UInt8} (h:((a.toNat:Int)==(b.toNat:Int))=false):¬ a=b:=fun e=>WK h (by rw [e])
def rH (w:World) (s:ByteArray) (b:UInt8) (l:Value) (f k:Nat) (wr:World):Prop :=
 ∃ ps:List (List UInt8),k≤s.size∧f≤k∧ps.length≤k∧wr.ownsRow w.heap.size 9 1 l ps.length (ps.map jX) ∧
  zV b [] (bts s)=ps++zV b (((bts s).take k).drop f) ((bts s).drop k)∧Below w.heap.size w wr
theorem t7 (w:World) (s:ByteArray) (b:UInt8):rH w s b (.slice none 0 0) 0 0 w :=
 ⟨[],Nat.zero_le _,Nat.le_refl _,Nat.zero_le _,World.ownsRow_nil _ _ _ _,by simp,Below.refl _ _⟩
theorem qP {w w':World} {s:ByteArray} {b:UInt8} {v':Value} {f k:Nat} {ps:List (List UInt8)} (hlt:k < s.size) (hf:f≤k) (hp:ps.length≤k)
 (HS:zV b [] (bts s)=ps++zV b (((bts s).take k).drop f) ((bts s).drop k)) (hc:((s[k].toNat:Int)==(b.toNat:Int))=true)
 (h2:w'.ownsRow w.heap.size 9 1 v' (ps.length+1) (ps.map jX++[.string (s.extract f k)])) (hb:Below w.heap.size w w'):rH w s b v' (k+1) (k+1) w':=by
 refine ⟨ps++[((bts s).take k).drop f],by omega,Nat.le_refl _,by simp; omega,?_,?_,hb⟩
 ·rw [uB,← uH] at h2;simpa using h2
 ·rw [HS,oP b s k f hlt hf,if_pos (cW hc)];have:((bts s).take (k+1)).drop (k+1)=[]:=List.drop_eq_nil_of_le (by rw [List.length_take]; omega);rw [this];simp
theorem pS {w wr:World} {s:ByteArray} {b:UInt8} {l:Value} {f k:Nat} {ps:List (List UInt8)} (hlt:k < s.size) (hf:f≤k) (hp:ps.length≤k)
 (HS:zV b [] (bts s)=ps++zV b (((bts s).take k).drop f) ((bts s).drop k)) (hc:((s[k].toNat:Int)==(b.toNat:Int))=false)
 (h2:wr.ownsRow w.heap.size 9 1 l ps.length (ps.map jX)) (hb:Below w.heap.size w wr):rH w s b l f (k+1) wr:=by
 refine ⟨ps,by omega,by omega,by omega,h2,?_,hb⟩
 rw [HS,oP b s k f hlt hf,if_neg (ZO hc)]
theorem qT {w w':World} {s:ByteArray} {b:UInt8} {v':Value} {f:Nat} {ps:List (List UInt8)}
 (HS:zV b [] (bts s)=ps++zV b (((bts s).take s.size).drop f) ((bts s).drop s.size))
 (h2:w'.ownsRow w.heap.size 9 1 v' (ps.length+1) (ps.map jX++[.string (s.extract f s.size)])) (hb:Below w.heap.size w w'):s9 w (zV b [] (bts s)) (.returned v') w':=by
 have e:(bts s).drop s.size=[]:=List.drop_eq_nil_of_le (by rw [zF]; omega)
 rw [e] at HS
 rw [HS]
 refine eI ?_ (by simp [zV]) hb
 rw [uB,← uH] at h2
 simpa [zV] using h2
theorem bk (s:ByteArray) (b:UInt8) (w:World) (hs:s.size≤4398046511104):Calls Tryz.prog 170 #[.string s,.int .u8 b.toNat] w (s9 w (zV b [] (bts s))):=by
 have hM:maxLen=9223372036854775807:=rfl;go_enter Tryz.func170,Tryz.ntmps170;go_wp2;go_loopw [5,6,10] (fun l fr i wr=>∃ (k f:Nat),i = .int .i64 k∧fr = .int .i64 f∧rH w s b l f k wr) (fun _ _ i _=>s.size - (intOf i).toNat)
 case atStart=>exact ⟨0,0,rfl,rfl,t7 _ _ _⟩
 case round =>
  obtain ⟨k,f,rfl,rfl,ps,hk,hf,hp,hown,hS,hb⟩:=hrel;have HS:=hid hS;clear hS;have hsz:=hb.size;go_wp2_with (first | (at_builtin; refine wu yd rfl (.tmp 18) (.tmp 23) rfl [.string (s.extract f k)] hown hb rfl rfl rfl ?_ (by omega) (by omega) (Nat.le_refl _) hsz ?_) | (at_builtin; refine wu yd rfl (.tmp 28) (.tmp 32) rfl [.string (s.extract f s.size)] hown hb rfl rfl rfl ?_ (by omega) (by omega) (Nat.le_refl _) hsz ?_))
  ·simp [Value.oneCell']
  ·intro v' w' h2 hb2 hs2;(have hc:((s[k].toNat:Int)==(b.toNat:Int))=true:=by assumption);have R:=hid (qP (by assumption) hf hp HS.out hc h2 hb2);clear hown h2 hc;go_wp2;go_roundw
   case rel=>exact ⟨k+1,k+1,by go_num,by go_num,R.out⟩
   case measure=>simp [intOf]; omega
  ·(have hc:((s[k].toNat:Int)==(b.toNat:Int))=false:=by assumption);go_roundw
   case rel=>exact ⟨k+1,f,by go_num,rfl,pS (by assumption) hf hp HS.out hc hown hb⟩
   case measure=>simp [intOf]; omega
  ·simp [Value.oneCell']
  ·intro v' w' h2 hb2 hs2;(have hke:k=s.size:=by omega);subst hke;have R:=hid (qT HS.out h2 hb2);clear hown h2;go_wp2;go_ret;exact R.out
def Wg (w:World) (r:Int × Bool) (e:Ending) (w':World):Prop:=e = .returned (.tuple #[.int .i64 r.1,.bool r.2])∧Below w.heap.size w w'
theorem iW {l:List UInt8} (h:yv l=true):za l=(0,false):=by rw [za,if_pos h]
theorem qM {l:List UInt8} (h:yv l=false):za l=(tq l,true):=by rw [za,if_neg (by rw [h]; simp)]
theorem vP {w w':World} {s:ByteArray} (h:yv (bts s)=true) (hb:Below w.heap.size w w'):Wg w (za (bts s)) (.returned (.tuple #[.int .i64 0,.bool false])) w':=by
 rw [iW h]; exact ⟨rfl,hb⟩
theorem fb {s:ByteArray} (h:0 < s.size):(bts s).head?=some s[0]:=by
 rw [List.head?_eq_getElem?,List.getElem?_eq_getElem (by rw [zF]; exact h),wR s 0 h]
theorem mM {s:ByteArray} (h:4 < s.size):yv (bts s)=true:=by simp [yv,zF,h]
theorem eH {s:ByteArray} (h:1 < s.size) (h0:s[0].toNat=48):yv (bts s)=true:=by
 have:s[0]=48:=UInt8.toNat_inj.1 h0;rw [yv,fb (by omega),this]; simp [zF,h]
theorem gh {s:ByteArray} {k:Nat} (h:k < s.size) (h0:zz s[k]=false):yv (bts s)=true:=by
 rw [yv,yr s k h h0]; simp
theorem aU {s:ByteArray} (h0:0 < s.size) (h4:s.size≤4) (hz:s.size≤1∨¬ s[0].toNat=48) (ha:(bts s).all zz=true):yv (bts s)=false:=by
 have hl:=zF s;rw [yv,fb h0,ha,hl];(have e1:(bts s).isEmpty=false:=by rw [Bool.eq_false_iff]; intro e; rw [sj] at e; omega);(have e2:decide (4 < s.size)=false:=by simp; omega);rw [e1,e2];rcases hz with hz | hz
 ·(have:decide (1 < s.size)=false:=by simp; omega);rw [this]; simp
 ·have:(some s[0]==some (48:UInt8))=false:=by
   rw [beq_eq_false_iff_ne];intro e;(injection e with e);exact hz (by rw [e]; rfl)
  rw [this]; simp
def aP (w:World) (s:ByteArray) (n:Int) (wr:World):Prop:=∃ k:Nat,k≤s.size∧n=tq ((bts s).take k)∧((bts s).take k).all zz=true∧wr=w.iter s k
theorem lx (w:World) (s:ByteArray):aP w s 0 (w.iter s 0):=⟨0,Nat.zero_le _,rfl,rfl,rfl⟩
theorem uz (s:ByteArray) (k:Nat) (hk:k≤s.size) (h4:s.size≤4) (ha:((bts s).take k).all zz=true):0≤tq ((bts s).take k)∧tq ((bts s).take k)≤9999:=by
 have h:=wE k _ (by rw [List.length_take,zF]; omega) ha;rcases (show k=0∨k=1∨k=2∨k=3∨k=4 from by omega) with rfl | rfl | rfl | rfl | rfl<;>omega
theorem yU (w:World) (s:ByteArray) (k:Nat):Below w.heap.size w (w.iter s k):=(Below.refl _ _).alloc (Nat.le_refl _) _
theorem zj {s:ByteArray} (h0:0 < s.size):s.toList.isEmpty=false∧¬ s.toList=[]:=by
 (have hne:¬ s.toList=[]:=by intro e; have:=zF s; rw [bts,e] at this; simp at this; omega);exact ⟨by simpa using hne,hne⟩
theorem iH {w:World} {s:ByteArray} {k:Nat} (hk:k < s.size) (ha:((bts s).take k).all zz=true) (hd:zz s[k]=true) :
 aP w s (10 * tq ((bts s).take k)+((s[k].toNat:Int) - 48)) (w.iter s (k+1)) :=
 ⟨k+1,by omega,by rw [v9 s k hk,uQ],yb s k hk ha hd,rfl⟩
theorem lL (s:ByteArray) (k:Nat) (h:k < s.size) (hd:zz s[k]=false):(Utf8.decode s k).1 < 48∨57 < (Utf8.decode s k).1:=by
 simp only [zz,decide_eq_false_iff_not] at hd;by_cases ha:s[k].toNat < 128
 ·rw [decode_ascii s k h ha]; simp only; omega
 ·have:=(decode_high s k h (by omega)).1; omega
theorem ZQ (s:ByteArray) (w:World) (h0:0 < s.size) (h4:s.size≤4) (hz:s.size≤1∨¬ s[0].toNat=48):Calls Tryz.prog 171 #[.string s] w (Wg w (za (bts s))):=by
 obtain ⟨he,hne⟩:=zj h0;(have hd4:decide ((4:Int) < (s.size:Int))=false:=by simp; omega);have HZ:=hid hz
 have hcase:(((s[0].toNat:Int)==48)=true∧decide ((1:Int) < (s.size:Int))=false)∨((s[0].toNat:Int)==48)=false:=by
  by_cases h:s[0].toNat=48
  ·exact .inl ⟨by simp [h],by simp; omega⟩
  ·exact .inr (by rw [beq_eq_false_iff_ne]; omega)
 clear hz;rcases hcase with ⟨hs0,hd1⟩ | hs0
 all_goals
  go_enter Tryz.func171,Tryz.ntmps171;(go_wp2_with fail);clear hs0;go_loopw [4] (fun n wr=>∃ z:Int,n = .int .i64 z∧aP w s z wr) (fun _ wr=>s.size - wr.iterPos w.heap.size)
  case atStart=>exact ⟨0,rfl,lx w s⟩
  case round =>
   obtain ⟨z,rfl,k,hk,hzk,ha,rfl⟩:=hrel;have hb:=uz s k hk h4 ha;rw [← hzk] at hb;obtain ⟨hb1,hb2⟩:=hb;have HK:=hid hzk;have HA:=hid ha;clear hzk ha;by_cases hlt:k < s.size
   ·by_cases hd:zz s[k]=true
    ·(have hdd:48≤s[k].toNat∧s[k].toNat≤57:=by simpa [zz] using hd);have HD:=hid hd;clear hd;obtain ⟨d1,d2⟩:=hdd;(have hnx:=fun ty=>run_next_ascii (P:=Tryz.prog) w s k ty hlt (by omega));generalize hc:s[k].toNat=c at *;have HC:=hid hc;clear hc;go_wp2;go_roundw
     case rel=>exact ⟨_,rfl,by have:=iH (w:=w) hlt HA.out HD.out; rw [← HK.out,HC.out] at this; exact this⟩
     case measure=>simp; omega
    ·(have hdf:zz s[k]=false:=by simpa using hd);(have hnx:=fun ty=>run_next_any (P:=Tryz.prog) w s k ty hlt);have hdc:=lL s k hlt hdf;have HB:=hid (gh hlt hdf);clear hd hdf;generalize (Utf8.decode s k).1=c at *;generalize (Utf8.decode s k).2=q at *;rcases hdc with hdc | hdc
     all_goals
      go_wp2
      go_ret2
      exact vP HB.out (yU _ _ _)
   ·(obtain rfl:k=s.size:=by omega);(have hnx:=fun ty=>run_next_end (P:=Tryz.prog) w s s.size ty (by omega));have HF:=hid (aU h0 h4 HZ.out (by have:=HA.out; rwa [yD] at this));go_wp2
    go_ret2
    have:=HK.out;rw [yD] at this;refine ⟨?_,yU _ _ _⟩;rw [qM HF.out,this];have hb3:decide (z≤9999)=true:=by simpa using hb2
    simp_all
theorem vV (s:ByteArray) (w:World):Calls Tryz.prog 171 #[.string s] w (Wg w (za (bts s))):=by
 by_cases h0:0 < s.size
 ·by_cases h4:s.size≤4
  ·by_cases hz:s.size≤1∨¬ s[0].toNat=48
   ·exact ZQ s w h0 h4 hz
   ·obtain ⟨he,hne⟩:=zj h0;(have hd4:decide ((4:Int) < (s.size:Int))=false:=by simp; omega);(have hd1:decide ((1:Int) < (s.size:Int))=true:=by simp; omega);(have hs0:((s[0].toNat:Int)==48)=true:=by simp; omega);have HB:=hid (eH (s:=s) (by omega) (by omega));clear hz;go_enter Tryz.func171,Tryz.ntmps171;go_wp2_with fail
    go_ret2
    exact vP HB.out (Below.refl _ _)
  ·obtain ⟨he,hne⟩:=zj h0;(have hd4:decide ((4:Int) < (s.size:Int))=true:=by simp; omega);have HB:=hid (mM (s:=s) (by omega));go_enter Tryz.func171,Tryz.ntmps171;go_wp2_with fail
   go_ret2
   exact vP HB.out (Below.refl _ _)
 ·have he:s.toList=[]:=by
   apply List.eq_nil_of_length_eq_zero;have:=zF s;simp only [bts] at this;omega
  have HB:=hid (show yv (bts s)=true by rw [bts,he]; rfl);go_enter Tryz.func171,Tryz.ntmps171;go_wp2_with fail
  go_ret2
  exact vP HB.out (Below.refl _ _)
theorem rL (c:UInt8) (w:World):Calls Tryz.prog 147 #[.int .u8 c.toNat] w fun e w'=>e = .returned (.bool (zz c))∧w=w':=by
 have hd:zz c=(decide ((48:Int)≤(c.toNat:Int))&&decide ((c.toNat:Int)≤57)):=by
  rw [zz,← Bool.decide_and];exact decide_eq_decide.2 (by omega)
 rw [hd];clear hd;by_cases h0:(48:Int)≤c.toNat
 ·go_enter Tryz.func147,Tryz.ntmps147;go_wp2;go_ret;exact ⟨by simp [h0],rfl⟩
 ·(have hd:decide ((48:Int)≤(c.toNat:Int))=false:=by simpa using h0);go_enter Tryz.func147,Tryz.ntmps147;go_wp2;go_ret;exact ⟨by simp [h0],rfl⟩
theorem yJ (s:ByteArray) (w:World) (hs:s.size≤9223372036854775807):Calls Tryz.prog 101 #[.string s] w fun e w'=>e = .returned (.bool (zr (bts s)))∧w=w':=by
 go_enter Tryz.func101,Tryz.ntmps101;go_wp2
 go_loop [3] (fun k=>∃ n:Nat,n≤s.size∧k = .int .i64 n∧((bts s).take n).all zz=true) (fun k=>s.size - (intOf k).toNat)
 case atStart=>exact ⟨0,Nat.zero_le _,rfl,rfl⟩
 case round =>
  obtain ⟨n,hn,rfl,hall⟩:=hrel;have HA:=hid hall;clear hall;go_wp2
  ·go_ret;(have hl:n < s.size:=by assumption);refine ⟨?_,rfl⟩;rw [zr,yr s n hl (by simp [zz]; omega)]; rfl
  ·go_round
   case rel=>exact ⟨n+1,by omega,by go_num,yb s n (by assumption) HA.out (by simp [zz]; omega)⟩
   case measure=>simp [intOf]; omega
  ·go_ret;(have hl:n < s.size:=by assumption);refine ⟨?_,rfl⟩;rw [zr,yr s n hl (by simp [zz]; omega)]; rfl
  ·go_ret;(have he:n=s.size:=by omega);subst he;have h:=HA.out;rw [yD] at h;refine ⟨?_,rfl⟩;rw [zr,h]
   have:(!(bts s).isEmpty)=decide (0 < s.size):=by
    by_cases h0:0 < s.size
    ·rw [(zj h0).1]; simp [h0]
    ·have:(bts s).isEmpty=true:=sj.2 (by omega);rw [this]; simp [h0]
   rw [this]; rfl
theorem tn (s:ByteArray) (b:UInt8) (w:World) (hs:s.size≤4398046511104):Calls Tryz.prog 98 #[.string s,.int .u8 b.toNat] w (s9 w (zV b [] (bts s))):=by
 have hM:maxLen=9223372036854775807:=rfl;go_enter Tryz.func98,Tryz.ntmps98;go_wp2;go_loopw [5,6,7] (fun l fr i wr=>∃ (k f:Nat),i = .int .i64 k∧fr = .int .i64 f∧rH w s b l f k wr) (fun _ _ i _=>s.size - (intOf i).toNat)
 case atStart=>exact ⟨0,0,rfl,rfl,t7 _ _ _⟩
 case round =>
  obtain ⟨k,f,rfl,rfl,ps,hk,hf,hp,hown,hS,hb⟩:=hrel;have HS:=hid hS;clear hS;have hsz:=hb.size;go_wp2_with (first | (at_builtin; refine wu yd rfl (.tmp 19) (.tmp 24) rfl [.string (s.extract f k)] hown hb rfl rfl rfl ?_ (by omega) (by omega) (Nat.le_refl _) hsz ?_) | (at_builtin; refine wu yd rfl (.tmp 28) (.tmp 32) rfl [.string (s.extract f s.size)] hown hb rfl rfl rfl ?_ (by omega) (by omega) (Nat.le_refl _) hsz ?_))
  ·simp [Value.oneCell']
  ·intro v' w' h2 hb2 hs2;(have hc:((s[k].toNat:Int)==(b.toNat:Int))=true:=by assumption);have R:=hid (qP (by assumption) hf hp HS.out hc h2 hb2);clear hown h2 hc;go_wp2;go_roundw
   case rel=>exact ⟨k+1,k+1,by go_num,by go_num,R.out⟩
   case measure=>simp [intOf]; omega
  ·(have hc:((s[k].toNat:Int)==(b.toNat:Int))=false:=by assumption);go_roundw
   case rel=>exact ⟨k+1,f,by go_num,rfl,pS (by assumption) hf hp HS.out hc hown hb⟩
   case measure=>simp [intOf]; omega
  ·simp [Value.oneCell']
  ·intro v' w' h2 hb2 hs2;(have hke:k=s.size:=by omega);subst hke;have R:=hid (qT HS.out h2 hb2);clear hown h2;go_wp2;go_ret;exact R.out
theorem mQ {s:ByteArray} (h:s.size < 1∨8 < s.size):tC (bts s)=false:=by
 have hl:=zF s;rw [tC];rcases h with h | h
 ·have:(bts s).isEmpty=true:=sj.2 (by omega);rw [this]; rfl
 ·(have:decide ((bts s).length≤8)=false:=by simp; omega);rw [this]; simp
theorem fv {s:ByteArray} {k:Nat} (h:k < s.size) (h0:tA s[k]=false):tC (bts s)=false:=by
 rw [tC,yr s k h h0]; simp
theorem fP {s:ByteArray} (h0:0 < s.size) (h8:s.size≤8) (ha:((bts s).take s.size).all tA=true):tC (bts s)=true:=by
 rw [yD] at ha;rw [tC,ha,(zj h0).1,zF];simp [h8]
theorem jo {c:UInt8} (h:tA c=true):c.toNat=45∨(48≤c.toNat∧c.toNat≤57)∨(97≤c.toNat∧c.toNat≤122):=by
 simp only [tA,decide_eq_true_eq] at h; omega
theorem eE {c:UInt8} (h:tA c=false):c.toNat < 45∨(45 < c.toNat∧c.toNat < 48)∨(57 < c.toNat∧c.toNat < 97)∨122 < c.toNat:=by
 simp only [tA,decide_eq_false_iff_not] at h; omega
theorem rO (s:ByteArray) (w:World) (hs:s.size≤9223372036854775807):Calls Tryz.prog 99 #[.string s] w fun e w'=>e = .returned (.bool (tC (bts s)))∧w=w':=by
 by_cases h0:s.size < 1∨8 < s.size
 ·rw [mQ h0];rcases h0 with h0 | h0
  ·go_enter Tryz.func99,Tryz.ntmps99;go_wp2;go_ret;exact ⟨rfl,rfl⟩
  ·(have h1:decide ((s.size:Int) < 1)=false:=by simp; omega);go_enter Tryz.func99,Tryz.ntmps99;go_wp2;go_ret;exact ⟨rfl,rfl⟩
 ·(have h1:decide ((s.size:Int) < 1)=false:=by simp; omega);(have h2:decide ((8:Int) < (s.size:Int))=false:=by simp; omega);(have hlo:0 < s.size:=by omega);(have hhi:s.size≤8:=by omega);clear h0;generalize hr:tC (bts s)=r;have HR:=hid hr;clear hr;go_enter Tryz.func99,Tryz.ntmps99;go_wp2
  go_loop [3] (fun k=>∃ n:Nat,n≤s.size∧k = .int .i64 n∧((bts s).take n).all tA=true) (fun k=>s.size - (intOf k).toNat)
  case atStart=>exact ⟨0,Nat.zero_le _,rfl,rfl⟩
  case round =>
   obtain ⟨n,hn,rfl,hall⟩:=hrel;have HA:=hid hall;clear hall h1 h2;by_cases hlt:n < s.size
   ·by_cases hd:tA s[n]=true
    ·have HD:=hid hd;rcases jo hd with hc | ⟨hc1,hc2⟩ | ⟨hc1,hc2⟩
     ·clear hd;(have hc1:(s[n].toNat:Int) < 48:=by omega);(have hc2:((s[n].toNat:Int) != 45)=false:=by simp [hc]);clear hc;go_wp2
      go_round
      case rel=>exact ⟨n+1,by omega,by go_num,yb s n hlt HA.out HD.out⟩
      case measure=>simp [intOf]; omega
     all_goals
      clear hd;go_wp2
      go_round
      case rel=>exact ⟨n+1,by omega,by go_num,yb s n hlt HA.out HD.out⟩
      case measure=>simp [intOf]; omega
    ·(have hdf:tA s[n]=false:=by simpa using hd);have hc:=eE hdf;(have hc45:((s[n].toNat:Int) != 45)=true:=by rw [bne_iff_ne]; omega);have HD:=hid hdf;clear hd hdf;rcases hc with c1 | ⟨c1,c2⟩ | ⟨c1,c2⟩ | c1
     all_goals
      go_wp2;go_ret;exact ⟨by rw [← HR.out,fv hlt HD.out]; rfl,rfl⟩
   ·(obtain rfl:n=s.size:=by omega);go_wp2;go_ret;exact ⟨by rw [← HR.out,fP hlo hhi HA.out]; rfl,rfl⟩
theorem pT:∀ (l:List UInt8) (a:Int),l.foldl (fun n c=>10 * n+((c.toNat:Int) - 48)) a=a * 10 ^ l.length+tq l
 | [],a=>by simp [tq]
 | c::l,a=>by
  have h1:=pT l (10 * a+((c.toNat:Int) - 48));have h2:=pT l (10 * 0+((c.toNat:Int) - 48))
  have h3:tq (c::l)=(10 * 0+((c.toNat:Int) - 48)) * 10 ^ l.length+tq l:=by
   show List.foldl _ 0 (c::l)=_;rw [List.foldl_cons]; exact h2
  rw [List.foldl_cons,h1,h3,List.length_cons,Int.pow_succ];rw [Int.add_mul,Int.add_mul];(have:10 * a * 10 ^ l.length=a * (10 ^ l.length * 10):=by rw [Int.mul_comm 10 a,Int.mul_assoc,Int.mul_comm 10]);omega
theorem nI (a:Nat):∀ d:Nat,(10:Int) ^ a≤10 ^ (a+d)
 | 0=>Int.le_refl _
 | d+1=>by
  have h:=nI a d;have h0:(0:Int)≤10 ^ (a+d):=Int.le_of_lt (Int.pow_pos (by omega));rw [← Nat.add_assoc,Int.pow_succ];omega
theorem vy {a b:Nat} (h:a≤b):(10:Int) ^ a≤10 ^ b:=by
 have:=nI a (b - a)
 rwa [show a+(b - a)=b from by omega] at this
theorem kY (c:UInt8) (l:List UInt8):tq (c::l)=((c.toNat:Int) - 48) * 10 ^ l.length+tq l:=by
 have:=pT l (10 * 0+((c.toNat:Int) - 48));rw [tq,List.foldl_cons,this]; simp
theorem XF {s:ByteArray} (h4:4 < s.size) (hz:¬ s[0].toNat=48) (ha:(bts s).all zz=true):9999 < tq (bts s):=by
 have hl:=zF s;have hg:=wR s 0 (by omega);cases hb:bts s with
 | nil=>rw [hb] at hl; simp at hl; omega
 | cons c r =>
  (have hc0:c=s[0]:=by rw [← hg]; simp [hb]);rw [hb,List.all_cons,Bool.and_eq_true] at ha;have hr:=wE r.length r rfl ha.2;have hd:=ha.1;simp only [zz,decide_eq_true_eq] at hd;rw [hb,List.length_cons] at hl;rw [kY];(have h1:(1:Int)≤(c.toNat:Int) - 48:=by rw [hc0] at hd ⊢; omega);have h2:(10:Int) ^ 4≤10 ^ r.length:=vy (by omega);have h3:1 * (10:Int) ^ r.length≤((c.toNat:Int) - 48) * 10 ^ r.length:=Int.mul_le_mul_of_nonneg_right h1 (by omega);omega
theorem Z0 {s:ByteArray} (h:s.size < 1∨9 < s.size):yv (bts s)=true:=by
 rcases h with h | h
 ·have:(bts s).isEmpty=true:=sj.2 (by omega);rw [yv,this]; rfl
 ·exact mM (by omega)
theorem oU (s:ByteArray) (k:Nat) (hk:k≤s.size) (h9:s.size≤9) (ha:((bts s).take k).all zz=true):0≤tq ((bts s).take k)∧tq ((bts s).take k) < 1000000000:=by
 have hl:=zF s;have h:=wE k _ (by rw [List.length_take]; omega) ha;have h2:(10:Int) ^ k≤10 ^ 9:=vy (by omega);omega
theorem Yd {w:World} {s:ByteArray} {z:Int} (h0:0 < s.size) (hz:s.size≤1∨¬ s[0].toNat=48) (hzk:z=tq ((bts s).take s.size)) (ha:((bts s).take s.size).all zz=true) :
 (9999 < z→Wg w (za (bts s)) (.returned (.tuple #[.int .i64 0,.bool false])) w)∧(¬ 9999 < z→Wg w (za (bts s)) (.returned (.tuple #[.int .i64 z,.bool true])) w):=by
 rw [yD] at hzk ha
 by_cases h4:s.size≤4
 ·have hb:=uz s s.size (Nat.le_refl _) h4 (by rw [yD]; exact ha);rw [yD] at hb;refine ⟨fun h=>by omega,fun _=>?_⟩;refine ⟨?_,Below.refl _ _⟩;rw [qM (aU h0 h4 hz ha),hzk]
 ·refine ⟨fun _=>vP (mM (by omega)) (Below.refl _ _),fun h=>?_⟩;have:=XF (s:=s) (by omega) (by omega) ha;omega
theorem wC (s:ByteArray) (w:World):Calls Tryz.prog 100 #[.string s] w (Wg w (za (bts s))):=by
 by_cases h0:s.size < 1∨9 < s.size
 ·have HB:=hid (Z0 h0);rcases h0 with h0 | h0
  ·go_enter Tryz.func100,Tryz.ntmps100;go_wp2_with fail
   go_ret2
   exact vP HB.out (Below.refl _ _)
  ·(have h1:decide ((s.size:Int) < 1)=false:=by simp; omega);(have h2:decide ((9:Int) < (s.size:Int))=true:=by simp; omega);go_enter Tryz.func100,Tryz.ntmps100;go_wp2_with fail
   go_ret2
   exact vP HB.out (Below.refl _ _)
 ·(have hlo:0 < s.size:=by omega);(have hhi:s.size≤9:=by omega);clear h0;(have h1:decide ((s.size:Int) < 1)=false:=by simp; omega);(have h2:decide ((9:Int) < (s.size:Int))=false:=by simp; omega);by_cases hz:1 < s.size∧s[0].toNat=48
  ·(have h3:decide ((1:Int) < (s.size:Int))=true:=by simp; omega);(have hs0:((s[0].toNat:Int)==48)=true:=by simp; omega);have HB:=hid (eH hz.1 hz.2);clear hz;go_enter Tryz.func100,Tryz.ntmps100;go_wp2_with fail
   go_ret2
   exact vP HB.out (Below.refl _ _)
  ·have HZ:=hid (show s.size≤1∨¬ s[0].toNat=48 from by omega)
   have hcase:decide ((1:Int) < (s.size:Int))=false∨(decide ((1:Int) < (s.size:Int))=true∧((s[0].toNat:Int)==48)=false):=by
    by_cases h:1 < s.size
    ·exact .inr ⟨by simp; omega,by rw [beq_eq_false_iff_ne]; omega⟩
    ·exact .inl (by simp; omega)
   clear hz;rcases hcase with h3 | ⟨h3,hs0⟩
   all_goals
    go_enter Tryz.func100,Tryz.ntmps100;(go_wp2_with fail);clear h1 h2 h3
    go_loop [4,5] (fun n i=>∃ (k:Nat) (z:Int),i = .int .i64 k∧n = .int .i64 z∧k≤s.size∧z=tq ((bts s).take k)∧((bts s).take k).all zz=true) (fun _ i=>s.size - (intOf i).toNat)
    case atStart=>exact ⟨0,0,rfl,rfl,Nat.zero_le _,rfl,rfl⟩
    case round =>
     obtain ⟨k,z,rfl,rfl,hk,hzk,ha⟩:=hrel;have hb:=oU s k hk hhi ha;rw [← hzk] at hb;obtain ⟨hb1,hb2⟩:=hb;have HK:=hid hzk;have HA:=hid ha;clear hzk ha;by_cases hlt:k < s.size
     ·by_cases hd:zz s[k]=true
      ·(have hdd:48≤s[k].toNat∧s[k].toNat≤57:=by simpa [zz] using hd);obtain ⟨d1,d2⟩:=hdd;have HD:=hid hd;go_wp2_with (go_at_call 147; refine (rL _ _).mono ?_; rintro e w' ⟨rfl,rfl⟩)
       go_round
       case rel=>exact ⟨k+1,_,by go_num,rfl,by omega,by have:=HK.out; rw [v9 s k hlt,uQ,← this,Int.mul_comm],yb s k hlt HA.out HD.out⟩
       case measure=>simp [intOf]; omega
      ·(have hdf:zz s[k]=false:=by simpa using hd);have HB:=hid (gh hlt hdf);clear hd;go_wp2_with (go_at_call 147; refine (rL _ _).mono ?_; rintro e w' ⟨rfl,rfl⟩)
       go_ret2
       exact vP HB.out (Below.refl _ _)
     ·(obtain rfl:k=s.size:=by omega);have HE:=hid (Yd (w:=w) hlo HZ.out HK.out HA.out);go_wp2_with fail
      ·go_ret2
       exact HE.out.1 (by assumption)
      ·go_ret2
       exact HE.out.2 (by omega)
theorem sA (b:UInt8):∀ (l cur:List UInt8),∀ t,t∈zV b cur l→t.length≤cur.length+l.length
 | [],cur,t,h=>by simp [zV] at h; subst h; simp
 | c::r,cur,t,h=>by
  unfold zV at h;split at h
  ·rcases List.mem_cons.1 h with rfl | h
   ·simp
   ·have:=sA b r [] t h; simp at this; simp only [List.length_cons]; omega
  ·have:=sA b r (cur++[c]) t h; simp at this; simp only [List.length_cons]; omega
theorem hZ {l t:List UInt8} (h:t∈zO l):t.length≤l.length:=by have:=sA 46 l [] t h; simpa using this
theorem qg (s:ByteArray) (k:Nat) (hk:k < (zO (bts s)).length):∃ x:ByteArray,jX ((zO (bts s)).getD k []) = .string x∧bts x=(zO (bts s))[k]∧x.size≤s.size:=by
 (have e:(zO (bts s)).getD k []=(zO (bts s))[k]:=by simp [hk]);refine ⟨⟨((zO (bts s))[k]).toArray⟩,by rw [e]; rfl,by simp [bts],?_⟩;have:=hZ (List.getElem_mem hk);rw [zF] at this;show ((zO (bts s))[k]).toArray.size≤s.size;rw [List.size_toArray]; exact this
theorem yz {α:Type} {p:α→Bool} {l:List α} {k:Nat} (hk:k < l.length) (h:p l[k]=false):l.all p=false:=by
 rw [List.all_eq_false]; exact ⟨l[k],List.getElem_mem hk,by simp [h]⟩
theorem xU {α:Type} {p:α→Bool} {l:List α} {k:Nat} (hk:k < l.length) (ha:(l.take k).all p=true) (h:p l[k]=true):(l.take (k+1)).all p=true:=by
 rw [List.take_succ_eq_append_getElem hk,List.all_append,ha]; simp [h]
theorem uq {α:Type} {p:α→Bool} {l:List α} (ha:(l.take l.length).all p=true):l.all p=true:=by rwa [List.take_length] at ha
theorem rS (s:ByteArray) (w:World) (hs:s.size≤4398046511104):Calls Tryz.prog 98 #[.string s,.int .u8 46] w (s9 w (zO (bts s))):=tn s 46 w hs
theorem pu (s:ByteArray) (w:World) (hs:s.size≤4398046511104):Calls Tryz.prog 170 #[.string s,.int .u8 46] w (s9 w (zO (bts s))):=bk s 46 w hs
def wN (p:Bool) (t:List UInt8):Bool:=tC t&&(!p || yx t)
def vi (p:Bool) (l:List UInt8):Bool:=l.isEmpty || (decide ((zO l).length≤4)&&(zO l).all (wN p))
def yc (w:World) (b:Bool) (e:Ending) (w':World):Prop:=e = .returned (.bool b)∧Below w.heap.size w w'
def Held (w:World) (g:Nat) (ls:List (List UInt8)):Prop:=g < w.heap.size∧∀ j,j < ls.length→w.cell? ⟨g,j,none⟩=some (jX (ls.getD j []))
theorem Held.below {w w':World} {g:Nat} {ls:List (List UInt8)} (h:Held w g ls) (hb:Below w.heap.size w w'):Held w' g ls :=
 ⟨Nat.lt_of_lt_of_le h.1 hb.size,fun j hj=>(hb.cell (p:=⟨g,j,none⟩) h.1).trans (h.2 j hj)⟩
theorem Held.iter {w:World} {g:Nat} {ls:List (List UInt8)} (h:Held w g ls) (s:ByteArray) (k:Nat):Held (w.iter s k) g ls:=h.below (yU _ _ _)
theorem zC {w0 w1 w2:World} (h:Below w0.heap.size w0 w1) (k:Below w1.heap.size w1 w2):Below w0.heap.size w0 w2:=h.trans (k.mono h.size)
theorem Yg (s:ByteArray) (p:Bool) (w:World) (hs:s.size≤4398046511104) (h0:0 < s.size) (h4:(zO (bts s)).length≤4) :
 Calls Tryz.prog 58 #[.string s,.bool p] w (yc w ((zO (bts s)).all (wN p))):=by
 obtain ⟨he,hne⟩:=zj h0
 generalize hr:(zO (bts s)).all (wN p)=r
 have HR:=hid hr
 clear hr
 go_enter Tryz.func58,Tryz.ntmps58
 go_wp2_with fail
 refine (rS s _ hs).mono ?_
 rintro e w1 ⟨g,cap,rfl,hg,hgs,hcap,hcell,hb⟩
 have HH:=hid (show Held w1 g (zO (bts s)) from ⟨hgs,hcell⟩)
 clear hcell
 have hd4:decide ((4:Int) < ((zO (bts s)).length:Int))=false:=by simp; omega
 generalize hn:(zO (bts s)).length=n at *
 have HN:=hid hn
 clear hn
 go_wp2_with fail
 go_loopw [6] (fun i wr=>∃ k:Nat,i = .int .i64 k∧k≤n∧Hid (((zO (bts s)).take k).all (wN p)=true)∧Hid (Held wr g (zO (bts s)))∧Below w.heap.size w wr) (fun i _=>n - (intOf i).toNat)
 case atStart=>exact ⟨0,rfl,Nat.zero_le _,rfl,HH,hb⟩
 case round =>
  obtain ⟨k,rfl,hk,HA,HW,hbr⟩:=hrel;by_cases hlt:k < n
  ·(have hlt':k < (zO (bts s)).length:=by rw [HN.out]; exact hlt);obtain ⟨x,hx1,hx2,hx3⟩:=qg s k hlt';have hck:=HW.out.2 k hlt';rw [hx1] at hck;have HX:=hid hx2;clear hx1 hx2;have hsz:=hbr.size;have hgw:=HW.out.1;cases ht:tC (bts x)
   ·have HF:=hid (show (zO (bts s)).all (wN p)=false from yz hlt' (by rw [← HX.out,wN,ht]; rfl));(go_wp2_with (go_at_call 99; refine (rO _ _ (by omega)).mono ?_; rintro e w' ⟨rfl,rfl⟩));go_ret;exact ⟨by rw [← HR.out,HF.out]; rfl,hbr⟩
   ·cases p
    ·have HF:=hid (show wN false (zO (bts s))[k]=true by rw [← HX.out,wN,ht]; rfl);(go_wp2_with (first | (go_at_call 99; refine (rO _ _ (by omega)).mono ?_; rintro e w' ⟨rfl,rfl⟩) | (go_at_call 100; refine (wC _ _).mono ?_; rintro e w2 ⟨rfl,hb2⟩)));go_roundw
     case rel=>exact ⟨k+1,by go_num,by omega,xU hlt' HA.out HF.out,HW.out.below hb2,zC hbr hb2⟩
     case measure=>simp [intOf]; omega
    ·cases hn1:zr (bts x)
     ·have HF:=hid (show wN true (zO (bts s))[k]=true by rw [← HX.out,wN,ht,yx,hn1]; rfl);(go_wp2_with (first | (go_at_call 99; refine (rO _ _ (by omega)).mono ?_; rintro e w' ⟨rfl,rfl⟩) | (go_at_call 100; refine (wC _ _).mono ?_; rintro e w2 ⟨rfl,hb2⟩; have hck2:=(hb2.cell (p:=⟨g,k,none⟩) hgw).trans hck) | (go_at_call 101; refine (yJ _ _ (by omega)).mono ?_; rintro e w' ⟨rfl,rfl⟩)));go_roundw
      case rel=>exact ⟨k+1,by go_num,by omega,xU hlt' HA.out HF.out,HW.out.below hb2,zC hbr hb2⟩
      case measure=>simp [intOf]; omega
     ·cases hn2:(za (bts x)).2
      ·have HF:=hid (show (zO (bts s)).all (wN true)=false from yz hlt' (by rw [← HX.out,wN,ht,yx,hn1,hn2]; rfl));(go_wp2_with (first | (go_at_call 99; refine (rO _ _ (by omega)).mono ?_; rintro e w' ⟨rfl,rfl⟩) | (go_at_call 100; refine (wC _ _).mono ?_; rintro e w2 ⟨rfl,hb2⟩; have hck2:=(hb2.cell (p:=⟨g,k,none⟩) hgw).trans hck) | (go_at_call 101; refine (yJ _ _ (by omega)).mono ?_; rintro e w' ⟨rfl,rfl⟩)));go_ret;exact ⟨by rw [← HR.out,HF.out]; rfl,zC hbr hb2⟩
      ·have HF:=hid (show wN true (zO (bts s))[k]=true by rw [← HX.out,wN,ht,yx,hn1,hn2]; rfl);(go_wp2_with (first | (go_at_call 99; refine (rO _ _ (by omega)).mono ?_; rintro e w' ⟨rfl,rfl⟩) | (go_at_call 100; refine (wC _ _).mono ?_; rintro e w2 ⟨rfl,hb2⟩; have hck2:=(hb2.cell (p:=⟨g,k,none⟩) hgw).trans hck) | (go_at_call 101; refine (yJ _ _ (by omega)).mono ?_; rintro e w' ⟨rfl,rfl⟩)));go_roundw
       case rel=>exact ⟨k+1,by go_num,by omega,xU hlt' HA.out HF.out,HW.out.below hb2,zC hbr hb2⟩
       case measure=>simp [intOf]; omega
  ·(obtain rfl:k=n:=by omega);(go_wp2_with fail);go_ret;exact ⟨by rw [← HR.out]; have:=HA.out; rw [← HN.out] at this; rw [uq this]; rfl,hbr⟩
theorem yi {s:ByteArray} (h:¬ 0 < s.size):s.toList=[]:=by
 apply List.eq_nil_of_length_eq_zero;have:=zF s;simp only [bts] at this;omega
theorem ku (s:ByteArray) (p:Bool) (w:World) (hs:s.size≤4398046511104):Calls Tryz.prog 58 #[.string s,.bool p] w (yc w (vi p (bts s))):=by
 by_cases h0:0 < s.size
 ·by_cases h4:(zO (bts s)).length≤4
  ·have e:vi p (bts s)=(zO (bts s)).all (wN p):=by
    rw [vi,(zj h0).1]; simp [h4]
   rw [e];exact Yg s p w hs h0 h4
  ·obtain ⟨he,hne⟩:=zj h0;(have e:vi p (bts s)=false:=by rw [vi,he]; simp [h4]);rw [e];clear e;(have hd4:decide ((4:Int) < ((zO (bts s)).length:Int))=true:=by simp; omega);clear h4;go_enter Tryz.func58,Tryz.ntmps58;(go_wp2_with fail);refine (rS s _ hs).mono ?_;rintro e w1 ⟨g,cap,rfl,hg,hgs,hcap,hcell,hb⟩;clear hcell;(go_wp2_with fail);go_ret;exact ⟨rfl,hb⟩
 ·have he:=yi h0;(have e:vi p (bts s)=true:=by rw [vi,bts,he]; rfl);rw [e];clear e;go_enter Tryz.func58,Tryz.ntmps58;(go_wp2_with fail);go_ret;exact ⟨rfl,Below.refl _ _⟩
theorem jN (s:ByteArray) (k:Nat) (h:k < s.size) (hd:tA s[k]=false):(Utf8.decode s k).1 < 45∨(45 < (Utf8.decode s k).1∧(Utf8.decode s k).1 < 48)∨(57 < (Utf8.decode s k).1∧(Utf8.decode s k).1 < 97)∨122 < (Utf8.decode s k).1:=by
 have hc:=eE hd;by_cases ha:s[k].toNat < 128
 ·rw [decode_ascii s k h ha]; simp only; omega
 ·have:=(decode_high s k h (by omega)).1; omega
theorem qe (s:ByteArray) (w:World) (hs:s.size≤4398046511104):Calls Tryz.prog 152 #[.string s] w (yc w (uI (bts s))):=by
 generalize hr:uI (bts s)=r;have HR:=hid hr;clear hr;go_enter Tryz.func152,Tryz.ntmps152;go_wp2_with fail
 go_step3
 (go_wp2_with fail);refine (pu s _ hs).mono ?_;rintro e w1 ⟨g,cap,rfl,hg,hgs,hcap,hcell,hb⟩;have HH:=hid (show Held w1 g (zO (bts s)) from ⟨hgs,hcell⟩);clear hcell;have hd4:decide (((zO (bts s)).length:Int)≤4)=decide ((zO (bts s)).length≤4):=decide_eq_decide.2 (by omega);(have hnb:(zO (bts s)).length≤4398046511105:=by have:=(zk 46 (bts s) []).2; rw [zF] at this; exact Nat.le_trans this (by omega));generalize hn:(zO (bts s)).length=n at *;have HN:=hid hn;clear hn;generalize hf:decide (n≤4)=f at *;have HF:=hid hf;clear hf;go_wp2_with fail
 go_step3
 go_wp2_with fail
 go_loopg [4,6,8,16] n (fun gk good t c i wr=>∃ k:Nat,i = .int .i64 k∧good = .bool f∧k+gk=n∧Hid (((zO (bts s)).take k).all tC=true)∧Hid (Held wr g (zO (bts s)))∧Below w.heap.size w wr)
 case atStart=>exact ⟨0,rfl,rfl,by omega,rfl,HH,hb⟩
 case round =>
  obtain ⟨k,rfl,rfl,hk,HA,HW,hbr⟩:=hrel;obtain ⟨g0,rfl⟩:∃ z:Nat,z=gk:=⟨_,rfl⟩;have hsz:=hbr.size;by_cases hlt:k < n
  ·(have hlt':k < (zO (bts s)).length:=by rw [HN.out]; exact hlt);obtain ⟨x,hx1,hx2,hx3⟩:=qg s k hlt';have hck:=HW.out.2 k hlt';rw [hx1] at hck;have HX:=hid hx2;clear hx1 hx2;have hgw:=HW.out.1;by_cases h0:0 < x.size
   ·obtain ⟨he,hne⟩:=zj h0;by_cases h8:x.size≤8
    ·(have hd8:decide ((8:Int) < (x.size:Int))=false:=by simp; omega);(go_wp2_with fail);clear hck;obtain ⟨wo,rfl⟩:∃ wo:World,wo=wr:=⟨_,rfl⟩
     go_loopg [4,8] x.size (fun gm good c wi=>∃ m:Nat,good = .bool f∧m+gm=x.size∧Hid (((bts x).take m).all tA=true)∧wi=wo.iter x m)
     case atStart=>exact ⟨0,rfl,by omega,rfl,rfl⟩
     case round =>
      obtain ⟨m,rfl,hm,HM,rfl⟩:=hrel;by_cases hml:m < x.size
      ·by_cases hd:tA x[m]=true
       ·have HD:=hid hd;have hc:=jo hd;(have hnx:=fun ty=>run_next_ascii (P:=Tryz.prog) wo x m ty hml (by omega));clear hd;generalize hcc:x[m].toNat=c at *;have HC:=hid hcc;clear hcc;rcases hc with rfl | ⟨hc1,hc2⟩ | ⟨hc1,hc2⟩
        all_goals
         go_wp2_with fail
         go_roundg (gk - 1)
         case measure=>omega
         case rel=>exact ⟨m+1,rfl,by omega,yb x m hml HM.out HD.out,rfl⟩
       ·(have hdf:tA x[m]=false:=by simpa using hd);(have hnx:=fun ty=>run_next_any (P:=Tryz.prog) wo x m ty hml);have hdc:=jN x m hml hdf;have HE:=hid (show uI (bts s)=false by rw [uI,yz hlt' (by rw [← HX.out]; exact fv hml hdf)]; simp);clear hd hdf;generalize (Utf8.decode x m).1=c at *;generalize (Utf8.decode x m).2=q at *;(have hc45:((c:Int) != 45)=true:=by rw [bne_iff_ne]; omega);rcases hdc with hdc | ⟨hdc,hdc2⟩ | ⟨hdc,hdc2⟩ | hdc
        all_goals
         (go_wp2_with fail);(try rw [Exit.noGoto_ret]);go_ret;exact ⟨by rw [← HR.out,HE.out]; rfl,zC hbr (yU _ _ _)⟩
      ·(obtain rfl:m=x.size:=by omega);(have hnx:=fun ty=>run_next_end (P:=Tryz.prog) wo x x.size ty (by omega));have HT:=hid (show tC (zO (bts s))[k]=true by rw [← HX.out]; exact fP h0 h8 HM.out);go_wp2_with fail
       go_roundg (g0 - 1)
       case measure=>omega
       case rel=>exact ⟨k+1,by go_num,rfl,by omega,xU hlt' HA.out HT.out,HW.out.iter _ _,zC hbr (yU _ _ _)⟩
    ·(have hd8:decide ((8:Int) < (x.size:Int))=true:=by simp; omega);have HE:=hid (show uI (bts s)=false by rw [uI,yz hlt' (by rw [← HX.out]; exact mQ (by omega))]; simp);(go_wp2_with fail);(try rw [Exit.noGoto_ret]);go_ret;exact ⟨by rw [← HR.out,HE.out]; rfl,hbr⟩
   ·have he:=yi h0;have HE:=hid (show uI (bts s)=false by rw [uI,yz hlt' (by rw [← HX.out]; exact mQ (by omega))]; simp);(go_wp2_with fail);(try rw [Exit.noGoto_ret]);go_ret;exact ⟨by rw [← HR.out,HE.out]; rfl,hbr⟩
  ·(obtain rfl:k=n:=by omega);have HE:=hid (show uI (bts s)=f by have:=HA.out; rw [← HN.out] at this; rw [uI,uq this,HN.out,← HF.out]; simp);(go_wp2_with fail);(try rw [Exit.noGoto_ret]);go_ret;exact ⟨by rw [← HR.out,HE.out]; rfl,hbr⟩
end Go.Proofs.YtiffijoenkcpjaaGreatDoor
