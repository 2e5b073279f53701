import Derived.Deep.CutBlock
import Derived.Deep.CutRange
import Derived.Handy
import Derived.Laws.IdiomStrings
import Derived.Lib.AppendIntMem
import Derived.Lib.FrozenHead
import Derived.Lib.IndexMore
import Derived.Lib.ItoaNum
import Derived.Lib.OthersKept
import Derived.Lib.Split
import Derived.Lib.UnsafeStr
import Derived.Shelf.LaysM
import Derived.Shelf.RegionOpenPlain
import Derived.Shelf.Small.Wraps
import Derived.Shelf.Strconv.Itoa3
import Derived.Shelf.Strings.Cut
import Derived.Shelf.Strings.OnBuilder
import Derived.Shelf.Strings.Split
import Derived.Shelf.Strings.Trim
import Derived.Test.YtiffijoenkcpjaaGreatDoorShelf
import Derived.Test.YtiffijoenkcpjaaGreatDoorYSd
set_option linter.unusedVariables false
set_option linter.unusedSimpArgs false
set_option maxRecDepth 100000
set_option maxHeartbeats 4000000
namespace Go.Proofs.YtiffijoenkcpjaaGreatDoor
open Go.RowKit Go.Lib
section
variable {P:Program} {w:World} {base n:Nat} {v:Value} {xs:List Value}
end
theorem We (d:Nat) (h:d < 10):(UInt8.ofNat (48+d)).toNat=48+d:=by
 rw [UInt8.toNat_ofNat']; omega
theorem xJ {u:Nat} (h:u < 10):decDigits u=[UInt8.ofNat (48+u)]:=by rw [decDigits,dif_pos h]
theorem vQ {u:Nat} (h:¬ u < 10):decDigits u=decDigits (u / 10)++[UInt8.ofNat (48+u % 10)]:=by rw [decDigits,dif_neg h]
theorem rZ {u:Nat} (h:u≤9999):(decDigits u).length≤4:=by
 by_cases h1:u < 10
 ·rw [xJ h1]; simp
 ·rw [vQ h1];by_cases h2:u / 10 < 10
  ·rw [xJ h2]; simp
  ·rw [vQ h2];by_cases h3:u / 10 / 10 < 10
   ·rw [xJ h3]; simp
   ·rw [vQ h3,xJ (by omega)]; simp
def vR (n:Int):List UInt8:=decDigits n.toNat
theorem Zz {n:Int} (h:0≤n):Lib.itoa n=vR n:=by rw [Lib.itoa,if_neg (by omega),vR]
theorem numL_pos:∀ {l:List UInt8},l.all zz=true→l≠[]→l.head?≠some 48→0 < tq l:=by
 intro l;induction hn:l.length using Nat.strongRecOn generalizing l with
 | ind n ih =>
  intro ha hne hh;obtain ⟨l',c,rfl⟩:∃ l' c,l=l'++[c]:=⟨l.dropLast,l.getLast hne,(List.dropLast_concat_getLast _).symm⟩;rw [List.all_append,Bool.and_eq_true] at ha;(have hc:48≤c.toNat∧c.toNat≤57:=by simpa [zz] using ha.2);rw [uQ];by_cases hl:l'=[]
  ·subst hl;(have:c≠48:=by simpa using hh);(have:c.toNat≠48:=fun e=>this (UInt8.toNat_inj.1 e));simp [tq]; omega
  ·have:=ih l'.length (by subst hn; simp) rfl ha.1 hl (by
    cases l' with
    | nil=>exact absurd rfl hl
    | cons a r=>simpa using hh)
   omega
theorem dec_num_back:∀ {l:List UInt8},l.all zz=true→l≠[]→(l.head?=some 48→l.length=1)→decDigits (tq l).toNat=l:=by
 intro l;induction hn:l.length using Nat.strongRecOn generalizing l with
 | ind n ih =>
  intro ha hne hh;obtain ⟨l',c,rfl⟩:∃ l' c,l=l'++[c]:=⟨l.dropLast,l.getLast hne,(List.dropLast_concat_getLast _).symm⟩;rw [List.all_append,Bool.and_eq_true] at ha;have hc:48≤c.toNat∧c.toNat≤57:=by simpa [zz] using ha.2
  have hcc:UInt8.ofNat (48+(c.toNat - 48))=c:=by
   apply UInt8.toNat_inj.1;rw [UInt8.toNat_ofNat']; omega
  by_cases hl:l'=[]
  ·subst hl;(have e:(tq ([]++[c])).toNat=c.toNat - 48:=by simp [tq]; omega);rw [e,xJ (by omega),hcc]; rfl
  ·have hh':l'.head?≠some 48:=by
    intro e
    have:(l'++[c]).head?=some 48:=by
     cases l' with
     | nil=>exact absurd rfl hl
     | cons a r=>simpa using e
    have h0:=hh this;rw [← hn] at h0;simp at h0;exact hl h0
   have hp:=numL_pos ha.1 hl hh';have hi:=ih l'.length (by subst hn; simp) rfl ha.1 hl (fun e=>absurd e hh');(have e1:(tq (l'++[c])).toNat=10 * (tq l').toNat+(c.toNat - 48):=by rw [uQ]; omega);rw [e1,vQ (by omega)];(have e2:(10 * (tq l').toNat+(c.toNat - 48)) / 10=(tq l').toNat:=by omega);(have e3:(10 * (tq l').toNat+(c.toNat - 48)) % 10=c.toNat - 48:=by omega);rw [e2,e3,hi,hcc]
theorem num_back {l:List UInt8} (h:(za l).2=true):vR (za l).1=l∧wV (za l).1=true:=by
 have hb:yv l=false:=by
  cases hb:yv l
  ·rfl
  ·rw [za,hb,if_pos rfl] at h; cases h
 (have e:za l=(tq l,true):=by rw [za,hb,if_neg (by simp)]);rw [e];simp only [yv,Bool.or_eq_false_iff,Bool.and_eq_false_imp,Bool.not_eq_false'] at hb;obtain ⟨⟨⟨h1,h2⟩,h3⟩,h4⟩:=hb;have hne:l≠[]:=by intro e; subst e; simp at h1
 have h5:l.head?=some 48→l.length=1:=fun e=>by
  have:=h3 (by simp [e]);(have:¬ 1 < l.length:=by simpa using this);(have:l.length≠0:=fun e=>hne (List.eq_nil_of_length_eq_zero e));omega
 refine ⟨dec_num_back h4 hne h5,?_⟩;(have h6:¬ 4 < l.length:=by simpa using h2);have hbd:=wE l.length l rfl h4
 have:(10:Int) ^ l.length≤10 ^ 4:=by
  rcases (show l.length=0∨l.length=1∨l.length=2∨l.length=3∨l.length=4 by omega) with e | e | e | e | e<;>rw [e]<;>decide
 simp only [wV,decide_eq_true_eq];omega
def zq (b:UInt8) (l:List UInt8):List UInt8:=l.takeWhile (fun c=>c != b)
def xq (b:UInt8) (l:List UInt8):List UInt8:=(l.dropWhile (fun c=>c != b)).drop 1
theorem wB {b:UInt8}:∀ {l:List UInt8},b ∉ l→zq b l=l∧xq b l=[]
 | [],_=>⟨rfl,rfl⟩
 | c::l,h=>by
  (have hc:(c != b)=true:=by simp only [bne_iff_ne]; intro e; subst e; simp at h);have:=wB (l:=l) (b:=b) (by simp at h; exact h.2);simp only [zq,xq] at this ⊢;rw [List.takeWhile_cons,List.dropWhile_cons,if_pos hc,if_pos hc,this.1];exact ⟨rfl,this.2⟩
theorem rG {b:UInt8}:∀ {l r:List UInt8},b ∉ l→zq b (l++b::r)=l∧xq b (l++b::r)=r
 | [],r,_=>by simp [zq,xq]
 | c::l,r,h=>by
  (have hc:(c != b)=true:=by simp only [bne_iff_ne]; intro e; subst e; simp at h);have:=rG (l:=l) (r:=r) (b:=b) (by simp at h; exact h.2);simp only [zq,xq,List.cons_append] at this ⊢;rw [List.takeWhile_cons,List.dropWhile_cons,if_pos hc,if_pos hc,this.1];exact ⟨rfl,this.2⟩
theorem kW {b:UInt8}:∀ {l:List UInt8},b∈l→∃ s t,l=s++b::t∧b ∉ s
 | [],h=>by cases h
 | c::l,h=>by
  by_cases hc:c=b
  ·exact ⟨[],l,by rw [hc]; rfl,by simp⟩
  ·have hb:b∈l:=by
    rcases List.mem_cons.1 h with e | e
    ·exact absurd e.symm hc
    ·exact e
   obtain ⟨s,t,e,hs⟩:=kW hb;exact ⟨c::s,t,by rw [e]; rfl,by simp [hs]; exact fun e=>hc e.symm⟩
theorem am (b:UInt8) (l:List UInt8):(b ∉ l∧zq b l=l∧xq b l=[])∨(l=zq b l++b::xq b l∧b ∉ zq b l):=by
 by_cases h:b∈l
 ·right;obtain ⟨s,t,rfl,hs⟩:=kW h;obtain ⟨h1,h2⟩:=rG (r:=t) hs;rw [h1,h2];exact ⟨rfl,hs⟩
 ·exact .inl ⟨h,wB h⟩
def jP (v:Ver):List UInt8:=vR v.maj++46::(vR v.min++46::vR v.pat)
def qU (v:Ver):List UInt8:=if (bts v.pre).isEmpty then [] else 45::bts v.pre
def Xb (v:Ver):List UInt8:=if (bts v.bld).isEmpty then [] else 43::bts v.bld
def vL (v:Ver):List UInt8:=if yF v then jP v++(qU v++Xb v) else []
def xP (l:List UInt8):ByteArray:=⟨l.toArray⟩
theorem zx (l:List UInt8):bts (xP l)=l:=by rw [bts,yX,xP]
theorem sY (s:ByteArray):xP (bts s)=s:=xE (zx _)
theorem yN {v:Ver} (h:yF v=true):wV v.maj=true∧wV v.min=true∧wV v.pat=true∧tI (bts v.pre)=true∧oz (bts v.bld)=true:=by
 simp only [yF,Bool.and_eq_true] at h;exact ⟨h.1.1.1.1,h.1.1.1.2,h.1.1.2,h.1.2,h.2⟩
def xK (w:World) (l:List UInt8) (e:Ending) (w':World):Prop:=∃ s:ByteArray,e = .returned (.string s)∧bts s=l∧Below w.heap.size w w'
theorem zK (a b:ByteArray):bts (a++b)=bts a++bts b:=by
 rw [bts,bts,bts,yX,yX,yX,ByteArray.data_append,Array.toList_append]
theorem zN (l:List UInt8):bts (⟨l.toArray⟩:ByteArray)=l:=zx l
theorem xy (s:ByteArray):(s.toList.isEmpty=false∧¬ s.toList=[])∨s.toList=[]:=by
 by_cases h:0 < s.size
 ·exact .inl (zj h)
 ·exact .inr (yi h)
theorem ac {P:Program} {w w':World} {name:String} {k:IntKind} {zs:List Int} (h:Lib.TabIs P w name k zs) (hb:Below w.heap.size w w'):Lib.TabIs P w' name k zs:=by
 unfold Lib.TabIs World.var? at *;cases hg:P.globalNamed name with
 | none=>rw [hg] at h; cases h
 | some g =>
  rw [hg] at h;simp only [Option.bind_some] at h ⊢
  have hlt:g < w.heap.size:=by
   rcases Nat.lt_or_ge g w.heap.size with k | k
   ·exact k
   ·rw [Array.getElem?_eq_none k] at h; cases h
  rw [hb.block g hlt]; exact h
structure Laid (w:World):Prop where
 first:Vl w
 pow:Lib.TabIs Tryz.prog w "internal/strconv.uint64pow10" .u64 Lib.pow10Tab
 maxl:∃ m:Int,w.cell? ⟨1,0,none⟩=some (.int .i64 m)
theorem ZF {w:World} {p:Addr} {v:Value} (h:w.cell? p=some v):p.block < w.heap.size:=World.block_lt_of_cell? w p h
theorem Laid.below {w w':World} (h:Laid w) (hb:Below w.heap.size w w'):Laid w' :=
 ⟨h.first.below hb,ac h.pow hb,let ⟨m,hm⟩:=h.maxl; ⟨m,by rw [hb.cell (ZF hm)]; exact hm⟩⟩
theorem hD (w:World) (k:Nat) (os:Array Obj):Below w.heap.size w (Sort.grow (w.drewN k) os):=⟨Lib.below_grow _ w (Nat.le_refl _) k os,by simp [Sort.grow,World.drewN]⟩
theorem ey (n:Int) (w:World) (hL:Laid w) (h0:0≤n) (h1:n≤9999):Calls Tryz.prog 176 #[.int .i64 n] w (xK w (vR n)):=by
 have HC:=hid (Any.strconv_Itoa Tryz.laysM171 n (by omega) (by omega) w hL.pow);have e:=Zz h0;clear hL;go_enter Tryz.func176,Tryz.ntmps176;(go_wp2_with fail);refine HC.out.mono ?_;rintro _ _ ⟨rfl,k,os,rfl⟩;(go_wp2_with fail);go_ret;exact ⟨_,rfl,zN _,hD _ _ _⟩
theorem vB (n:Int) (w:World) (hL:Laid w) (h:wV n=true):Calls Tryz.prog 176 #[.int .i64 n] w (xK w (vR n)):=by
 simp only [wV,decide_eq_true_eq] at h;exact ey n w hL h.1 h.2
theorem tb {n:Int} {d:ByteArray} (h:bts d=vR n) (hn:wV n=true):d.size≤4:=by
 simp only [wV,decide_eq_true_eq] at hn;rw [← zF,h,vR];exact rZ (by omega)
theorem o9 (w:World) (v:Ver) {w1:World} (hb:Below (ju w v).heap.size (ju w v) w1):Box w1 w.heap.size v.cells:=(Box.new w v.cells 27).below hb
theorem ZH {v:Ver} (h:yF v=true) {d1 d2 d3:ByteArray} (e1:bts d1=vR v.maj) (e2:bts d2=vR v.min) (e3:bts d3=vR v.pat) :
 vL v=bts (d1++⟨#[46]⟩++d2++⟨#[46]⟩++d3)++(qU v++Xb v):=by
 rw [vL,if_pos h,jP]
 simp only [zK,e1,e2,e3]
 have:bts (⟨#[46]⟩:ByteArray)=[46]:=zN [46]
 rw [this]; simp
theorem b45:bts (⟨#[45]⟩:ByteArray)=[45]:=zN [45]
theorem b43:bts (⟨#[43]⟩:ByteArray)=[43]:=zN [43]
theorem rh {v:Ver} (h:v.pre.toList.isEmpty=false):qU v=45::bts v.pre:=by rw [qU,if_neg (by rw [bts,h]; simp)]
theorem tj {v:Ver} (h:v.pre.toList=[]):qU v=[]:=by rw [qU,if_pos (by rw [bts,h]; rfl)]
theorem my {v:Ver} (h:v.bld.toList.isEmpty=false):Xb v=43::bts v.bld:=by rw [Xb,if_neg (by rw [bts,h]; simp)]
theorem qv {v:Ver} (h:v.bld.toList=[]):Xb v=[]:=by rw [Xb,if_pos (by rw [bts,h]; rfl)]
theorem e7 (v:Ver) (w:World) (hL:Laid w) (hv:v.fit) (hm:yF v=true):Calls Tryz.prog 162 #[v.val] w (xK w (vL v)):=by
 obtain ⟨f1,f2,f3,-,-⟩:=yN hm;have HM:=hid (vm v (ju w v) hv);rw [hm] at HM;have HHM:=hid hm;have HF:=hid (And.intro f1 (And.intro f2 f3));have HL:=hid hL;clear hm hL f1 f2 f3;go_enter Tryz.func162,Tryz.ntmps162;(go_wp2_with fail);refine HM.out.mono ?_;rintro _ w1 ⟨rfl,hb⟩;have HB:=hid (xj hb);have HX:=hid (o9 w v hb);have HL1:=hid (HL.out.below HB.out);clear hb;(go_wp2_with fail);refine lH (.call [0,1,4,5,9,10] 2 (.call [3] 6 (.call [7,8] 11 (.last [12,13])))) (by kernel_rfl) (by intro _ _ d _ _ h; cases d<;>exact h) (by kernel_rfl) ?_;(have q0:=fun (z:BW w1)=>(HX.out.below z.ok).get5.1);(have q1:=fun (z:BW w1)=>(HX.out.below z.ok).get5.2.1);(have q2:=fun (z:BW w1)=>(HX.out.below z.ok).get5.2.2.1);refine zD ?_;simp only [zB,pka,pkb,pkc,pkd,pke,pkf];(repeat go_big_quiet_step (fail));refine wpQuiet_nil ?_;(go_wp2_with fail);refine (vB _ _ (HL1.out.below (Below.refl _ _).drew) HF.out.1).mono ?_;rintro _ w2 ⟨d1,rfl,hd1,hb2⟩;have hs1:=tb hd1 HF.out.1;have HB2:=hid (zC (Below.refl w1.heap.size w1).drew hb2);have HL2:=hid (HL1.out.below HB2.out);(go_wp2_with fail);refine ul (HB2.out) ?_;refine zD ?_;simp only [zB,pka,pkb,pkc,pkd,pke,pkf];(repeat go_big_quiet_step (fail));refine wpQuiet_nil ?_;(go_wp2_with fail);refine (vB _ _ HL2.out HF.out.2.1).mono ?_;rintro _ w3 ⟨d2,rfl,hd2,hb3⟩;have hs2:=tb hd2 HF.out.2.1
 have HL3:=hid (HL2.out.below hb3);(go_wp2_with fail);refine ul (hb3) ?_;refine zD ?_;simp only [zB,pka,pkb,pkc,pkd,pke,pkf];(repeat go_big_quiet_step (fail));refine wpQuiet_nil ?_;(go_wp2_with fail);refine (vB _ _ HL3.out HF.out.2.2).mono ?_;rintro _ w4 ⟨d3,rfl,hd3,hb4⟩;have hs3:=tb hd3 HF.out.2.2;(go_wp2_with fail);refine ul (hb4) ?_;refine zJ ?_;simp only [zB,pka,pkb,pkc,pkd,pke,pkf];(repeat go_big_quiet_step (fail));refine wpQuiet_nil ?_;have HB4:=hid (zC HB.out (zC HB2.out (zC hb3 hb4)));have HX4:=hid (HX.out.below (zC HB2.out (zC hb3 hb4)));have HD:=hid (ZH HHM.out hd1 hd2 hd3);clear hd1 hd2 hd3 hb2 hb3 hb4 q0 q1 q2 HX HL HL1 HL2 HL3;obtain ⟨x0,x1,x2,x3,x4⟩:=HX4.out.get5;clear x0 x1 x2;(rcases xy v.pre with ⟨e4,n4⟩ | e4);all_goals rcases xy v.bld with ⟨e6,n6⟩ | e6
 all_goals
  obtain ⟨hp,hq⟩:=hv;(go_wp2_with fail);go_ret;refine ⟨_,rfl,?_,HB4.out⟩;rw [HD.out]
 ·rw [rh e4,my e6]; simp only [zK,b45,b43]; simp
 ·rw [rh e4,qv e6]; simp only [zK,b45]; simp
 ·rw [tj e4,my e6]; simp only [zK,b43]; simp
 ·rw [tj e4,qv e6]; simp
theorem dS (v:Ver) (w:World) (hL:Laid w) (hv:v.fit):Calls Tryz.prog 162 #[v.val] w (xK w (vL v)):=by
 cases hm:yF v
 ·have HM:=hid (vm v (ju w v) hv);rw [hm] at HM;have HP:=hid (show vL v=[] by rw [vL,hm]; rfl);clear hL;go_enter Tryz.func162,Tryz.ntmps162;(go_wp2_with fail);refine HM.out.mono ?_;rintro _ w1 ⟨rfl,hb⟩;(go_wp2_with fail);go_ret;exact ⟨_,rfl,by rw [HP.out]; exact zN [],xj hb⟩
 ·exact e7 v w hL hv hm
def kE (m:Nat):List UInt8:=if m < 10 then [] else decDigits (m / 10)
theorem dr {m:Nat} (h:9 < m):kE m=kE (m / 10)++[UInt8.ofNat (48+m / 10 % 10)]:=by
 rw [kE,if_neg (by omega),kE];split
 ·rename_i h2
  rw [xJ h2,Nat.mod_eq_of_lt h2]; rfl
 ·rename_i h2
  rw [vQ h2]
theorem ab (m:Nat):decDigits m=kE m++[UInt8.ofNat (48+m % 10)]:=by
 rw [kE];split
 ·rename_i h2
  rw [xJ h2,Nat.mod_eq_of_lt h2]; rfl
 ·rename_i h2
  rw [vQ h2]
def dgB (n:Nat):ByteArray:=⟨[UInt8.ofNat (48+n % 10)].toArray⟩
theorem iT (n:Nat):bts (dgB n)=[UInt8.ofNat (48+n % 10)]:=zN _
theorem m6 (n:Nat):(dgB n).size=1:=by rw [← zF,iT]; rfl
theorem nF (w:World) (n:Nat):(convert 174 9 (.slice (some ⟨w.heap.size,0,none⟩) 1 1)).run Tryz.prog (w.alloc (.cells #[.int .u8 (48+(n:Int) % 10)] 5)) = .ok (.string (dgB n)) (w.alloc (.cells #[.int .u8 (48+(n:Int) % 10)] 5)):=by
 refine run_convert_bytes_back (P:=Tryz.prog) _ 174 9 5 ⟨w.heap.size,0,none⟩ 1 [UInt8.ofNat (48+n % 10)] Tryz.underlying174 Tryz.underlying5 Tryz.underlying9 (fun j hj=>?_);(obtain rfl:j=0:=by simpa using hj);have e:(⟨w.heap.size,0,none⟩:Addr).add 0=⟨w.heap.size,0,none⟩:=rfl;rw [e,World.cell?_alloc_at _ _ _ _ rfl];simp only [List.getElem_cons_zero,We (n % 10) (by omega)];rfl
def Ve (w:World) (n m:Nat) (s:ByteArray) (wr:World):Prop:=m≤n∧s.size≤n+1 - m∧decDigits n=kE m++bts s∧Below w.heap.size w wr
theorem et (w:World) (n:Nat):Ve w n n (dgB n) (w.alloc (.cells #[.int .u8 (48+(n:Int) % 10)] 5)) :=
 ⟨Nat.le_refl _,by rw [m6]; omega,by rw [iT]; exact ab n,zL _ _⟩
theorem aI {w wr:World} {n m:Nat} {s:ByteArray} (h:Ve w n m s wr) (hm:9 < m) (o:Obj):Ve w n (m / 10) (dgB (m / 10)++s) (wr.alloc o):=by
 obtain ⟨h1,h2,h3,h4⟩:=h;refine ⟨by omega,?_,?_,zC h4 (zL _ _)⟩
 ·rw [ByteArray.size_append,m6]; omega
 ·rw [h3,dr hm,zK,iT]; simp
theorem cH (n:Nat) (w:World) (hn:n≤9999):Calls Tryz.prog 149 #[.int .u64 n] w (xK w (decDigits n)):=by
 have hcv:=nF;go_enter Tryz.func149,Tryz.ntmps149;(go_wp2_with fail);go_loopw [0,3] (fun k t wr=>∃ (m:Nat) (s:ByteArray),k = .int .u64 m∧t = .string s∧Ve w n m s wr) (fun k _ _=>(intOf k).toNat)
 case atStart=>exact ⟨n,_,rfl,rfl,et w n⟩
 case round =>
  obtain ⟨m,s,rfl,rfl,hr⟩:=hrel;have HR:=hid hr;have hm1:=hr.1;have hs1:=hr.2.1;clear hr;by_cases hm:9 < m
  ·(have hcv2:∀ w:World,(convert 174 9 (.slice (some ⟨w.heap.size,0,none⟩) 1 1)).run Tryz.prog (w.alloc (.cells #[.int .u8 (48+(m:Int) / 10 % 10)] 5)) = .ok (.string (dgB (m / 10))) (w.alloc (.cells #[.int .u8 (48+(m:Int) / 10 % 10)] 5)):=fun w=>nF w (m / 10));have hd1:=m6 (m / 10);clear hcv;(go_wp2_with fail);go_roundw
   case rel=>exact ⟨m / 10,_,by go_num,rfl,aI HR.out hm _⟩
   case measure=>simp [intOf]; omega
  ·(go_wp2_with fail);go_ret;obtain ⟨h1,h2,h3,h4⟩:=HR.out;exact ⟨_,rfl,by rw [h3,kE,if_pos (by omega)]; rfl,h4⟩
theorem iq (n:Int) (w:World) (h0:0≤n) (h1:n≤9999):Calls Tryz.prog 109 #[.int .i64 n] w (xK w (vR n)):=by
 obtain ⟨k,rfl⟩:=Int.eq_ofNat_of_zero_le h0;have HC:=hid (cH k w (by omega));(have e:vR (k:Int)=decDigits k:=by rw [vR,Int.toNat_natCast]);rw [e];clear e;go_enter Tryz.func109,Tryz.ntmps109;(go_wp2_with fail);refine HC.out.mono ?_;rintro _ w1 ⟨s,rfl,hs,hb⟩;(go_wp2_with fail);go_ret;exact ⟨s,rfl,hs,hb⟩
theorem wJ (n:Int) (w:World) (h:wV n=true):Calls Tryz.prog 109 #[.int .i64 n] w (xK w (vR n)):=by
 simp only [wV,decide_eq_true_eq] at h;exact iq n w h.1 h.2
theorem xR (s:ByteArray) (a b:Nat):bts (s.extract a b)=((bts s).drop a).take (b - a):=by
 rw [Lib.extract_eq,zN,bts,yX]
theorem VU (s:ByteArray) (k:Nat) (h:k < s.size):bts s=(bts s).take k++s[k]::(bts s).drop (k+1):=by
 have e:=List.drop_eq_getElem_cons (l:=bts s) (i:=k) (by rw [zF]; exact h);rw [wR s k h] at e;rw [← e,List.take_append_drop]
theorem kJ {s:ByteArray} {k:Nat} {b:UInt8} (h:k < s.size) (hb:s[k]=b) (hn:b ∉ (bts s).take k):zq b (bts s)=bts (s.extract 0 k)∧xq b (bts s)=bts (s.extract (k+1) s.size):=by
 have e:=VU s k h;rw [hb] at e;have h1:=rG (r:=(bts s).drop (k+1)) hn;rw [← e] at h1;refine ⟨by rw [h1.1,xR]; simp,?_⟩;rw [h1.2,xR,List.take_of_length_le];rw [List.length_drop,zF]; omega
theorem Box.put {w:World} {g j:Nat} {cs:List Value} (h:Box w g cs) (hj:j < cs.length) (v:Value):Box (w.setCell ⟨g,j,none⟩ v) g (cs.take j++[v]++cs.drop (j+1)):=h.set (o:=j) (vs:=[v]) (by simp only [List.length_singleton]; omega)
theorem Box.putOther {w:World} {g k j:Nat} {cs:List Value} (h:Box w g cs) (hk:g≠k) (v:Value):Box (w.setCell ⟨k,j,none⟩ v) g cs:=h.setOther (o:=j) (vs:=[v]) hk
theorem Box.drew {w:World} {g:Nat} {cs:List Value} (h:Box w g cs):Box w.drew g cs:=h
theorem Soft.put {w:World} {g k j:Nat} (h:Soft w g) (v:Value):Soft (w.setCell ⟨k,j,none⟩ v) g:=h.set (o:=j) (vs:=[v])
theorem zR {w w1:World} (h:Below w.heap.size w w1) {k j:Nat} (hk:w.heap.size≤k) (v:Value):Below w.heap.size w (w1.setCell ⟨k,j,none⟩ v):=h.setCell (p:=⟨k,j,none⟩) hk v
structure Own (B:Nat) (w:World) (g:Nat) (cs:List Value):Prop where
 box:Box w g cs
 soft:Soft w g
 low:B≤g
theorem Own.below {B:Nat} {w w':World} {g:Nat} {cs:List Value} (h:Own B w g cs) (hb:Below w.heap.size w w'):Own B w' g cs:=⟨h.box.below hb,h.soft.below h.box.1 hb,h.low⟩
theorem Own.put {B:Nat} {w:World} {g j:Nat} {cs:List Value} (h:Own B w g cs) (hj:j < cs.length) (v:Value):Own B (w.setCell ⟨g,j,none⟩ v) g (cs.take j++[v]++cs.drop (j+1)):=⟨h.box.put hj v,h.soft.put v,h.low⟩
theorem Own.other {B:Nat} {w:World} {g k j:Nat} {cs:List Value} (h:Own B w g cs) (hk:g≠k) (v:Value):Own B (w.setCell ⟨k,j,none⟩ v) g cs:=⟨h.box.putOther hk v,h.soft.put v,h.low⟩
theorem Own.new (w:World) (cs:List Value) (t:TypeId) {B:Nat} (hB:B≤w.heap.size):Own B (w.alloc (.cells cs.toArray t)) w.heap.size cs:=⟨Box.new w cs t,Soft.new w _ t,hB⟩
theorem Own.alloc {B:Nat} {w:World} {g:Nat} {cs:List Value} (h:Own B w g cs) (o:Obj):Own B (w.alloc o) g cs:=h.below (zL w o)
theorem Own.new2 (w:World) (o:Obj) (cs:List Value) (t:TypeId) {B:Nat} (hB:B≤w.heap.size):Own B ((w.alloc o).alloc (.cells cs.toArray t)) (w.heap.size+1) cs:=by
 have:=Own.new (w.alloc o) cs t (B:=B) (by rw [World.size_alloc]; omega)
 rwa [World.size_alloc] at this
theorem zP {P:Program} {f:Func} {R:Ending→World→Prop} {e:Exit} {a:Act} {w:World} (h:∀ w1,w1=w→bodyPost P f R e a w1):bodyPost P f R e a w:=h w rfl
theorem vF {w:World} {g k j o:Nat} (h:g≠k) (v:Value):(w.setCell ⟨k,j,none⟩ v).cell? ⟨g,o,none⟩=w.cell? ⟨g,o,none⟩:=World.cell?_setCell_other _ _ _ _ (by simp only [ne_eq,Addr.mk.injEq,not_and]; intro e; exact absurd e.symm h)
theorem rx {P:Program} {f:FuncId} {args:Array Value} {w:World} {R:Ending→World→Prop} (h:∀ w1,w1=w→Calls P f args w1 R):Calls P f args w R:=h w rfl
theorem qB (b:UInt8) (l:List UInt8):(zq b l).length≤l.length∧(xq b l).length≤l.length:=by
 rcases am b l with ⟨_,h2,h3⟩ | ⟨h1,_⟩
 ·rw [h2,h3]; simp
 ·have:=congrArg List.length h1;simp only [List.length_append,List.length_cons] at this;omega
end Go.Proofs.YtiffijoenkcpjaaGreatDoor
namespace Go.Proofs.YtiffijoenkcpjaaGreatDoor
open Go.RowKit Go.Lib
open Rw
theorem Zw {s sub:List UInt8} {i k:Nat} (h:Lib.occAt s sub i=true) (hk:k < sub.length):s[i+k]?=sub[k]?:=by
 unfold Lib.occAt at h;rw [List.isPrefixOf_iff_prefix] at h;obtain ⟨u,hu⟩:=h;rw [← List.getElem?_drop,← hu,List.getElem?_append_left hk]
def Wi (sep p:List UInt8):Prop:=(∀ r j,j < p.length→Lib.occAt (p++sep++r) sep j=false)∧∀ j,j≤p.length→Lib.occAt p sep j=false
theorem Z9 {a:UInt8} {p:List UInt8} (h:a ∉ p):Wi [a] p:=by
 refine ⟨fun r j hj=>?_,fun j hj=>?_⟩
 ·rw [Bool.eq_false_iff]; intro ho;have:=Zw (k:=0) ho (by simp);rw [Nat.add_zero,List.append_assoc,List.getElem?_append_left hj] at this;exact h (List.mem_of_getElem? (by simpa using this))
 ·rw [Bool.eq_false_iff]; intro ho;have:=Zw (k:=0) ho (by simp);rw [Nat.add_zero] at this;exact h (List.mem_of_getElem? (by simpa using this))
theorem XX (p sep r:List UInt8):Lib.occAt (p++sep++r) sep p.length=true:=by
 unfold Lib.occAt;rw [List.isPrefixOf_iff_prefix,List.append_assoc,List.drop_left];exact ⟨r,rfl⟩
theorem gQ {sep p:List UInt8} (h:Wi sep p) (r:List UInt8):Lib.index (p++sep++r) sep=p.length :=
 Lib.index_first (by simp only [List.length_append]; omega) (XX p sep r) (fun j hj=>h.1 r j hj)
theorem YA {sep p:List UInt8} (h:Wi sep p):Lib.index p sep=-1:=Lib.index_none h.2
def zT (sep:List UInt8):List (List UInt8)→List UInt8
 | []=>[]
 | [p]=>p
 | p::q::r=>p++sep++zT sep (q::r)
theorem qk (p sep r:List UInt8):(p++sep++r).drop (p.length+sep.length)=r:=by
 rw [← List.length_append,List.drop_left]
theorem mG {sep:List UInt8} (hs:sep≠[]):∀ (ps:List (List UInt8)),ps≠[]→(∀ p∈ps,Wi sep p)→∀ fuel,ps.length≤fuel→Lib.countFrom sep fuel (zT sep ps)=ps.length - 1
 | [],h,_,_,_=>absurd rfl h
 | [p],_,hg,fuel+1,_=>by
  rw [zT,Lib.countFrom,YA (hg p (by simp))]; rfl
 | p::q::r,_,hg,fuel+1,hf=>by
  have hi:Lib.index (p++sep++zT sep (q::r)) sep=p.length:=gQ (hg p (by simp)) _;rw [zT,Lib.countFrom,hi];(have:((p.length:Int)==-1)=false:=by simp);rw [this,Int.toNat_natCast,qk,mG hs (q::r) (by simp) (fun x hx=>hg x (List.mem_cons_of_mem _ hx)) fuel (by simpa using hf)];simp only [List.length_cons,Bool.false_eq_true,if_false]; omega
theorem oS {sep:List UInt8}:∀ (ps:List (List UInt8)),ps≠[]→(∀ p∈ps,Wi sep p)→Lib.splitK sep 0 (ps.length - 1) (zT sep ps)=ps
 | [],h,_=>absurd rfl h
 | [p],_,_=>rfl
 | p::q::r,_,hg=>by
  have hi:Lib.index (p++sep++zT sep (q::r)) sep=p.length:=gQ (hg p (by simp)) _;(have e:(p::q::r).length - 1=((q::r).length - 1)+1:=by simp);rw [e,zT,Lib.splitK,hi];(have:((p.length:Int)==-1)=false:=by simp);rw [this,Int.toNat_natCast,qk,Nat.add_zero,oS (q::r) (by simp) (fun x hx=>hg x (List.mem_cons_of_mem _ hx))];simp only [Bool.false_eq_true,if_false,List.append_assoc,List.take_left]
theorem oO {sep:List UInt8} (hs:sep≠[]):∀ (ps:List (List UInt8)),ps.length≤(zT sep ps).length+1
 | []=>by simp
 | [p]=>by simp
 | p::q::r=>by
  have:=oO hs (q::r);have h0:0 < sep.length:=List.length_pos_iff.2 hs;simp only [zT,List.length_append,List.length_cons] at this ⊢;omega
theorem dY {sep:List UInt8} (hs:sep≠[]) {ps:List (List UInt8)} (hp:ps≠[]) (hg:∀ p∈ps,Wi sep p):Lib.split (zT sep ps) sep=ps:=by
 unfold Lib.split Lib.count;rw [mG hs ps hp hg _ (oO hs ps),oS ps hp hg]
theorem b42:bts (⟨#[42]⟩:ByteArray)=[42]:=zN [42]
theorem b32:bts (⟨#[32]⟩:ByteArray)=[32]:=zN [32]
theorem n9 (sep:List UInt8):∀ (k:Nat) (s:List UInt8),∀ p∈Lib.splitK sep 0 k s,p.length≤s.length
 | 0,s,p,hp=>by simp [Lib.splitK] at hp; subst hp; omega
 | k+1,s,p,hp=>by
  unfold Lib.splitK at hp;split at hp
  ·simp at hp; subst hp; omega
  ·rcases List.mem_cons.1 hp with h | h
   ·subst h; simp only [List.length_take]; omega
   ·have:=n9 sep k _ p h;simp only [List.length_drop] at this;omega
theorem Ym (s sep:ByteArray) (w:World) (hL:Laid w) (hs:s.size < 4294967281) (h1:1≤sep.size) :
 Calls Tryz.prog 85 #[.string s,.string sep] w fun e w'=>∃ ps:List ByteArray,ps.map bts=Lib.split (bts s) (bts sep)∧(∀ p∈ps,p.size≤s.size)∧0 < ps.length∧ps.length≤s.size+1 ∧
  e = .returned (.slice (some ⟨w.heap.size,0,none⟩) ps.length ps.length)∧w'=w.alloc (.cells (ps.map Value.string).toArray 9):=by
 obtain ⟨m,hm⟩:=hL.maxl
 refine (Any.strings_Split Tryz.lays146 (by kernel_rfl) s sep m w hs hm h1).mono ?_
 rintro e w' ⟨rfl,rfl⟩
 have hlen:=Lib.splitB_all sep h1 0 _ s rfl
 have hd:=Lib.splitB_data sep 0 (Lib.countB s sep) s
 have he:(Lib.splitB sep 0 (Lib.countB s sep) s).map bts=Lib.split (bts s) (bts sep):=by
  (have e1:∀ x:ByteArray,bts x=x.data.toList:=fun x=>by rw [bts,yX]);(have e2:(bts:ByteArray→List UInt8)=fun x=>x.data.toList:=funext e1);rw [e2,hd]; rfl
 refine ⟨_,he,fun p hp=>?_,by rw [hlen]; omega,?_,by rw [hlen],rfl⟩
 ·(have hp2:bts p∈Lib.split (bts s) (bts sep):=by rw [← he]; exact List.mem_map_of_mem hp);have:=n9 _ _ _ _ hp2
  rwa [zF,zF] at this
 ·rw [hlen];have:=Lib.countB_le sep h1 s.size s (Nat.le_refl _);omega
theorem oR {w:World} {base size n g o:Nat} {e:TypeId} {v:Value} {xs vs:List Value} (h:w.ownsRow base e size v n xs) (hg:v.ownBlock≠some g):(w.setCells g o vs).ownsRow base e size v n xs:=by
 obtain ⟨h1,h2⟩:=h;refine ⟨h1,?_⟩;rcases h2 with h2 | ⟨k,cap,cur,hv,hk,hh,r⟩
 ·exact .inl h2
 ·refine .inr ⟨k,cap,cur,hv,hk,?_,r⟩;(have hne:k≠g:=fun e=>hg (by rw [hv,← e]; rfl));rw [uG g k hne]; exact hh
theorem spanB_put {w:World} {base k j:Nat} {A:Option Addr} {l:List SpanL} (h:SpanB w base A l) (hk:k < base) (v:Value):SpanB (w.setCell ⟨k,j,none⟩ v) base A l:=by
 refine ⟨?_,h.2⟩;rcases h.1 with h1 | ⟨b,off,rfl,hlt,hc⟩
 ·exact .inl h1
 ·have hb:=h.2 _ rfl;simp only at hb;refine .inr ⟨b,off,rfl,by rw [World.size_setCell]; exact hlt,fun i hi q u hq=>?_⟩;exact (vF (by omega) v).trans (hc i hi q u hq)
theorem lh:∀ (ps:List (List UInt8)),(∀ p∈ps,p.length≤8)→(sG ps).length≤9 * ps.length
 | [],_=>by simp [sG]
 | [p],h=>by have:=h p (by simp); simp only [sG,List.length_cons,List.length_nil]; omega
 | p::q::r,h=>by
  have h1:=h p (by simp);have h2:=lh (q::r) (fun x hx=>h x (List.mem_cons_of_mem _ hx));simp only [sG,List.length_append,List.length_cons] at h2 ⊢;omega
theorem qr {l:List UInt8} (h:uI l=true):l.length≤36:=by
 rw [uI,Bool.and_eq_true,decide_eq_true_eq] at h;have e:sG (zO l)=l:=by have:=vU l []; simpa [zO] using this
 have:=lh (zO l) (fun p hp=>by
  have:=List.all_eq_true.1 h.2 p hp;rw [tC,Bool.and_eq_true,Bool.and_eq_true,decide_eq_true_eq] at this
  exact this.1.2)
 rw [e] at this;omega
theorem Own.set2 {B:Nat} {w:World} {g:Nat} {a0 a1:Value} (h:Own B w g [a0,a1]) (b0 b1:Value):Own B ((w.setCell ⟨g,0,none⟩ b0).setCell ⟨g,1,none⟩ b1) g [b0,b1] :=
 ⟨h.box.set (o:=0) (vs:=[b0,b1]) (by simp),h.soft.set (o:=0) (vs:=[b0,b1]),h.low⟩
theorem rwhole_any (w:World):Calls Tryz.prog 39 #[] w (WholePost w):=by
 go_enter Tryz.func39,Tryz.ntmps39;(go_wp2_with (first | (go_at_call 61; refine (first_any _).mono ?_; rintro _ w1 ⟨rfl,hb1⟩) | (go_at_call 62; refine (last_any _).mono ?_; rintro _ w2 ⟨rfl,hb2⟩)));have hb:=zC hb1 hb2;go_ret;exact ⟨_,_,rfl,⟨Spans.one (Box.new w2 (SpanL.cells ⟨rR,ig⟩) 111),fun ad e=>by injection e with e; rw [← e]; exact hb.size⟩,zC hb (zL _ _)⟩
def AllPost (w:World) (e:Ending) (w':World):Prop:=∃ A c B d,e = .returned (setV A 1 c B 1 d)∧SpanB w' w.heap.size A wholeL∧SpanB w' w.heap.size B wholeL∧Below w.heap.size w w'
theorem rsall_any (w:World):Calls Tryz.prog 17 #[] w (AllPost w):=by
 have HB0:=hid (zL w (.cells [Value.slice none 0 0,.slice none 0 0].toArray 42));have HX:=hid (Box.new w [Value.slice none 0 0,.slice none 0 0] 42);have HS:=hid (Soft.new w [Value.slice none 0 0,.slice none 0 0].toArray 42);go_enter Tryz.func17,Tryz.ntmps17;(go_wp2_with fail);refine (rwhole_any _).mono ?_;rintro _ w1 ⟨A,c,rfl,h1,hb1⟩;have HX1:=hid (HX.out.below hb1);have HS1:=hid (HS.out.below HX.out.1 hb1);have HB1:=hid (zC HB0.out hb1);have H1:=hid h1;clear h1 hb1;(go_wp2_with fail);refine (rwhole_any _).mono ?_;rintro _ w2 ⟨B,d,rfl,h2,hb2⟩;have HX2:=hid (HX1.out.below hb2);have hf:∀ j,w2.frozen? ⟨w.heap.size,j,none⟩=false:=HS1.out.below HX1.out.1 hb2;have HB2:=hid (zC HB1.out hb2);have HA:=hid (H1.out.below hb2);have HBB:=hid h2;obtain ⟨y0,y1⟩:=HX2.out.get2;have hlt:=HX2.out.1;clear h2 hb2;have hg1:=HB0.out.size;have hg2:=HX.out.1;have hg3:=HX1.out.1;(go_wp2_with fail);refine ret2 HX2.out (v:=setV A 1 c B 1 d) (fun w3 h3=>?_) rfl (fun h3=>⟨A,c,B,d,rfl,(HA.out.set (by omega)).low (by omega),(HBB.out.set (by omega)).low (by omega),HB2.out.trans h3⟩);obtain ⟨k0,k1⟩:=h3.get2;simp [results,Tryz.results17,go_sem,k0,k1]
end Go.Proofs.YtiffijoenkcpjaaGreatDoor
namespace Go.Proofs.YtiffijoenkcpjaaGreatDoor
open Go.RowKit Go.Lib
theorem aw (s p:ByteArray):Lib.hasPrefix (bts s) (bts p)=(decide (p.size≤s.size)&&decide (s.extract 0 p.size=p)):=by
 rw [Lib.hasPrefix,Bool.eq_iff_iff,List.isPrefixOf_iff_prefix,Bool.and_eq_true,decide_eq_true_eq,decide_eq_true_eq];constructor
 ·rintro ⟨t,ht⟩;have hl:=congrArg List.length ht;rw [List.length_append,zF,zF] at hl;refine ⟨by omega,xE ?_⟩;rw [xR,List.drop_zero,Nat.sub_zero,← ht,← zF p,List.take_left]
 ·rintro ⟨h1,h2⟩;refine ⟨(bts s).drop p.size,?_⟩;have:=congrArg bts h2;rw [xR,List.drop_zero,Nat.sub_zero] at this;rw [← this];exact List.take_append_drop _ _
theorem hF (s p:ByteArray) (w:World):Calls Tryz.prog 168 #[.string s,.string p] w fun e w'=>e = .returned (.bool (Lib.hasPrefix (bts s) (bts p)))∧w=w':=by
 rw [aw];by_cases h:p.size≤s.size
 ·(have d1:decide ((p.size:Int)≤(s.size:Int))=true:=by simpa using h);by_cases he:s.extract 0 p.size=p
  ·have hr:=hid (show (decide (p.size≤s.size)&&decide (s.extract 0 p.size=p))=true by simp [h,he]);rw [hr.out];(have d2:((s.extract 0 p.size).toList==p.toList)=true:=by rw [he]; exact beq_self_eq_true _);clear he;go_enter Tryz.func168,Tryz.ntmps168;(go_wp2_with fail);go_ret;exact ⟨rfl,rfl⟩
  ·have hr:=hid (show (decide (p.size≤s.size)&&decide (s.extract 0 p.size=p))=false by simp [he]);rw [hr.out]
   have d2:((s.extract 0 p.size).toList==p.toList)=false:=by
    rw [Bool.eq_false_iff];intro e;exact he (xE (by simpa using e))
   clear he;go_enter Tryz.func168,Tryz.ntmps168;(go_wp2_with fail);go_ret;exact ⟨rfl,rfl⟩
 ·have hr:=hid (show (decide (p.size≤s.size)&&decide (s.extract 0 p.size=p))=false by simp [h]);rw [hr.out];(have h2:s.size < p.size:=by omega);clear h;go_enter Tryz.func168,Tryz.ntmps168;(go_wp2_with fail);go_ret;exact ⟨rfl,rfl⟩
theorem Own.set7 {B:Nat} {w:World} {g:Nat} {a0 a1 a2 a3 a4 a5 a6:Value} (h:Own B w g [a0,a1,a2,a3,a4,a5,a6]) (b0 b1 b2 b3 b4 b5 b6:Value) :
 Own B (((((((w.setCell ⟨g,0,none⟩ b0).setCell ⟨g,1,none⟩ b1).setCell ⟨g,2,none⟩ b2).setCell ⟨g,3,none⟩ b3).setCell ⟨g,4,none⟩ b4).setCell ⟨g,5,none⟩ b5).setCell ⟨g,6,none⟩ b6) g [b0,b1,b2,b3,b4,b5,b6] :=
 ⟨h.box.set (o:=0) (vs:=[b0,b1,b2,b3,b4,b5,b6]) (by simp),h.soft.set (o:=0) (vs:=[b0,b1,b2,b3,b4,b5,b6]),h.low⟩
theorem ze {w w1:World} (h:Below w.heap.size w w1) {g:Nat} (hg:w.heap.size≤g) (b0 b1 b2 b3 b4 b5 b6:Value) :
 Below w.heap.size w (((((((w1.setCell ⟨g,0,none⟩ b0).setCell ⟨g,1,none⟩ b1).setCell ⟨g,2,none⟩ b2).setCell ⟨g,3,none⟩ b3).setCell ⟨g,4,none⟩ b4).setCell ⟨g,5,none⟩ b5).setCell ⟨g,6,none⟩ b6) :=
 zR (zR (zR (zR (zR (zR (zR h hg _) hg _) hg _) hg _) hg _) hg _) hg _
theorem oQ (l:List UInt8):(xP l).size=l.length:=by rw [← zF,zx]
end Go.Proofs.YtiffijoenkcpjaaGreatDoor
namespace Go.Proofs.YtiffijoenkcpjaaGreatDoor
open Go.RowKit Go.Lib
open Rw
theorem Own.fr14 {B:Nat} {w:World} {g:Nat} {a b:CutL} (h:Own B w g (SpanL.cells ⟨a,b⟩)) (c:CutL) :
 Own B (((((((w.setCell ⟨g,0,none⟩ (.int .i64 c.en)).setCell ⟨g,1,none⟩ (.int .i64 c.v.maj)).setCell ⟨g,2,none⟩ (.int .i64 c.v.min)).setCell ⟨g,3,none⟩ (.int .i64 c.v.pat)).setCell ⟨g,4,none⟩ (.string c.v.pre)).setCell ⟨g,5,none⟩ (.string c.v.bld)).setCell ⟨g,6,none⟩ (.bool c.aft)) g (SpanL.cells ⟨c,b⟩) :=
 ⟨h.box.set (o:=0) (vs:=c.cells) (by simp),h.soft.set (o:=0) (vs:=c.cells),h.low⟩
theorem Own.til14 {B:Nat} {w:World} {g:Nat} {a b:CutL} (h:Own B w g (SpanL.cells ⟨a,b⟩)) (c:CutL) :
 Own B (((((((w.setCell ⟨g,7,none⟩ (.int .i64 c.en)).setCell ⟨g,8,none⟩ (.int .i64 c.v.maj)).setCell ⟨g,9,none⟩ (.int .i64 c.v.min)).setCell ⟨g,10,none⟩ (.int .i64 c.v.pat)).setCell ⟨g,11,none⟩ (.string c.v.pre)).setCell ⟨g,12,none⟩ (.string c.v.bld)).setCell ⟨g,13,none⟩ (.bool c.aft)) g (SpanL.cells ⟨a,c⟩) :=
 ⟨h.box.set (o:=7) (vs:=c.cells) (by simp),h.soft.set (o:=7) (vs:=c.cells),h.low⟩
theorem below_cells {w w1:World} (h:Below w.heap.size w w1) {g:Nat} (hg:w.heap.size≤g) (o:Nat) (vs:List Value):Below w.heap.size w (w1.setCells g o vs):=Below.setCells hg vs o h
theorem Own.set14 {B:Nat} {w:World} {g:Nat} {cs:List Value} (h:Own B w g cs) (hl:cs.length=14) (s:SpanL):Own B (w.setCells g 0 s.cells) g s.cells:=by
 refine ⟨?_,h.soft.set (o:=0) (vs:=s.cells),h.low⟩;have:=h.box.set (o:=0) (vs:=s.cells) (by simp [hl]);rw [List.take_zero,List.nil_append,List.drop_eq_nil_of_le (by simp [hl]),List.append_nil] at this;exact this
end Go.Proofs.YtiffijoenkcpjaaGreatDoor
