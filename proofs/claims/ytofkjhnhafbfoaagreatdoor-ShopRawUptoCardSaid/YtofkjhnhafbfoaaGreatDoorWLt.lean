import Derived.Test.YtofkjhnhafbfoaaGreatDoorWLo
set_option linter.unusedVariables false
set_option linter.unusedSimpArgs false
set_option maxRecDepth 100000
set_option maxHeartbeats 1000000
namespace Go.Proofs.YtofkjhnhafbfoaaGreatDoor
open Go.RowKit Go.Lib
open Rw
theorem eP:∀ (l ah m:List EntryL),yA z7 ah (l++m)=(yA z7 ah l&&yA z7 (ah++l) m)
 | [],ah,m=>by rw [List.nil_append,List.append_nil,yA,Bool.true_and]
 | x::l,ah,m=>by
  rw [List.cons_append,yA,yA,eP l (ah++[x]) m,Bool.and_assoc,List.append_assoc,List.singleton_append]
theorem kj {s:ShelfL} {r:RecL} (hp:(kS z7 s r).2=0):(kS z7 s r).1=⟨s.name,s.entries++[⟨r,(vo z7 r).1,false⟩]⟩∧s.entries.length < 64∧∀ b,zQ z7 ⟨s.name,s.entries++[⟨r,(vo z7 r).1,b⟩]⟩=true:=by
 have h1:zQ z7 s=true:=by
  cases h:zQ z7 s
  ·rw [Wn h] at hp; cases hp
  ·rfl
 have h2:(vo z7 r).2=0:=by
  rcases Decidable.em ((vo z7 r).2=0) with h | h
  ·exact h
  ·rw [VZ h1 h] at hp; exact hp
 (have h3:¬ 0≤zi (bts r.name) r.v 0 s.entries:=fun h=>by rw [Wk h1 h2 h] at hp; cases hp);(have h4:¬ 64≤s.entries.length:=fun h=>by rw [Wq h1 h2 h3 h] at hp; cases hp);refine ⟨by rw [WQ h1 h2 h3 h4],by omega,fun b=>?_⟩;rw [zQ,Bool.and_eq_true,Bool.and_eq_true] at h1;rw [zQ,eP,h1.1.1,h1.2];simp only [List.nil_append,yA,wD,List.length_append,List.length_singleton,Bool.and_true,Bool.true_and,Bool.and_eq_true,decide_eq_true_eq];refine ⟨by omega,?_,by omega⟩;rw [← h2]
def VC:Ver:=⟨1,0,0,⟨#[]⟩,⟨#[]⟩⟩
def cV:ByteArray:=⟨#[98]⟩
def Vp:ByteArray:=⟨#[99]⟩
def ya:ByteArray:=⟨#[111,110,101]⟩
def xN:ByteArray:=⟨#[116,119,111]⟩
def jy:RecL:=⟨cV,VC,[],[],[]⟩
theorem ZB:(z5 jy).1=0:=by decide +kernel
theorem Wv {nm:ByteArray} (h:zg (bts nm)=true):kS z7 ⟨nm,[]⟩ jy=(⟨nm,[⟨jy,z7 (qp jy),false⟩]⟩,0):=by
 (have e:vo z7 jy=(z7 (qp jy),0):=by rw [vo,if_pos ZB]);(have hm:zQ z7 ⟨nm,[]⟩=true:=by rw [zQ,h]; rfl);rw [WQ hm (by rw [e]) (by rw [zi]; decide) (by simp),e];rfl
def shB (nm:ByteArray):ShelfL:=⟨nm,[⟨jy,z7 (qp jy),false⟩]⟩
theorem tK {nm:ByteArray} (h:zg (bts nm)=true):zQ z7 (shB nm)=true:=by
 have hp:=Wv h;have:=(kj (s:=⟨nm,[]⟩) (r:=jy) (by rw [hp])).2.2 false;(have e:vo z7 jy=(z7 (qp jy),0):=by rw [vo,if_pos ZB]);rw [e] at this;exact this
theorem one_mayQ {a:ShelfL} (ha:zQ z7 a=true):zw [a]=true:=by
 simp [zw,wj,zd,ha,uS]
theorem ra {a b:ShelfL} (ha:zQ z7 a=true) (hb:zQ z7 b=true) (hab:yH a.name b.name=false):zw [a,b]=true:=by
 simp [zw,wj,zd,ha,hb,uS,hab]
theorem YL (a:ShelfL):zw [a,a]=false:=by
 simp [zw,wj,zd,uS]
theorem VE:xQ [shB ya,shB xN] [] cV=(0,0):=by
 rw [sq (ra (tK (by decide +kernel)) (tK (by decide +kernel)) (by decide +kernel))];simp [zd,ni,shB,show yH jy.name cV=true from by decide +kernel]
theorem Va:xQ [shB ya,shB xN] [⟨cV,xN⟩] cV=(1,0):=by
 rw [xQ,ra (tK (by decide +kernel)) (tK (by decide +kernel)) (by decide +kernel)];simp [wG,sU,vt,zd,shB,show zg (bts cV)=true from by decide +kernel,show zg (bts xN)=true from by decide +kernel,show yH cV cV=true from by decide +kernel,show yH ya xN=false from by decide +kernel,show yH xN xN=true from by decide +kernel]
theorem VW:xQ [shB ya,shB xN] [] Vp=(0,9):=by
 rw [sq (ra (tK (by decide +kernel)) (tK (by decide +kernel)) (by decide +kernel))];simp [zd,ni,shB,show yH jy.name Vp=false from by decide +kernel]
theorem qh {w:World} {A:Option Addr} {l:List ShelfL} {k:Nat} (h:xc w A l) (hk:k < l.length):∃ b off A' c',A=some ⟨b,off,none⟩∧b < w.heap.size∧w.cell? ⟨b,off+k * 2,none⟩=some (.string l[k].name)∧w.cell? ⟨b,off+k * 2+1,none⟩=some (.slice A' l[k].entries.length c')∧yL w A' l[k].entries∧l[k].entries.length≤c':=by
 obtain ⟨b,off,hA,hb,h1,A',c',h2,h3,h4⟩:=h.at_ hk;exact ⟨b,off,A',c',hA,hb,h1,h2,h3,h4⟩
theorem aJ {w:World} {A:Option Addr} {l:List PinL} {k:Nat} (h:Z6 w A l) (hk:k < l.length):∃ b off,A=some ⟨b,off,none⟩∧b < w.heap.size∧w.cell? ⟨b,off+k * 2,none⟩=some (.string l[k].name)∧w.cell? ⟨b,off+k * 2+1,none⟩=some (.string l[k].shelf):=by
 obtain ⟨b,off,hA,hb,h1,h2⟩:=h.at_ hk;exact ⟨b,off,hA,hb,h1,h2⟩
theorem sC (F:Nat) (cb:Array Value) (q:ShelfL→Bool) (A:Option Addr) (c:Nat) (l:List ShelfL) (w:World) (hA:xc w A l) (hn:l.length≤9223372036854775807)
 (eg:∀ args w,(callFunc F args).run Tryz.prog w = .ok (.enter F args) w)
 (hC:∀ (x:ShelfL) (A':Option Addr) (c':Nat) (u:World),x∈l→KB w.heap.size w u→yL u A' x.entries→x.entries.length≤c'→Calls Tryz.prog F (#[x.val A' c']++cb) u (yT u (q x))) :
 Calls Tryz.prog 64 #[.slice A l.length c,.func (.func F) #[] cb] w (Wf w (zd q 0 l)):=by
 have HA:=hid hA
 have HIT:=hid hC
 clear hA hC
 generalize hnn:l.length=n at *
 have HN:=hid hnn
 clear hnn
 go_enter Tryz.func64,Tryz.ntmps64
 go_upto_block 0 with fail
 go_wp2_with fail
 go_loopw [9] (fun i wr=>∃ k:Nat,i = .int .i64 (k:Int)∧k≤n∧Hid (zd q 0 l=zd q k (l.drop k))∧Hid (KB w.heap.size w wr)) (fun i _=>n - (intOf i).toNat)
 case atStart=>exact ⟨0,rfl,Nat.zero_le _,hid rfl,hid (zH _)⟩
 case round =>
  obtain ⟨k,rfl,hk,HD,HB⟩:=hrel;by_cases hlt:k < n
  ·(have hlt':k < l.length:=by rw [HN.out]; exact hlt);obtain ⟨b,off,A',c',hA,hbl,c0,c1,hE,hc'⟩:=qh (HA.out.kb ShelfAt.stays HB.out) hlt';subst hA;have HS:=hid (p8 (q:=q) hlt');have HM:=hid (List.getElem_mem hlt');(have k0:(0:Int)≤(k:Int):=by omega);(have k1:(k:Int) < (n:Int):=by omega);generalize l[k]=x at *;have HC:=hid (fun u (hu:KB wr.heap.size wr u)=>HIT.out x A' c' u HM.out (zA HB.out hu) (hE.kb EntryAt.stays hu) hc');generalize q x=bq at *;obtain ⟨xn,xe⟩:=x;dsimp only [ShelfL.val] at c0 c1 HC;clear HM;(go_upto_region 4 with fail);refine zI ?_;intro u1 hu;have HB1:=hid (show KB wr.heap.size wr u1 by rw [hu]; exact zG _ _);have HX:=hid (show Box u1 wr.heap.size [.string xn,.slice A' xe.length c'] by rw [hu]; exact Box.new wr [.string xn,.slice A' xe.length c'] 24);clear hu;have x0:=HX.out.2 0 _ rfl;have x1:=HX.out.2 1 _ rfl;have xl:=HX.out.1;(go_wp2_with fail);refine (HC.out _ HB1.out).mono ?_;rintro _ u2 ⟨rfl,hb⟩;have HB2:=hid (zA HB.out (zA HB1.out hb));clear hb;cases bq
   ·(go_wp2_with fail);go_roundw
    case rel=>exact ⟨k+1,by go_num,by omega,hid (by rw [HD.out,HS.out]; rfl),HB2⟩
    case measure=>simp [intOf]<;>omega
   ·have HE:=hid (show zd q 0 l=(k:Int) by rw [HD.out,HS.out]; rfl);(go_wp2_with fail);(try rw [Exit.noGoto_ret]);(try go_ret);exact ⟨by rw [HE.out]<;>rfl,HB2.out⟩
  ·(obtain rfl:k=n:=by omega);(have k1:¬ (k:Int) < (k:Int):=by omega);have HE:=hid (show zd q 0 l=-1 by rw [HD.out,mL (by rw [HN.out]; exact Nat.le_refl _)]);(go_wp2_with fail);(try rw [Exit.noGoto_ret]);(try go_ret);exact ⟨by rw [HE.out]<;>rfl,HB.out⟩
theorem ZX (F:Nat) (cb:Array Value) (q:PinL→Bool) (A:Option Addr) (c:Nat) (l:List PinL) (w:World) (hA:Z6 w A l) (hn:l.length≤9223372036854775807)
 (eg:∀ args w,(callFunc F args).run Tryz.prog w = .ok (.enter F args) w)
 (hC:∀ (x:PinL)  (u:World),x∈l→KB w.heap.size w u→Calls Tryz.prog F (#[.agg #[.string x.name,.string x.shelf]]++cb) u (yT u (q x))) :
 Calls Tryz.prog 62 #[.slice A l.length c,.func (.func F) #[] cb] w (Wf w (zd q 0 l)):=by
 have HA:=hid hA
 have HIT:=hid hC
 clear hA hC
 generalize hnn:l.length=n at *
 have HN:=hid hnn
 clear hnn
 go_enter Tryz.func62,Tryz.ntmps62
 go_upto_block 0 with fail
 go_wp2_with fail
 go_loopw [9] (fun i wr=>∃ k:Nat,i = .int .i64 (k:Int)∧k≤n∧Hid (zd q 0 l=zd q k (l.drop k))∧Hid (KB w.heap.size w wr)) (fun i _=>n - (intOf i).toNat)
 case atStart=>exact ⟨0,rfl,Nat.zero_le _,hid rfl,hid (zH _)⟩
 case round =>
  obtain ⟨k,rfl,hk,HD,HB⟩:=hrel;by_cases hlt:k < n
  ·(have hlt':k < l.length:=by rw [HN.out]; exact hlt);obtain ⟨b,off,hA,hbl,c0,c1⟩:=aJ (HA.out.kb PinAt.stays HB.out) hlt';subst hA;have HS:=hid (p8 (q:=q) hlt');have HM:=hid (List.getElem_mem hlt');(have k0:(0:Int)≤(k:Int):=by omega);(have k1:(k:Int) < (n:Int):=by omega);generalize l[k]=x at *;have HC:=hid (fun u (hu:KB wr.heap.size wr u)=>HIT.out x  u HM.out (zA HB.out hu) );generalize q x=bq at *;obtain ⟨xn,xe⟩:=x;dsimp only at c0 c1 HC;clear HM;(go_upto_region 4 with fail);refine zI ?_;intro u1 hu;have HB1:=hid (show KB wr.heap.size wr u1 by rw [hu]; exact zG _ _);have HX:=hid (show Box u1 wr.heap.size [.string xn,.string xe] by rw [hu]; exact Box.new wr [.string xn,.string xe] 91);clear hu;have x0:=HX.out.2 0 _ rfl;have x1:=HX.out.2 1 _ rfl;have xl:=HX.out.1;(go_wp2_with fail);refine (HC.out _ HB1.out).mono ?_;rintro _ u2 ⟨rfl,hb⟩;have HB2:=hid (zA HB.out (zA HB1.out hb));clear hb;cases bq
   ·(go_wp2_with fail);go_roundw
    case rel=>exact ⟨k+1,by go_num,by omega,hid (by rw [HD.out,HS.out]; rfl),HB2⟩
    case measure=>simp [intOf]<;>omega
   ·have HE:=hid (show zd q 0 l=(k:Int) by rw [HD.out,HS.out]; rfl);(go_wp2_with fail);(try rw [Exit.noGoto_ret]);(try go_ret);exact ⟨by rw [HE.out]<;>rfl,HB2.out⟩
  ·(obtain rfl:k=n:=by omega);(have k1:¬ (k:Int) < (k:Int):=by omega);have HE:=hid (show zd q 0 l=-1 by rw [HD.out,mL (by rw [HN.out]; exact Nat.le_refl _)]);(go_wp2_with fail);(try rw [Exit.noGoto_ret]);(try go_ret);exact ⟨by rw [HE.out]<;>rfl,HB.out⟩
theorem iF (F:Nat) (cb:Array Value) (q:EntryL→Bool) (A:Option Addr) (c:Nat) (l:List EntryL) (w:World) (hA:yL w A l) (hn:l.length≤9223372036854775807)
 (eg:∀ args w,(callFunc F args).run Tryz.prog w = .ok (.enter F args) w)
 (hC:∀ (x:EntryL) (hd:RecH) (u:World),x∈l→KB w.heap.size w u→Calls Tryz.prog F (#[.agg (x.cells hd).toArray]++cb) u (yT u (q x))) :
 Calls Tryz.prog 67 #[.slice A l.length c,.func (.func F) #[] cb] w (Wf w (zd q 0 l)):=by
 have HA:=hid hA
 have HIT:=hid hC
 clear hA hC
 generalize hnn:l.length=n at *
 have HN:=hid hnn
 clear hnn
 go_enter Tryz.func67,Tryz.ntmps67
 go_upto_block 0 with fail
 go_wp2_with fail
 go_loopw [9] (fun i wr=>∃ k:Nat,i = .int .i64 (k:Int)∧k≤n∧Hid (zd q 0 l=zd q k (l.drop k))∧Hid (KB w.heap.size w wr)) (fun i _=>n - (intOf i).toNat)
 case atStart=>exact ⟨0,rfl,Nat.zero_le _,hid rfl,hid (zH _)⟩
 case round =>
  obtain ⟨k,rfl,hk,HD,HB⟩:=hrel;by_cases hlt:k < n
  ·(have hlt':k < l.length:=by rw [HN.out]; exact hlt);obtain ⟨b,off,hd,hA,hrl,⟨c0,c1,c2,c3,c4,c5,c6,c7,c8,c9,c10,cl⟩⟩:=v7 (HA.out.kb EntryAt.stays HB.out) hlt';subst hA;have HS:=hid (p8 (q:=q) hlt');have HM:=hid (List.getElem_mem hlt');(have k0:(0:Int)≤(k:Int):=by omega);(have k1:(k:Int) < (n:Int):=by omega);generalize l[k]=x at *;have HC:=hid (fun u (hu:KB wr.heap.size wr u)=>HIT.out x hd u HM.out (zA HB.out hu) );generalize q x=bq at *;obtain ⟨⟨rn,rv,rne,rba,rfe⟩,rs,ry⟩:=x;dsimp only [EntryL.cells] at c0 c1 c2 c3 c4 c5 c6 c7 c8 c9 c10 HC;clear HM;generalize rne.length=n1 at *;generalize rba.length=n2 at *;generalize rfe.length=n3 at *;(go_upto_region 4 with fail);refine zI ?_;intro u1 hu;have HB1:=hid (show KB wr.heap.size wr u1 by rw [hu]; exact zG _ _);have HX:=hid (show Box u1 wr.heap.size [.string rn,.int .i64 rv.maj,.int .i64 rv.min,.int .i64 rv.pat,.string rv.pre,.string rv.bld,.slice hd.A n1 hd.ca,.slice hd.B n2 hd.cb,.slice hd.F n3 hd.cf,.int .u64 rs,.bool ry] by rw [hu]; exact Box.new wr [.string rn,.int .i64 rv.maj,.int .i64 rv.min,.int .i64 rv.pat,.string rv.pre,.string rv.bld,.slice hd.A n1 hd.ca,.slice hd.B n2 hd.cb,.slice hd.F n3 hd.cf,.int .u64 rs,.bool ry] 35);clear hu;have x0:=HX.out.2 0 _ rfl;have x1:=HX.out.2 1 _ rfl;have x2:=HX.out.2 2 _ rfl;have x3:=HX.out.2 3 _ rfl;have x4:=HX.out.2 4 _ rfl;have x5:=HX.out.2 5 _ rfl
   have x6:=HX.out.2 6 _ rfl;have x7:=HX.out.2 7 _ rfl;have x8:=HX.out.2 8 _ rfl;have x9:=HX.out.2 9 _ rfl;have x10:=HX.out.2 10 _ rfl;have xl:=HX.out.1;(go_wp2_with fail);refine (HC.out _ HB1.out).mono ?_;rintro _ u2 ⟨rfl,hb⟩;have HB2:=hid (zA HB.out (zA HB1.out hb));clear hb;cases bq
   ·(go_wp2_with fail);go_roundw
    case rel=>exact ⟨k+1,by go_num,by omega,hid (by rw [HD.out,HS.out]; rfl),HB2⟩
    case measure=>simp [intOf]<;>omega
   ·have HE:=hid (show zd q 0 l=(k:Int) by rw [HD.out,HS.out]; rfl);(go_wp2_with fail);(try rw [Exit.noGoto_ret]);(try go_ret);exact ⟨by rw [HE.out]<;>rfl,HB2.out⟩
  ·(obtain rfl:k=n:=by omega);(have k1:¬ (k:Int) < (k:Int):=by omega);have HE:=hid (show zd q 0 l=-1 by rw [HD.out,mL (by rw [HN.out]; exact Nat.le_refl _)]);(go_wp2_with fail);(try rw [Exit.noGoto_ret]);(try go_ret);exact ⟨by rw [HE.out]<;>rfl,HB.out⟩
theorem Xz (xn nm:ByteArray) (A B:Option Addr) (n c m d:Nat) (g:Nat) (w:World) (hg:Box w g [.string nm,.slice B m d]):Calls Tryz.prog 72 #[.agg #[.string xn,.slice A n c],.pointer (some ⟨g,0,none⟩)] w (yT w (yH xn nm)):=by
 have HG:=hid (hg.kb (zG w (.cells #[.string xn,.slice A n c] 24)));have HB:=hid (show KB w.heap.size w (w.alloc (.cells #[.string xn,.slice A n c] 24)) from zG _ _);clear hg;go_enter Tryz.func72,Tryz.ntmps72;(go_upto_region 1 with fail);refine zI ?_;intro u1 hu;have HX:=hid (show Box u1 w.heap.size [.string xn,.slice A n c] by rw [hu]; exact Box.new w [.string xn,.slice A n c] 24);replace HG:=hid (show Box u1 g [.string nm,.slice B m d] by rw [hu]; exact HG.out);replace HB:=hid (show KB w.heap.size w u1 by rw [hu]; exact HB.out);clear hu;have x0:=HX.out.2 0 _ rfl;have xl:=HX.out.1;have y0:=HG.out.2 0 _ rfl;have yl:=HG.out.1;have HS:=hid (show yH xn nm=(xn.toList==nm.toList) from rfl);(go_wp2_with fail);(try rw [Exit.noGoto_ret]);(try go_ret);exact ⟨by rw [HS.out]<;>rfl,HB.out⟩
theorem WM (xn xs nm:ByteArray) (g:Nat) (w:World) (hg:Box w g [.string nm]):Calls Tryz.prog 63 #[.agg #[.string xn,.string xs],.pointer (some ⟨g,0,none⟩)] w (yT w (yH xn nm)):=by
 have HG:=hid (hg.kb (zG w (.cells #[.string xn,.string xs] 91)));have HB:=hid (show KB w.heap.size w (w.alloc (.cells #[.string xn,.string xs] 91)) from zG _ _);clear hg;go_enter Tryz.func63,Tryz.ntmps63;(go_upto_region 1 with fail);refine zI ?_;intro u1 hu;have HX:=hid (show Box u1 w.heap.size [.string xn,.string xs] by rw [hu]; exact Box.new w [.string xn,.string xs] 91);replace HG:=hid (show Box u1 g [.string nm] by rw [hu]; exact HG.out);replace HB:=hid (show KB w.heap.size w u1 by rw [hu]; exact HB.out);clear hu;have x0:=HX.out.2 0 _ rfl;have xl:=HX.out.1;have y0:=HG.out.2 0 _ rfl;have yl:=HG.out.1;have HS:=hid (show yH xn nm=(xn.toList==nm.toList) from rfl);(go_wp2_with fail);(try rw [Exit.noGoto_ret]);(try go_ret);exact ⟨by rw [HS.out]<;>rfl,HB.out⟩
theorem Yp (x:EntryL) (hd:RecH) (nm:ByteArray) (g:Nat) (w:World) (hg:Box w g [.string nm]):Calls Tryz.prog 68 #[.agg (x.cells hd).toArray,.pointer (some ⟨g,0,none⟩)] w (yT w (yH x.rc.name nm)):=by
 have HG:=hid (hg.kb (zG w (.cells (x.cells hd).toArray 35)));have HB:=hid (show KB w.heap.size w (w.alloc (.cells (x.cells hd).toArray 35)) from zG _ _);clear hg;obtain ⟨⟨rn,rv,rne,rba,rfe⟩,rs,ry⟩:=x;dsimp only [EntryL.cells] at HG HB;dsimp only [EntryL.cells];generalize rne.length=n1 at *;generalize rba.length=n2 at *;generalize rfe.length=n3 at *;go_enter Tryz.func68,Tryz.ntmps68;(go_upto_region 1 with fail);refine zI ?_;intro u1 hu;have HX:=hid (show Box u1 w.heap.size [.string rn,.int .i64 rv.maj,.int .i64 rv.min,.int .i64 rv.pat,.string rv.pre,.string rv.bld,.slice hd.A n1 hd.ca,.slice hd.B n2 hd.cb,.slice hd.F n3 hd.cf,.int .u64 rs,.bool ry] by rw [hu]; exact Box.new w [.string rn,.int .i64 rv.maj,.int .i64 rv.min,.int .i64 rv.pat,.string rv.pre,.string rv.bld,.slice hd.A n1 hd.ca,.slice hd.B n2 hd.cb,.slice hd.F n3 hd.cf,.int .u64 rs,.bool ry] 35);replace HG:=hid (show Box u1 g [.string nm] by rw [hu]; exact HG.out);replace HB:=hid (show KB w.heap.size w u1 by rw [hu]; exact HB.out);clear hu;have x0:=HX.out.2 0 _ rfl;have xl:=HX.out.1;have y0:=HG.out.2 0 _ rfl;have yl:=HG.out.1;have HS:=hid (show yH rn nm=(rn.toList==nm.toList) from rfl);(go_wp2_with fail);(try rw [Exit.noGoto_ret]);(try go_ret);exact ⟨by rw [HS.out]<;>rfl,HB.out⟩
theorem Xo (xn:ByteArray) (A B:Option Addr) (n c d:Nat) (pins:List PinL) (k:Nat) (t:PinL) (ht:pins[k]?=some t) (g1 g2:Nat) (w:World) (h1:Box w g1 [.slice B pins.length d]) (h2:Box w g2 [.int .i64 (k:Int)]) (hp:Z6 w B pins) (hn:pins.length≤9223372036854775807):Calls Tryz.prog 65 #[.agg #[.string xn,.slice A n c],.pointer (some ⟨g1,0,none⟩),.pointer (some ⟨g2,0,none⟩)] w (yT w (yH xn t.shelf)):=by
 obtain ⟨hk,ht2⟩:=List.getElem?_eq_some_iff.1 ht;have HG:=hid (h1.kb (zG w (.cells #[.string xn,.slice A n c] 24)));have HK:=hid (h2.kb (zG w (.cells #[.string xn,.slice A n c] 24)));have HB:=hid (show KB w.heap.size w (w.alloc (.cells #[.string xn,.slice A n c] 24)) from zG _ _);obtain ⟨b,off,hA,hbl,-,c1⟩:=aJ (hp.kb PinAt.stays HB.out) hk;subst hA;rw [ht2] at c1;have HC:=hid c1;have HL:=hid hbl;clear h1 h2 hp c1 hbl ht ht2;generalize pins.length=m at *;obtain ⟨pn,ps⟩:=t;dsimp only at HC;dsimp only;(have k0:(0:Int)≤(k:Int):=by omega);(have k1:(k:Int) < (m:Int):=by omega);(have k2:(k:Int)≤9223372036854775807:=by omega);go_enter Tryz.func65,Tryz.ntmps65;(go_upto_region 1 with fail);refine zI ?_;intro u1 hu;have HX:=hid (show Box u1 w.heap.size [.string xn,.slice A n c] by rw [hu]; exact Box.new w [.string xn,.slice A n c] 24);replace HG:=hid (show Box u1 g1 [.slice (some ⟨b,off,none⟩) m d] by rw [hu]; exact HG.out);replace HK:=hid (show Box u1 g2 [.int .i64 (k:Int)] by rw [hu]; exact HK.out);replace HC:=hid (show u1.cell? ⟨b,off+k * 2+1,none⟩=some (.string ps) by rw [hu]; exact HC.out);replace HL:=hid (show b < u1.heap.size by rw [hu]; exact HL.out);replace HB:=hid (show KB w.heap.size w u1 by rw [hu]; exact HB.out);clear hu;have HS:=hid (show yH xn ps=(xn.toList==ps.toList) from rfl);have hS:KB u1.heap.size u1 u1.drew:=zM (zH _);refine wpS (fun u=>KB u1.heap.size u1 u) (.last [0,1,2,3,4,5,6,7,8]) fun iS=>?_
 (have x0:=fun (z:SW fun u=>KB u1.heap.size u1 u)=>(HX.out.kb z.ok).2 0 (.string xn) rfl);(have xl:=fun (z:SW fun u=>KB u1.heap.size u1 u)=>(HX.out.kb z.ok).1);(have y0:=fun (z:SW fun u=>KB u1.heap.size u1 u)=>(HG.out.kb z.ok).2 0 (.slice (some ⟨b,off,none⟩) m d) rfl);(have yl:=fun (z:SW fun u=>KB u1.heap.size u1 u)=>(HG.out.kb z.ok).1);(have z0:=fun (z:SW fun u=>KB u1.heap.size u1 u)=>(HK.out.kb z.ok).2 0 (.int .i64 (k:Int)) rfl);(have zl:=fun (z:SW fun u=>KB u1.heap.size u1 u)=>(HK.out.kb z.ok).1);(have c1:=fun (z:SW fun u=>KB u1.heap.size u1 u)=>zU HL.out z.ok HC.out);(have cl:=fun (z:SW fun u=>KB u1.heap.size u1 u)=>Nat.lt_of_lt_of_le HL.out z.ok.size);(with_reducible refine zJ ?_);simp only [zB,pka,pkb,pkc,pkd,pke,pkf];(repeat go_big_quiet_step (fail));refine wpQuiet_nil ?_;clear x0 xl y0 yl z0 zl c1 cl iS;(go_wp2_with fail);(try rw [Exit.noGoto_ret]);(try go_ret);exact ⟨by rw [HS.out]<;>rfl,zA HB.out hS⟩
theorem X3 (xn nm:ByteArray) (A:Option Addr) (l:List EntryL) (c:Nat) (g:Nat) (w:World) (hE:yL w A l) (hn:l.length≤9223372036854775807) (hg:Box w g [.string nm]):Calls Tryz.prog 66 #[.agg #[.string xn,.slice A l.length c],.pointer (some ⟨g,0,none⟩)] w (yT w (ni nm ⟨xn,l⟩)):=by
 have eg:∀ args w,(callFunc 68 args).run Tryz.prog w = .ok (.enter 68 args) w:=enters_of Tryz.func68 (by kernel_rfl) rfl;(have hmf:∀ (fn:Fn) (first cap:Array Value) (w:World),(Instr.makeFunc fn first cap).run Tryz.prog w = .ok (.func fn first cap) w:=fun _ _ _ _=>rfl);have HF:=hid (fun u (hb:KB w.heap.size w u)=>iF 68 #[.pointer (some ⟨g,0,none⟩)] (fun x=>yH x.rc.name nm) A c l u (hE.kb EntryAt.stays hb) hn eg (fun x hd u2 _ hu=>Yp x hd nm g u2 ((hg.kb hb).kb hu)));have HB:=hid (show KB w.heap.size w (w.alloc (.cells #[.string xn,.slice A l.length c] 24)) from zG _ _);have HS:=hid (show ni nm ⟨xn,l⟩=decide (0≤zd (fun x:EntryL=>yH x.rc.name nm) 0 l) from rfl);clear hE hg eg;generalize zd (fun x:EntryL=>yH x.rc.name nm) 0 l=q at *;generalize l.length=n at *;go_enter Tryz.func66,Tryz.ntmps66;(go_upto_region 1 with fail);refine zI ?_;intro u1 hu;have HX:=hid (show Box u1 w.heap.size [.string xn,.slice A n c] by rw [hu]; exact Box.new w [.string xn,.slice A n c] 24);replace HB:=hid (show KB w.heap.size w u1 by rw [hu]; exact HB.out);clear hu;have x1:=HX.out.2 1 _ rfl;have xl:=HX.out.1;(go_wp2_with fail);refine (HF.out u1 HB.out).mono ?_;rintro _ u2 ⟨rfl,hb⟩;have HB2:=hid (zA HB.out hb);clear hb x1 xl;(go_wp2_with fail);(try rw [Exit.noGoto_ret]);(try go_ret);exact ⟨by rw [HS.out]<;>rfl,HB2.out⟩
end Go.Proofs.YtofkjhnhafbfoaaGreatDoor
