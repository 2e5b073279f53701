import Derived.ArgAppend
import Derived.Test.YtiffijoenkcpjaaGreatDoorYCh
set_option linter.unusedVariables false
set_option linter.unusedSimpArgs false
set_option maxRecDepth 100000
set_option maxHeartbeats 4000000
namespace Go.Proofs.YtiffijoenkcpjaaGreatDoor
open Go.RowKit Go.Lib
open Rw
def Xp (w:World) (o:Option CompL) (e:Ending) (w':World):Prop:=∃ c:CompL,e = .returned (.tuple #[c.val,.int .i64 (if o.isSome then 0 else 6)])∧(∀ u,o=some u→c=u)∧Below w.heap.size w w'
theorem ta {w w':World} (h:Below w.heap.size w w'):Xp w none (.returned (.tuple #[wl.val,.int .i64 6])) w':=⟨wl,rfl,fun u h=>(by cases h),h⟩
theorem b94 (s:ByteArray):bts ((⟨#[94]⟩:ByteArray)++s)=94::bts s:=by rw [zK,show bts (⟨#[94]⟩:ByteArray)=[94] from zN [94]]; rfl
theorem dU (s:ByteArray) (w:World) (hL:Laid w) (hs:s.size≤20000):Calls Tryz.prog 86 #[.string s] w (Xp w (wH (bts s))):=by
 have HR1:=hid (fun u (h:Below w.heap.size w u)=>jA s u (hL.below h) (by omega));have HR2:=hid (fun u (h:Below w.heap.size w u)=>jA ((⟨#[94]⟩:ByteArray)++s) u (hL.below h) (by rw [ByteArray.size_append]; have:(⟨#[94]⟩:ByteArray).size=1:=rfl; omega));rw [b94] at HR2;clear hL
 have HPX:=hid (show wH (bts s)=match sM (bts s) with
  | some c=>some c
  | none=>sM (94::bts s) from rfl)
 generalize wH (bts s)=po at *;generalize sM (bts s)=o1 at *;generalize sM (94::bts s)=o2 at *;go_enter Tryz.func86,Tryz.ntmps86;(go_wp2_with fail);refine rx ?_;intro w1 hw1;have O2:=hid (show Own w.heap.size w1 w.heap.size xW by rw [hw1]; exact Own.new w xW 86 (Nat.le_refl _));have HB:=hid (show Below w.heap.size w w1 by rw [hw1]; exact zL _ _);clear hw1;refine (HR1.out _ HB.out).mono ?_;rintro _ w2 ⟨c1,rfl,hc1,hb⟩;have HC1:=hid hc1;have O2:=hid (O2.out.below hb);have HB:=hid (zC HB.out hb);clear hb hc1;generalize his:o1.isSome=is1 at *;have HIS:=hid his;clear his;(go_upto_if 13 with fail);refine zI ?_;intro w3 hw3;have O4:=hid (show Own w.heap.size w3 w2.heap.size c1.cells by rw [hw3]; exact Own.new w2 c1.cells 86 HB.out.size);have O2:=hid (show Own w.heap.size w3 w.heap.size xW by rw [hw3]; exact O2.out.alloc _);have HB:=hid (show Below w.heap.size w w3 by rw [hw3]; exact zC HB.out (zL _ _));clear hw3;generalize w2.heap.size=g4 at *;cases is1
 ·have HPX2:=hid (show po=o2 by
   rw [HPX.out];cases o1 with
   | none=>rfl
   | some x=>have:=HIS.out; cases this)
  (go_wp2_with fail);refine (HR2.out _ HB.out).mono ?_;rintro _ w4 ⟨c2,rfl,hc2,hb⟩;have HC2:=hid hc2;have O2:=hid (O2.out.below hb);have HB:=hid (zC HB.out hb);clear hb hc2;generalize his2:o2.isSome=is2 at *;have HIS2:=hid his2;clear his2;(go_upto_if 21 with fail);refine zI ?_;intro w5 hw5;have O6:=hid (show Own w.heap.size w5 w4.heap.size c2.cells by rw [hw5]; exact Own.new w4 c2.cells 86 HB.out.size);have O2:=hid (show Own w.heap.size w5 w.heap.size xW by rw [hw5]; exact O2.out.alloc _);have HB:=hid (show Below w.heap.size w w5 by rw [hw5]; exact zC HB.out (zL _ _));clear hw5;generalize w4.heap.size=g6 at *;cases is2
  ·have HNO:=hid (show o2=none by
    cases o2 with
    | none=>rfl
    | some x=>have:=HIS2.out; cases this)
   obtain ⟨x0,x1,x2,x3,x4,x5,x6⟩:=O2.out.box.get7;have sf2:∀ j,w5.frozen? ⟨w.heap.size,j,none⟩=false:=O2.out.soft;have hlt2:=O2.out.box.1;(go_wp2_with fail);refine zP ?_;intro w9 hw9;(have O9:Own w.heap.size w9 w.heap.size (xW):=by rw [hw9]; exact O2.out.set7 _ _ _ _ _ _ _);(have B9:Below w.heap.size w w9:=by rw [hw9]; exact ze HB.out (Nat.le_refl _) _ _ _ _ _ _ _);clear hw9;obtain ⟨k0,k1,k2,k3,k4,k5,k6⟩:=O9.box.get7;refine bodyPost_ret (v := .tuple #[wl.val,.int .i64 6]) (by simp [results,Tryz.results86,go_sem,k0,k1,k2,k3,k4,k5,k6,wl,xD]) rfl ?_;rw [HPX2.out,HNO.out];exact ta B9
  ·obtain ⟨y0,y1,y2,y3,y4,y5,y6⟩:=O6.out.box.get7;have hlt6:=O6.out.box.1;obtain ⟨x0,x1,x2,x3,x4,x5,x6⟩:=O2.out.box.get7;have sf2:∀ j,w5.frozen? ⟨w.heap.size,j,none⟩=false:=O2.out.soft;have hlt2:=O2.out.box.1;(go_wp2_with fail);refine zP ?_;intro w9 hw9;(have O9:Own w.heap.size w9 w.heap.size (c2.cells):=by rw [hw9]; exact O2.out.set7 _ _ _ _ _ _ _);(have B9:Below w.heap.size w w9:=by rw [hw9]; exact ze HB.out (Nat.le_refl _) _ _ _ _ _ _ _);clear hw9;obtain ⟨k0,k1,k2,k3,k4,k5,k6⟩:=O9.box.get7;refine bodyPost_ret (v := .tuple #[c2.val,.int .i64 0]) (by simp [results,Tryz.results86,go_sem,k0,k1,k2,k3,k4,k5,k6,wl,xD]) rfl ?_;rw [HPX2.out];exact ⟨c2,by rw [HIS2.out]; rfl,HC2.out,B9⟩
 ·have HPX2:=hid (show po=o1 by
   rw [HPX.out];cases o1 with
   | none=>have:=HIS.out; cases this
   | some x=>rfl)
  obtain ⟨y0,y1,y2,y3,y4,y5,y6⟩:=O4.out.box.get7;have hlt4:=O4.out.box.1;obtain ⟨x0,x1,x2,x3,x4,x5,x6⟩:=O2.out.box.get7;have sf2:∀ j,w3.frozen? ⟨w.heap.size,j,none⟩=false:=O2.out.soft;have hlt2:=O2.out.box.1;(go_wp2_with fail);refine zP ?_;intro w9 hw9;(have O9:Own w.heap.size w9 w.heap.size (c1.cells):=by rw [hw9]; exact O2.out.set7 _ _ _ _ _ _ _);(have B9:Below w.heap.size w w9:=by rw [hw9]; exact ze HB.out (Nat.le_refl _) _ _ _ _ _ _ _);clear hw9;obtain ⟨k0,k1,k2,k3,k4,k5,k6⟩:=O9.box.get7;refine bodyPost_ret (v := .tuple #[c1.val,.int .i64 0]) (by simp [results,Tryz.results86,go_sem,k0,k1,k2,k3,k4,k5,k6,wl,xD]) rfl ?_;rw [HPX2.out];exact ⟨c1,by rw [HIS.out]; rfl,HC1.out,B9⟩
theorem lW (b:UInt8) (w:World):(convert 174 9 (.slice (some ⟨w.heap.size,0,none⟩) 1 1)).run Tryz.prog (w.alloc (.cells #[.int .u8 b.toNat] 5)) = .ok (.string ⟨#[b]⟩) (w.alloc (.cells #[.int .u8 b.toNat] 5)):=by
 refine run_convert_bytes_back (P:=Tryz.prog) _ 174 9 5 ⟨w.heap.size,0,none⟩ 1 [b] Tryz.underlying174 Tryz.underlying5 Tryz.underlying9 (fun j hj=>?_);(obtain rfl:j=0:=by simpa using hj);have e:(⟨w.heap.size,0,none⟩:Addr).add 0=⟨w.heap.size,0,none⟩:=rfl;rw [e,World.cell?_alloc_at _ _ _ _ rfl];rfl
theorem oI {sep q:List UInt8}:∀ {ls:List (List UInt8)},ls≠[]→zT sep (ls++[q])=zT sep ls++(sep++q)
 | [],h=>absurd rfl h
 | [p],_=>by simp [zT]
 | p::r::s,_=>by
  have:=oI (sep:=sep) (q:=q) (ls:=r::s) (by simp);have e1:zT sep (p::r::s)=p++sep++zT sep (r::s):=rfl;have e2:zT sep ((p::r::s)++[q])=p++sep++zT sep (r::s++[q]):=rfl;rw [e2,this,e1]; simp
def tV (b:UInt8) (ds:List ByteArray) (k:Nat):List UInt8:=zT [b] ((ds.map bts).take k)
theorem qx (b:UInt8) (ds:List ByteArray):tV b ds 0=[]:=by simp [tV,zT]
theorem nT (b:UInt8) (ds:List ByteArray):tV b ds ds.length=zT [b] (ds.map bts):=by rw [tV,List.take_of_length_le (by simp)]
theorem gx {b:UInt8} {ds:List ByteArray} (h:0 < ds.length):tV b ds 1=bts ds[0]:=by
 cases ds with
 | nil=>simp at h
 | cons d r=>simp [tV,zT]
theorem pV {b:UInt8} {ds:List ByteArray} {k:Nat} (h0:0 < k) (h:k < ds.length):tV b ds (k+1)=tV b ds k++([b]++bts ds[k]):=by
 (have hk:k < (ds.map bts).length:=by simpa using h);rw [tV,List.take_succ_eq_append_getElem hk,oI,List.getElem_map]
 ·rfl
 ·intro e;have:=congrArg List.length e;rw [List.length_take,List.length_nil] at this;omega
theorem jL (g cap:Nat) (ds:List ByteArray) (b:UInt8) (w:World) (hx:Box w g (ds.map Value.string)) (hln:ds.length≤1000) (hd:∀ d∈ds,d.size≤1000) :
 Calls Tryz.prog 70 #[.slice (some ⟨g,0,none⟩) ds.length cap,.int .u8 b.toNat] w (xK w (zT [b] (ds.map bts))):=by
 have HX:=hid hx
 have HD:=hid hd
 have HALL:=hid (nT b ds)
 clear hx hd
 generalize hn:ds.length=n at *
 have HN:=hid hn
 clear hn
 have hcv:=lW b
 have hb1:(⟨#[b]⟩:ByteArray).size=1:=rfl
 go_enter Tryz.func70,Tryz.ntmps70
 go_wp2_with fail
 go_loopw [6,5] (fun i s wr=>∃ (k:Nat) (t:ByteArray),i = .int .i64 k∧s = .string t∧k≤n∧t.size≤1001 * k∧Hid (bts t=tV b ds k)∧Hid (Below w.heap.size w wr)) (fun i _ _=>n - (intOf i).toNat)
 case atStart=>exact ⟨0,_,rfl,rfl,Nat.zero_le _,Nat.zero_le _,hid (by rw [qx]; exact zN []),hid (Below.refl _ _)⟩
 case round =>
  obtain ⟨k,t,rfl,rfl,hk,hts,HT,HB⟩:=hrel;by_cases hlt:k < n
  ·(have hlt':k < ds.length:=by rw [HN.out]; exact hlt);have cx:wr.cell? ⟨g,k,none⟩=some (.string ds[k]):=(HX.out.below HB.out).2 k _ (by simp [hlt']);have hgw:=(HX.out.below HB.out).1;(have hgw2:g < wr.heap.size+1:=by omega);have hsx:ds[k].size≤1000:=HD.out _ (List.getElem_mem hlt');(have i0:(0:Int)≤(k:Int):=by omega);(have i1:(k:Int) < (n:Int):=by omega);(have hts2:t.size≤1001000:=by omega);by_cases hk0:k=0
   ·subst hk0;have HS:=hid (gx (b:=b) hlt');generalize ds[0]=d at *;clear hcv;(go_wp2_with fail);go_roundw
    case rel=>exact ⟨1,_,by go_num,rfl,by omega,by rw [ByteArray.size_append]; omega,hid (by rw [zK,HT.out,HS.out,qx]; rfl),HB⟩
    case measure=>simp [intOf]; omega
   ·(have hkp:(0:Int) < (k:Int):=by omega);have HS:=hid (pV (b:=b) (by omega) hlt');generalize ds[k]=d at *;(go_wp2_with fail);go_roundw
    case rel =>
     refine ⟨k+1,_,by go_num,rfl,by omega,by rw [ByteArray.size_append,ByteArray.size_append]; omega,hid ?_,hid (zC HB.out (zL _ _))⟩;rw [zK,zK,HT.out,HS.out,show bts (⟨#[b]⟩:ByteArray)=[b] from zN [b]]; simp
    case measure=>simp [intOf]; omega
  ·(obtain rfl:k=n:=by omega);(have hge:¬ (k:Int) < (k:Int):=by omega);(go_wp2_with fail);go_ret;exact ⟨_,rfl,by rw [HT.out,HALL.out],HB.out⟩
def YP (w:World) (v:Ver) (n:Nat) (e:Ending) (w':World):Prop:=∃ (g:Nat) (d1 d2 d3:ByteArray),e = .returned (.slice (some ⟨g,0,none⟩) n 3)∧w.heap.size≤g∧Box w' g [.string d1,.string d2,.string d3]∧bts d1=vR v.maj∧bts d2=vR v.min∧bts d3=vR v.pat∧Below w.heap.size w w'
theorem Yh (op:Int) (n:Nat) (v:Ver) (w:World) (hm:MayX ⟨op,(n:Int),v⟩) (hn3:n≤3):Calls Tryz.prog 69 #[CompL.val ⟨op,(n:Int),v⟩] w (YP w v n):=by
 have HF:=hid (yN hm.v);clear hm;go_enter Tryz.func69,Tryz.ntmps69;(go_wp2_with fail);refine zI ?_;intro w1 hw1;have HB:=hid (show Below w.heap.size w w1 by rw [hw1]; exact zL _ _);have HX:Hid (Box w1 w.heap.size (CompL.cells ⟨op,(n:Int),v⟩)):=hid (by rw [hw1]; exact Box.new w (CompL.cells ⟨op,(n:Int),v⟩) 86);clear hw1;refine lH (.call [0,1,2,4,5,6,8,9,10] 3 (.call [] 7 (.call [] 11 (.call [] 12 (.last [13]))))) (by kernel_rfl) (by intro _ _ d _ _ h; cases d<;>exact h) (by kernel_rfl) ?_;(have q2:=fun (z:BW w1)=>(HX.out.below z.ok).get7.2.2.1);(have q3:=fun (z:BW w1)=>(HX.out.below z.ok).get7.2.2.2.1);(have q4:=fun (z:BW w1)=>(HX.out.below z.ok).get7.2.2.2.2.1);refine zD ?_;simp only [zB,pka,pkb,pkc,pkd,pke,pkf];(repeat go_big_quiet_step (fail));refine wpQuiet_nil ?_;(go_wp2_with fail);refine (wJ _ _ HF.out.1).mono ?_;rintro _ w2 ⟨d1,rfl,hd1,hb2⟩;have HD1:=hid hd1;have HB2:=hid (zC (Below.refl w1.heap.size w1).drew hb2);clear hd1 hb2;(go_wp2_with fail);refine ul (HB2.out) ?_;refine zD ?_;simp only [zB,pka,pkb,pkc,pkd,pke,pkf];(repeat go_big_quiet_step (fail));refine wpQuiet_nil ?_;(go_wp2_with fail);refine (wJ _ _ HF.out.2.1).mono ?_;rintro _ w3 ⟨d2,rfl,hd2,hb3⟩;have HD2:=hid hd2;have HB3:=hid hb3;clear hd2 hb3;(go_wp2_with fail);refine ul (HB3.out) ?_;refine zD ?_;simp only [zB,pka,pkb,pkc,pkd,pke,pkf]
 (repeat go_big_quiet_step (fail));refine wpQuiet_nil ?_;(go_wp2_with fail);refine (wJ _ _ HF.out.2.2.1).mono ?_;rintro _ w4 ⟨d3,rfl,hd3,hb4⟩;have HD3:=hid hd3;have HB4:=hid hb4;clear hd3 hb4;(go_wp2_with fail);refine ul (HB4.out) ?_;refine zD ?_;simp only [zB,pka,pkb,pkc,pkd,pke,pkf];(repeat go_big_quiet_step (fail));refine wpQuiet_nil ?_;(go_wp2_with fail);(go_wp2_with fail);refine ul (zL _ _) ?_;refine zJ ?_;simp only [zB,pka,pkb,pkc,pkd,pke,pkf];(repeat go_big_quiet_step (fail));refine wpQuiet_nil ?_;have HB5:=hid (zC HB.out (zC HB2.out (zC HB3.out HB4.out)));have HX5:=hid (HX.out.below (zC HB2.out (zC HB3.out (zC HB4.out (zL w4 (.cells #[.string d1,.string d2,.string d3] 9))))));have HBX:=hid (Box.new w4 [.string d1,.string d2,.string d3] 9);have hle:w.heap.size≤w4.heap.size:=HB5.out.size;clear q2 q3 q4;obtain ⟨x0,x1,x2,x3,x4,x5,x6⟩:=HX5.out.get7;(have i0:(0:Int)≤(n:Int):=by omega);(have i1:(n:Int)≤3:=by omega);(go_wp2_with fail);go_ret;exact ⟨w4.heap.size,d1,d2,d3,rfl,hle,HBX.out,HD1.out,HD2.out,HD3.out,zC HB5.out (zL _ _)⟩
theorem kN {P:Program} {t e:TypeId} {size bytes:Nat} (w:World) (E:EK P t e size bytes) {ops:Array Oper} {rest:List Oper} {o:Oper} {a:Act} {Q:Exit→Act→World→Prop}
 (hg:o.guard=none) (s x:Operand) (hop:o.op=Op.call { callee:=Callee.builtin Builtin.append,args:=#[s,x],argTypes:=#[t,t] })
 (b:Addr) (n cap:Nat) (olds:List Value) (hs:a.eval s = .slice (some b) n cap) (hlo:olds.length=n * size) (holds:∀ j u,olds[j]?=some u→w.cell? (b.add j)=some u)
 (ad:Addr) (m c:Nat) (news:List Value) (hx:a.eval x = .slice (some ad) m c) (hn:news.length=m * size) (hc:∀ j u,news[j]?=some u→w.cell? (ad.add j)=some u)
 (hfull:cap < n+m) (b1:n+m≤maxLen) (b2:(n+m) * bytes≤140737488355328)
 (hK:∀ v' w',w'.ownsRow w.heap.size e size v' (n+m) (olds++news)→Below w.heap.size w w'→wpList P ops Q rest (a.put o.dst v') w') :
 wpList P ops Q (o::rest) a w:=by
 obtain ⟨ht,⟨i,z,hi,hz,hsize,hby,hzs⟩,hpos⟩:=E
 refine wpList_plain hg fun K hK'=>?_
 obtain ⟨v',w',hrun,r1,r2⟩:=run_append_arg_grows (P:=P) w t o.type e i z size bytes ht hi hz hsize hby hzs hpos b n cap olds hlo holds ad m c news hn hc hfull b1 b2
 have hd:w.drawn≤w'.drawn:=by
  have hr:=run_append_grow (P:=P) w t o.type e i z ht hi hz b n cap olds (by rw [hsize]; exact hlo) holds ad m c news (by rw [hsize]; exact hn) hc hfull (by simp only [maxLen] at b1; omega) (by rw [hby]; exact growslice_fits hfull b2);rw [hr] at hrun;(injection hrun with _ hw);rw [← hw];exact Nat.le_succ _
 unfold Oper.wp
 simp [execOp,hop,resolve,invoke,builtin,hs,hx,hrun,Result.andThen]
 exact hK' _ _ (hK v' w' r1 ((Below.refl _ _).grown r2 hd (Nat.le_refl _) (fun k h=>by cases h)))
theorem Vz (g j:Nat):(⟨g,0,none⟩:Addr).add j=⟨g,j,none⟩:=by
 unfold Addr.add;split<;>simp_all
theorem Y6 {op:Int} {n:Nat} {v:Ver} {d1 d2 d3:ByteArray} (h1:bts d1=vR v.maj) (h2:bts d2=vR v.min) (h3:bts d3=vR v.pat):(([d1,d2,d3]:List ByteArray).take n).map bts=yS ⟨op,(n:Int),v⟩:=by
 rw [yS,List.map_take,List.map_cons,List.map_cons,List.map_cons,List.map_nil,h1,h2,h3]; rfl
theorem aS {v:Ver} (h:yF v=true) {n:Nat} (hn:n≤3):(oC v n).length≤1000:=by
 obtain ⟨f1,f2,f3,-,-⟩:=yN h;have h1:=uA f1;have h2:=uA f2;have h3:=uA f3;rcases (show n=0∨n=1∨n=2∨n=3 by omega) with rfl | rfl | rfl | rfl
 ·rw [iu]; simp
 ·rw [iA]; omega
 ·rw [hY]; simp; omega
 ·rw [Zj]; simp; omega
theorem sI (c:CompL) (w:World) (hc:c.fit):Calls Tryz.prog 43 #[c.val] w (xK w (zh c)):=by
 have HM:=hid (jd c (w.alloc (.cells c.cells.toArray 86)) hc);have HBX:=hid (Box.new w c.cells 86);have HB0:=hid (zL w (.cells c.cells.toArray 86));cases hm:sL c
 ·rw [hm] at HM;have HP:=hid (show zh c=[] by rw [zh,hm]; rfl);go_enter Tryz.func43,Tryz.ntmps43;(go_wp2_with fail);refine HM.out.mono ?_;rintro _ w1 ⟨rfl,hb⟩;(go_wp2_with fail);go_ret;exact ⟨_,rfl,by rw [HP.out]; exact zN [],zC HB0.out hb⟩
 ·rw [hm] at HM;have M:=hid (yY.1 hm);have HP:=hid (xA M.out);clear hm;obtain ⟨op,parts,v⟩:=c;(have hpar:0≤parts∧parts≤3:=by have:=M.out.many; simp only at this; omega);obtain ⟨n,rfl⟩:=Int.eq_ofNat_of_zero_le hpar.1;(have hn3:n≤3:=by omega);clear hpar;have HTD:=hid (fun u=>Yh op n v u M.out hn3);have HSG:=hid (fun u=>ky op u);have hsz:=fR op;have HSB:=hid (zx (yh op));have HF1:=hid (yN M.out.v);generalize xP (yh op)=sg at *;go_enter Tryz.func43,Tryz.ntmps43;(go_wp2_with fail);refine HM.out.mono ?_;rintro _ w1 ⟨rfl,hb⟩;have HB:=hid (zC HB0.out hb);have HX:=hid (HBX.out.below hb);obtain ⟨x0,x1,x2,x3,x4,x5,x6⟩:=HX.out.get7;clear hb HM HBX HB0;(go_wp2_with fail);refine (HTD.out _).mono ?_;rintro _ w2 ⟨g,d1,d2,d3,rfl,hgl,hbx,hd1,hd2,hd3,hb⟩;have HD:=hid (Y6 (op:=op) (n:=n) (v:=v) hd1 hd2 hd3);have hs1:=uV hd1 HF1.out.1;have hs2:=uV hd2 HF1.out.2.1;have hs3:=uV hd3 HF1.out.2.2.1
  have HDS:=hid (show ∀ d∈([d1,d2,d3]:List ByteArray).take n,d.size≤1000 from fun d hd=>by
   have:=List.mem_of_mem_take hd;simp only [List.mem_cons,List.not_mem_nil,or_false] at this
   rcases this with h | h | h<;>rw [h]<;>omega)
  have HBX:=hid hbx;have HB:=hid (zC HB.out hb);have HX:=hid (HX.out.below hb);have HDL:=hid (show (([d1,d2,d3]:List ByteArray).take n).length=n by rw [List.length_take]; simp; omega);clear hb hbx hd1 hd2 hd3 hs1 hs2 hs3 x0 x1 x2 x3 x4 x5 x6 HTD
  have HBT:=hid (show Box w2 g ((([d1,d2,d3]:List ByteArray).take n).map Value.string) from ⟨HBX.out.1,fun j u hj=>HBX.out.2 j u (by
   rw [List.map_take,List.getElem?_take] at hj;split at hj
   ·exact hj
   ·cases hj)⟩)
  generalize ([d1,d2,d3]:List ByteArray).take n=ds at *;clear HBX;obtain ⟨x0,x1,x2,x3,x4,x5,x6⟩:=HX.out.get7;by_cases h9:op=9
  ·(have q9:(op==9)=true:=by simp [h9]);(have hk2:n≤2:=by have:=M.out.many; simp only at this; omega);have HTX:=hid (show um ⟨op,(n:Int),v⟩=zT [46] (yS ⟨op,(n:Int),v⟩++[[42]]) by rw [um,if_pos h9]);clear h9;(have i0:(0:Int)≤(n:Int):=by omega);have i1:(n:Int)≤3:=by omega
   have HCS:=hid (show ∀ j u,(ds.map Value.string)[j]?=some u→(w2.alloc (.cells #[.string ⟨#[42]⟩] 9)).cell? ((⟨g,0,none⟩:Addr).add j)=some u from fun j u hj=>by
    rw [Vz]
    exact ((HBT.out.below (zL _ _)).2 j u hj))
   have HCN:=hid (show ∀ j u,([Value.string ⟨#[42]⟩]:List Value)[j]?=some u→(w2.alloc (.cells #[.string ⟨#[42]⟩] 9)).cell? ((⟨w2.heap.size,0,none⟩:Addr).add j)=some u from fun j u hj=>by
    rw [Vz]
    exact (Box.new w2 [.string ⟨#[42]⟩] 9).2 j u hj)
   (go_wp2_with (first | (at_builtin; refine kN _ yd rfl (.tmp 18) (.tmp 19) rfl ⟨g,0,none⟩ n n (ds.map Value.string) rfl (by rw [List.length_map,HDL.out]; omega) HCS.out ⟨w2.heap.size,0,none⟩ 1 1 [.string ⟨#[42]⟩] rfl rfl HCN.out (by omega) (by unfold maxLen; omega) (by omega) ?_; intro v' w3 hrow hbel)));have HROW:=hid (vN hrow (by omega));obtain ⟨g2,cap2,rfl,hg2,hl2,hc2,hcell⟩:=HROW.out;have HB3:=hid (zC HB.out (zC (zL w2 (.cells #[.string ⟨#[42]⟩] 9)) hbel))
   have hbx3:Box w3 g2 ((ds++[(⟨#[42]⟩:ByteArray)]).map Value.string):=⟨hl2,fun j u hj=>by
    have hjl:j < (n+1) * 1:=by
     rcases Nat.lt_or_ge j ((n+1) * 1) with h | h
     ·exact h
     ·rw [List.getElem?_eq_none (by rw [List.length_map,List.length_append,HDL.out]; simp; omega)] at hj; cases hj
    rw [hcell j hjl];rw [List.map_append] at hj
    exact hj⟩
   have HJ:=hid (jL g2 cap2 (ds++[(⟨#[42]⟩:ByteArray)]) 46 w3 hbx3 (by rw [List.length_append,HDL.out]; simp; omega) (fun d hd=>by
    rcases List.mem_append.1 hd with h | h
    ·exact HDS.out d h
    ·simp only [List.mem_singleton] at h; rw [h]; decide))
   rw [show (ds++[(⟨#[42]⟩:ByteArray)]).length=n+1 by rw [List.length_append,HDL.out]; rfl,List.map_append,HD.out] at HJ;clear hrow hbel hg2 hl2 hc2 hcell hbx3 HROW;refine HJ.out.mono ?_;rintro _ w4 ⟨t,rfl,ht,hb⟩;(go_wp2_with fail);go_ret;exact ⟨_,rfl,by rw [HP.out,HTX.out,ht,List.map_cons,List.map_nil,Vw],zC HB3.out hb⟩
  ·(have q9:(op==9)=false:=by simp [h9]);have HX9:=hid (nP h9 (parts:=(n:Int)) (v:=v) rfl);have HTN:=hid (show zT [46] (ds.map bts)=oC v n by rw [HD.out]; rfl);clear h9;have hfp:=hc.1;simp only at hfp;have HJ:=hid (fun u (h:Below w2.heap.size w2 u)=>jL g 3 ds 46 u (HBT.out.below h) (by rw [HDL.out]; omega) HDS.out);rw [HDL.out,HTN.out] at HJ;(go_wp2_with fail);refine (HSG.out _).mono ?_;rintro _ _ ⟨rfl,rfl⟩;(go_wp2_with fail);refine (HJ.out _ (Below.refl _ _)).mono ?_;rintro _ w3 ⟨t,rfl,ht,hb⟩;have HT:=hid ht;(have hts:t.size≤1000:=by rw [← zF,ht]; exact aS M.out.v hn3);have HB:=hid (zC HB.out hb);have HX:=hid (HX.out.below hb);clear ht hb x0 x1 x2 x3 x4 x5 x6;obtain ⟨x0,x1,x2,x3,x4,x5,x6⟩:=HX.out.get7;rcases xy v.pre with ⟨e5,n5⟩ | e5
   ·have HE:=hid (rh e5);(go_wp2_with fail);go_ret;refine ⟨_,rfl,?_,HB.out⟩;rw [HP.out,HX9.out,zK,zK,zK,HT.out,HSB.out,HE.out,b45]; simp
   ·have HE:=hid (tj e5);(go_wp2_with fail);go_ret;refine ⟨_,rfl,?_,HB.out⟩;rw [HP.out,HX9.out,zK,HT.out,HSB.out,HE.out]; simp
end Go.Proofs.YtiffijoenkcpjaaGreatDoor
