import Derived.Test.YtofkjhnhafbfoaaGreatDoorWMh
import Derived.Test.YtofkjhnhafbfoaaGreatDoorWNa
import Derived.Test.YtofkjhnhafbfoaaGreatDoorWNf
import Derived.Test.YtofkjhnhafbfoaaGreatDoorWNr
set_option linter.unusedVariables false
set_option linter.unusedSimpArgs false
set_option maxRecDepth 100000
set_option maxHeartbeats 2000000
namespace Go.Proofs.YtofkjhnhafbfoaaGreatDoor
open Go.RowKit Go.Lib
open Rw
theorem nU {nm:ByteArray}:∀ {l:List EntryL} {i:Nat},(z8 nm i l).length≤l.length
 | [],_=>by rw [z8]; exact Nat.le_refl _
 | x::l,i=>by
  rw [z8];have:=nU (nm:=nm) (l:=l) (i:=i+1);split
  ·rw [List.length_cons,List.length_cons]; omega
  ·rw [List.length_cons]; omega
theorem kM (s:ShelfL) (nm:ByteArray):(tP s nm).length≤64:=by
 cases h:zQ z7 s
 ·rw [tP,h,if_neg (by simp)]; exact Nat.zero_le _
 ·rw [(gG h nm).1.length_eq];exact Nat.le_trans nU (kP h)
theorem kq (l:List ShelfL) (p:List PinL) (nm:ByteArray):(zm l p nm).2.1.length≤64:=by
 rw [zm];split
 ·split
  ·exact kM _ _
  ·decide
 ·exact Nat.zero_le _
theorem pB {A B:Option Addr} {c d:Nat} {x:List Nat} {w:World} (ha:pz w A (tp x)) (hb:pz w B (tp x)) (hn:x.length≤64):Calls Tryz.prog 35 #[.slice A x.length c,.slice B x.length d] w (yT w true):=by
 have hl:(tp x).length=x.length:=List.length_map ..;have h:=dD A B c d (tp x) (tp x) w ha hb (by rw [hl]; omega);rw [hl,fW (fun a=>by simp)] at h;exact h
theorem r15list_any (A:Option Addr) (c:Nat) (l:List ShelfL) (B:Option Addr) (d:Nat) (p:List PinL) (nm:ByteArray) (w:World) (hA:xc w A l) (hn:l.length≤9223372036854775807) (hok:∀ s∈l,EntsOk s.entries) (hP:Z6 w B p) (hpn:p.length≤9223372036854775807):Calls Tryz.prog 32 #[.slice A l.length c,.slice B p.length d,.string nm] w (sw w (zm l p nm)):=by
 have HF:=hid (r15from_any A c l B d p nm w hA hn hok hP hpn);have HA:=hid hA;have HLS:=hid (fun (k:Nat) (s:ShelfL) (hs:l[k]?=some s) A' c' u (hb:KB w.heap.size w u) (hE:yL u A' s.entries) (hc:s.entries.length≤c')=>rshlist_any s A' c' nm u hE (hok _ (List.mem_of_getElem? hs)) hc kP);have HFA:=hid (fun h=>X4 (l:=l) (p:=p) (nm:=nm) h);have HLE:=hid (fun h=>Yt (l:=l) (p:=p) (nm:=nm) h);have HLH:=hid (fun (k:Nat) (s:ShelfL) (hs:l[k]?=some s) h=>Ya (l:=l) (p:=p) (nm:=nm) hs h);clear hA hok hP;unfold dO at HF;generalize zm l p nm=res at *;generalize xQ l p nm=fr at *;obtain ⟨fi,fe⟩:=fr;dsimp only at HF HFA HLE;generalize p.length=m at *;generalize hnn:l.length=n at *;have HN:=hid hnn;clear hnn;go_enter Tryz.func32,Tryz.ntmps32;(go_wp2_with fail);refine HF.out.mono ?_;rintro _ u1 ⟨rfl,hb⟩;have HB1:=hid hb;clear hb HF;by_cases he:fe=0
 ·subst he;obtain ⟨k,hk,h2,-⟩:=HFA.out rfl;obtain rfl:=h2;(have hk':k < l.length:=by rw [HN.out]; exact hk);have hs:=List.getElem?_eq_getElem hk';have HE:=hid (HLH.out k _ hs rfl);obtain ⟨b,off,A',c',hAA,hbl,c0,c1,hEn,hc'⟩:=qh (HA.out.kb ShelfAt.stays HB1.out) hk';subst hAA;(have k0:(0:Int)≤(k:Int):=by omega);(have k1:(k:Int) < (n:Int):=by omega);have HC:=hid (HLS.out k _ hs A' c' u1 HB1.out hEn hc');clear hEn hc' HFA HLE HLH HLS hs;generalize tP l[k] nm=ls at *;generalize l[k]=x at *;clear hk';obtain ⟨xn,xe⟩:=x;dsimp only [ShelfL.val] at c0 c1 HC;generalize xe.length=xm at *;(go_wp2_with fail);refine HC.out.mono ?_;rintro _ u2 ⟨A2,c2,rfl,hi,hb⟩;have HB2:=hid (zA HB1.out hb);have HI:=hid hi;clear hb hi c0 c1 hbl;generalize hll:ls.length=ll at *;have HLL:=hid hll;clear hll;(go_wp2_with fail);(try rw [Exit.noGoto_ret]);(try go_ret3);rw [HE.out];exact ⟨A2,c2,by rw [HLL.out]<;>rfl,HI.out,HB2.out⟩
 ·(have e0:(fe != 0)=true:=by rw [bne_iff_ne]; exact he);have HE:=hid (HLE.out he);clear he;(go_wp2_with fail);(try rw [Exit.noGoto_ret]);(try go_ret3);rw [HE.out];exact ⟨none,0,rfl,.inl rfl,HB1.out⟩
def ShelfSz (s:ShelfL):Prop:=EntsOk s.entries∧s.name.size≤1048576∧∀ x∈s.entries,SizedR x.rc
def PinSz (p:PinL):Prop:=p.name.size≤1048576∧p.shelf.size≤1048576
def AnyB (w:World) (e:Ending) (w':World):Prop:=∃ b:Bool,e = .returned (.bool b)∧KB w.heap.size w w'
theorem few15_any (A:Option Addr) (c:Nat) (l:List ShelfL) (B:Option Addr) (d:Nat) (p:List PinL) (w:World) (hA:xc w A l) (hP:Z6 w B p) (hs:∀ s∈l,ShelfSz s) (hq:∀ q∈p,PinSz q) (hn:l.length≤9223372036854775807) (hm:p.length≤9223372036854775807):Calls Tryz.prog 27 #[.slice A l.length c,.slice B p.length d] w (AnyB w):=by
 have HA:=hid hA;have HP:=hid hP;have HQ:=hid hq;have HF:=hid (fun (x:ShelfL) (hx:x∈l) A' c' u (hE:yL u A' x.entries)=>few13_any x A' c' u hE (hs _ hx).1.len (hs _ hx).2.1 (hs _ hx).2.2);clear hA hP hq hs;generalize hnn:l.length=n at *;generalize hmm:p.length=m at *;have HN:=hid hnn;have HM:=hid hmm;clear hnn hmm;go_enter Tryz.func27,Tryz.ntmps27;by_cases h5:5 < n
 ·(have d1:decide ((5:Int) < (n:Int))=true:=by rw [decide_eq_true_iff]; omega);clear h5;(go_wp2_with fail);(try rw [Exit.noGoto_ret]);(try go_ret);exact ⟨_,rfl,zH _⟩
 ·(have d1:decide ((5:Int) < (n:Int))=false:=by rw [decide_eq_false_iff_not]; omega);(have hn5:n≤5:=by omega);clear h5;by_cases h12:12 < m
  ·(have d2:decide ((12:Int) < (m:Int))=true:=by rw [decide_eq_true_iff]; omega);clear h12;(go_wp2_with fail);(try rw [Exit.noGoto_ret]);(try go_ret);exact ⟨_,rfl,zH _⟩
  ·(have d2:decide ((12:Int) < (m:Int))=false:=by rw [decide_eq_false_iff_not]; omega);(have hm12:m≤12:=by omega);clear h12;(go_upto_block 0 with fail);(go_wp2_with fail);clear d1 d2;go_loopw [5] (fun i ww=>∃ k:Nat,i = .int .i64 (k:Int)∧k≤n∧Hid (KB w.heap.size w ww)) (fun i _=>n - (intOf i).toNat)
   case atStart=>exact ⟨0,rfl,Nat.zero_le _,hid (zH _)⟩
   case round =>
    (rename World=>wr);obtain ⟨k,rfl,hk,HK⟩:=hrel;by_cases hlt:k < n
    ·(have hlt':k < l.length:=by rw [HN.out]; exact hlt);obtain ⟨b,off,A',c',hAA,hbl,c0,c1,hEn,hc'⟩:=qh (RowOf.kb ShelfAt.stays HA.out HK.out) hlt';subst hAA;have HC:=hid (HF.out _ (List.getElem_mem hlt') A' c' wr hEn);(have k0:(0:Int)≤(k:Int):=by omega);(have k1:(k:Int) < (n:Int):=by omega);clear hEn hc';unfold FewK at HC;generalize l[k]=x at *;obtain ⟨xn,xe⟩:=x;dsimp only [ShelfL.val] at c0 c1 HC;generalize xe.length=xm at *;(go_wp2_with fail);refine HC.out.mono ?_;rintro _ u2 ⟨q,rfl,-,hb⟩;have HK2:=hid (zA HK.out hb);clear hb c0 c1 hbl;cases q
     ·(go_wp2_with fail);(try rw [Exit.noGoto_ret]);(try go_ret);exact ⟨false,rfl,HK2.out⟩
     ·(go_wp2_with fail);go_roundw
      case rel=>exact ⟨k+1,by go_num,by omega,HK2⟩
      case measure=>simp [intOf]<;>omega
    ·(obtain rfl:k=n:=by omega);(have k1:¬ (k:Int) < (k:Int):=by omega);(go_upto_block 2 with fail);(go_wp2_with fail);go_loopw [6] (fun i ww=>∃ q:Nat,i = .int .i64 (q:Int)∧q≤m∧Hid (KB w.heap.size w ww)) (fun i _=>m - (intOf i).toNat)
     case atStart=>exact ⟨0,rfl,Nat.zero_le _,HK⟩
     case round =>
      (rename World=>wi);obtain ⟨q,rfl,hq,HI⟩:=hrel;by_cases hqt:q < m
      ·(have hqt':q < p.length:=by rw [HM.out]; exact hqt);obtain ⟨b,off,hBB,hbl,cx⟩:=RowOf.at_ (RowOf.kb PinAt.stays HP.out HI.out) hqt';subst hBB;have hz:=HQ.out _ (List.getElem_mem hqt');have HBL:=hid hbl;generalize p[q]=y at *;obtain ⟨cx0,cx1⟩:=cx;obtain ⟨yn,ys⟩:=y;have HCX:=hid (And.intro cx0 cx1);obtain ⟨z1,z2⟩:=hz;dsimp only at HCX z1 z2;clear cx0 cx1 hbl;(have q0:(0:Int)≤(q:Int):=by omega);(have q1:(q:Int) < (m:Int):=by omega);have w1:IntKind.i64.wrap ((yn.size:Int)+(ys.size:Int))=(yn.size:Int)+(ys.size:Int):=IntWalk.i64_in _ (by omega);obtain ⟨g2,hg2⟩:∃ g2,decide ((100:Int) < (yn.size:Int)+(ys.size:Int))=g2:=⟨_,rfl⟩;(go_upto_region 11 with fail);have hS:KB wi.heap.size wi wi.drew:=zM (zH _);(refine wpS (fun u=>KB wi.heap.size wi u) (.last [0,1,2,3,4,5,6,7,8,9,10,11,12,13]) fun iS=>?_);(have cx0:=fun (z:SW fun u=>KB wi.heap.size wi u)=>zU HBL.out z.ok HCX.out.1);(have cx1:=fun (z:SW fun u=>KB wi.heap.size wi u)=>zU HBL.out z.ok HCX.out.2);(have pl:=fun (z:SW fun u=>KB wi.heap.size wi u)=>Nat.lt_of_lt_of_le HBL.out z.ok.size);(with_reducible refine zJ ?_);simp only [zB,pka,pkb,pkc,pkd,pke,pkf];(repeat go_big_quiet_step (fail));refine wpQuiet_nil ?_;clear cx0 cx1 pl iS w1 hg2;cases g2
       ·(go_wp2_with fail);go_roundw
        case rel=>exact ⟨q+1,by go_num,by omega,hid (zA HI.out hS)⟩
        case measure=>simp [intOf]<;>omega
       ·(go_wp2_with fail);(try rw [Exit.noGoto_ret]);(try go_ret);exact ⟨false,rfl,zA HI.out hS⟩
      ·(obtain rfl:q=m:=by omega);(have k1:¬ (q:Int) < (q:Int):=by omega);(go_wp2_with fail);(try rw [Exit.noGoto_ret]);(try go_ret);exact ⟨true,rfl,HI.out⟩
theorem walk_ShopRaw (A:Option Addr) (c:Nat) (l:List ShelfL) (B:Option Addr) (d:Nat) (p:List PinL) (nm:ByteArray) (w:World) (hA:xc w A l) (hn:l.length≤9223372036854775807) (hs:∀ s∈l,ShelfSz s) (hP:Z6 w B p) (hm:p.length≤9223372036854775807) (hq:∀ q∈p,PinSz q) (hL:Laid w):Calls Tryz.prog 7 #[.slice A l.length c,.slice B p.length d,.string nm] w (yT w true):=by
 (have hok:∀ s∈l,EntsOk s.entries:=fun s h=>(hs s h).1);have HFW:=hid (few15_any A c l B d p w hA hP hs hq hn hm);have HF:=hid (fun u (hb:KB w.heap.size w u)=>vw A c l B d p nm u (hL.kb hb) (RowOf.kb ShelfAt.stays hA hb) hn hok (RowOf.kb PinAt.stays hP hb) hm);have HFR:=hid (fun u (hb:KB w.heap.size w u)=>r15from_any A c l B d p nm u (RowOf.kb ShelfAt.stays hA hb) hn hok (RowOf.kb PinAt.stays hP hb) hm);have HG:=hid (fun u (hb:KB w.heap.size w u)=>qL A c l B d p nm u (hL.kb hb) (RowOf.kb ShelfAt.stays hA hb) hn hok (RowOf.kb PinAt.stays hP hb) hm);have HGR:=hid (fun u (hb:KB w.heap.size w u)=>r15list_any A c l B d p nm u (RowOf.kb ShelfAt.stays hA hb) hn hok (RowOf.kb PinAt.stays hP hb) hm);have HM:=hid (fun u (hb:KB w.heap.size w u)=>sD A c l u (hL.kb hb) (RowOf.kb ShelfAt.stays hA hb) hn hok);have HMR:=hid (fun u (hb:KB w.heap.size w u)=>r15may_any A c l u (RowOf.kb ShelfAt.stays hA hb) hn hok);have HXL:=hid (kq l p nm);have HSI:=hid (fun A2 c2 A3 c3 u (h1:pz u A2 (tp (zm l p nm).2.1)) (h2:pz u A3 (tp (zm l p nm).2.1))=>pB (c:=c2) (d:=c3) h1 h2 HXL.out);have CA:=hid (fun u (hb:KB w.heap.size w u)=>pI u (hL.kb hb));clear hA hn hs hP hm hq hL hok;unfold AnyB at HFW;unfold dO at HF HFR;unfold sw at HG HGR;generalize zm l p nm=lrL at *;generalize xQ l p nm=fr at *;generalize zw l=ms at *;obtain ⟨fi,fe⟩:=fr
 obtain ⟨liL,x,le⟩:=lrL;dsimp only at HF HFR HG HGR HSI HXL;generalize x.length=xn at *;generalize l.length=n at *;generalize p.length=m at *;(have n0:(0:Int)≤(nm.size:Int):=by omega);go_enter Tryz.func7,Tryz.ntmps7;(go_wp2_with fail);refine HFW.out.mono ?_;rintro _ u1 ⟨b,rfl,hb⟩;have HB1:=hid hb;clear hb HFW;cases b
 ·(go_wp2_with fail);refine (CA.out u1 HB1.out).mono ?_;rintro _ u9 ⟨rfl,hb⟩;have HB9:=hid (zA HB1.out hb);clear hb;(go_wp2_with fail);(try rw [Exit.noGoto_ret]);(try go_ret);exact ⟨rfl,HB9.out⟩
 ·by_cases hn:60 < nm.size
  ·(have d1:decide ((60:Int) < (nm.size:Int))=true:=by rw [decide_eq_true_iff]; omega);clear hn;(go_wp2_with fail);refine (CA.out u1 HB1.out).mono ?_;rintro _ u9 ⟨rfl,hb⟩;have HB9:=hid (zA HB1.out hb);clear hb;(go_wp2_with fail);(try rw [Exit.noGoto_ret]);(try go_ret);exact ⟨rfl,HB9.out⟩
  ·(have d1:decide ((60:Int) < (nm.size:Int))=false:=by rw [decide_eq_false_iff_not]; omega);clear hn;(go_wp2_with fail);refine (HF.out u1 HB1.out).mono ?_;rintro _ u2 ⟨rfl,hb⟩;have HB2:=hid (zA HB1.out hb);clear hb d1;(go_wp2_with fail);refine (HFR.out u2 HB2.out).mono ?_;rintro _ u3 ⟨rfl,hb⟩;have HB3:=hid (zA HB2.out hb);clear hb;(go_wp2_with fail);refine (HG.out u3 HB3.out).mono ?_;rintro _ u4 ⟨A2,c2,rfl,hi,hb⟩;have HI:=hid hi;have HB4:=hid (zA HB3.out hb);clear hb hi;(go_wp2_with fail);refine (HGR.out u4 HB4.out).mono ?_;rintro _ u5 ⟨A3,c3,rfl,hi,hb⟩;have HI5:=hid (HI.out.kb IntAtJ.stays hb);have HJ5:=hid hi;have HB5:=hid (zA HB4.out hb);clear hb hi;(go_wp2_with fail);refine (CA.out u5 HB5.out).mono ?_;rintro _ u6 ⟨rfl,hb⟩;have HI6:=hid (HI5.out.kb IntAtJ.stays hb);have HJ6:=hid (HJ5.out.kb IntAtJ.stays hb);have HB6:=hid (zA HB5.out hb);clear hb;(go_wp2_with fail);refine (HM.out u6 HB6.out).mono ?_;rintro _ u7 ⟨rfl,hb⟩;have HI7:=hid (HI6.out.kb IntAtJ.stays hb);have HJ7:=hid (HJ6.out.kb IntAtJ.stays hb);have HB7:=hid (zA HB6.out hb);clear hb;(go_wp2_with fail);refine (HMR.out u7 HB7.out).mono ?_;rintro _ u8 ⟨rfl,hb⟩;have HI8:=hid (HI7.out.kb IntAtJ.stays hb);have HJ8:=hid (HJ7.out.kb IntAtJ.stays hb);have HB8:=hid (zA HB7.out hb);clear hb;(have q1:(ms==ms)=true:=by simp);(have q2:((fi:Int)==fi)=true:=by simp);have q3:((fe:Int)==fe)=true:=by simp
   (have q4:((liL:Int)==liL)=true:=by simp);(have q5:((le:Int)==le)=true:=by simp);(go_wp2_with fail);refine (HSI.out A2 c2 A3 c3 u8 HI8.out HJ8.out).mono ?_;rintro _ u9 ⟨rfl,hb⟩;have HB9:=hid (zA HB8.out hb);clear hb;(go_wp2_with fail);(try rw [Exit.noGoto_ret]);(try go_ret);exact ⟨rfl,HB9.out⟩
end Go.Proofs.YtofkjhnhafbfoaaGreatDoor
