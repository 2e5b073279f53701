import Derived.Test.YtiffijoenkcpjaaGreatDoorYPp
set_option linter.unusedVariables false
set_option linter.unusedSimpArgs false
set_option maxRecDepth 100000
set_option maxHeartbeats 4000000
namespace Go.Proofs.YtiffijoenkcpjaaGreatDoor
open Go.RowKit Go.Lib
open Rw
theorem toL_inj {a b:ByteArray} (h:(a.toList==b.toList)=true):a=b:=xE (eq_of_beq h)
theorem pins_okE {ls:List ManL} {pl:List PinL} {e:Int} (h:checkY ls=(0,0)) (hp:pinsY ls=(pl,e)):(∀ (i k:Nat) (hi:i < ls.length) (hk:k < ls[i].pins.length),e=0→(∃ j,∃ hj:j < pl.length,pl[j]=ls[i].pins[k])∧∀ (a b:Nat) (ha:a < ls.length) (hb:b < ls[a].pins.length),ls[a].pins[b].name=ls[i].pins[k].name→ls[a].pins[b].shelf=ls[i].pins[k].shelf)∧(∀ (j:Nat) (hj:j+1 < pl.length),Op.bytesLess (bts pl[j].name) (bts pl[j+1].name)=true)∧(e=0∨(e=15∧pl.length=0)):=by
 (obtain rfl:pl=(pinsY ls).1:=by rw [hp]);(obtain rfl:e=(pinsY ls).2:=by rw [hp]);exact ⟨fun i k hi hk h0=>pins_ok h hi hk h0,fun j hj=>pins_rise h hj,pins_end h⟩
theorem walk_YardPins (A:Option Addr) (ca:Nat) (zs:List Int) (w:World) (hz:IntsAt w A zs) (hzn:zs.length≤9223372036854775807) (hL:Laid w):Calls Tryz.prog 5 #[.slice A zs.length ca] w (yT w true):=by
 have CB:=hid (members_any A ca zs w hz hzn);have CA:=hid (fun u (hb:KB w.heap.size w u)=>awake17_any u (hL.kb hb));have HL:=hid hL;clear hL hz;generalize zs.length=zn at *;go_enter Tryz.func5,Tryz.ntmps5;(go_wp2_with fail);refine CB.out.mono ?_;rintro _ w1 ⟨a,b,c,M,mc,rfl,hmc,hm,ht,fa,fb,fc,hb⟩
 have HX:=hid (show ∀ m∈[a,b,c],ManFit m∧m.pins.length≤1 from fun m hm=>by
  simp only [List.mem_cons,List.not_mem_nil,or_false] at hm;rcases hm with rfl | rfl | rfl
  ·exact ⟨fa,ht.a.plen⟩
  ·exact ⟨fb,ht.b.plen⟩
  ·exact ⟨fc,ht.c.plen⟩)
 have hck:=ht.all;have hp3:=pins_len3 ht;have hl3:[a,b,c].length=3:=rfl;generalize hls:[a,b,c]=ls at *;clear hls;have HM1:=hid hm;have HB1:=hid hb;have HCK:=hid hck;have HL3:=hid hl3;clear hm ht fa fb fc hb CB hck a b c
 have CP:=hid (show Calls Tryz.prog 9 #[.slice M 3 mc] w1 (YPinsK w1 (pinsY ls)) from by
  have h:=ypins_any M mc ls w1 (HL.out.kb HB1.out) HM1.out (by rw [hl3]; omega) (by rw [hl3]; exact hmc) (fun m hm=>(HX.out m hm).1)
  rwa [hl3] at h)
 clear hl3 hmc;obtain ⟨pl,e,hpp⟩:∃ pl e,pinsY ls=(pl,e):=⟨_,_,rfl⟩;have HOK:=hid (pins_okE HCK.out hpp).1;have HRI:=hid (pins_okE HCK.out hpp).2.1;have hen:=(pins_okE HCK.out hpp).2.2;rw [hpp] at CP hp3;clear hpp;unfold YPinsK at CP;dsimp only at CP hp3;obtain ⟨pn,hpn⟩:∃ n,pl.length=n:=⟨_,rfl⟩;rw [hpn] at CP hp3 hen;have HEN:=hid hen;clear hen;have HPN:=hid hpn;clear hpn;(go_wp2_with fail);refine CP.out.mono ?_;rintro _ w2 ⟨P,pc,rfl,hp,hb⟩;have HP2:=hid hp;have HM2:=hid (HM1.out.kb ManAt.stays hb);have HB2:=hid (zA HB1.out hb);clear hp hb CP HM1 HB1;(go_upto_block 0 with fail);(go_wp2_with fail);go_loopw [6] (fun iv wr=>∃ i:Nat,iv = .int .i64 (i:Int)∧i≤3∧Hid (KB w2.heap.size w2 wr)) (fun iv _=>3 - (intOf iv).toNat)
 case atStart=>exact ⟨0,rfl,by omega,hid (zH _)⟩
 case round =>
  (rename World=>wr);obtain ⟨i,rfl,hi,HKI⟩:=hrel;(have i0:(0:Int)≤(i:Int):=by omega);by_cases hlt:i < 3
  ·(have i1:(i:Int) < 3:=by omega);(have hil:i < ls.length:=by rw [HL3.out]; exact hlt);obtain ⟨mb,mo,hd,hM,hml,hcm⟩:=man_at HM2.out hil;subst hM;have HOI:=hid (fun (k:Nat) (hk:k < ls[i].pins.length) (h0:e=0)=>HOK.out i k hil hk h0);have HPI:=hid hml.pins;have HCM:=hid hcm;obtain ⟨np,hnp⟩:∃ n,ls[i].pins.length=n:=⟨_,rfl⟩;(have hnp1:np≤1:=by rw [← hnp]; exact (HX.out _ (List.getElem_mem hil)).2);have HC9:=hid (show w2.cell? ⟨mb,mo+i * 11+9,none⟩=some (.slice hd.P np hd.cp) from by rw [← hnp]; exact HCM.out.c9);have hml2:mb < w2.heap.size:=HCM.out.lt;have HML:=hid hml2;have HNP:=hid hnp;clear hnp hml hcm HCM hml2;(go_upto_block 2 with fail);(go_wp2_with fail);go_loopw [7] (fun kv ur=>∃ k:Nat,kv = .int .i64 (k:Int)∧k≤np∧Hid (KB w2.heap.size w2 ur)) (fun kv _=>np - (intOf kv).toNat)
   case atStart=>exact ⟨0,rfl,by omega,HKI⟩
   case round =>
    clear HKI;(rename World=>ur);obtain ⟨k,rfl,hk,HKK⟩:=hrel;(have k0:(0:Int)≤(k:Int):=by omega);have c9:=zU HML.out HKK.out HC9.out;have cl:mb < ur.heap.size:=Nat.lt_of_lt_of_le HML.out HKK.out.size;by_cases hkt:k < np
    ·(have k1:(k:Int) < (np:Int):=by omega);(have hkl:k < ls[i].pins.length:=by rw [HNP.out]; exact hkt);obtain ⟨pb,po,hPA,hpl,q0,q1⟩:=aJ (HPI.out.kb PinAt.stays HKK.out) hkl;rw [hPA] at c9;have HOK1:=hid (HOI.out k hkl);generalize ls[i].pins[k]=one at *;obtain ⟨on,os⟩:=one;dsimp only at q0 q1 HOK1;(go_upto_block 4 with fail);refine zI ?_;intro v1 hv1;have HG:=hid (show Box v1 ur.heap.size [.string on,.string os] by rw [hv1]; exact Box.new ur [.string on,.string os] 53);(have hb:KB ur.heap.size ur v1:=by rw [hv1]; exact zG _ _);clear hv1;have HKV:=hid (zA HKK.out hb);clear hb q0 q1 hpl c9 cl HKK;generalize ur.heap.size=g8 at *;(go_wp2_with fail);go_loopw [11,9] (fun jv bv tr=>∃ (j:Nat) (ib:Bool),jv = .int .i64 (j:Int)∧bv = .bool ib∧j≤pn∧Hid (ib=true∨∀ (j':Nat) (h:j' < pl.length),j' < j→pl[j']≠⟨on,os⟩)∧Hid (KB v1.heap.size v1 tr)) (fun jv _ _=>pn - (intOf jv).toNat)
     case atStart=>exact ⟨0,false,rfl,rfl,by omega,hid (.inr fun j' h h0=>by omega),hid (zH _)⟩
     case round =>
      (rename World=>tr);obtain ⟨j,ib,rfl,rfl,hj,HIN,HKT⟩:=hrel;(have j0:(0:Int)≤(j:Int):=by omega);by_cases hjt:j < pn
      ·(have j1:(j:Int) < (pn:Int):=by omega);(have hjl:j < pl.length:=by rw [HPN.out]; exact hjt);obtain ⟨rb,ro,hPA2,hrl,r0,r1⟩:=aJ (HP2.out.kb PinAt.stays (zA HKV.out HKT.out)) hjl;subst hPA2;have HR0:=hid r0;have HR1:=hid r1;have HRL:=hid hrl;clear r0 r1 hrl;(go_upto_region 13 with fail);have hS:KB tr.heap.size tr tr.drew:=zM (zH _);cases ib
       ·have HIN2:=hid (HIN.out.resolve_left (by simp))
        have HEQ:=hid (show ∀ x:PinL,x=pl[j]→(x≠⟨on,os⟩)→∀ (j':Nat) (h:j' < pl.length),j' < j+1→pl[j']≠⟨on,os⟩ from fun x hx hne j' h h1=>by
         by_cases hjj:j'=j
         ·subst hjj; rw [← hx]; exact hne
         ·exact HIN2.out j' h (by omega))
        obtain ⟨x,hx⟩:∃ x,x=pl[j]:=⟨_,rfl⟩;have HE2:=hid (HEQ.out x hx);rw [← hx] at HR0 HR1;clear hx HEQ HIN2 HIN;obtain ⟨xn,xs⟩:=x;dsimp only at HR0 HR1;(refine wpS (fun u=>KB tr.heap.size tr u) (.last [0,1,2,3,4,5,6,7,8,9]) fun iS=>?_);(have r0:=fun (z:SW fun u=>KB tr.heap.size tr u)=>zU HRL.out z.ok HR0.out);(have r1:=fun (z:SW fun u=>KB tr.heap.size tr u)=>zU HRL.out z.ok HR1.out);(have rl:=fun (z:SW fun u=>KB tr.heap.size tr u)=>Nat.lt_of_lt_of_le HRL.out z.ok.size);(have g0:=fun (z:SW fun u=>KB tr.heap.size tr u)=>(HG.out.kb (zA HKT.out z.ok)).2 0 (.string on) rfl);(have g1:=fun (z:SW fun u=>KB tr.heap.size tr u)=>(HG.out.kb (zA HKT.out z.ok)).2 1 (.string os) rfl);(have gl:=fun (z:SW fun u=>KB tr.heap.size tr u)=>(HG.out.kb (zA HKT.out z.ok)).1);cases n1:(xn.toList==on.toList)
        ·have HN:=hid (HE2.out fun h=>by injection h with h1 h2; rw [h1] at n1; simp at n1);(with_reducible refine zJ ?_);simp only [zB,pka,pkb,pkc,pkd,pke,pkf];(repeat go_big_quiet_step (fail));refine wpQuiet_nil ?_;clear r0 r1 rl g0 g1 gl iS n1;(go_wp2_with fail);go_roundw
         case rel=>exact ⟨j+1,false,by go_num,rfl,by omega,hid (.inr HN.out),hid (zA HKT.out hS)⟩
         case measure=>simp [intOf]<;>omega
        ·cases n2:(xs.toList==os.toList)
         ·have HN:=hid (HE2.out fun h=>by injection h with h1 h2; rw [h2] at n2; simp at n2);(with_reducible refine zJ ?_);simp only [zB,pka,pkb,pkc,pkd,pke,pkf];(repeat go_big_quiet_step (fail));refine wpQuiet_nil ?_;clear r0 r1 rl g0 g1 gl iS n1 n2;(go_wp2_with fail);go_roundw
          case rel=>exact ⟨j+1,false,by go_num,rfl,by omega,hid (.inr HN.out),hid (zA HKT.out hS)⟩
          case measure=>simp [intOf]<;>omega
         ·(with_reducible refine zJ ?_);simp only [zB,pka,pkb,pkc,pkd,pke,pkf];(repeat go_big_quiet_step (fail));refine wpQuiet_nil ?_;clear r0 r1 rl g0 g1 gl iS n1 n2;(go_wp2_with fail);go_roundw
          case rel=>exact ⟨j+1,true,by go_num,rfl,by omega,hid (.inl rfl),hid (zA HKT.out hS)⟩
          case measure=>simp [intOf]<;>omega
       ·(refine wpS (fun u=>KB tr.heap.size tr u) (.last [0,1,2,3,4,5,6,7,8,9]) fun iS=>?_);(with_reducible refine zJ ?_);simp only [zB,pka,pkb,pkc,pkd,pke,pkf];(repeat go_big_quiet_step (fail));refine wpQuiet_nil ?_;clear iS;(go_wp2_with fail);go_roundw
        case rel=>exact ⟨j+1,true,by go_num,rfl,by omega,hid (.inl rfl),hid (zA HKT.out hS)⟩
        case measure=>simp [intOf]<;>omega
      ·(obtain rfl:j=pn:=by omega);have j1:¬ (j:Int) < (j:Int):=by omega
       have HIB:=hid (show e=0→ib=true from fun h0=>by
        rcases HIN.out with h | h
        ·exact h
        ·obtain ⟨⟨j',hj',he⟩,-⟩:=HOK1.out h0
         exact absurd he (h j' hj' (by rw [← HPN.out]; exact hj')))
       have HNO:=hid (fun (h0:e=0)=>(HOK1.out h0).2);clear HIN;(go_upto_block 6 with fail);(go_wp2_with fail);go_loopw [12,10] (fun av ov sr=>∃ (a:Nat) (ob:Bool),av = .int .i64 (a:Int)∧ov = .bool ob∧a≤3∧Hid (e=0→ob=false)∧Hid (KB v1.heap.size v1 sr)) (fun av _ _=>3 - (intOf av).toNat)
       case atStart=>exact ⟨0,false,rfl,rfl,by omega,hid (fun _=>rfl),HKT⟩
       case round =>
        clear HKT;(rename World=>sr);obtain ⟨a,ob,rfl,rfl,ha,HOB,HKA⟩:=hrel;(have a0:(0:Int)≤(a:Int):=by omega);by_cases hat:a < 3
        ·(have a1:(a:Int) < 3:=by omega);(have hal:a < ls.length:=by rw [HL3.out]; exact hat);obtain ⟨mb2,mo2,hd2,hM2,hml2,hcm2⟩:=man_at HM2.out hal;(injection hM2 with hM2);(injection hM2 with h1 h2 h3);subst h1; subst h2;clear h3;have HNA:=hid (fun (h0:e=0) (b:Nat) (hb:b < ls[a].pins.length)=>HNO.out h0 a b hal hb);have HPZ:=hid hml2.pins;obtain ⟨nz,hnz⟩:∃ n,ls[a].pins.length=n:=⟨_,rfl⟩;(have hnz1:nz≤1:=by rw [← hnz]; exact (HX.out _ (List.getElem_mem hal)).2);have HD9:=hid (show w2.cell? ⟨mb,mo+a * 11+9,none⟩=some (.slice hd2.P nz hd2.cp) from by rw [← hnz]; exact hcm2.c9);have HNZ:=hid hnz;clear hnz hml2 hcm2;(go_upto_block 8 with fail);(go_wp2_with fail);go_loopw [13,10] (fun bv ov qr=>∃ (b:Nat) (ob:Bool),bv = .int .i64 (b:Int)∧ov = .bool ob∧b≤nz∧Hid (e=0→ob=false)∧Hid (KB v1.heap.size v1 qr)) (fun bv _ _=>nz - (intOf bv).toNat)
         case atStart=>exact ⟨0,ob,rfl,rfl,by omega,HOB,HKA⟩
         case round =>
          clear HOB HKA;(rename World=>qr);obtain ⟨b,ob2,rfl,rfl,hb,HOB,HKB⟩:=hrel;(have b0:(0:Int)≤(b:Int):=by omega);have d9:=zU HML.out (zA HKV.out HKB.out) HD9.out;have dl:mb < qr.heap.size:=Nat.lt_of_lt_of_le HML.out (zA HKV.out HKB.out).size;by_cases hbt:b < nz
          ·(have b1:(b:Int) < (nz:Int):=by omega);(have hbl:b < ls[a].pins.length:=by rw [HNZ.out]; exact hbt);obtain ⟨rb,ro,hPA2,hrl,r0,r1⟩:=aJ (HPZ.out.kb PinAt.stays (zA HKV.out HKB.out)) hbl;rw [hPA2] at d9;have HNB:=hid (fun (h0:e=0)=>HNA.out h0 b hbl);obtain ⟨z,hz⟩:∃ z,z=ls[a].pins[b]:=⟨_,rfl⟩;rw [← hz] at HNB r0 r1;clear hz;obtain ⟨zn2,zs2⟩:=z;dsimp only at r0 r1 HNB;have HR0:=hid r0;have HR1:=hid r1;have HRL:=hid hrl;have HD:=hid d9;have HDL:=hid dl;clear r0 r1 hrl;have hS:KB qr.heap.size qr qr.drew:=zM (zH _);(go_upto_region 20 with fail);clear d9 dl;(refine wpS (fun u=>KB qr.heap.size qr u) (.last [0,1,2,3,4,5,6,7,8,9,10,11,12,13,14,15,16,17,18,19,20,21,22,23,24,25,26,27,28,29]) fun iS=>?_);(have d9:=fun (z:SW fun u=>KB qr.heap.size qr u)=>zU HDL.out z.ok HD.out);(have dl:=fun (z:SW fun u=>KB qr.heap.size qr u)=>Nat.lt_of_lt_of_le HDL.out z.ok.size);(have r0:=fun (z:SW fun u=>KB qr.heap.size qr u)=>zU HRL.out z.ok HR0.out);(have r1:=fun (z:SW fun u=>KB qr.heap.size qr u)=>zU HRL.out z.ok HR1.out);(have rl:=fun (z:SW fun u=>KB qr.heap.size qr u)=>Nat.lt_of_lt_of_le HRL.out z.ok.size);(have g0:=fun (z:SW fun u=>KB qr.heap.size qr u)=>(HG.out.kb (zA HKB.out z.ok)).2 0 (.string on) rfl);(have g1:=fun (z:SW fun u=>KB qr.heap.size qr u)=>(HG.out.kb (zA HKB.out z.ok)).2 1 (.string os) rfl);have gl:=fun (z:SW fun u=>KB qr.heap.size qr u)=>(HG.out.kb (zA HKB.out z.ok)).1
           cases ob2
           ·cases n1:(zn2.toList==on.toList)
            ·(with_reducible refine zJ ?_);simp only [zB,pka,pkb,pkc,pkd,pke,pkf];(repeat go_big_quiet_step (fail));refine wpQuiet_nil ?_;clear d9 dl r0 r1 rl g0 g1 gl iS n1;(go_wp2_with fail);go_roundw
             case rel=>exact ⟨b+1,false,by go_num,rfl,by omega,hid (fun _=>rfl),hid (zA HKB.out hS)⟩
             case measure=>simp [intOf]<;>omega
            ·cases n2:(zs2.toList==os.toList)
             ·have n3:(zs2.toList != os.toList)=true:=by rw [bne,n2]; rfl
              have HE3:=hid (show e=0→true=false from fun h0=>by
               have h:=HNB.out h0 (toL_inj n1);rw [h] at n2
               simp at n2)
              (with_reducible refine zJ ?_);simp only [zB,pka,pkb,pkc,pkd,pke,pkf];(repeat go_big_quiet_step (fail));refine wpQuiet_nil ?_;clear d9 dl r0 r1 rl g0 g1 gl iS n1 n2 n3;(go_wp2_with fail);go_roundw
              case rel=>exact ⟨b+1,true,by go_num,rfl,by omega,hid (fun h0=>absurd (HE3.out h0) (by simp)),hid (zA HKB.out hS)⟩
              case measure=>simp [intOf]<;>omega
             ·(have n3:(zs2.toList != os.toList)=false:=by rw [bne,n2]; rfl);(with_reducible refine zJ ?_);simp only [zB,pka,pkb,pkc,pkd,pke,pkf];(repeat go_big_quiet_step (fail));refine wpQuiet_nil ?_;clear d9 dl r0 r1 rl g0 g1 gl iS n1 n2 n3;(go_wp2_with fail);go_roundw
              case rel=>exact ⟨b+1,false,by go_num,rfl,by omega,hid (fun _=>rfl),hid (zA HKB.out hS)⟩
              case measure=>simp [intOf]<;>omega
           ·(with_reducible refine zJ ?_);simp only [zB,pka,pkb,pkc,pkd,pke,pkf];(repeat go_big_quiet_step (fail));refine wpQuiet_nil ?_;clear d9 dl r0 r1 rl g0 g1 gl iS;(go_wp2_with fail);go_roundw
            case rel=>exact ⟨b+1,true,by go_num,rfl,by omega,HOB,hid (zA HKB.out hS)⟩
            case measure=>simp [intOf]<;>omega
          ·(obtain rfl:b=nz:=by omega);(have b1:¬ (b:Int) < (b:Int):=by omega);(go_wp2_with fail);go_roundw
           case rel=>exact ⟨a+1,ob2,by go_num,rfl,by omega,HOB,HKB⟩
           case measure=>simp [intOf]<;>omega
        ·(obtain rfl:a=3:=by omega);(have a1:¬ ((3:Nat):Int) < 3:=by omega);by_cases he:e=0
         ·have hib:=HIB.out he;have hob:=HOB.out he;subst he;subst hib;subst hob;(go_wp2_with fail);go_roundw
          case rel=>exact ⟨k+1,by go_num,by omega,hid (zA HKV.out HKA.out)⟩
          case measure=>simp [intOf]<;>omega
         ·(have e0:(e==0)=false:=by rw [beq_eq_false_iff_ne]; exact he);(go_wp2_with fail);go_roundw
          case rel=>exact ⟨k+1,by go_num,by omega,hid (zA HKV.out HKA.out)⟩
          case measure=>simp [intOf]<;>omega
    ·(obtain rfl:k=np:=by omega);(have k1:¬ (k:Int) < (k:Int):=by omega);(go_wp2_with fail);go_roundw
     case rel=>exact ⟨i+1,by go_num,by omega,HKK⟩
     case measure=>simp [intOf]<;>omega
  ·(obtain rfl:i=3:=by omega);(have i1:¬ ((3:Nat):Int) < 3:=by omega);(go_upto_block 10 with fail);(go_wp2_with fail);go_loopw [14] (fun jv tr=>∃ j:Nat,jv = .int .i64 (j:Int)∧1≤j∧(j≤pn∨j=1)∧Hid (KB w2.heap.size w2 tr)) (fun jv _=>pn - (intOf jv).toNat)
   case atStart=>exact ⟨1,rfl,by omega,.inr rfl,HKI⟩
   case round =>
    clear HKI;(rename World=>tr);obtain ⟨j,rfl,hj1,hj2,HKT⟩:=hrel;by_cases hjt:j < pn
    ·(have j0:(0:Int)≤(j:Int):=by omega);(have j1:(j:Int) < (pn:Int):=by omega);obtain ⟨j',rfl⟩:∃ j',j=j'+1:=⟨j - 1,by omega⟩;(have hjl:j'+1 < pl.length:=by rw [HPN.out]; exact hjt);have hjm:j' < pl.length:=Nat.lt_of_succ_lt hjl;have HRJ:=hid (HRI.out j' hjl);obtain ⟨rb,ro,hPA,hrl,r0,-⟩:=aJ (HP2.out.kb PinAt.stays HKT.out) hjm;obtain ⟨rb2,ro2,hPA2,-,t0,-⟩:=aJ (HP2.out.kb PinAt.stays HKT.out) hjl;subst hPA;(injection hPA2 with hPA2);(injection hPA2 with h1 h2 h3);subst h1; subst h2;clear h3;have HR0:=hid r0;have HR1:=hid t0;have HRL:=hid hrl;clear r0 t0 hrl;have ec:(((j'+1:Nat):Int))=(j':Int)+1:=rfl;(have w1:IntKind.i64.wrap ((j':Int)+1 - 1)=(j':Int):=by rw [show (j':Int)+1 - 1=(j':Int) by omega]; exact IntWalk.i64_in _ (by omega));(have j2:(0:Int)≤(j':Int):=by omega);(have j3:(j':Int) < (pn:Int):=by omega);(have j4:(j':Int)+1 < (pn:Int):=by omega);(have j5:(0:Int)≤(j':Int)+1:=by omega);generalize pl[j']=x at *;generalize pl[j'+1]=y at *;have n1:Op.bytesLess x.name.toList y.name.toList=true:=HRJ.out;have HN1:=hid n1;have hS:KB tr.heap.size tr tr.drew:=zM (zH _);clear HRJ;rw [ec];clear ec;(go_upto_region 26 with fail);(refine wpS (fun u=>KB tr.heap.size tr u) (.last [0,1,2,3,4,5,6,7,8,9,10,11]) fun iS=>?_);have r0:=fun (z:SW fun u=>KB tr.heap.size tr u)=>zU HRL.out z.ok HR0.out
     (have t0:=fun (z:SW fun u=>KB tr.heap.size tr u)=>zU HRL.out z.ok HR1.out);(have rl:=fun (z:SW fun u=>KB tr.heap.size tr u)=>Nat.lt_of_lt_of_le HRL.out z.ok.size);(with_reducible refine zJ ?_);simp only [zB,pka,pkb,pkc,pkd,pke,pkf];(repeat go_big_quiet_step (fail));refine wpQuiet_nil ?_;clear r0 t0 rl iS n1;(go_wp2_with fail);go_roundw
     case rel=>exact ⟨j'+1+1,by go_num,by omega,.inl (by omega),hid (zA HKT.out hS)⟩
     case measure=>simp [intOf]<;>omega
    ·(have j1:¬ (j:Int) < (pn:Int):=by omega);have HBT:=hid (zA HB2.out HKT.out);rcases HEN.out with he | ⟨he,hp0⟩
     ·subst he;(go_wp2_with fail);refine (CA.out _ HBT.out).mono ?_;rintro _ u1 ⟨rfl,hb⟩;have HBX:=hid (zA HBT.out hb);clear hb;(go_wp2_with fail);(try rw [Exit.noGoto_ret]);(try (first | go_ret | go_ret2));exact ⟨rfl,HBX.out⟩
     ·subst he;subst hp0;(go_wp2_with fail);refine (CA.out _ HBT.out).mono ?_;rintro _ u1 ⟨rfl,hb⟩;have HBX:=hid (zA HBT.out hb);clear hb;(go_wp2_with fail);(try rw [Exit.noGoto_ret]);(try (first | go_ret | go_ret2));exact ⟨rfl,HBX.out⟩
end Go.Proofs.YtiffijoenkcpjaaGreatDoor
