import Derived.Test.YtiebekmefjbenaaGreatDoorZKz
import Derived.Test.YtiebekmefjbenaaGreatDoorZLb
set_option linter.unusedVariables false
set_option linter.unusedSimpArgs false
set_option maxRecDepth 100000
set_option maxHeartbeats 2000000
namespace Go.Proofs.YtiebekmefjbenaaGreatDoor
open Go.RowKit Go.Lib
open Rw
theorem Yf {α:Type} {n:Nat} {At:World→Nat→Nat→α→Prop} {w:World} {A:Option Addr} {l:List α} (h:RowOf n At w A l) (k:Nat):RowOf n At w A (l.take k):=by
 rcases h with h | ⟨b,off,h1,h2,h3⟩
 ·exact .inl (by rw [h]; simp)
 ·refine .inr ⟨b,off,h1,h2,fun i hi=>?_⟩;(have hi':i < l.length:=by rw [List.length_take] at hi; omega);rw [List.getElem_take];exact h3 i hi'
structure EntsOk (l:List EntryL):Prop where
 fit:∀ x∈l,x.rc.v.fit
 small:∀ x∈l,∀ f∈x.rc.feats,yP f
 len:l.length≤9223372036854775807
theorem VS {s:ShelfL} (h:zg (bts s.name)=false):zQ z7 s=false:=by rw [zQ,h]; rfl
theorem Ww {s:ShelfL} (h:64 < s.entries.length):zQ z7 s=false:=by rw [zQ,decide_eq_false (by omega)]; simp
theorem VN {s:ShelfL} (h:zg (bts s.name)=true) (h2:s.entries.length≤64):zQ z7 s=yA z7 [] s.entries:=by rw [zQ,h,decide_eq_true h2]; rfl
theorem W2 {a:List EntryL} {x:EntryL} {m e:Int} (h:vo z7 x.rc=(m,e)) (h2:e≠0):wD z7 a x=false:=by
 rw [wD,h,decide_eq_false (by intro k; injection k with k1 k2; exact h2 k2)]; rfl
theorem Ws {a:List EntryL} {x:EntryL} {m e:Int} (h:vo z7 x.rc=(m,e)) (h2:m≠x.sum):wD z7 a x=false:=by
 rw [wD,h,decide_eq_false (by intro k; injection k with k1 k2; exact h2 k1)]; rfl
theorem Vf {a:List EntryL} {x:EntryL} {m e:Int} (h:vo z7 x.rc=(m,e)) (h2:m=x.sum) (h3:e=0):wD z7 a x=decide (zi (bts x.rc.name) x.rc.v 0 a < 0):=by
 rw [wD,h,decide_eq_true (by rw [h2,h3])]; rfl
theorem kr (s:ShelfL) (A:Option Addr) (c:Nat) (w:World) (hL:Laid w) (hE:yL w A s.entries) (hok:EntsOk s.entries) (hc:s.entries.length≤c):Calls Tryz.prog 11 #[s.val A c] w (yT w (zQ z7 s)):=by
 have HNM:=hid (fun u=>vS s.name u);have HE:=hid hE;have HSM:=hid (fun (x:EntryL) (h:RecH) u (hb:KB w.heap.size w u) hx hf hs=>XG x.rc h u (hL.kb hb) hx hf hs);have M1:=hid (fun h=>VS (s:=s) h);have M2:=hid (fun h=>Ww (s:=s) h);have M3:=hid (fun h h2=>VN (s:=s) h h2);have HFI:=hid hok.fit;have HFS:=hid hok.small;have hln:=hok.len;clear hL hE hok;generalize zQ z7 s=res at *;obtain ⟨snm,l⟩:=s;dsimp only [ShelfL.val] at *;generalize hnn:l.length=n at *;have HN:=hid hnn;clear hnn;go_enter Tryz.func11,Tryz.ntmps11;(go_upto_region 1 with fail);refine zI ?_;intro u1 hu;have HX:=hid (show Box u1 w.heap.size [.string snm,.slice A n c] by rw [hu]; exact Box.new w [.string snm,.slice A n c] 25);have HB1:=hid (show KB w.heap.size w u1 by rw [hu]; exact zG _ _);clear hu;have x0:=HX.out.2 0 _ rfl;have xl:=HX.out.1;cases hnm:zg (bts snm)
 ·have HV:=hid (M1.out hnm);rw [hnm] at HNM;clear hnm;(go_wp2_with fail);refine (HNM.out _).mono ?_;rintro _ u2 ⟨rfl,hb⟩;have HB2:=hid (zA HB1.out hb.kb);clear hb x0 xl;(go_wp2_with fail);(try rw [Exit.noGoto_ret]);(try go_ret);exact ⟨by rw [HV.out]<;>rfl,HB2.out⟩
 ·rw [hnm] at HNM;have HN1:=hid hnm;clear hnm;(go_wp2_with fail);refine (HNM.out _).mono ?_;rintro _ u2 ⟨rfl,hb⟩;have HB2:=hid (zA HB1.out hb.kb);replace HX:=hid (HX.out.kb hb.kb);clear hb x0 xl;have x1:=HX.out.2 1 _ rfl;have xl:=HX.out.1;by_cases h64:64 < n
  ·have HV:=hid (M2.out h64);(have i1:decide ((64:Int) < (n:Int))=true:=by rw [decide_eq_true_iff]; omega);clear h64;(go_wp2_with fail);(try rw [Exit.noGoto_ret]);(try go_ret);exact ⟨by rw [HV.out]<;>rfl,HB2.out⟩
  ·have HV:=hid (M3.out HN1.out (by omega));(have i1:decide ((64:Int) < (n:Int))=false:=by rw [decide_eq_false_iff_not]; omega);clear h64 M1 M2 M3 HN1;(go_upto_block 0 with fail);(go_wp2_with fail);go_loopw [20] (fun i wr=>∃ k:Nat,i = .int .i64 (k:Int)∧k≤n∧Hid (res=yA z7 (l.take k) (l.drop k))∧Hid (KB u2.heap.size u2 wr)) (fun i _=>n - (intOf i).toNat)
   case atStart=>exact ⟨0,rfl,Nat.zero_le _,hid (by rw [HV.out]; simp),hid (zH _)⟩
   case round =>
    obtain ⟨k,rfl,hk,HD,HB⟩:=hrel;have HBW:=hid (zA HB2.out HB.out);have HXW:=hid (HX.out.kb HB.out);clear x1 xl;have x1:=HXW.out.2 1 _ rfl;have xl:=HXW.out.1;by_cases hlt:k < n
    ·(have hlt':k < l.length:=by rw [HN.out]; exact hlt);obtain ⟨b,off,hd,hA,hrl,⟨c0,c1,c2,c3,c4,c5,c6,c7,c8,c9,c10,cl⟩⟩:=v7 (HE.out.kb EntryAt.stays HBW.out) hlt';subst hA;have HS:=hid (qI (sumB:=z7) hlt');have HRL:=hid hrl;have hfi:=HFI.out _ (List.getElem_mem hlt');have hfs:=HFS.out _ (List.getElem_mem hlt');have HPL:=hid (fun u (hb:KB w.heap.size w u) nm v (hv:v.fit)=>cA (some ⟨b,off,none⟩) k (l.take k) nm v u (Yf (HE.out.kb EntryAt.stays hb) k) (by rw [List.length_take]; omega) (fun x hx=>HFI.out x (List.mem_of_mem_take hx)) hv);rw [List.length_take,HN.out,Nat.min_eq_left (Nat.le_of_lt hlt)] at HPL;have HEO:=hid (fun (m e:Int) (h:vo z7 l[k].rc=(m,e)) h2 h3=>Vf (a:=l.take k) h h2 h3);have HE1:=hid (fun (m e:Int) (h:vo z7 l[k].rc=(m,e)) h2=>W2 (a:=l.take k) h h2);have HE2:=hid (fun (m e:Int) (h:vo z7 l[k].rc=(m,e)) h2=>Ws (a:=l.take k) h h2);(have k0:(0:Int)≤(k:Int):=by omega);(have k1:(k:Int) < (n:Int):=by omega);clear hrl;generalize l[k]=x at *;have HCS:=hid (fun u (hb:KB wr.heap.size wr u)=>HSM.out x hd u (zA HBW.out hb) (HRL.out.kb hb) hfi hfs);replace HPL:=hid (fun u (hb:KB wr.heap.size wr u)=>HPL.out u (zA HBW.out hb) x.rc.name x.rc.v hfi);clear hfi hfs;generalize hey:wD z7 (l.take k) x=eo at *;clear hey;generalize zi (bts x.rc.name) x.rc.v 0 (l.take k)=pl at *;unfold X5 at HCS
     generalize vo z7 x.rc=sr at *;obtain ⟨sm,se⟩:=sr;obtain ⟨⟨rn,rv,rne,rba,rfe⟩,rs,ry⟩:=x;dsimp only [RecL.val] at c0 c1 c2 c3 c4 c5 c6 c7 c8 c9 c10 HCS HPL HEO HE1 HE2;clear HRL;generalize rne.length=n1 at *;generalize rba.length=n2 at *;generalize rfe.length=n3 at *;(go_upto_region 6 with fail);refine zI ?_;intro u4 hu;have HY:=hid (show Box u4 wr.heap.size [.string rn,.int .i64 rv.maj,.int .i64 rv.min,.int .i64 rv.pat,.string rv.pre,.string rv.bld,.slice hd.A n1 hd.ca,.slice hd.B n2 hd.cb,.slice hd.F n3 hd.cf,.int .u64 rs,.bool ry] by rw [hu]; exact Box.new wr [.string rn,.int .i64 rv.maj,.int .i64 rv.min,.int .i64 rv.pat,.string rv.pre,.string rv.bld,.slice hd.A n1 hd.ca,.slice hd.B n2 hd.cb,.slice hd.F n3 hd.cf,.int .u64 rs,.bool ry] 55);have HB4:=hid (show KB wr.heap.size wr u4 by rw [hu]; exact zG _ _);clear hu c0 c1 c2 c3 c4 c5 c6 c7 c8 c9 c10 cl x1 xl;have HCU:=hid (HCS.out u4 HB4.out);have HPU:=hid (fun u (hb:KB u4.heap.size u4 u)=>HPL.out u (zA HB4.out hb));have HB14:=hid (zA HB.out HB4.out);have HBW4:=hid (zA HBW.out HB4.out);have HX4:=hid (HXW.out.kb HB4.out);clear HPL;generalize wr.heap.size=gq at *;have y0:=HY.out.2 0 _ rfl;have y1:=HY.out.2 1 _ rfl;have y2:=HY.out.2 2 _ rfl;have y3:=HY.out.2 3 _ rfl;have y4:=HY.out.2 4 _ rfl;have y5:=HY.out.2 5 _ rfl;have y6:=HY.out.2 6 _ rfl;have y7:=HY.out.2 7 _ rfl;have y8:=HY.out.2 8 _ rfl;have yl:=HY.out.1
     clear HCS;(go_wp2_with fail);refine HCU.out.mono ?_;rintro _ u5 ⟨rfl,hb⟩;have HB5:=hid (zA HB14.out hb);have HBW5:=hid (zA HBW4.out hb);have HY5:=hid (HY.out.kb hb);have HX5:=hid (HX4.out.kb hb);have HP5:=hid (fun u (hk:KB u5.heap.size u5 u)=>HPU.out u (zA hb hk));clear hb y0 y1 y2 y3 y4 y5 y6 y7 y8 yl HPU HCU HX4 HY HXW;by_cases h0:se=0
     ·(have e0:(se != 0)=false:=by rw [h0]; rfl);by_cases h1:sm=rs
      ·(have e1:(sm != rs)=false:=by rw [h1]; simp);(have e2:(sm==rs)=true:=by rw [h1]; simp);have HQ0:=hid h0;have HQ1:=hid h1;clear h0 h1;(have hkc:(k:Int)≤(c:Int):=by omega);(go_upto_region 7 with fail);have hS:KB u5.heap.size u5 u5.drew:=zM (zH _);have HB6:=hid (zA HB5.out hS);have HBW6:=hid (zA HBW5.out hS);(refine wpS (fun u=>KB u5.heap.size u5 u) (.call [0,1,2,3,4,5,6,7,8,9,10,11,12,13,14,15,16,17,18,19] 20 (.last [21,22])) fun iS=>?_);(have y0:=fun (z:SW fun u=>KB u5.heap.size u5 u)=>(HY5.out.kb z.ok).2 0 (.string rn) rfl);(have y1:=fun (z:SW fun u=>KB u5.heap.size u5 u)=>(HY5.out.kb z.ok).2 1 (.int .i64 rv.maj) rfl);(have y2:=fun (z:SW fun u=>KB u5.heap.size u5 u)=>(HY5.out.kb z.ok).2 2 (.int .i64 rv.min) rfl);(have y3:=fun (z:SW fun u=>KB u5.heap.size u5 u)=>(HY5.out.kb z.ok).2 3 (.int .i64 rv.pat) rfl);(have y4:=fun (z:SW fun u=>KB u5.heap.size u5 u)=>(HY5.out.kb z.ok).2 4 (.string rv.pre) rfl);(have y5:=fun (z:SW fun u=>KB u5.heap.size u5 u)=>(HY5.out.kb z.ok).2 5 (.string rv.bld) rfl);(have y9:=fun (z:SW fun u=>KB u5.heap.size u5 u)=>(HY5.out.kb z.ok).2 9 (.int .u64 rs) rfl);(have yl:=fun (z:SW fun u=>KB u5.heap.size u5 u)=>(HY5.out.kb z.ok).1);(have x1:=fun (z:SW fun u=>KB u5.heap.size u5 u)=>(HX5.out.kb z.ok).2 1 (.slice (some ⟨b,off,none⟩) n c) rfl);have xl:=fun (z:SW fun u=>KB u5.heap.size u5 u)=>(HX5.out.kb z.ok).1
       by_cases hp:pl < 0
       ·(have hp1:¬ (0:Int)≤pl:=by omega);have HF:=hid (show eo=true by rw [HEO.out sm se rfl HQ1.out HQ0.out,decide_eq_true hp]);clear hp;(with_reducible refine zD ?_);simp only [zB,pka,pkb,pkc,pkd,pke,pkf];(repeat go_big_quiet_step (fail));refine wpQuiet_nil ?_;(go_wp2_with fail);refine (HP5.out _ hS).mono ?_;rintro _ u6 ⟨rfl,hb⟩;have HB7:=hid (show KB u5.heap.size u5 u6 from Go.RowKit.Below.trans hS hb);clear hb;(go_wp2_with fail);refine zE (HB7.out) ?_;(with_reducible refine zJ ?_);simp only [zB,pka,pkb,pkc,pkd,pke,pkf];(repeat go_big_quiet_step (fail));refine wpQuiet_nil ?_;clear y0 y1 y2 y3 y4 y5 y9 yl x1 xl iS;clear hS;(go_wp2_with fail);go_roundw
        case rel=>exact ⟨k+1,by go_num,by omega,hid (by rw [HD.out,HS.out,HF.out,Bool.true_and]),hid (zA HB5.out HB7.out)⟩
        case measure=>simp [intOf]<;>omega
       ·(have hp1:(0:Int)≤pl:=by omega);have HF:=hid (show eo=false by rw [HEO.out sm se rfl HQ1.out HQ0.out,decide_eq_false hp]);clear hp;have HV:=hid (show res=false by rw [HD.out,HS.out,HF.out]; rfl);(with_reducible refine zD ?_);simp only [zB,pka,pkb,pkc,pkd,pke,pkf];(repeat go_big_quiet_step (fail));refine wpQuiet_nil ?_;(go_wp2_with fail);refine (HP5.out _ hS).mono ?_;rintro _ u6 ⟨rfl,hb⟩;have HB7:=hid (show KB u5.heap.size u5 u6 from Go.RowKit.Below.trans hS hb);clear hb;(go_wp2_with fail);refine zE (HB7.out) ?_;(with_reducible refine zJ ?_);simp only [zB,pka,pkb,pkc,pkd,pke,pkf];(repeat go_big_quiet_step (fail));refine wpQuiet_nil ?_;clear y0 y1 y2 y3 y4 y5 y9 yl x1 xl iS;clear hS;have HBW7:=hid (zA HBW5.out HB7.out);(go_wp2_with fail);(try rw [Exit.noGoto_ret]);(try go_ret);exact ⟨by rw [HV.out]<;>rfl,HBW7.out⟩
      ·(have e1:(sm != rs)=true:=by rw [bne_iff_ne]; exact h1);(have e2:(sm==rs)=false:=by rw [beq_eq_false_iff_ne]; exact h1);have HF:=hid (HE2.out sm se rfl h1);clear h0 h1;have HV:=hid (show res=false by rw [HD.out,HS.out,HF.out]; rfl);(go_upto_region 7 with fail);have hS:KB u5.heap.size u5 u5.drew:=zM (zH _);have HB6:=hid (zA HB5.out hS);have HBW6:=hid (zA HBW5.out hS);(refine wpS (fun u=>KB u5.heap.size u5 u) (.call [0,1,2,3,4,5,6,7,8,9,10,11,12,13,14,15,16,17,18,19] 20 (.last [21,22])) fun iS=>?_);(have y0:=fun (z:SW fun u=>KB u5.heap.size u5 u)=>(HY5.out.kb z.ok).2 0 (.string rn) rfl);(have y1:=fun (z:SW fun u=>KB u5.heap.size u5 u)=>(HY5.out.kb z.ok).2 1 (.int .i64 rv.maj) rfl);(have y2:=fun (z:SW fun u=>KB u5.heap.size u5 u)=>(HY5.out.kb z.ok).2 2 (.int .i64 rv.min) rfl);(have y3:=fun (z:SW fun u=>KB u5.heap.size u5 u)=>(HY5.out.kb z.ok).2 3 (.int .i64 rv.pat) rfl);(have y4:=fun (z:SW fun u=>KB u5.heap.size u5 u)=>(HY5.out.kb z.ok).2 4 (.string rv.pre) rfl);(have y5:=fun (z:SW fun u=>KB u5.heap.size u5 u)=>(HY5.out.kb z.ok).2 5 (.string rv.bld) rfl);(have y9:=fun (z:SW fun u=>KB u5.heap.size u5 u)=>(HY5.out.kb z.ok).2 9 (.int .u64 rs) rfl);(have yl:=fun (z:SW fun u=>KB u5.heap.size u5 u)=>(HY5.out.kb z.ok).1);(have x1:=fun (z:SW fun u=>KB u5.heap.size u5 u)=>(HX5.out.kb z.ok).2 1 (.slice (some ⟨b,off,none⟩) n c) rfl);have xl:=fun (z:SW fun u=>KB u5.heap.size u5 u)=>(HX5.out.kb z.ok).1
       (with_reducible refine zD ?_);simp only [zB,pka,pkb,pkc,pkd,pke,pkf];(repeat go_big_quiet_step (fail));refine wpQuiet_nil ?_;(go_wp2_with fail);refine zE hS ?_;(with_reducible refine zJ ?_);simp only [zB,pka,pkb,pkc,pkd,pke,pkf];(repeat go_big_quiet_step (fail));refine wpQuiet_nil ?_;clear y0 y1 y2 y3 y4 y5 y9 yl x1 xl iS;clear hS;(go_wp2_with fail);(try rw [Exit.noGoto_ret]);(try go_ret);exact ⟨by rw [HV.out]<;>rfl,HBW6.out⟩
     ·(have e0:(se != 0)=true:=by rw [bne_iff_ne]; exact h0);have HF:=hid (HE1.out sm se rfl h0);clear h0;have HV:=hid (show res=false by rw [HD.out,HS.out,HF.out]; rfl);(go_upto_region 7 with fail);have hS:KB u5.heap.size u5 u5.drew:=zM (zH _);have HB6:=hid (zA HB5.out hS);have HBW6:=hid (zA HBW5.out hS);(refine wpS (fun u=>KB u5.heap.size u5 u) (.call [0,1,2,3,4,5,6,7,8,9,10,11,12,13,14,15,16,17,18,19] 20 (.last [21,22])) fun iS=>?_);(with_reducible refine zD ?_);simp only [zB,pka,pkb,pkc,pkd,pke,pkf];(repeat go_big_quiet_step (fail));refine wpQuiet_nil ?_;(go_wp2_with fail);refine zE hS ?_;(with_reducible refine zJ ?_);simp only [zB,pka,pkb,pkc,pkd,pke,pkf];(repeat go_big_quiet_step (fail));refine wpQuiet_nil ?_;clear iS hS;(go_wp2_with fail);(try rw [Exit.noGoto_ret]);(try go_ret);exact ⟨by rw [HV.out]<;>rfl,HBW6.out⟩
    ·(obtain rfl:k=n:=by omega);(have k1:¬ (k:Int) < (k:Int):=by omega);have HV:=hid (show res=true by rw [HD.out,oG (by rw [HN.out]; exact Nat.le_refl _)]);(go_wp2_with fail);(try rw [Exit.noGoto_ret]);(try go_ret);exact ⟨by rw [HV.out]<;>rfl,HBW.out⟩
theorem eZ (s:ShelfL) (A:Option Addr) (c:Nat) (w:World) (hE:yL w A s.entries) (hok:EntsOk s.entries) (hc:s.entries.length≤c):Calls Tryz.prog 60 #[s.val A c] w (yT w (zQ z7 s)):=by
 have HNM:=hid (fun u=>vY s.name u);have HE:=hid hE;have HSM:=hid (fun (x:EntryL) (h:RecH) u (hb:KB w.heap.size w u) hx hf hs=>nS x.rc h u hx hf hs);have M1:=hid (fun h=>VS (s:=s) h);have M2:=hid (fun h=>Ww (s:=s) h);have M3:=hid (fun h h2=>VN (s:=s) h h2);have HFI:=hid hok.fit;have HFS:=hid hok.small;have hln:=hok.len;clear hE hok;generalize zQ z7 s=res at *;obtain ⟨snm,l⟩:=s;dsimp only [ShelfL.val] at *;generalize hnn:l.length=n at *;have HN:=hid hnn;clear hnn;go_enter Tryz.func60,Tryz.ntmps60;(go_upto_region 1 with fail);refine zI ?_;intro u1 hu;have HX:=hid (show Box u1 w.heap.size [.string snm,.slice A n c] by rw [hu]; exact Box.new w [.string snm,.slice A n c] 25);have HB1:=hid (show KB w.heap.size w u1 by rw [hu]; exact zG _ _);clear hu;have x0:=HX.out.2 0 _ rfl;have xl:=HX.out.1;cases hnm:zg (bts snm)
 ·have HV:=hid (M1.out hnm);rw [hnm] at HNM;clear hnm;(go_wp2_with fail);refine (HNM.out _).mono ?_;rintro _ u2 ⟨rfl,hb⟩;have HB2:=hid (zA HB1.out hb.kb);clear hb x0 xl;(go_wp2_with fail);(try rw [Exit.noGoto_ret]);(try go_ret);exact ⟨by rw [HV.out]<;>rfl,HB2.out⟩
 ·rw [hnm] at HNM;have HN1:=hid hnm;clear hnm;(go_wp2_with fail);refine (HNM.out _).mono ?_;rintro _ u2 ⟨rfl,hb⟩;have HB2:=hid (zA HB1.out hb.kb);replace HX:=hid (HX.out.kb hb.kb);clear hb x0 xl;have x1:=HX.out.2 1 _ rfl;have xl:=HX.out.1;by_cases h64:64 < n
  ·have HV:=hid (M2.out h64);(have i1:decide ((64:Int) < (n:Int))=true:=by rw [decide_eq_true_iff]; omega);clear h64;(go_wp2_with fail);(try rw [Exit.noGoto_ret]);(try go_ret);exact ⟨by rw [HV.out]<;>rfl,HB2.out⟩
  ·have HV:=hid (M3.out HN1.out (by omega));(have i1:decide ((64:Int) < (n:Int))=false:=by rw [decide_eq_false_iff_not]; omega);clear h64 M1 M2 M3 HN1;(go_upto_block 0 with fail);(go_wp2_with fail);go_loopw [3] (fun i wr=>∃ k:Nat,i = .int .i64 (k:Int)∧k≤n∧Hid (res=yA z7 (l.take k) (l.drop k))∧Hid (KB u2.heap.size u2 wr)) (fun i _=>n - (intOf i).toNat)
   case atStart=>exact ⟨0,rfl,Nat.zero_le _,hid (by rw [HV.out]; simp),hid (zH _)⟩
   case round =>
    obtain ⟨k,rfl,hk,HD,HB⟩:=hrel;have HBW:=hid (zA HB2.out HB.out);have HXW:=hid (HX.out.kb HB.out);clear x1 xl;have x1:=HXW.out.2 1 _ rfl;have xl:=HXW.out.1;by_cases hlt:k < n
    ·(have hlt':k < l.length:=by rw [HN.out]; exact hlt);obtain ⟨b,off,hd,hA,hrl,⟨c0,c1,c2,c3,c4,c5,c6,c7,c8,c9,c10,cl⟩⟩:=v7 (HE.out.kb EntryAt.stays HBW.out) hlt';subst hA;have HS:=hid (qI (sumB:=z7) hlt');have HRL:=hid hrl;have hfi:=HFI.out _ (List.getElem_mem hlt');have hfs:=HFS.out _ (List.getElem_mem hlt');have HPL:=hid (fun u (hb:KB w.heap.size w u) nm v (hv:v.fit)=>oo (some ⟨b,off,none⟩) c l nm v u (HE.out.kb EntryAt.stays hb) (by rw [HN.out]; exact hln) HFI.out hv);rw [HN.out] at HPL;have HEO:=hid (fun (m e:Int) (h:vo z7 l[k].rc=(m,e)) (h2:m=l[k].sum) (h3:e=0)=>show wD z7 (l.take k) l[k]=decide (zi (bts l[k].rc.name) l[k].rc.v 0 l=(k:Int)) by rw [← Z2 hlt',h,decide_eq_true (by rw [h2,h3]),Bool.true_and]);have HE1:=hid (fun (m e:Int) (h:vo z7 l[k].rc=(m,e)) h2=>W2 (a:=l.take k) h h2);have HE2:=hid (fun (m e:Int) (h:vo z7 l[k].rc=(m,e)) h2=>Ws (a:=l.take k) h h2);(have k0:(0:Int)≤(k:Int):=by omega);(have k1:(k:Int) < (n:Int):=by omega);clear hrl;generalize l[k]=x at *;have HCS:=hid (fun u (hb:KB wr.heap.size wr u)=>HSM.out x hd u (zA HBW.out hb) (HRL.out.kb hb) hfi hfs);replace HPL:=hid (fun u (hb:KB wr.heap.size wr u)=>HPL.out u (zA HBW.out hb) x.rc.name x.rc.v hfi);clear hfi hfs;generalize hey:wD z7 (l.take k) x=eo at *;clear hey;generalize zi (bts x.rc.name) x.rc.v 0 l=pl at *
     unfold X5 at HCS;generalize vo z7 x.rc=sr at *;obtain ⟨sm,se⟩:=sr;obtain ⟨⟨rn,rv,rne,rba,rfe⟩,rs,ry⟩:=x;dsimp only [RecL.val] at c0 c1 c2 c3 c4 c5 c6 c7 c8 c9 c10 HCS HPL HEO HE1 HE2;clear HRL;generalize rne.length=n1 at *;generalize rba.length=n2 at *;generalize rfe.length=n3 at *;(go_upto_region 7 with fail);refine zI ?_;intro u4 hu;have HY:=hid (show Box u4 wr.heap.size [.string rn,.int .i64 rv.maj,.int .i64 rv.min,.int .i64 rv.pat,.string rv.pre,.string rv.bld,.slice hd.A n1 hd.ca,.slice hd.B n2 hd.cb,.slice hd.F n3 hd.cf,.int .u64 rs,.bool ry] by rw [hu]; exact Box.new wr [.string rn,.int .i64 rv.maj,.int .i64 rv.min,.int .i64 rv.pat,.string rv.pre,.string rv.bld,.slice hd.A n1 hd.ca,.slice hd.B n2 hd.cb,.slice hd.F n3 hd.cf,.int .u64 rs,.bool ry] 55);have HB4:=hid (show KB wr.heap.size wr u4 by rw [hu]; exact zG _ _);clear hu c0 c1 c2 c3 c4 c5 c6 c7 c8 c9 c10 cl x1 xl;have HCU:=hid (HCS.out u4 HB4.out);have HPU:=hid (fun u (hb:KB u4.heap.size u4 u)=>HPL.out u (zA HB4.out hb));have HB14:=hid (zA HB.out HB4.out);have HBW4:=hid (zA HBW.out HB4.out);have HX4:=hid (HXW.out.kb HB4.out);clear HPL;generalize wr.heap.size=gq at *;have y0:=HY.out.2 0 _ rfl;have y1:=HY.out.2 1 _ rfl;have y2:=HY.out.2 2 _ rfl;have y3:=HY.out.2 3 _ rfl;have y4:=HY.out.2 4 _ rfl;have y5:=HY.out.2 5 _ rfl;have y6:=HY.out.2 6 _ rfl;have y7:=HY.out.2 7 _ rfl;have y8:=HY.out.2 8 _ rfl
     have yl:=HY.out.1;clear HCS;(go_wp2_with fail);refine HCU.out.mono ?_;rintro _ u5 ⟨rfl,hb⟩;have HB5:=hid (zA HB14.out hb);have HBW5:=hid (zA HBW4.out hb);have HY5:=hid (HY.out.kb hb);have HX5:=hid (HX4.out.kb hb);have HP5:=hid (fun u (hk:KB u5.heap.size u5 u)=>HPU.out u (zA hb hk));clear hb y0 y1 y2 y3 y4 y5 y6 y7 y8 yl HPU HCU HX4 HY HXW;by_cases h0:se=0
     ·(have e0:(se != 0)=false:=by rw [h0]; rfl);by_cases h1:sm=rs
      ·(have e1:(sm != rs)=false:=by rw [h1]; simp);(have e2:(sm==rs)=true:=by rw [h1]; simp);have HQ0:=hid h0;have HQ1:=hid h1;clear h0 h1;have y0:=HY5.out.2 0 _ rfl;have y1:=HY5.out.2 1 _ rfl;have y2:=HY5.out.2 2 _ rfl;have y3:=HY5.out.2 3 _ rfl;have y4:=HY5.out.2 4 _ rfl;have y5:=HY5.out.2 5 _ rfl;have y9:=HY5.out.2 9 _ rfl;have yl:=HY5.out.1;have x1:=HX5.out.2 1 _ rfl;have xl:=HX5.out.1;by_cases hp:pl=(k:Int)
       ·(have hp1:(pl != (k:Int))=false:=by rw [hp]; simp);(have hp2:(pl==(k:Int))=true:=by rw [hp]; simp);have HF:=hid (show eo=true by rw [HEO.out sm se rfl HQ1.out HQ0.out,decide_eq_true hp]);clear hp;(go_wp2_with fail);refine (HP5.out _ (zH _)).mono ?_;rintro _ u6 ⟨rfl,hb⟩;have HB6:=hid (zA HB5.out hb);have HBW6:=hid (zA HBW5.out hb);clear hb;clear y0 y1 y2 y3 y4 y5 y9 yl x1 xl;(go_wp2_with fail);go_roundw
        case rel=>exact ⟨k+1,by go_num,by omega,hid (by rw [HD.out,HS.out,HF.out,Bool.true_and]),HB6⟩
        case measure=>simp [intOf]<;>omega
       ·(have hp1:(pl != (k:Int))=true:=by rw [bne_iff_ne]; exact hp);(have hp2:(pl==(k:Int))=false:=by rw [beq_eq_false_iff_ne]; exact hp);have HF:=hid (show eo=false by rw [HEO.out sm se rfl HQ1.out HQ0.out,decide_eq_false hp]);clear hp;have HV:=hid (show res=false by rw [HD.out,HS.out,HF.out]; rfl);(go_wp2_with fail);refine (HP5.out _ (zH _)).mono ?_;rintro _ u6 ⟨rfl,hb⟩;have HB6:=hid (zA HB5.out hb);have HBW6:=hid (zA HBW5.out hb);clear hb;clear y0 y1 y2 y3 y4 y5 y9 yl x1 xl;(go_wp2_with fail);(try rw [Exit.noGoto_ret]);(try go_ret);exact ⟨by rw [HV.out]<;>rfl,HBW6.out⟩
      ·(have e1:(sm != rs)=true:=by rw [bne_iff_ne]; exact h1);(have e2:(sm==rs)=false:=by rw [beq_eq_false_iff_ne]; exact h1);have HF:=hid (HE2.out sm se rfl h1);clear h0 h1;have HV:=hid (show res=false by rw [HD.out,HS.out,HF.out]; rfl);have y0:=HY5.out.2 0 _ rfl;have y1:=HY5.out.2 1 _ rfl;have y2:=HY5.out.2 2 _ rfl;have y3:=HY5.out.2 3 _ rfl;have y4:=HY5.out.2 4 _ rfl;have y5:=HY5.out.2 5 _ rfl;have y9:=HY5.out.2 9 _ rfl;have yl:=HY5.out.1;have x1:=HX5.out.2 1 _ rfl;have xl:=HX5.out.1;(go_wp2_with fail);(try rw [Exit.noGoto_ret]);(try go_ret);exact ⟨by rw [HV.out]<;>rfl,HBW5.out⟩
     ·(have e0:(se != 0)=true:=by rw [bne_iff_ne]; exact h0);have HF:=hid (HE1.out sm se rfl h0);clear h0;have HV:=hid (show res=false by rw [HD.out,HS.out,HF.out]; rfl);(go_wp2_with fail);(try rw [Exit.noGoto_ret]);(try go_ret);exact ⟨by rw [HV.out]<;>rfl,HBW5.out⟩
    ·(obtain rfl:k=n:=by omega);(have k1:¬ (k:Int) < (k:Int):=by omega);have HV:=hid (show res=true by rw [HD.out,oG (by rw [HN.out]; exact Nat.le_refl _)]);(go_wp2_with fail);(try rw [Exit.noGoto_ret]);(try go_ret);exact ⟨by rw [HV.out]<;>rfl,HBW.out⟩
theorem shfind_any (s:ShelfL) (A:Option Addr) (c:Nat) (nm:ByteArray) (v:Ver) (w:World) (hL:Laid w) (hE:yL w A s.entries) (hok:EntsOk s.entries) (hc:s.entries.length≤c) (hv:v.fit):Calls Tryz.prog 8 #[s.val A c,.string nm,v.val] w (Wf w (findS z7 s (bts nm) v)):=by
 have HM:=hid (fun u (hb:KB w.heap.size w u)=>kr s A c u (hL.kb hb) (hE.kb EntryAt.stays hb) hok hc);have HP:=hid (fun u (hb:KB w.heap.size w u)=>cA A c s.entries nm v u (hE.kb EntryAt.stays hb) hok.len hok.fit hv);have HR:=hid (show findS z7 s (bts nm) v=if zQ z7 s then zi (bts nm) v 0 s.entries else -1 from rfl);clear hL hE hok;generalize findS z7 s (bts nm) v=res at *;generalize zQ z7 s=ms at *;generalize zi (bts nm) v 0 s.entries=pl at *;obtain ⟨snm,l⟩:=s;dsimp only [ShelfL.val] at *;generalize l.length=n at *;go_enter Tryz.func8,Tryz.ntmps8;(go_upto_region 1 with fail);refine zI ?_;intro u1 hu;have HX:=hid (show Box u1 w.heap.size [.string snm,.slice A n c] by rw [hu]; exact (Box.new w [.string snm,.slice A n c] 25).kb (zG _ _));have HB0:=hid (show KB w.heap.size w (w.alloc (.cells #[.string snm,.slice A n c] 25)) from zG _ _);have HY:=hid (show Box u1 (w.heap.size+1) v.cells by rw [hu]; have:=Box.new (w.alloc (.cells #[.string snm,.slice A n c] 25)) v.cells 27; rwa [World.size_alloc] at this);have HB1:=hid (show KB w.heap.size w u1 by rw [hu]; exact zA HB0.out (zG _ _));clear hu HB0;generalize w.heap.size+1=q2 at *;have x0:=HX.out.2 0 _ rfl;have x1:=HX.out.2 1 _ rfl;have xl:=HX.out.1;replace HM:=hid (HM.out u1 HB1.out);cases ms
 ·(go_wp2_with fail);refine HM.out.mono ?_;rintro _ u2 ⟨rfl,hb⟩;have HB2:=hid (zA HB1.out hb);clear hb x0 x1 xl;(go_wp2_with fail);(try rw [Exit.noGoto_ret]);(try go_ret);exact ⟨by rw [HR.out]<;>rfl,HB2.out⟩
 ·(go_wp2_with fail);refine HM.out.mono ?_;rintro _ u2 ⟨rfl,hb⟩;have HB2:=hid (zA HB1.out hb);replace HX:=hid (HX.out.kb hb);replace HY:=hid (HY.out.kb hb);clear hb x0 x1 xl;have x1:=HX.out.2 1 _ rfl;have xl:=HX.out.1;obtain ⟨y0,y1,y2,y3,y4⟩:=HY.out.get5;have yl:=HY.out.1;(go_wp2_with fail);refine (HP.out u2 HB2.out).mono ?_;rintro _ u3 ⟨rfl,hb⟩;have HB3:=hid (zA HB2.out hb);clear hb x1 xl y0 y1 y2 y3 y4 yl;(go_wp2_with fail);(try rw [Exit.noGoto_ret]);(try go_ret);exact ⟨by rw [HR.out]<;>rfl,HB3.out⟩
theorem Tryz.info5:(Tryz.prog.info? 5).map (fun i=>(i.zero,i.size,i.bytes))=some (some (.int .u8 0),1,1):=by kernel_rfl
theorem EKbytesL:EK Tryz.prog 73 5 1 1 := .mk' _ Tryz.underlying73 Tryz.info5 rfl (by omega)
def byteAt (x:Int) (k:Nat):UInt8:=UInt8.ofNat (x / 2 ^ (8 * k) % 256).toNat
def be8 (x:Int):List UInt8:=[7,6,5,4,3,2,1,0].map (byteAt x)
def pairD (a b:Int):Int:=z7 (be8 a++be8 b)
def rootD (l:List Int):Int:=l.foldl pairD (z7 [])
theorem byteAt_val (x:Int) (k:Nat):x / 2 ^ (8 * k) % 256=((byteAt x k).toNat:Int):=by
 have h1:0≤x / 2 ^ (8 * k) % 256:=Int.emod_nonneg _ (by decide);have h2:x / 2 ^ (8 * k) % 256 < 256:=Int.emod_lt_of_pos _ (by decide);rw [byteAt,UInt8.toNat_ofNat'];generalize x / 2 ^ (8 * k) % 256=y at *;omega
theorem be8_take (x:Int) {j:Nat} (h:j < 8):(be8 x).take (j+1)=(be8 x).take j++[byteAt x (7 - j)]:=by
 rcases j with _ | _ | _ | _ | _ | _ | _ | _ | j<;>first | rfl | omega
theorem be8_len (x:Int):(be8 x).length=8:=rfl
def cellsB (l:List UInt8):List Value:=l.map fun c => .int .u8 (c.toNat:Int)
theorem cellsB_app (l m:List UInt8):cellsB (l++m)=cellsB l++cellsB m:=by simp [cellsB]
abbrev OwnB (w:World) (base:Nat) (v:Value) (l:List UInt8):Prop:=w.ownsRow base 5 1 v l.length (cellsB l)
theorem OwnB.bytes {w:World} {base:Nat} {v:Value} {l:List UInt8} (h:OwnB w base v l) (h0:0 < l.length):∃ g c,v = .slice (some ⟨g,0,none⟩) l.length c∧WV w (some ⟨g,0,none⟩) l:=by
 obtain ⟨g,c,rfl,hg,hlt,hc,hcell⟩:=vN h (by omega);refine ⟨g,c,rfl,.inr ⟨g,0,rfl,hlt,fun i hi=>?_⟩⟩;rw [Nat.zero_add,hcell i (by omega)];simp [cellsB,hi]
def NumK (w:World) (n:Int) (e:Ending) (w':World):Prop:=e = .returned (.int .u64 n)∧KB w.heap.size w w'
theorem rpair_any (a b:Int) (w:World):Calls Tryz.prog 17 #[.int .u64 a,.int .u64 b] w (NumK w (pairD a b)):=by
 go_enter Tryz.func17,Tryz.ntmps17;(go_upto_block 0 with fail);(go_wp2_with fail);go_loopw [6,5] (fun i v ww=>∃ j:Nat,i = .int .i64 (7 - (j:Int))∧j≤8∧Hid (OwnB ww w.heap.size v ((be8 a).take j))∧Hid (KB w.heap.size w ww)) (fun i _ _=>(intOf i+1).toNat)
 case atStart=>exact ⟨0,by simp,Nat.zero_le _,hid (World.ownsRow_nil _ _ _ _),hid (zH _)⟩
 case round =>
  (rename World=>wr);obtain ⟨j,rfl,hj,HO,HB⟩:=hrel;by_cases hlt:j < 8
  ·(have k1:(0:Int)≤7 - (j:Int):=by omega);have hsz:=HB.out.size;have HL:=hid (show ((be8 a).take j).length=j by simp [be8_len]; omega);have HBV:=hid (byteAt_val a (7 - j));have HST:=hid (be8_take a hlt);(go_wp2_with (at_builtin; refine tJ EKbytesL rfl (.tmp 12) (.tmp 19) rfl [.int .u8 (a / 2 ^ (8 * (7 - j)) % 256)] HO.out HB.out rfl rfl rfl (by simp [Value.oneCell']) (by unfold maxLen; have:=HL.out; omega) (by have:=HL.out; omega) (Nat.le_refl _) hsz ?_; intro v3 w3 h3 hb3 _; have H3:=hid h3; have HB3:=hid hb3; clear h3 hb3));go_roundw
   case rel=>exact ⟨j+1,by go_num,by omega,hid (by
    have:=H3.out;rw [HBV.out] at this;rw [HST.out];show World.ownsRow _ _ _ _ _ (List.length _) _;rw [cellsB_app,List.length_append]
    exact this),HB3⟩
   case measure=>simp [intOf]<;>omega
  ·(obtain rfl:j=8:=by omega);(have k1:¬ (0:Int)≤7 - ((8:Nat):Int):=by omega);(go_wp2_with fail);go_loopw [7,5] (fun i v ww=>∃ j:Nat,i = .int .i64 (7 - (j:Int))∧j≤8∧Hid (OwnB ww w.heap.size v (be8 a++(be8 b).take j))∧Hid (KB w.heap.size w ww)) (fun i _ _=>(intOf i+1).toNat)
   case atStart=>exact ⟨0,by simp,Nat.zero_le _,hid (by rw [List.take_zero,List.append_nil]; exact HO.out),HB⟩
   case round =>
    (rename World=>wr);obtain ⟨j,rfl,hj,HO,HB⟩:=hrel;by_cases hlt:j < 8
    ·(have k1:(0:Int)≤7 - (j:Int):=by omega);have hsz:=HB.out.size;have HL:=hid (show (be8 a++(be8 b).take j).length=8+j by simp [be8_len]; omega);have HBV:=hid (byteAt_val b (7 - j));have HST:=hid (be8_take b hlt);(go_wp2_with (at_builtin; refine tJ EKbytesL rfl (.tmp 25) (.tmp 32) rfl [.int .u8 (b / 2 ^ (8 * (7 - j)) % 256)] HO.out HB.out rfl rfl rfl (by simp [Value.oneCell']) (by unfold maxLen; have:=HL.out; omega) (by have:=HL.out; omega) (Nat.le_refl _) hsz ?_; intro v3 w3 h3 hb3 _; have H3:=hid h3; have HB3:=hid hb3; clear h3 hb3));go_roundw
     case rel=>exact ⟨j+1,by go_num,by omega,hid (by
      have:=H3.out;rw [HBV.out] at this;rw [HST.out];show World.ownsRow _ _ _ _ _ (List.length _) _;rw [← List.append_assoc];rw [cellsB_app,List.length_append]
      exact this),HB3⟩
     case measure=>simp [intOf]<;>omega
    ·(obtain rfl:j=8:=by omega);(have k1:¬ (0:Int)≤7 - ((8:Nat):Int):=by omega);have HOE:=hid (show OwnB wr w.heap.size _ (be8 a++be8 b) from HO.out);obtain ⟨g,c,hv,hby⟩:=OwnB.bytes HOE.out (by simp [be8_len]);subst hv;have HS:=hid (ZK (some ⟨g,0,none⟩) c (be8 a++be8 b) wr hby (by simp [be8_len]));have h16:(be8 a++be8 b).length=16:=rfl;rw [h16] at HS;(go_wp2_with fail);refine HS.out.mono ?_;rintro _ w4 ⟨rfl,rfl⟩;(go_wp2_with fail);(try rw [Exit.noGoto_ret]);(try go_ret);exact ⟨rfl,HB.out⟩
def pl2 (a b:Int):Nat→List UInt8
 | 0=>[]
 | 1=>be8 a
 | _=>be8 a++be8 b
theorem pair_any (a b:Int) (w:World):Calls Tryz.prog 63 #[.int .u64 a,.int .u64 b] w (NumK w (pairD a b)):=by
 go_enter Tryz.func63,Tryz.ntmps63;(go_upto_region 3 with fail);refine zI ?_;intro u1 hu;have HX:=hid (show Box u1 w.heap.size [.int .u64 a,.int .u64 b] by rw [hu]; exact Box.new w [.int .u64 a,.int .u64 b] 45);have HB1:=hid (show KB w.heap.size w u1 by rw [hu]; exact zG _ _);clear hu;(go_upto_block 0 with fail);(go_wp2_with fail);go_loopw [13,5] (fun i v ww=>∃ k:Nat,i = .int .i64 (k:Int)∧k≤2∧Hid (OwnB ww u1.heap.size v (pl2 a b k))∧Hid (KB u1.heap.size u1 ww)) (fun i _ _=>2 - (intOf i).toNat)
 case atStart=>exact ⟨0,rfl,Nat.zero_le _,hid (World.ownsRow_nil _ _ _ _),hid (zH _)⟩
 case round =>
  (rename World=>wr);obtain ⟨k,rfl,hk,HO,HB⟩:=hrel;rcases k with _ | _ | _ | k
  ·have HC:=hid (show wr.cell? ⟨w.heap.size,0+0,none⟩=some (.int .u64 a) from (HX.out.kb HB.out).2 0 _ rfl);have cx:=HC.out;have cl:=(HX.out.kb HB.out).1;have HO0:=hid (show OwnB wr u1.heap.size _ ([]) from HO.out);clear HO;(go_wp2_with fail);go_loopw [8,5] (fun i v ww=>∃ j:Nat,i = .int .i64 (7 - (j:Int))∧j≤8∧Hid (OwnB ww u1.heap.size v ((be8 a).take j))∧Hid (KB u1.heap.size u1 ww)) (fun i _ _=>(intOf i+1).toNat)
   case atStart=>exact ⟨0,by simp,Nat.zero_le _,hid (by rw [List.take_zero]; exact HO0.out),HB⟩
   case round =>
    (rename World=>ur);obtain ⟨j,rfl,hj,HO,HBU⟩:=hrel;by_cases hlt:j < 8
    ·(have j1:(0:Int)≤7 - (j:Int):=by omega);have hsz:=HBU.out.size;have HL:=hid (show ((be8 a).take j).length=j by simp [be8_len]; omega);have HBV:=hid (byteAt_val a (7 - j));have HST:=hid (be8_take a hlt);clear cx cl;(go_wp2_with (at_builtin; refine tJ EKbytesL rfl (.tmp 21) (.tmp 27) rfl [.int .u8 (a / 2 ^ (8 * (7 - j)) % 256)] HO.out HBU.out rfl rfl rfl (by simp [Value.oneCell']) (by unfold maxLen; have:=HL.out; omega) (by have:=HL.out; omega) (Nat.le_refl _) hsz ?_; intro v3 w3 h3 hb3 _; have H3:=hid h3; have HB3:=hid hb3; clear h3 hb3));go_roundw
     case rel =>
      refine ⟨_,_,_,_,_,_,_,_,_,_,_,_,_,_,⟨j+1,?_,?_,?_,?_⟩,rfl⟩
      ·go_num
      ·omega
      ·refine hid ?_;have:=H3.out;rw [HBV.out] at this;rw [HST.out];show World.ownsRow _ _ _ _ _ (List.length _) _;rw [cellsB_app,List.length_append];exact this
      ·exact HB3
     case measure=>simp [intOf]<;>omega
    ·(obtain rfl:j=8:=by omega);(have j1:¬ (0:Int)≤7 - ((8:Nat):Int):=by omega);clear cx cl;(go_wp2_with fail);go_roundw
     case rel=>exact ⟨1,by go_num,by omega,hid (by exact HO.out),HBU⟩
     case measure=>simp [intOf]<;>omega
  ·have HC:=hid (show wr.cell? ⟨w.heap.size,0+1,none⟩=some (.int .u64 b) from (HX.out.kb HB.out).2 1 _ rfl);have cx:=HC.out;have cl:=(HX.out.kb HB.out).1;have HO0:=hid (show OwnB wr u1.heap.size _ (be8 a) from HO.out);clear HO;(go_wp2_with fail);go_loopw [8,5] (fun i v ww=>∃ j:Nat,i = .int .i64 (7 - (j:Int))∧j≤8∧Hid (OwnB ww u1.heap.size v (be8 a++(be8 b).take j))∧Hid (KB u1.heap.size u1 ww)) (fun i _ _=>(intOf i+1).toNat)
   case atStart=>exact ⟨0,by simp,Nat.zero_le _,hid (by rw [List.take_zero,List.append_nil]; exact HO0.out),HB⟩
   case round =>
    (rename World=>ur);obtain ⟨j,rfl,hj,HO,HBU⟩:=hrel;by_cases hlt:j < 8
    ·(have j1:(0:Int)≤7 - (j:Int):=by omega);have hsz:=HBU.out.size;have HL:=hid (show (be8 a++(be8 b).take j).length=8+j by simp [be8_len]; omega);have HBV:=hid (byteAt_val b (7 - j));have HST:=hid (be8_take b hlt);clear cx cl;(go_wp2_with (at_builtin; refine tJ EKbytesL rfl (.tmp 21) (.tmp 27) rfl [.int .u8 (b / 2 ^ (8 * (7 - j)) % 256)] HO.out HBU.out rfl rfl rfl (by simp [Value.oneCell']) (by unfold maxLen; have:=HL.out; omega) (by have:=HL.out; omega) (Nat.le_refl _) hsz ?_; intro v3 w3 h3 hb3 _; have H3:=hid h3; have HB3:=hid hb3; clear h3 hb3));go_roundw
     case rel =>
      refine ⟨_,_,_,_,_,_,_,_,_,_,_,_,_,_,⟨j+1,?_,?_,?_,?_⟩,rfl⟩
      ·go_num
      ·omega
      ·refine hid ?_;have:=H3.out;rw [HBV.out] at this;rw [HST.out];show World.ownsRow _ _ _ _ _ (List.length _) _;rw [← List.append_assoc];rw [cellsB_app,List.length_append];exact this
      ·exact HB3
     case measure=>simp [intOf]<;>omega
    ·(obtain rfl:j=8:=by omega);(have j1:¬ (0:Int)≤7 - ((8:Nat):Int):=by omega);clear cx cl;(go_wp2_with fail);go_roundw
     case rel=>exact ⟨2,by go_num,by omega,hid (by exact HO.out),HBU⟩
     case measure=>simp [intOf]<;>omega
  ·have HOE:=hid (show OwnB wr u1.heap.size _ (be8 a++be8 b) from HO.out);obtain ⟨g,c,hv,hby⟩:=OwnB.bytes HOE.out (by simp [be8_len]);subst hv;have HS:=hid (Yk (some ⟨g,0,none⟩) c (be8 a++be8 b) wr hby (by simp [be8_len]));have h16:(be8 a++be8 b).length=16:=rfl;rw [h16] at HS;(go_wp2_with fail);refine HS.out.mono ?_;rintro _ w4 ⟨rfl,rfl⟩;(go_wp2_with fail);(try rw [Exit.noGoto_ret]);(try go_ret);exact ⟨rfl,zA HB1.out HB.out⟩
  ·omega
def NumAt (w:World) (b o:Nat) (x:Int):Prop:=w.cell? ⟨b,o,none⟩=some (.int .u64 x)
theorem NumAt.stays:o0 NumAt:=fun _ _ _ _ _ hl hb h=>zU hl hb h
abbrev Nums (w:World) (A:Option Addr) (l:List Int):Prop:=RowOf 1 NumAt w A l
theorem rootD_take {l:List Int} {k:Nat} (h:k < l.length):rootD (l.take (k+1))=pairD (rootD (l.take k)) l[k]:=by
 rw [rootD,List.take_succ_eq_append_getElem h,List.foldl_append]; rfl
theorem root_any (A:Option Addr) (c:Nat) (l:List Int) (w:World) (h:Nums w A l) (hn:l.length≤9223372036854775807):Calls Tryz.prog 35 #[.slice A l.length c] w (NumK w (rootD l)):=by
 have HA:=hid h;have HS0:=hid (show Calls Tryz.prog 34 #[.slice none 0 0] w fun e w'=>e = .returned (.int .u64 (z7 []))∧w=w' from Yk none 0 [] w (.inl rfl) (by simp));have HPP:=hid (fun a b u=>pair_any a b u);have HZ:=hid (show z7 []=rootD (l.take 0) from rfl);clear h;generalize z7 []=z0 at *;generalize hnn:l.length=n at *;have HN:=hid hnn;clear hnn;go_enter Tryz.func35,Tryz.ntmps35;(go_wp2_with fail);refine HS0.out.mono ?_;rintro _ u1 ⟨rfl,rfl⟩;(go_upto_block 0 with fail);(go_wp2_with fail);go_loopw [9,3] (fun i s ww=>∃ k:Nat,i = .int .i64 (k:Int)∧s = .int .u64 (rootD (l.take k))∧k≤n∧Hid (KB w.heap.size w ww)) (fun i _ _=>n - (intOf i).toNat)
 case atStart=>exact ⟨0,rfl,by rw [HZ.out],Nat.zero_le _,hid (zH _)⟩
 case round =>
  (rename World=>wr);obtain ⟨k,rfl,rfl,hk,HB⟩:=hrel;by_cases hlt:k < n
  ·(have hlt':k < l.length:=by rw [HN.out]; exact hlt);obtain ⟨b,off,hA,hbl,cx⟩:=(HA.out.kb NumAt.stays HB.out).at_ hlt';subst hA;(have k0:(0:Int)≤(k:Int):=by omega);(have k1:(k:Int) < (n:Int):=by omega);have HS:=hid (rootD_take hlt');rw [Nat.mul_one] at cx;unfold NumAt at cx;generalize l[k]=x at *;generalize rootD (l.take k)=y at *;(go_wp2_with fail);refine (HPP.out y x wr).mono ?_;rintro _ u2 ⟨rfl,hb⟩;have HB2:=hid (zA HB.out hb);clear hb cx hbl;(go_wp2_with fail);go_roundw
   case rel=>exact ⟨k+1,by go_num,by rw [HS.out],by omega,HB2⟩
   case measure=>simp [intOf]<;>omega
  ·(obtain rfl:k=n:=by omega);(have k1:¬ (k:Int) < (k:Int):=by omega);have HE:=hid (show rootD (l.take k)=rootD l by rw [← HN.out,List.take_length]);(go_wp2_with fail);(try rw [Exit.noGoto_ret]);(try go_ret);exact ⟨by rw [HE.out]<;>rfl,HB.out⟩
theorem Tryz.info45:(Tryz.prog.info? 45).map (fun i=>(i.zero,i.size,i.bytes))=some (some (.int .u64 0),1,8):=by kernel_rfl
theorem EKnums:EK Tryz.prog 74 45 1 8 := .mk' _ Tryz.underlying74 Tryz.info45 rfl (by omega)
def markN (y:Bool):Int:=if y then 1 else 0
def sumsL (s:ShelfL):List Int:=z7 (bts s.name)::s.entries.flatMap fun x=>[x.sum,markN x.yanked]
def sumS (s:ShelfL):Int × Int:=if zQ z7 s then (rootD (sumsL s),0) else (0,1)
abbrev cellsN (l:List Int):List Value:=l.map fun x => .int .u64 x
abbrev OwnN (w:World) (base:Nat) (v:Value) (l:List Int):Prop:=w.ownsRow base 45 1 v l.length (cellsN l)
theorem OwnN.nums {w:World} {base:Nat} {v:Value} {l:List Int} (h:OwnN w base v l) (h0:0 < l.length):∃ g c,v = .slice (some ⟨g,0,none⟩) l.length c∧Nums w (some ⟨g,0,none⟩) l:=by
 obtain ⟨g,c,rfl,hg,hlt,hc,hcell⟩:=vN h (by omega);refine ⟨g,c,rfl,.inr ⟨g,0,rfl,hlt,fun i hi=>?_⟩⟩;show w.cell? ⟨g,0+i * 1,none⟩=_;rw [Nat.zero_add,Nat.mul_one,hcell i (by omega)];simp [hi]
theorem src_two (w:World) (a b:Int):tw (w.alloc (.cells #[.int .u64 a,.int .u64 b] 45)) (some ⟨w.heap.size,0,none⟩) 2 1 [.int .u64 a,.int .u64 b]:=by
 have h:=Box.new w [.int .u64 a,.int .u64 b] 45;refine ⟨rfl,(fun k=>by cases k),fun ad k j u hj=>?_⟩;(injection k with k);subst k;rw [uR,Nat.zero_add];exact h.2 j u hj
theorem own_one (w:World) (a:Int):OwnN (w.alloc (.cells #[.int .u64 a] 45)) w.heap.size (.slice (some ⟨w.heap.size,0,none⟩) 1 1) [a] :=
 World.ownsRow_lit (base:=w.heap.size) (e:=45) (size:=1) w #[.int .u64 a] 1 (Nat.le_refl _) (by decide) rfl
theorem two_one (a b:Int):∀ u∈[Value.int .u64 a,.int .u64 b],u.oneCell'=true:=by
 intro u hu;rcases List.mem_cons.1 hu with rfl | hu
 ·rfl
 ·rcases List.mem_cons.1 hu with rfl | hu
  ·rfl
  ·cases hu
def sumsK (s:ShelfL) (k:Nat):List Int:=z7 (bts s.name)::(s.entries.take k).flatMap fun x=>[x.sum,markN x.yanked]
theorem sumsK_next {s:ShelfL} {k:Nat} (h:k < s.entries.length):sumsK s (k+1)=sumsK s k++[s.entries[k].sum,markN s.entries[k].yanked]:=by
 rw [sumsK,sumsK,List.take_succ_eq_append_getElem h,List.flatMap_append]; rfl
theorem sumsK_get {s:ShelfL} {k:Nat} {x:EntryL} (h:s.entries[k]?=some x):sumsK s (k+1)=sumsK s k++[x.sum,markN x.yanked]:=by
 obtain ⟨hk,rfl⟩:=List.getElem?_eq_some_iff.1 h;exact sumsK_next hk
theorem sumsK_all (s:ShelfL):sumsK s s.entries.length=sumsL s:=by rw [sumsK,sumsL,List.take_length]
theorem sumsK_len (s:ShelfL) {k:Nat} (h:k≤s.entries.length):(sumsK s k).length=1+2 * k:=by
 rw [sumsK,List.length_cons,List.length_flatMap];simp only [List.length_cons,List.length_nil,List.map_const',List.sum_replicate_nat,List.length_take];omega
def ShSumK (w:World) (s:ShelfL) (e:Ending) (w':World):Prop:=e = .returned (.tuple #[.int .u64 (sumS s).1,.int .i64 (sumS s).2])∧KB w.heap.size w w'
theorem shsum_any (s:ShelfL) (A:Option Addr) (c:Nat) (w:World) (hL:Laid w) (hE:yL w A s.entries) (hok:EntsOk s.entries) (hc:s.entries.length≤c) (hnm:s.name.size≤1000000) (h64:zQ z7 s=true→s.entries.length≤64):Calls Tryz.prog 15 #[s.val A c] w (ShSumK w s):=by
 have HM:=hid (fun u (hb:KB w.heap.size w u)=>kr s A c u (hL.kb hb) (hE.kb EntryAt.stays hb) hok hc);have HE:=hid hE;have HR:=hid (show sumS s=if zQ z7 s then (rootD (sumsL s),0) else (0,1) from rfl);have H64:=hid h64;have HSN:=hid (fun k x (h:s.entries[k]?=some x)=>sumsK_get h);have HSA:=hid (sumsK_all s);have HSL:=hid (fun k h=>sumsK_len s (k:=k) h);have HS0:=hid (show sumsK s 0=[z7 (bts s.name)] from rfl);clear hL hE hok h64;unfold ShSumK;generalize sumS s=res at *;generalize zQ z7 s=ms at *;generalize sumsL s=sl at *;generalize sumsK s=sk at *;obtain ⟨snm,l⟩:=s;dsimp only [ShelfL.val] at *;generalize hnn:l.length=n at *;have HN:=hid hnn;clear hnn;go_enter Tryz.func15,Tryz.ntmps15;(go_upto_region 1 with fail);refine zI ?_;intro u1 hu;have HX:=hid (show Box u1 w.heap.size [.string snm,.slice A n c] by rw [hu]; exact Box.new w [.string snm,.slice A n c] 25);have HB1:=hid (show KB w.heap.size w u1 by rw [hu]; exact zG _ _);clear hu;have x0:=HX.out.2 0 _ rfl;have x1:=HX.out.2 1 _ rfl;have xl:=HX.out.1;replace HM:=hid (HM.out u1 HB1.out);cases ms
 ·(go_wp2_with fail);refine HM.out.mono ?_;rintro _ u2 ⟨rfl,hb⟩;have HB2:=hid (zA HB1.out hb);clear hb x0 x1 xl;(go_wp2_with fail);(try rw [Exit.noGoto_ret]);(try go_ret2);exact ⟨by rw [HR.out]<;>rfl,HB2.out⟩
 ·have h64:n≤64:=H64.out rfl;(go_wp2_with fail);refine HM.out.mono ?_;rintro _ u2 ⟨rfl,hb⟩;have HB2:=hid (zA HB1.out hb);replace HX:=hid (HX.out.kb hb);clear hb x0 x1 xl H64;have x0:=HX.out.2 0 _ rfl;have xl:=HX.out.1;(have hcv:=fun w s=>run_bytes_of_string (P:=Tryz.prog) w 9 73 5 s Tryz.underlying9 Tryz.underlying73 Tryz.underlying5);have HDS:=hid (fun cc k mm=>Yk (some ⟨u2.heap.size,0,none⟩) k (bts snm) ((u2.alloc (.cells (bytesRow snm cc) 5 mm)).drew) (jI u2 snm cc mm) (by rw [zF]; omega));have HKB:=hid (fun cc mm=>show KB u2.heap.size u2 ((u2.alloc (.cells (bytesRow snm cc) 5 mm)).drew) from ge u2 snm cc mm);simp only [zF] at HDS;generalize hsd:z7 (bts snm)=sd at *;clear hsd;(go_upto_region 3 with fail);(go_wp2_with fail);clear hcv;generalize grownCap u2 snm.size 0 5=cc;generalize ((bytesRow snm cc).size,(bytesRow snm cc).size+1)=mm;replace HDS:=hid (HDS.out cc cc mm);replace HKB:=hid (HKB.out cc mm);generalize ((u2.alloc (.cells (bytesRow snm cc) 5 mm)).drew)=u3 at *;(with_reducible refine HDS.out.mono ?_);rintro _ u3 ⟨rfl,rfl⟩;have HB3:=hid (zA HB2.out HKB.out);have HX3:=hid (HX.out.kb HKB.out);clear x0 xl HDS HKB HX;(go_upto_region 4 with fail);refine zI ?_;intro u4 hu;have HO4:=hid (show OwnN u4 u3.heap.size (.slice (some ⟨u3.heap.size,0,none⟩) 1 1) [sd] by rw [hu]; exact own_one u3 sd);have HB4:=hid (show KB u3.heap.size u3 u4 by rw [hu]; exact zG _ _)
  clear hu;have x1:=(HX3.out.kb HB4.out).2 1 _ rfl;have xl:=(HX3.out.kb HB4.out).1;(go_upto_block 0 with fail);(go_wp2_with fail);go_loopw [19,4] (fun i v ww=>∃ k:Nat,i = .int .i64 (k:Int)∧k≤n∧Hid (OwnN ww u3.heap.size v (sk k))∧Hid (KB u3.heap.size u3 ww)) (fun i _ _=>n - (intOf i).toNat)
  case atStart=>exact ⟨0,rfl,Nat.zero_le _,hid (by rw [HS0.out]; exact HO4.out),HB4⟩
  case round =>
   (rename World=>wr);obtain ⟨k,rfl,hk,HO,HB⟩:=hrel;have HBW:=hid (zA HB3.out HB.out);clear x1 xl;have x1:=(HX3.out.kb HB.out).2 1 _ rfl;have xl:=(HX3.out.kb HB.out).1;by_cases hlt:k < n
   ·(have hlt':k < l.length:=by rw [HN.out]; exact hlt);obtain ⟨b,off,hd,hA,-,⟨c0,c1,c2,c3,c4,c5,c6,c7,c8,c9,c10,cl⟩⟩:=v7 (HE.out.kb EntryAt.stays HBW.out) hlt';subst hA;(have k0:(0:Int)≤(k:Int):=by omega);(have k1:(k:Int) < (n:Int):=by omega);have HS:=hid (HSN.out k l[k] (List.getElem?_eq_getElem hlt'));have HL:=hid (HSL.out k hk);have HL2:=hid (HSL.out (k+1) hlt);generalize l[k]=x at *;obtain ⟨⟨rn,rv,rne,rba,rfe⟩,rs,ry⟩:=x;dsimp only at c0 c1 c2 c3 c4 c5 c6 c7 c8 c9 c10 HS;generalize rne.length=n1 at *;generalize rba.length=n2 at *;generalize rfe.length=n3 at *;(go_upto_region 7 with fail);refine zI ?_;intro u5 hu;have HY:=hid (show Box u5 wr.heap.size [.string rn,.int .i64 rv.maj,.int .i64 rv.min,.int .i64 rv.pat,.string rv.pre,.string rv.bld,.slice hd.A n1 hd.ca,.slice hd.B n2 hd.cb,.slice hd.F n3 hd.cf,.int .u64 rs,.bool ry] by rw [hu]; exact Box.new wr [.string rn,.int .i64 rv.maj,.int .i64 rv.min,.int .i64 rv.pat,.string rv.pre,.string rv.bld,.slice hd.A n1 hd.ca,.slice hd.B n2 hd.cb,.slice hd.F n3 hd.cf,.int .u64 rs,.bool ry] 55);have HB5:=hid (show KB wr.heap.size wr u5 by rw [hu]; exact zG _ _);clear hu c0 c1 c2 c3 c4 c5 c6 c7 c8 c9 c10 cl x1 xl;have HO5:=hid (tG HO.out HB5.out);have HBX:=hid (zA HB.out HB5.out);clear HO;have hsz:=HBX.out.size;generalize wr.heap.size=gq at *;have y9:=HY.out.2 9 _ rfl;have y10:=HY.out.2 10 _ rfl;have yl:=HY.out.1
    cases ry
    all_goals
     first
      | (rw [show markN false=0 from rfl] at HS)
      | (rw [show markN true=1 from rfl] at HS)
     (go_wp2_with (at_builtin; refine zW EKnums rfl (.tmp 25) (.tmp 29) rfl rfl (tG HO5.out (zG _ _)) rfl (src_two _ rs _) (two_one _ _) (by rw [HL.out]; unfold maxLen; omega) (by rw [HL.out]; omega) (by rw [World.size_alloc]; omega) ?_; intro v3 w3 h3 hb3 _; have H3:=hid h3; have HB3':=hid hb3.kb; clear h3 hb3));go_roundw
     case rel=>exact ⟨k+1,by go_num,by omega,hid (by
      have:=H3.out;rw [HS.out];show World.ownsRow _ _ _ _ _ (List.length _) _;rw [cellsN,List.map_append,List.length_append]
      exact this),hid (Go.RowKit.Below.trans (uX HBX.out hsz _) HB3'.out)⟩
     case measure=>simp [intOf]<;>omega
   ·(obtain rfl:k=n:=by omega);(have k1:¬ (k:Int) < (k:Int):=by omega);have HOE:=hid (show OwnN wr u3.heap.size _ sl by rw [← HSA.out]; exact HO.out);have HLE:=hid (show sl.length=1+2 * k by rw [← HSA.out]; exact HSL.out k (Nat.le_refl _));obtain ⟨g,cp,hv,hnu⟩:=OwnN.nums HOE.out (by rw [HLE.out]; omega);subst hv;have HRT:=hid (root_any (some ⟨g,0,none⟩) cp sl wr hnu (by rw [HLE.out]; omega));clear hnu;rw [HLE.out] at HRT;rw [HLE.out] at HOE;simp only [HLE.out];(go_wp2_with fail);refine HRT.out.mono ?_;rintro _ w4 ⟨rfl,hb⟩;have HB4:=hid (zA HBW.out hb);clear hb;(go_wp2_with fail);(try rw [Exit.noGoto_ret]);(try go_ret2);exact ⟨by rw [HR.out]<;>rfl,HB4.out⟩
abbrev EP:=EntryL × RecH
abbrev yR (p:EP):List Value:=p.1.cells p.2
theorem ga (p:EP):(yR p).length=11:=rfl
theorem mg {w:World} {A:Option Addr} {l:List EntryL} (h:yL w A l):∃ ps:List EP,ps.map (·.1)=l∧Lies 11 yR w A ps∧∀ p∈ps,RecLies w p.2 p.1.rc:=by
 rcases h with h | ⟨b,off,h1,h2,h3⟩
 ·exact ⟨[],h.symm,.inl rfl,fun p hp=>by cases hp⟩
 ·have hch:∀ i:Fin l.length,∃ hd:RecH,RecLies w hd l[i].rc∧Cells11 w b (off+i.1 * 11) l[i] hd:=fun i=>by
   obtain ⟨hd,k1,k2,k3,k4⟩:=h3 i.1 i.2;exact ⟨hd,k1,⟨k2 0 _ rfl,k2 1 _ rfl,k2 2 _ rfl,k2 3 _ rfl,k2 4 _ rfl,k2 5 _ rfl,k2 6 _ rfl,k2 7 _ rfl,k2 8 _ rfl,k3,k4,h2⟩⟩
  (let hd:Fin l.length→RecH:=fun i=>(hch i).choose);(have hs:∀ i,RecLies w (hd i) l[i].rc∧Cells11 w b (off+i.1 * 11) l[i] (hd i):=fun i=>(hch i).choose_spec);refine ⟨List.ofFn fun i=>(l[i],hd i),?_,.inr ⟨b,off,h1,h2,fun i hi j u hj=>?_⟩,fun p hp=>?_⟩
  ·apply List.ext_getElem
   ·simp
   ·intro i h1 h2; simp
  ·rw [List.length_ofFn] at hi;rw [List.getElem_ofFn] at hj;have c:=(hs ⟨i,hi⟩).2;rcases j with _ | _ | _ | _ | _ | _ | _ | _ | _ | _ | _ | j
   ·exact c.c0.trans hj
   ·exact c.c1.trans hj
   ·exact c.c2.trans hj
   ·exact c.c3.trans hj
   ·exact c.c4.trans hj
   ·exact c.c5.trans hj
   ·exact c.c6.trans hj
   ·exact c.c7.trans hj
   ·exact c.c8.trans hj
   ·exact c.c9.trans hj
   ·exact c.c10.trans hj
   ·cases hj
  ·obtain ⟨i,rfl⟩:=List.mem_ofFn.1 hp;exact (hs i).1
theorem uu {w:World} {A:Option Addr} {ps:List EP} (h:Lies 11 yR w A ps) (hr:∀ p∈ps,RecLies w p.2 p.1.rc):yL w A (ps.map (·.1)):=by
 rcases h with h | ⟨b,off,h1,h2,h3⟩
 ·exact .inl (by rw [h]; rfl)
 ·refine .inr ⟨b,off,h1,h2,fun i hi=>?_⟩;(have hi':i < ps.length:=by simpa using hi);rw [List.getElem_map];refine ⟨ps[i].2,hr _ (List.getElem_mem hi'),fun j u hj=>?_,h3 i hi' 9 _ rfl,h3 i hi' 10 _ rfl⟩;refine h3 i hi' j u ?_;(rcases j with _ | _ | _ | _ | _ | _ | _ | _ | _ | j);all_goals first | exact hj | cases hj
theorem eK {α:Type} {n:Nat} {f:α→List Value} (hf:∀ a,(f a).length=n) (hn:0 < n) {w:World} {A:Option Addr} {l:List α} (h:Lies n f w A l):tw w A l.length n (l.flatMap f):=by
 have hlen:(l.flatMap f).length=l.length * n:=by
  rw [List.length_flatMap];rw [show l.map (fun x=>(f x).length)=l.map fun _=>n from List.map_congr_left fun x _=>hf x];rw [List.map_const',List.sum_replicate_nat]
 refine ⟨hlen,fun hA=>?_,fun ad hA j u hj=>?_⟩
 ·rcases h with h | ⟨b,off,h1,-⟩
  ·rw [h]; rfl
  ·rw [h1] at hA; cases hA
 ·rcases h with h | ⟨b,off,h1,h2,h3⟩
  ·rw [h] at hj; cases hj
  ·rw [h1] at hA;(injection hA with hA);subst hA
   have hjl:j < l.length * n:=by
    rcases Nat.lt_or_ge j (l.length * n) with k | k
    ·exact k
    ·rw [List.getElem?_eq_none (by rw [hlen]; exact k)] at hj; cases hj
   have hq:j / n < l.length:=Nat.div_lt_of_lt_mul (by rw [Nat.mul_comm]; exact hjl);have hr:j % n < n:=Nat.mod_lt _ hn;(have e:j / n * n+j % n=j:=by rw [Nat.mul_comm]; exact Nat.div_add_mod j n);rw [uR];have:=h3 (j / n) hq (j % n) u (by rw [← lN hf l (j / n) (j % n) hq hr,e]; exact hj);rw [Nat.add_assoc,e] at this;exact this
theorem fX (ps:List EP):∀ u∈ps.flatMap yR,u.oneCell'=true:=by
 intro u hu;obtain ⟨p,-,hp⟩:=List.mem_flatMap.1 hu;simp only [yR,List.mem_cons,List.not_mem_nil,or_false] at hp;rcases hp with rfl | rfl | rfl | rfl | rfl | rfl | rfl | rfl | rfl | rfl | rfl<;>rfl
theorem XK {α:Type} {n:Nat} {f:α→List Value} (hf:∀ a,(f a).length=n) {w:World} {g:Nat} {l:List α} (h:Lies n f w (some ⟨g,0,none⟩) l) {k j:Nat} (hk:k < l.length) (hj:j < n) (a:α) (x:Value) (hx:(f a)[j]?=some x) (ho:∀ i,i≠j→(f a)[i]?=(f l[k])[i]?):Lies n f (w.setCell ⟨g,k * n+j,none⟩ x) (some ⟨g,0,none⟩) (l.set k a):=by
 rcases h with h | ⟨b,off,h1,h2,h3⟩
 ·rw [h] at hk; simp at hk
 ·(injection h1 with h1);(injection h1 with e1 e2 e3);subst e1; subst e2;refine .inr ⟨g,0,rfl,by rw [World.size_setCell]; exact h2,fun i hi q u hq=>?_⟩;rw [List.length_set] at hi
  have hqn:q < n:=by
   rcases Nat.lt_or_ge q n with c | c
   ·exact c
   ·rw [List.getElem?_eq_none (by rw [hf]; exact c)] at hq; cases hq
  by_cases hik:i=k
  ·subst hik;rw [List.getElem_set_self] at hq;by_cases hqj:q=j
   ·subst hqj;rw [hx] at hq;rw [Nat.zero_add,World.cell?_setCell_same _ _ _ (by have:=h3 i hk q ((f l[i])[q]'(by rw [hf]; exact hqn)) (List.getElem?_eq_getElem (by rw [hf]; exact hqn)); rwa [Nat.zero_add] at this)];exact hq
   ·rw [World.cell?_setCell_other _ _ _ _ (by simp only [ne_eq,Addr.mk.injEq,not_and]; intro _ e; omega)];exact h3 i hk q u (by rw [← ho q hqj]; exact hq)
  ·rw [List.getElem_set_ne (fun e=>hik e.symm)] at hq
   rw [World.cell?_setCell_other _ _ _ _ (by
    simp only [ne_eq,Addr.mk.injEq,not_and];intro _ e;exfalso;(have e2:i * n+q=k * n+j:=by omega);(have hn:0 < n:=by omega);(have a1:(i * n+q) / n=i:=by rw [Nat.mul_comm,Nat.mul_add_div hn,Nat.div_eq_of_lt hqn,Nat.add_zero]);have a2:(k * n+j) / n=k:=by rw [Nat.mul_comm,Nat.mul_add_div hn,Nat.div_eq_of_lt hj,Nat.add_zero]
    exact hik (a1.symm.trans ((congrArg (· / n) e2).trans a2)))]
   exact h3 i hi q u hq
def Vy:RecL:=⟨⟨#[]⟩,⟨0,0,0,⟨#[]⟩,⟨#[]⟩⟩,[],[],[]⟩
def noH:RecH:=⟨none,0,none,0,none,0⟩
theorem Tryz.info55:(Tryz.prog.info? 55).map (fun i=>(i.zero,i.size,i.bytes))=some (some (.agg (yR (⟨Vy,0,false⟩,noH)).toArray),11,160):=by kernel_rfl
theorem su:EK Tryz.prog 23 55 11 160 := .mk' _ Tryz.underlying23 Tryz.info55 rfl (by omega)
def Xf (w:World) (r:ShelfL × Int) (e:Ending) (w':World):Prop:=∃ A c,e = .returned (.tuple #[r.1.val A c,.int .i64 r.2])∧yL w' A r.1.entries∧r.1.entries.length≤c∧KB w.heap.size w w'
theorem bK (w:World) (o1 o2:Obj) (cs:List Value) (t:TypeId):Own w.heap.size (((w.alloc o1).alloc o2).alloc (.cells cs.toArray t)) (w.heap.size+1+1) cs:=by
 have h:=Own.new ((w.alloc o1).alloc o2) cs t (B:=w.heap.size) (by simp; omega);rw [World.size_alloc,World.size_alloc] at h;exact h
theorem vM {B:Nat} {w:World} {g:Nat} {a0 a1:Value} (h:Own B w g [a0,a1]) (b0 b1:Value):Own B ((w.setCell ⟨g,0,none⟩ b0).setCell ⟨g,1,none⟩ b1) g [b0,b1]:=by
 have:=(h.put (j:=0) (by simp) b0).put (j:=1) (by simp) b1;simpa using this
theorem vE {w w1:World} (h:KB w.heap.size w w1) {g:Nat} (hg:w.heap.size≤g) (b0 b1:Value):KB w.heap.size w ((w1.setCell ⟨g,0,none⟩ b0).setCell ⟨g,1,none⟩ b1):=yV (yV h hg b0) hg b1
theorem dq (p:EP) (on:Bool):∀ i,i≠10→(yR (({ p.1 with yanked:=on }:EntryL),p.2))[i]?=(yR p)[i]?:=by
 intro i hi;(rcases i with _ | _ | _ | _ | _ | _ | _ | _ | _ | _ | _ | i);all_goals first | rfl | exact absurd rfl hi
theorem modify_set {l:List EntryL} {k:Nat} (h:k < l.length) (f:EntryL→EntryL):l.modify k f=l.set k (f l[k]):=by
 apply List.ext_getElem?;intro i;rw [List.getElem?_modify];by_cases e:k=i
 ·subst e; rw [List.getElem?_set_self h,List.getElem?_eq_getElem h]; simp
 ·rw [List.getElem?_set_ne e]; simp [e]
end Go.Proofs.YtiebekmefjbenaaGreatDoor
