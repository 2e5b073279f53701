import Derived.Test.YtiebekmefjbenaaGreatDoorXKz
import Derived.Test.YtiebekmefjbenaaGreatDoorXLb
set_option linter.unusedVariables false
set_option linter.unusedSimpArgs false
set_option maxRecDepth 100000
set_option maxHeartbeats 2000000
namespace Go.Proofs.YtiebekmefjbenaaGreatDoor
open Go.RowKit Go.Lib
open Rw
theorem Yf {α:Type} {n:Nat} {At:World→Nat→Nat→α→Prop} {w:World} {A:Option Addr} {l:List α} (h:RowOf n At w A l) (k:Nat):RowOf n At w A (l.take k):=by
 rcases h with h | ⟨b,off,h1,h2,h3⟩
 ·exact .inl (by rw [h]; simp)
 ·refine .inr ⟨b,off,h1,h2,fun i hi=>?_⟩;(have hi':i < l.length:=by rw [List.length_take] at hi; omega);rw [List.getElem_take];exact h3 i hi'
structure EntsOk (l:List EntryL):Prop where
 fit:∀ x∈l,x.rc.v.fit
 small:∀ x∈l,∀ f∈x.rc.feats,yP f
 len:l.length≤9223372036854775807
theorem VS {s:ShelfL} (h:zg (bts s.name)=false):zQ z7 s=false:=by rw [zQ,h]; rfl
theorem Ww {s:ShelfL} (h:64 < s.entries.length):zQ z7 s=false:=by rw [zQ,decide_eq_false (by omega)]; simp
theorem VN {s:ShelfL} (h:zg (bts s.name)=true) (h2:s.entries.length≤64):zQ z7 s=yA z7 [] s.entries:=by rw [zQ,h,decide_eq_true h2]; rfl
theorem W2 {a:List EntryL} {x:EntryL} {m e:Int} (h:vo z7 x.rc=(m,e)) (h2:e≠0):wD z7 a x=false:=by
 rw [wD,h,decide_eq_false (by intro k; injection k with k1 k2; exact h2 k2)]; rfl
theorem Ws {a:List EntryL} {x:EntryL} {m e:Int} (h:vo z7 x.rc=(m,e)) (h2:m≠x.sum):wD z7 a x=false:=by
 rw [wD,h,decide_eq_false (by intro k; injection k with k1 k2; exact h2 k1)]; rfl
theorem Vf {a:List EntryL} {x:EntryL} {m e:Int} (h:vo z7 x.rc=(m,e)) (h2:m=x.sum) (h3:e=0):wD z7 a x=decide (zi (bts x.rc.name) x.rc.v 0 a < 0):=by
 rw [wD,h,decide_eq_true (by rw [h2,h3])]; rfl
theorem kr (s:ShelfL) (A:Option Addr) (c:Nat) (w:World) (hL:Laid w) (hE:yL w A s.entries) (hok:EntsOk s.entries) (hc:s.entries.length≤c):Calls Tryz.prog 11 #[s.val A c] w (yT w (zQ z7 s)):=by
 have HNM:=hid (fun u=>vS s.name u);have HE:=hid hE;have HSM:=hid (fun (x:EntryL) (h:RecH) u (hb:KB w.heap.size w u) hx hf hs=>XG x.rc h u (hL.kb hb) hx hf hs);have M1:=hid (fun h=>VS (s:=s) h);have M2:=hid (fun h=>Ww (s:=s) h);have M3:=hid (fun h h2=>VN (s:=s) h h2);have HFI:=hid hok.fit;have HFS:=hid hok.small;have hln:=hok.len;clear hL hE hok;generalize zQ z7 s=res at *;obtain ⟨snm,l⟩:=s;dsimp only [ShelfL.val] at *;generalize hnn:l.length=n at *;have HN:=hid hnn;clear hnn;go_enter Tryz.func11,Tryz.ntmps11;(go_upto_region 1 with fail);refine zI ?_;intro u1 hu;have HX:=hid (show Box u1 w.heap.size [.string snm,.slice A n c] by rw [hu]; exact Box.new w [.string snm,.slice A n c] 25);have HB1:=hid (show KB w.heap.size w u1 by rw [hu]; exact zG _ _);clear hu;have x0:=HX.out.2 0 _ rfl;have xl:=HX.out.1;cases hnm:zg (bts snm)
 ·have HV:=hid (M1.out hnm);rw [hnm] at HNM;clear hnm;(go_wp2_with fail);refine (HNM.out _).mono ?_;rintro _ u2 ⟨rfl,hb⟩;have HB2:=hid (zA HB1.out hb.kb);clear hb x0 xl;(go_wp2_with fail);(try rw [Exit.noGoto_ret]);(try go_ret);exact ⟨by rw [HV.out]<;>rfl,HB2.out⟩
 ·rw [hnm] at HNM;have HN1:=hid hnm;clear hnm;(go_wp2_with fail);refine (HNM.out _).mono ?_;rintro _ u2 ⟨rfl,hb⟩;have HB2:=hid (zA HB1.out hb.kb);replace HX:=hid (HX.out.kb hb.kb);clear hb x0 xl;have x1:=HX.out.2 1 _ rfl;have xl:=HX.out.1;by_cases h64:64 < n
  ·have HV:=hid (M2.out h64);(have i1:decide ((64:Int) < (n:Int))=true:=by rw [decide_eq_true_iff]; omega);clear h64;(go_wp2_with fail);(try rw [Exit.noGoto_ret]);(try go_ret);exact ⟨by rw [HV.out]<;>rfl,HB2.out⟩
  ·have HV:=hid (M3.out HN1.out (by omega));(have i1:decide ((64:Int) < (n:Int))=false:=by rw [decide_eq_false_iff_not]; omega);clear h64 M1 M2 M3 HN1;(go_upto_block 0 with fail);(go_wp2_with fail);go_loopw [20] (fun i wr=>∃ k:Nat,i = .int .i64 (k:Int)∧k≤n∧Hid (res=yA z7 (l.take k) (l.drop k))∧Hid (KB u2.heap.size u2 wr)) (fun i _=>n - (intOf i).toNat)
   case atStart=>exact ⟨0,rfl,Nat.zero_le _,hid (by rw [HV.out]; simp),hid (zH _)⟩
   case round =>
    obtain ⟨k,rfl,hk,HD,HB⟩:=hrel;have HBW:=hid (zA HB2.out HB.out);have HXW:=hid (HX.out.kb HB.out);clear x1 xl;have x1:=HXW.out.2 1 _ rfl;have xl:=HXW.out.1;by_cases hlt:k < n
    ·(have hlt':k < l.length:=by rw [HN.out]; exact hlt);obtain ⟨b,off,hd,hA,hrl,⟨c0,c1,c2,c3,c4,c5,c6,c7,c8,c9,c10,cl⟩⟩:=v7 (HE.out.kb EntryAt.stays HBW.out) hlt';subst hA;have HS:=hid (qI (sumB:=z7) hlt');have HRL:=hid hrl;have hfi:=HFI.out _ (List.getElem_mem hlt');have hfs:=HFS.out _ (List.getElem_mem hlt');have HPL:=hid (fun u (hb:KB w.heap.size w u) nm v (hv:v.fit)=>cA (some ⟨b,off,none⟩) k (l.take k) nm v u (Yf (HE.out.kb EntryAt.stays hb) k) (by rw [List.length_take]; omega) (fun x hx=>HFI.out x (List.mem_of_mem_take hx)) hv);rw [List.length_take,HN.out,Nat.min_eq_left (Nat.le_of_lt hlt)] at HPL;have HEO:=hid (fun (m e:Int) (h:vo z7 l[k].rc=(m,e)) h2 h3=>Vf (a:=l.take k) h h2 h3);have HE1:=hid (fun (m e:Int) (h:vo z7 l[k].rc=(m,e)) h2=>W2 (a:=l.take k) h h2);have HE2:=hid (fun (m e:Int) (h:vo z7 l[k].rc=(m,e)) h2=>Ws (a:=l.take k) h h2);(have k0:(0:Int)≤(k:Int):=by omega);(have k1:(k:Int) < (n:Int):=by omega);clear hrl;generalize l[k]=x at *;have HCS:=hid (fun u (hb:KB wr.heap.size wr u)=>HSM.out x hd u (zA HBW.out hb) (HRL.out.kb hb) hfi hfs);replace HPL:=hid (fun u (hb:KB wr.heap.size wr u)=>HPL.out u (zA HBW.out hb) x.rc.name x.rc.v hfi);clear hfi hfs;generalize hey:wD z7 (l.take k) x=eo at *;clear hey;generalize zi (bts x.rc.name) x.rc.v 0 (l.take k)=pl at *;unfold X5 at HCS
     generalize vo z7 x.rc=sr at *;obtain ⟨sm,se⟩:=sr;obtain ⟨⟨rn,rv,rne,rba,rfe⟩,rs,ry⟩:=x;dsimp only [RecL.val] at c0 c1 c2 c3 c4 c5 c6 c7 c8 c9 c10 HCS HPL HEO HE1 HE2;clear HRL;generalize rne.length=n1 at *;generalize rba.length=n2 at *;generalize rfe.length=n3 at *;(go_upto_region 6 with fail);refine zI ?_;intro u4 hu;have HY:=hid (show Box u4 wr.heap.size [.string rn,.int .i64 rv.maj,.int .i64 rv.min,.int .i64 rv.pat,.string rv.pre,.string rv.bld,.slice hd.A n1 hd.ca,.slice hd.B n2 hd.cb,.slice hd.F n3 hd.cf,.int .u64 rs,.bool ry] by rw [hu]; exact Box.new wr [.string rn,.int .i64 rv.maj,.int .i64 rv.min,.int .i64 rv.pat,.string rv.pre,.string rv.bld,.slice hd.A n1 hd.ca,.slice hd.B n2 hd.cb,.slice hd.F n3 hd.cf,.int .u64 rs,.bool ry] 55);have HB4:=hid (show KB wr.heap.size wr u4 by rw [hu]; exact zG _ _);clear hu c0 c1 c2 c3 c4 c5 c6 c7 c8 c9 c10 cl x1 xl;have HCU:=hid (HCS.out u4 HB4.out);have HPU:=hid (fun u (hb:KB u4.heap.size u4 u)=>HPL.out u (zA HB4.out hb));have HB14:=hid (zA HB.out HB4.out);have HBW4:=hid (zA HBW.out HB4.out);have HX4:=hid (HXW.out.kb HB4.out);clear HPL;generalize wr.heap.size=gq at *;have y0:=HY.out.2 0 _ rfl;have y1:=HY.out.2 1 _ rfl;have y2:=HY.out.2 2 _ rfl;have y3:=HY.out.2 3 _ rfl;have y4:=HY.out.2 4 _ rfl;have y5:=HY.out.2 5 _ rfl;have y6:=HY.out.2 6 _ rfl;have y7:=HY.out.2 7 _ rfl;have y8:=HY.out.2 8 _ rfl;have yl:=HY.out.1
     clear HCS;(go_wp2_with fail);refine HCU.out.mono ?_;rintro _ u5 ⟨rfl,hb⟩;have HB5:=hid (zA HB14.out hb);have HBW5:=hid (zA HBW4.out hb);have HY5:=hid (HY.out.kb hb);have HX5:=hid (HX4.out.kb hb);have HP5:=hid (fun u (hk:KB u5.heap.size u5 u)=>HPU.out u (zA hb hk));clear hb y0 y1 y2 y3 y4 y5 y6 y7 y8 yl HPU HCU HX4 HY HXW;by_cases h0:se=0
     ·(have e0:(se != 0)=false:=by rw [h0]; rfl);by_cases h1:sm=rs
      ·(have e1:(sm != rs)=false:=by rw [h1]; simp);(have e2:(sm==rs)=true:=by rw [h1]; simp);have HQ0:=hid h0;have HQ1:=hid h1;clear h0 h1;(have hkc:(k:Int)≤(c:Int):=by omega);(go_upto_region 7 with fail);have hS:KB u5.heap.size u5 u5.drew:=zM (zH _);have HB6:=hid (zA HB5.out hS);have HBW6:=hid (zA HBW5.out hS);(refine wpS (fun u=>KB u5.heap.size u5 u) (.call [0,1,2,3,4,5,6,7,8,9,10,11,12,13,14,15,16,17,18,19] 20 (.last [21,22])) fun iS=>?_);(have y0:=fun (z:SW fun u=>KB u5.heap.size u5 u)=>(HY5.out.kb z.ok).2 0 (.string rn) rfl);(have y1:=fun (z:SW fun u=>KB u5.heap.size u5 u)=>(HY5.out.kb z.ok).2 1 (.int .i64 rv.maj) rfl);(have y2:=fun (z:SW fun u=>KB u5.heap.size u5 u)=>(HY5.out.kb z.ok).2 2 (.int .i64 rv.min) rfl);(have y3:=fun (z:SW fun u=>KB u5.heap.size u5 u)=>(HY5.out.kb z.ok).2 3 (.int .i64 rv.pat) rfl);(have y4:=fun (z:SW fun u=>KB u5.heap.size u5 u)=>(HY5.out.kb z.ok).2 4 (.string rv.pre) rfl);(have y5:=fun (z:SW fun u=>KB u5.heap.size u5 u)=>(HY5.out.kb z.ok).2 5 (.string rv.bld) rfl);(have y9:=fun (z:SW fun u=>KB u5.heap.size u5 u)=>(HY5.out.kb z.ok).2 9 (.int .u64 rs) rfl);(have yl:=fun (z:SW fun u=>KB u5.heap.size u5 u)=>(HY5.out.kb z.ok).1);(have x1:=fun (z:SW fun u=>KB u5.heap.size u5 u)=>(HX5.out.kb z.ok).2 1 (.slice (some ⟨b,off,none⟩) n c) rfl);have xl:=fun (z:SW fun u=>KB u5.heap.size u5 u)=>(HX5.out.kb z.ok).1
       by_cases hp:pl < 0
       ·(have hp1:¬ (0:Int)≤pl:=by omega);have HF:=hid (show eo=true by rw [HEO.out sm se rfl HQ1.out HQ0.out,decide_eq_true hp]);clear hp;(with_reducible refine zD ?_);simp only [zB,pka,pkb,pkc,pkd,pke,pkf];(repeat go_big_quiet_step (fail));refine wpQuiet_nil ?_;(go_wp2_with fail);refine (HP5.out _ hS).mono ?_;rintro _ u6 ⟨rfl,hb⟩;have HB7:=hid (show KB u5.heap.size u5 u6 from Go.RowKit.Below.trans hS hb);clear hb;(go_wp2_with fail);refine zE (HB7.out) ?_;(with_reducible refine zJ ?_);simp only [zB,pka,pkb,pkc,pkd,pke,pkf];(repeat go_big_quiet_step (fail));refine wpQuiet_nil ?_;clear y0 y1 y2 y3 y4 y5 y9 yl x1 xl iS;clear hS;(go_wp2_with fail);go_roundw
        case rel=>exact ⟨k+1,by go_num,by omega,hid (by rw [HD.out,HS.out,HF.out,Bool.true_and]),hid (zA HB5.out HB7.out)⟩
        case measure=>simp [intOf]<;>omega
       ·(have hp1:(0:Int)≤pl:=by omega);have HF:=hid (show eo=false by rw [HEO.out sm se rfl HQ1.out HQ0.out,decide_eq_false hp]);clear hp;have HV:=hid (show res=false by rw [HD.out,HS.out,HF.out]; rfl);(with_reducible refine zD ?_);simp only [zB,pka,pkb,pkc,pkd,pke,pkf];(repeat go_big_quiet_step (fail));refine wpQuiet_nil ?_;(go_wp2_with fail);refine (HP5.out _ hS).mono ?_;rintro _ u6 ⟨rfl,hb⟩;have HB7:=hid (show KB u5.heap.size u5 u6 from Go.RowKit.Below.trans hS hb);clear hb;(go_wp2_with fail);refine zE (HB7.out) ?_;(with_reducible refine zJ ?_);simp only [zB,pka,pkb,pkc,pkd,pke,pkf];(repeat go_big_quiet_step (fail));refine wpQuiet_nil ?_;clear y0 y1 y2 y3 y4 y5 y9 yl x1 xl iS;clear hS;have HBW7:=hid (zA HBW5.out HB7.out);(go_wp2_with fail);(try rw [Exit.noGoto_ret]);(try go_ret);exact ⟨by rw [HV.out]<;>rfl,HBW7.out⟩
      ·(have e1:(sm != rs)=true:=by rw [bne_iff_ne]; exact h1);(have e2:(sm==rs)=false:=by rw [beq_eq_false_iff_ne]; exact h1);have HF:=hid (HE2.out sm se rfl h1);clear h0 h1;have HV:=hid (show res=false by rw [HD.out,HS.out,HF.out]; rfl);(go_upto_region 7 with fail);have hS:KB u5.heap.size u5 u5.drew:=zM (zH _);have HB6:=hid (zA HB5.out hS);have HBW6:=hid (zA HBW5.out hS);(refine wpS (fun u=>KB u5.heap.size u5 u) (.call [0,1,2,3,4,5,6,7,8,9,10,11,12,13,14,15,16,17,18,19] 20 (.last [21,22])) fun iS=>?_);(have y0:=fun (z:SW fun u=>KB u5.heap.size u5 u)=>(HY5.out.kb z.ok).2 0 (.string rn) rfl);(have y1:=fun (z:SW fun u=>KB u5.heap.size u5 u)=>(HY5.out.kb z.ok).2 1 (.int .i64 rv.maj) rfl);(have y2:=fun (z:SW fun u=>KB u5.heap.size u5 u)=>(HY5.out.kb z.ok).2 2 (.int .i64 rv.min) rfl);(have y3:=fun (z:SW fun u=>KB u5.heap.size u5 u)=>(HY5.out.kb z.ok).2 3 (.int .i64 rv.pat) rfl);(have y4:=fun (z:SW fun u=>KB u5.heap.size u5 u)=>(HY5.out.kb z.ok).2 4 (.string rv.pre) rfl);(have y5:=fun (z:SW fun u=>KB u5.heap.size u5 u)=>(HY5.out.kb z.ok).2 5 (.string rv.bld) rfl);(have y9:=fun (z:SW fun u=>KB u5.heap.size u5 u)=>(HY5.out.kb z.ok).2 9 (.int .u64 rs) rfl);(have yl:=fun (z:SW fun u=>KB u5.heap.size u5 u)=>(HY5.out.kb z.ok).1);(have x1:=fun (z:SW fun u=>KB u5.heap.size u5 u)=>(HX5.out.kb z.ok).2 1 (.slice (some ⟨b,off,none⟩) n c) rfl);have xl:=fun (z:SW fun u=>KB u5.heap.size u5 u)=>(HX5.out.kb z.ok).1
       (with_reducible refine zD ?_);simp only [zB,pka,pkb,pkc,pkd,pke,pkf];(repeat go_big_quiet_step (fail));refine wpQuiet_nil ?_;(go_wp2_with fail);refine zE hS ?_;(with_reducible refine zJ ?_);simp only [zB,pka,pkb,pkc,pkd,pke,pkf];(repeat go_big_quiet_step (fail));refine wpQuiet_nil ?_;clear y0 y1 y2 y3 y4 y5 y9 yl x1 xl iS;clear hS;(go_wp2_with fail);(try rw [Exit.noGoto_ret]);(try go_ret);exact ⟨by rw [HV.out]<;>rfl,HBW6.out⟩
     ·(have e0:(se != 0)=true:=by rw [bne_iff_ne]; exact h0);have HF:=hid (HE1.out sm se rfl h0);clear h0;have HV:=hid (show res=false by rw [HD.out,HS.out,HF.out]; rfl);(go_upto_region 7 with fail);have hS:KB u5.heap.size u5 u5.drew:=zM (zH _);have HB6:=hid (zA HB5.out hS);have HBW6:=hid (zA HBW5.out hS);(refine wpS (fun u=>KB u5.heap.size u5 u) (.call [0,1,2,3,4,5,6,7,8,9,10,11,12,13,14,15,16,17,18,19] 20 (.last [21,22])) fun iS=>?_);(with_reducible refine zD ?_);simp only [zB,pka,pkb,pkc,pkd,pke,pkf];(repeat go_big_quiet_step (fail));refine wpQuiet_nil ?_;(go_wp2_with fail);refine zE hS ?_;(with_reducible refine zJ ?_);simp only [zB,pka,pkb,pkc,pkd,pke,pkf];(repeat go_big_quiet_step (fail));refine wpQuiet_nil ?_;clear iS hS;(go_wp2_with fail);(try rw [Exit.noGoto_ret]);(try go_ret);exact ⟨by rw [HV.out]<;>rfl,HBW6.out⟩
    ·(obtain rfl:k=n:=by omega);(have k1:¬ (k:Int) < (k:Int):=by omega);have HV:=hid (show res=true by rw [HD.out,oG (by rw [HN.out]; exact Nat.le_refl _)]);(go_wp2_with fail);(try rw [Exit.noGoto_ret]);(try go_ret);exact ⟨by rw [HV.out]<;>rfl,HBW.out⟩
theorem eZ (s:ShelfL) (A:Option Addr) (c:Nat) (w:World) (hE:yL w A s.entries) (hok:EntsOk s.entries) (hc:s.entries.length≤c):Calls Tryz.prog 60 #[s.val A c] w (yT w (zQ z7 s)):=by
 have HNM:=hid (fun u=>vY s.name u);have HE:=hid hE;have HSM:=hid (fun (x:EntryL) (h:RecH) u (hb:KB w.heap.size w u) hx hf hs=>nS x.rc h u hx hf hs);have M1:=hid (fun h=>VS (s:=s) h);have M2:=hid (fun h=>Ww (s:=s) h);have M3:=hid (fun h h2=>VN (s:=s) h h2);have HFI:=hid hok.fit;have HFS:=hid hok.small;have hln:=hok.len;clear hE hok;generalize zQ z7 s=res at *;obtain ⟨snm,l⟩:=s;dsimp only [ShelfL.val] at *;generalize hnn:l.length=n at *;have HN:=hid hnn;clear hnn;go_enter Tryz.func60,Tryz.ntmps60;(go_upto_region 1 with fail);refine zI ?_;intro u1 hu;have HX:=hid (show Box u1 w.heap.size [.string snm,.slice A n c] by rw [hu]; exact Box.new w [.string snm,.slice A n c] 25);have HB1:=hid (show KB w.heap.size w u1 by rw [hu]; exact zG _ _);clear hu;have x0:=HX.out.2 0 _ rfl;have xl:=HX.out.1;cases hnm:zg (bts snm)
 ·have HV:=hid (M1.out hnm);rw [hnm] at HNM;clear hnm;(go_wp2_with fail);refine (HNM.out _).mono ?_;rintro _ u2 ⟨rfl,hb⟩;have HB2:=hid (zA HB1.out hb.kb);clear hb x0 xl;(go_wp2_with fail);(try rw [Exit.noGoto_ret]);(try go_ret);exact ⟨by rw [HV.out]<;>rfl,HB2.out⟩
 ·rw [hnm] at HNM;have HN1:=hid hnm;clear hnm;(go_wp2_with fail);refine (HNM.out _).mono ?_;rintro _ u2 ⟨rfl,hb⟩;have HB2:=hid (zA HB1.out hb.kb);replace HX:=hid (HX.out.kb hb.kb);clear hb x0 xl;have x1:=HX.out.2 1 _ rfl;have xl:=HX.out.1;by_cases h64:64 < n
  ·have HV:=hid (M2.out h64);(have i1:decide ((64:Int) < (n:Int))=true:=by rw [decide_eq_true_iff]; omega);clear h64;(go_wp2_with fail);(try rw [Exit.noGoto_ret]);(try go_ret);exact ⟨by rw [HV.out]<;>rfl,HB2.out⟩
  ·have HV:=hid (M3.out HN1.out (by omega));(have i1:decide ((64:Int) < (n:Int))=false:=by rw [decide_eq_false_iff_not]; omega);clear h64 M1 M2 M3 HN1;(go_upto_block 0 with fail);(go_wp2_with fail);go_loopw [3] (fun i wr=>∃ k:Nat,i = .int .i64 (k:Int)∧k≤n∧Hid (res=yA z7 (l.take k) (l.drop k))∧Hid (KB u2.heap.size u2 wr)) (fun i _=>n - (intOf i).toNat)
   case atStart=>exact ⟨0,rfl,Nat.zero_le _,hid (by rw [HV.out]; simp),hid (zH _)⟩
   case round =>
    obtain ⟨k,rfl,hk,HD,HB⟩:=hrel;have HBW:=hid (zA HB2.out HB.out);have HXW:=hid (HX.out.kb HB.out);clear x1 xl;have x1:=HXW.out.2 1 _ rfl;have xl:=HXW.out.1;by_cases hlt:k < n
    ·(have hlt':k < l.length:=by rw [HN.out]; exact hlt);obtain ⟨b,off,hd,hA,hrl,⟨c0,c1,c2,c3,c4,c5,c6,c7,c8,c9,c10,cl⟩⟩:=v7 (HE.out.kb EntryAt.stays HBW.out) hlt';subst hA;have HS:=hid (qI (sumB:=z7) hlt');have HRL:=hid hrl;have hfi:=HFI.out _ (List.getElem_mem hlt');have hfs:=HFS.out _ (List.getElem_mem hlt');have HPL:=hid (fun u (hb:KB w.heap.size w u) nm v (hv:v.fit)=>oo (some ⟨b,off,none⟩) c l nm v u (HE.out.kb EntryAt.stays hb) (by rw [HN.out]; exact hln) HFI.out hv);rw [HN.out] at HPL;have HEO:=hid (fun (m e:Int) (h:vo z7 l[k].rc=(m,e)) (h2:m=l[k].sum) (h3:e=0)=>show wD z7 (l.take k) l[k]=decide (zi (bts l[k].rc.name) l[k].rc.v 0 l=(k:Int)) by rw [← Z2 hlt',h,decide_eq_true (by rw [h2,h3]),Bool.true_and]);have HE1:=hid (fun (m e:Int) (h:vo z7 l[k].rc=(m,e)) h2=>W2 (a:=l.take k) h h2);have HE2:=hid (fun (m e:Int) (h:vo z7 l[k].rc=(m,e)) h2=>Ws (a:=l.take k) h h2);(have k0:(0:Int)≤(k:Int):=by omega);(have k1:(k:Int) < (n:Int):=by omega);clear hrl;generalize l[k]=x at *;have HCS:=hid (fun u (hb:KB wr.heap.size wr u)=>HSM.out x hd u (zA HBW.out hb) (HRL.out.kb hb) hfi hfs);replace HPL:=hid (fun u (hb:KB wr.heap.size wr u)=>HPL.out u (zA HBW.out hb) x.rc.name x.rc.v hfi);clear hfi hfs;generalize hey:wD z7 (l.take k) x=eo at *;clear hey;generalize zi (bts x.rc.name) x.rc.v 0 l=pl at *
     unfold X5 at HCS;generalize vo z7 x.rc=sr at *;obtain ⟨sm,se⟩:=sr;obtain ⟨⟨rn,rv,rne,rba,rfe⟩,rs,ry⟩:=x;dsimp only [RecL.val] at c0 c1 c2 c3 c4 c5 c6 c7 c8 c9 c10 HCS HPL HEO HE1 HE2;clear HRL;generalize rne.length=n1 at *;generalize rba.length=n2 at *;generalize rfe.length=n3 at *;(go_upto_region 7 with fail);refine zI ?_;intro u4 hu;have HY:=hid (show Box u4 wr.heap.size [.string rn,.int .i64 rv.maj,.int .i64 rv.min,.int .i64 rv.pat,.string rv.pre,.string rv.bld,.slice hd.A n1 hd.ca,.slice hd.B n2 hd.cb,.slice hd.F n3 hd.cf,.int .u64 rs,.bool ry] by rw [hu]; exact Box.new wr [.string rn,.int .i64 rv.maj,.int .i64 rv.min,.int .i64 rv.pat,.string rv.pre,.string rv.bld,.slice hd.A n1 hd.ca,.slice hd.B n2 hd.cb,.slice hd.F n3 hd.cf,.int .u64 rs,.bool ry] 55);have HB4:=hid (show KB wr.heap.size wr u4 by rw [hu]; exact zG _ _);clear hu c0 c1 c2 c3 c4 c5 c6 c7 c8 c9 c10 cl x1 xl;have HCU:=hid (HCS.out u4 HB4.out);have HPU:=hid (fun u (hb:KB u4.heap.size u4 u)=>HPL.out u (zA HB4.out hb));have HB14:=hid (zA HB.out HB4.out);have HBW4:=hid (zA HBW.out HB4.out);have HX4:=hid (HXW.out.kb HB4.out);clear HPL;generalize wr.heap.size=gq at *;have y0:=HY.out.2 0 _ rfl;have y1:=HY.out.2 1 _ rfl;have y2:=HY.out.2 2 _ rfl;have y3:=HY.out.2 3 _ rfl;have y4:=HY.out.2 4 _ rfl;have y5:=HY.out.2 5 _ rfl;have y6:=HY.out.2 6 _ rfl;have y7:=HY.out.2 7 _ rfl;have y8:=HY.out.2 8 _ rfl
     have yl:=HY.out.1;clear HCS;(go_wp2_with fail);refine HCU.out.mono ?_;rintro _ u5 ⟨rfl,hb⟩;have HB5:=hid (zA HB14.out hb);have HBW5:=hid (zA HBW4.out hb);have HY5:=hid (HY.out.kb hb);have HX5:=hid (HX4.out.kb hb);have HP5:=hid (fun u (hk:KB u5.heap.size u5 u)=>HPU.out u (zA hb hk));clear hb y0 y1 y2 y3 y4 y5 y6 y7 y8 yl HPU HCU HX4 HY HXW;by_cases h0:se=0
     ·(have e0:(se != 0)=false:=by rw [h0]; rfl);by_cases h1:sm=rs
      ·(have e1:(sm != rs)=false:=by rw [h1]; simp);(have e2:(sm==rs)=true:=by rw [h1]; simp);have HQ0:=hid h0;have HQ1:=hid h1;clear h0 h1;have y0:=HY5.out.2 0 _ rfl;have y1:=HY5.out.2 1 _ rfl;have y2:=HY5.out.2 2 _ rfl;have y3:=HY5.out.2 3 _ rfl;have y4:=HY5.out.2 4 _ rfl;have y5:=HY5.out.2 5 _ rfl;have y9:=HY5.out.2 9 _ rfl;have yl:=HY5.out.1;have x1:=HX5.out.2 1 _ rfl;have xl:=HX5.out.1;by_cases hp:pl=(k:Int)
       ·(have hp1:(pl != (k:Int))=false:=by rw [hp]; simp);(have hp2:(pl==(k:Int))=true:=by rw [hp]; simp);have HF:=hid (show eo=true by rw [HEO.out sm se rfl HQ1.out HQ0.out,decide_eq_true hp]);clear hp;(go_wp2_with fail);refine (HP5.out _ (zH _)).mono ?_;rintro _ u6 ⟨rfl,hb⟩;have HB6:=hid (zA HB5.out hb);have HBW6:=hid (zA HBW5.out hb);clear hb;clear y0 y1 y2 y3 y4 y5 y9 yl x1 xl;(go_wp2_with fail);go_roundw
        case rel=>exact ⟨k+1,by go_num,by omega,hid (by rw [HD.out,HS.out,HF.out,Bool.true_and]),HB6⟩
        case measure=>simp [intOf]<;>omega
       ·(have hp1:(pl != (k:Int))=true:=by rw [bne_iff_ne]; exact hp);(have hp2:(pl==(k:Int))=false:=by rw [beq_eq_false_iff_ne]; exact hp);have HF:=hid (show eo=false by rw [HEO.out sm se rfl HQ1.out HQ0.out,decide_eq_false hp]);clear hp;have HV:=hid (show res=false by rw [HD.out,HS.out,HF.out]; rfl);(go_wp2_with fail);refine (HP5.out _ (zH _)).mono ?_;rintro _ u6 ⟨rfl,hb⟩;have HB6:=hid (zA HB5.out hb);have HBW6:=hid (zA HBW5.out hb);clear hb;clear y0 y1 y2 y3 y4 y5 y9 yl x1 xl;(go_wp2_with fail);(try rw [Exit.noGoto_ret]);(try go_ret);exact ⟨by rw [HV.out]<;>rfl,HBW6.out⟩
      ·(have e1:(sm != rs)=true:=by rw [bne_iff_ne]; exact h1);(have e2:(sm==rs)=false:=by rw [beq_eq_false_iff_ne]; exact h1);have HF:=hid (HE2.out sm se rfl h1);clear h0 h1;have HV:=hid (show res=false by rw [HD.out,HS.out,HF.out]; rfl);have y0:=HY5.out.2 0 _ rfl;have y1:=HY5.out.2 1 _ rfl;have y2:=HY5.out.2 2 _ rfl;have y3:=HY5.out.2 3 _ rfl;have y4:=HY5.out.2 4 _ rfl;have y5:=HY5.out.2 5 _ rfl;have y9:=HY5.out.2 9 _ rfl;have yl:=HY5.out.1;have x1:=HX5.out.2 1 _ rfl;have xl:=HX5.out.1;(go_wp2_with fail);(try rw [Exit.noGoto_ret]);(try go_ret);exact ⟨by rw [HV.out]<;>rfl,HBW5.out⟩
     ·(have e0:(se != 0)=true:=by rw [bne_iff_ne]; exact h0);have HF:=hid (HE1.out sm se rfl h0);clear h0;have HV:=hid (show res=false by rw [HD.out,HS.out,HF.out]; rfl);(go_wp2_with fail);(try rw [Exit.noGoto_ret]);(try go_ret);exact ⟨by rw [HV.out]<;>rfl,HBW5.out⟩
    ·(obtain rfl:k=n:=by omega);(have k1:¬ (k:Int) < (k:Int):=by omega);have HV:=hid (show res=true by rw [HD.out,oG (by rw [HN.out]; exact Nat.le_refl _)]);(go_wp2_with fail);(try rw [Exit.noGoto_ret]);(try go_ret);exact ⟨by rw [HV.out]<;>rfl,HBW.out⟩
theorem shfind_any (s:ShelfL) (A:Option Addr) (c:Nat) (nm:ByteArray) (v:Ver) (w:World) (hL:Laid w) (hE:yL w A s.entries) (hok:EntsOk s.entries) (hc:s.entries.length≤c) (hv:v.fit):Calls Tryz.prog 8 #[s.val A c,.string nm,v.val] w (Wf w (findS z7 s (bts nm) v)):=by
 have HM:=hid (fun u (hb:KB w.heap.size w u)=>kr s A c u (hL.kb hb) (hE.kb EntryAt.stays hb) hok hc);have HP:=hid (fun u (hb:KB w.heap.size w u)=>cA A c s.entries nm v u (hE.kb EntryAt.stays hb) hok.len hok.fit hv);have HR:=hid (show findS z7 s (bts nm) v=if zQ z7 s then zi (bts nm) v 0 s.entries else -1 from rfl);clear hL hE hok;generalize findS z7 s (bts nm) v=res at *;generalize zQ z7 s=ms at *;generalize zi (bts nm) v 0 s.entries=pl at *;obtain ⟨snm,l⟩:=s;dsimp only [ShelfL.val] at *;generalize l.length=n at *;go_enter Tryz.func8,Tryz.ntmps8;(go_upto_region 1 with fail);refine zI ?_;intro u1 hu;have HX:=hid (show Box u1 w.heap.size [.string snm,.slice A n c] by rw [hu]; exact (Box.new w [.string snm,.slice A n c] 25).kb (zG _ _));have HB0:=hid (show KB w.heap.size w (w.alloc (.cells #[.string snm,.slice A n c] 25)) from zG _ _);have HY:=hid (show Box u1 (w.heap.size+1) v.cells by rw [hu]; have:=Box.new (w.alloc (.cells #[.string snm,.slice A n c] 25)) v.cells 27; rwa [World.size_alloc] at this);have HB1:=hid (show KB w.heap.size w u1 by rw [hu]; exact zA HB0.out (zG _ _));clear hu HB0;generalize w.heap.size+1=q2 at *;have x0:=HX.out.2 0 _ rfl;have x1:=HX.out.2 1 _ rfl;have xl:=HX.out.1;replace HM:=hid (HM.out u1 HB1.out);cases ms
 ·(go_wp2_with fail);refine HM.out.mono ?_;rintro _ u2 ⟨rfl,hb⟩;have HB2:=hid (zA HB1.out hb);clear hb x0 x1 xl;(go_wp2_with fail);(try rw [Exit.noGoto_ret]);(try go_ret);exact ⟨by rw [HR.out]<;>rfl,HB2.out⟩
 ·(go_wp2_with fail);refine HM.out.mono ?_;rintro _ u2 ⟨rfl,hb⟩;have HB2:=hid (zA HB1.out hb);replace HX:=hid (HX.out.kb hb);replace HY:=hid (HY.out.kb hb);clear hb x0 x1 xl;have x1:=HX.out.2 1 _ rfl;have xl:=HX.out.1;obtain ⟨y0,y1,y2,y3,y4⟩:=HY.out.get5;have yl:=HY.out.1;(go_wp2_with fail);refine (HP.out u2 HB2.out).mono ?_;rintro _ u3 ⟨rfl,hb⟩;have HB3:=hid (zA HB2.out hb);clear hb x1 xl y0 y1 y2 y3 y4 yl;(go_wp2_with fail);(try rw [Exit.noGoto_ret]);(try go_ret);exact ⟨by rw [HR.out]<;>rfl,HB3.out⟩
abbrev EP:=EntryL × RecH
abbrev yR (p:EP):List Value:=p.1.cells p.2
theorem ga (p:EP):(yR p).length=11:=rfl
theorem mg {w:World} {A:Option Addr} {l:List EntryL} (h:yL w A l):∃ ps:List EP,ps.map (·.1)=l∧Lies 11 yR w A ps∧∀ p∈ps,RecLies w p.2 p.1.rc:=by
 rcases h with h | ⟨b,off,h1,h2,h3⟩
 ·exact ⟨[],h.symm,.inl rfl,fun p hp=>by cases hp⟩
 ·have hch:∀ i:Fin l.length,∃ hd:RecH,RecLies w hd l[i].rc∧Cells11 w b (off+i.1 * 11) l[i] hd:=fun i=>by
   obtain ⟨hd,k1,k2,k3,k4⟩:=h3 i.1 i.2;exact ⟨hd,k1,⟨k2 0 _ rfl,k2 1 _ rfl,k2 2 _ rfl,k2 3 _ rfl,k2 4 _ rfl,k2 5 _ rfl,k2 6 _ rfl,k2 7 _ rfl,k2 8 _ rfl,k3,k4,h2⟩⟩
  (let hd:Fin l.length→RecH:=fun i=>(hch i).choose);(have hs:∀ i,RecLies w (hd i) l[i].rc∧Cells11 w b (off+i.1 * 11) l[i] (hd i):=fun i=>(hch i).choose_spec);refine ⟨List.ofFn fun i=>(l[i],hd i),?_,.inr ⟨b,off,h1,h2,fun i hi j u hj=>?_⟩,fun p hp=>?_⟩
  ·apply List.ext_getElem
   ·simp
   ·intro i h1 h2; simp
  ·rw [List.length_ofFn] at hi;rw [List.getElem_ofFn] at hj;have c:=(hs ⟨i,hi⟩).2;rcases j with _ | _ | _ | _ | _ | _ | _ | _ | _ | _ | _ | j
   ·exact c.c0.trans hj
   ·exact c.c1.trans hj
   ·exact c.c2.trans hj
   ·exact c.c3.trans hj
   ·exact c.c4.trans hj
   ·exact c.c5.trans hj
   ·exact c.c6.trans hj
   ·exact c.c7.trans hj
   ·exact c.c8.trans hj
   ·exact c.c9.trans hj
   ·exact c.c10.trans hj
   ·cases hj
  ·obtain ⟨i,rfl⟩:=List.mem_ofFn.1 hp;exact (hs i).1
theorem uu {w:World} {A:Option Addr} {ps:List EP} (h:Lies 11 yR w A ps) (hr:∀ p∈ps,RecLies w p.2 p.1.rc):yL w A (ps.map (·.1)):=by
 rcases h with h | ⟨b,off,h1,h2,h3⟩
 ·exact .inl (by rw [h]; rfl)
 ·refine .inr ⟨b,off,h1,h2,fun i hi=>?_⟩;(have hi':i < ps.length:=by simpa using hi);rw [List.getElem_map];refine ⟨ps[i].2,hr _ (List.getElem_mem hi'),fun j u hj=>?_,h3 i hi' 9 _ rfl,h3 i hi' 10 _ rfl⟩;refine h3 i hi' j u ?_;(rcases j with _ | _ | _ | _ | _ | _ | _ | _ | _ | j);all_goals first | exact hj | cases hj
theorem eK {α:Type} {n:Nat} {f:α→List Value} (hf:∀ a,(f a).length=n) (hn:0 < n) {w:World} {A:Option Addr} {l:List α} (h:Lies n f w A l):tw w A l.length n (l.flatMap f):=by
 have hlen:(l.flatMap f).length=l.length * n:=by
  rw [List.length_flatMap];rw [show l.map (fun x=>(f x).length)=l.map fun _=>n from List.map_congr_left fun x _=>hf x];rw [List.map_const',List.sum_replicate_nat]
 refine ⟨hlen,fun hA=>?_,fun ad hA j u hj=>?_⟩
 ·rcases h with h | ⟨b,off,h1,-⟩
  ·rw [h]; rfl
  ·rw [h1] at hA; cases hA
 ·rcases h with h | ⟨b,off,h1,h2,h3⟩
  ·rw [h] at hj; cases hj
  ·rw [h1] at hA;(injection hA with hA);subst hA
   have hjl:j < l.length * n:=by
    rcases Nat.lt_or_ge j (l.length * n) with k | k
    ·exact k
    ·rw [List.getElem?_eq_none (by rw [hlen]; exact k)] at hj; cases hj
   have hq:j / n < l.length:=Nat.div_lt_of_lt_mul (by rw [Nat.mul_comm]; exact hjl);have hr:j % n < n:=Nat.mod_lt _ hn;(have e:j / n * n+j % n=j:=by rw [Nat.mul_comm]; exact Nat.div_add_mod j n);rw [uR];have:=h3 (j / n) hq (j % n) u (by rw [← lN hf l (j / n) (j % n) hq hr,e]; exact hj);rw [Nat.add_assoc,e] at this;exact this
theorem fX (ps:List EP):∀ u∈ps.flatMap yR,u.oneCell'=true:=by
 intro u hu;obtain ⟨p,-,hp⟩:=List.mem_flatMap.1 hu;simp only [yR,List.mem_cons,List.not_mem_nil,or_false] at hp;rcases hp with rfl | rfl | rfl | rfl | rfl | rfl | rfl | rfl | rfl | rfl | rfl<;>rfl
theorem XK {α:Type} {n:Nat} {f:α→List Value} (hf:∀ a,(f a).length=n) {w:World} {g:Nat} {l:List α} (h:Lies n f w (some ⟨g,0,none⟩) l) {k j:Nat} (hk:k < l.length) (hj:j < n) (a:α) (x:Value) (hx:(f a)[j]?=some x) (ho:∀ i,i≠j→(f a)[i]?=(f l[k])[i]?):Lies n f (w.setCell ⟨g,k * n+j,none⟩ x) (some ⟨g,0,none⟩) (l.set k a):=by
 rcases h with h | ⟨b,off,h1,h2,h3⟩
 ·rw [h] at hk; simp at hk
 ·(injection h1 with h1);(injection h1 with e1 e2 e3);subst e1; subst e2;refine .inr ⟨g,0,rfl,by rw [World.size_setCell]; exact h2,fun i hi q u hq=>?_⟩;rw [List.length_set] at hi
  have hqn:q < n:=by
   rcases Nat.lt_or_ge q n with c | c
   ·exact c
   ·rw [List.getElem?_eq_none (by rw [hf]; exact c)] at hq; cases hq
  by_cases hik:i=k
  ·subst hik;rw [List.getElem_set_self] at hq;by_cases hqj:q=j
   ·subst hqj;rw [hx] at hq;rw [Nat.zero_add,World.cell?_setCell_same _ _ _ (by have:=h3 i hk q ((f l[i])[q]'(by rw [hf]; exact hqn)) (List.getElem?_eq_getElem (by rw [hf]; exact hqn)); rwa [Nat.zero_add] at this)];exact hq
   ·rw [World.cell?_setCell_other _ _ _ _ (by simp only [ne_eq,Addr.mk.injEq,not_and]; intro _ e; omega)];exact h3 i hk q u (by rw [← ho q hqj]; exact hq)
  ·rw [List.getElem_set_ne (fun e=>hik e.symm)] at hq
   rw [World.cell?_setCell_other _ _ _ _ (by
    simp only [ne_eq,Addr.mk.injEq,not_and];intro _ e;exfalso;(have e2:i * n+q=k * n+j:=by omega);(have hn:0 < n:=by omega);(have a1:(i * n+q) / n=i:=by rw [Nat.mul_comm,Nat.mul_add_div hn,Nat.div_eq_of_lt hqn,Nat.add_zero]);have a2:(k * n+j) / n=k:=by rw [Nat.mul_comm,Nat.mul_add_div hn,Nat.div_eq_of_lt hj,Nat.add_zero]
    exact hik (a1.symm.trans ((congrArg (· / n) e2).trans a2)))]
   exact h3 i hi q u hq
def Vy:RecL:=⟨⟨#[]⟩,⟨0,0,0,⟨#[]⟩,⟨#[]⟩⟩,[],[],[]⟩
def noH:RecH:=⟨none,0,none,0,none,0⟩
theorem Tryz.info55:(Tryz.prog.info? 55).map (fun i=>(i.zero,i.size,i.bytes))=some (some (.agg (yR (⟨Vy,0,false⟩,noH)).toArray),11,160):=by kernel_rfl
theorem su:EK Tryz.prog 23 55 11 160 := .mk' _ Tryz.underlying23 Tryz.info55 rfl (by omega)
def Xf (w:World) (r:ShelfL × Int) (e:Ending) (w':World):Prop:=∃ A c,e = .returned (.tuple #[r.1.val A c,.int .i64 r.2])∧yL w' A r.1.entries∧r.1.entries.length≤c∧KB w.heap.size w w'
theorem bK (w:World) (o1 o2:Obj) (cs:List Value) (t:TypeId):Own w.heap.size (((w.alloc o1).alloc o2).alloc (.cells cs.toArray t)) (w.heap.size+1+1) cs:=by
 have h:=Own.new ((w.alloc o1).alloc o2) cs t (B:=w.heap.size) (by simp; omega);rw [World.size_alloc,World.size_alloc] at h;exact h
theorem vM {B:Nat} {w:World} {g:Nat} {a0 a1:Value} (h:Own B w g [a0,a1]) (b0 b1:Value):Own B ((w.setCell ⟨g,0,none⟩ b0).setCell ⟨g,1,none⟩ b1) g [b0,b1]:=by
 have:=(h.put (j:=0) (by simp) b0).put (j:=1) (by simp) b1;simpa using this
theorem vE {w w1:World} (h:KB w.heap.size w w1) {g:Nat} (hg:w.heap.size≤g) (b0 b1:Value):KB w.heap.size w ((w1.setCell ⟨g,0,none⟩ b0).setCell ⟨g,1,none⟩ b1):=yV (yV h hg b0) hg b1
theorem dq (p:EP) (on:Bool):∀ i,i≠10→(yR (({ p.1 with yanked:=on }:EntryL),p.2))[i]?=(yR p)[i]?:=by
 intro i hi;(rcases i with _ | _ | _ | _ | _ | _ | _ | _ | _ | _ | _ | i);all_goals first | rfl | exact absurd rfl hi
theorem modify_set {l:List EntryL} {k:Nat} (h:k < l.length) (f:EntryL→EntryL):l.modify k f=l.set k (f l[k]):=by
 apply List.ext_getElem?;intro i;rw [List.getElem?_modify];by_cases e:k=i
 ·subst e; rw [List.getElem?_set_self h,List.getElem?_eq_getElem h]; simp
 ·rw [List.getElem?_set_ne e]; simp [e]
end Go.Proofs.YtiebekmefjbenaaGreatDoor
