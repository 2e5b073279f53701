import Derived.Test.YtofkjhnhafbfoaaGreatDoorWFrU
import Derived.Test.YtofkjhnhafbfoaaGreatDoorWLk
set_option linter.unusedVariables false
set_option linter.unusedSimpArgs false
set_option maxRecDepth 100000
set_option maxHeartbeats 2000000
namespace Go.Proofs.YtofkjhnhafbfoaaGreatDoor
open Go.RowKit Go.Lib
open Rw
def FewK (w:World) (s:ShelfL) (e:Ending) (w':World):Prop:=∃ b:Bool,e = .returned (.bool b)∧(b=true→s.name.size≤60∧s.entries.length≤6)∧KB w.heap.size w w'
theorem few13_any (s:ShelfL) (A:Option Addr) (c:Nat) (w:World) (hE:yL w A s.entries) (hln:s.entries.length≤9223372036854775807) (hnm:s.name.size≤1048576) (hsz:∀ x∈s.entries,SizedR x.rc):Calls Tryz.prog 10 #[s.val A c] w (FewK w s):=by
 have HE:=hid hE;have HSZ:=hid hsz;clear hE hsz;obtain ⟨snm,l⟩:=s;dsimp only [ShelfL.val] at *;generalize hnn:l.length=n at *;have HN:=hid hnn;clear hnn;have HNM:=hid hnm;(have s0:(0:Int)≤(snm.size:Int):=by omega);go_enter Tryz.func10,Tryz.ntmps10;(go_upto_region 1 with fail);refine zI ?_;intro u1 hu;have HX:=hid (show Box u1 w.heap.size [.string snm,.slice A n c] by rw [hu]; exact Box.new w [.string snm,.slice A n c] 24);have HB1:=hid (show KB w.heap.size w u1 by rw [hu]; exact zG _ _);clear hu;have x0:=HX.out.2 0 _ rfl;have x1:=HX.out.2 1 _ rfl;have xl:=HX.out.1;by_cases h6:6 < n
 ·(have d1:decide ((6:Int) < (n:Int))=true:=by rw [decide_eq_true_iff]; omega);clear h6;(go_wp2_with fail);(try rw [Exit.noGoto_ret]);(try go_ret);exact ⟨false,rfl,(fun h=>by cases h),HB1.out⟩
 ·(have d1:decide ((6:Int) < (n:Int))=false:=by rw [decide_eq_false_iff_not]; omega);have HN6:=hid (show n≤6 by omega);by_cases h60:60 < snm.size
  ·(have d2:decide ((60:Int) < (snm.size:Int))=true:=by rw [decide_eq_true_iff]; omega);clear h60;(go_wp2_with fail);(try rw [Exit.noGoto_ret]);(try go_ret);exact ⟨false,rfl,(fun h=>by cases h),HB1.out⟩
  ·(have d2:decide ((60:Int) < (snm.size:Int))=false:=by rw [decide_eq_false_iff_not]; omega);have HN60:=hid (show snm.size≤60 by omega);(go_upto_block 0 with fail);(go_wp2_with fail);clear h60 h6 d1 d2 x0 x1 xl hnm s0;go_loopw [3] (fun i ww=>∃ k:Nat,i = .int .i64 (k:Int)∧k≤n∧Hid (KB u1.heap.size u1 ww)) (fun i _=>n - (intOf i).toNat)
   case atStart=>exact ⟨0,rfl,Nat.zero_le _,hid (zH _)⟩
   case round =>
    (rename World=>wr);obtain ⟨k,rfl,hk,HK⟩:=hrel;have HKW:=hid (zA HB1.out HK.out);have HXW:=hid (HX.out.kb HK.out);have x1:=HXW.out.2 1 _ rfl;have xl:=HXW.out.1;by_cases hlt:k < n
    ·(have hlt':k < l.length:=by rw [HN.out]; exact hlt);obtain ⟨b,off,hd,hA,hrl,hce⟩:=v7 HE.out hlt';subst hA;have hz:=HSZ.out _ (List.getElem_mem hlt');have hce2:=hce.kb HKW.out;have hn6:=HN6.out;(have k0:(0:Int)≤(k:Int):=by omega);(have k1:(k:Int) < (n:Int):=by omega);clear hce;generalize l[k]=x at *;obtain ⟨⟨rn,rv,rne,rba,rfe⟩,sm,yk⟩:=x;obtain ⟨A0,ca,B0,cb,F0,cf⟩:=hd;dsimp only at hz hrl;obtain ⟨z1,⟨z2,z3⟩,-,z4⟩:=hz;have HNE:=hid hrl.needs;have HSN:=hid z4;have hl1:=hrl.ln;have hl2:=hrl.lb;have hl3:=hrl.lf;dsimp only at HNE HSN hl1 hl2 hl3 z1 z2 z3;clear hrl z4;obtain ⟨c0,c1,c2,c3,c4,c5,c6,c7,c8,c9,c10,cl⟩:=hce2;dsimp only at c0 c1 c2 c3 c4 c5 c6 c7 c8;generalize hnn:rne.length=n1 at *;have HN1:=hid hnn;clear hnn;generalize rba.length=n2 at *;generalize rfe.length=n3 at *;(go_upto_region 7 with fail);refine zI ?_;intro u4 hu;(have hb4:KB wr.heap.size wr u4:=by rw [hu]; exact zG _ _);have HR:=hid (show Box u4 wr.heap.size [.string rn,.int .i64 rv.maj,.int .i64 rv.min,.int .i64 rv.pat,.string rv.pre,.string rv.bld,.slice A0 n1 ca,.slice B0 n2 cb,.slice F0 n3 cf] by rw [hu]; exact Box.new wr [.string rn,.int .i64 rv.maj,.int .i64 rv.min,.int .i64 rv.pat,.string rv.pre,.string rv.bld,.slice A0 n1 ca,.slice B0 n2 cb,.slice F0 n3 cf] 31);have HK4:=hid (zA HK.out hb4);clear hu hb4 c0 c1 c2 c3 c4 c5 c6 c7 c8 c9 c10 cl x1 xl;generalize wr.heap.size=g4 at *
     obtain ⟨r0,r1,r2,r3,r4,r5,r6,r7,r8,rl⟩:=wK HR.out;have w1:IntKind.i64.wrap ((rn.size:Int)+(rv.pre.size:Int))=(rn.size:Int)+(rv.pre.size:Int):=IntWalk.i64_in _ (by omega);have w2:IntKind.i64.wrap ((rn.size:Int)+(rv.pre.size:Int)+(rv.bld.size:Int))=(rn.size:Int)+(rv.pre.size:Int)+(rv.bld.size:Int):=IntWalk.i64_in _ (by omega);by_cases h2:200 < rn.size+rv.pre.size+rv.bld.size
     ·(have d1:decide ((200:Int) < (rn.size:Int)+(rv.pre.size:Int)+(rv.bld.size:Int))=true:=by rw [decide_eq_true_iff]; omega);clear h2;(go_wp2_with fail);(try rw [Exit.noGoto_ret]);(try go_ret);exact ⟨false,rfl,(fun h=>by cases h),zA HB1.out HK4.out⟩
     ·(have d1:decide ((200:Int) < (rn.size:Int)+(rv.pre.size:Int)+(rv.bld.size:Int))=false:=by rw [decide_eq_false_iff_not]; omega);clear h2;by_cases h3:9 < n1
      ·(have d2:decide ((9:Int) < (n1:Int))=true:=by rw [decide_eq_true_iff]; omega);clear h3;(go_wp2_with fail);(try rw [Exit.noGoto_ret]);(try go_ret);exact ⟨false,rfl,(fun h=>by cases h),zA HB1.out HK4.out⟩
      ·(have d2:decide ((9:Int) < (n1:Int))=false:=by rw [decide_eq_false_iff_not]; omega);(have hn9:n1≤9:=by omega);clear h3;by_cases h4:9 < n2
       ·(have d3:decide ((9:Int) < (n2:Int))=true:=by rw [decide_eq_true_iff]; omega);clear h4;(go_wp2_with fail);(try rw [Exit.noGoto_ret]);(try go_ret);exact ⟨false,rfl,(fun h=>by cases h),zA HB1.out HK4.out⟩
       ·(have d3:decide ((9:Int) < (n2:Int))=false:=by rw [decide_eq_false_iff_not]; omega);clear h4;by_cases h5:9 < n3
        ·(have d4:decide ((9:Int) < (n3:Int))=true:=by rw [decide_eq_true_iff]; omega);clear h5;(go_wp2_with fail);(try rw [Exit.noGoto_ret]);(try go_ret);exact ⟨false,rfl,(fun h=>by cases h),zA HB1.out HK4.out⟩
        ·(have d4:decide ((9:Int) < (n3:Int))=false:=by rw [decide_eq_false_iff_not]; omega);clear h5;(go_upto_block 2 with fail);(go_wp2_with fail);clear r0 r1 r2 r3 r4 r5 r6 r7 r8 rl w1 w2 d1 d2 d3 d4 z1 z2 z3;go_loopw [5] (fun i ww=>∃ q:Nat,i = .int .i64 (q:Int)∧q≤n1∧Hid (KB u4.heap.size u4 ww)) (fun i _=>n1 - (intOf i).toNat)
         case atStart=>exact ⟨0,rfl,Nat.zero_le _,hid (zH _)⟩
         case round =>
          (rename World=>wi);obtain ⟨q,rfl,hq,HQ⟩:=hrel;have HQ1:=hid (zA HK4.out HQ.out);have HQW:=hid (zA HB1.out HQ1.out);have HRW:=hid (HR.out.kb HQ.out);have r6:=HRW.out.2 6 _ rfl;have rl:=HRW.out.1;by_cases hqt:q < n1
          ·(have hqt':q < rne.length:=by rw [HN1.out]; exact hqt);obtain ⟨p,pof,hA,hpl,cx⟩:=RowOf.at_ HNE.out hqt';subst hA;have hz:=HSN.out _ (List.getElem_mem hqt');have HPL:=hid hpl;generalize rne[q]=y at *;obtain ⟨⟨Ax,axL,cx0,-,-⟩,cx1,cx2⟩:=cx;obtain ⟨yaL,ywL,yo⟩:=y;have HCX:=hid (And.intro cx0 (And.intro cx1 cx2));obtain ⟨z1,z2⟩:=hz;dsimp only at HCX z1 z2;generalize yaL.length=m at *;clear cx0 cx1 cx2 hpl;(have q0:(0:Int)≤(q:Int):=by omega);(have q1:(q:Int) < (n1:Int):=by omega);have w1:IntKind.i64.wrap ((ywL.size:Int)+(yo.size:Int))=(ywL.size:Int)+(yo.size:Int):=IntWalk.i64_in _ (by omega);obtain ⟨g1,hg1⟩:∃ g1,decide ((4:Int) < (m:Int))=g1:=⟨_,rfl⟩;obtain ⟨g2,hg2⟩:∃ g2,decide ((200:Int) < (ywL.size:Int)+(yo.size:Int))=g2:=⟨_,rfl⟩;(go_upto_region 12 with fail);clear r6 rl;have hS:KB wi.heap.size wi wi.drew:=zM (zH _);cases g1
           all_goals
            (refine wpS (fun u=>KB wi.heap.size wi u) (.last [0,1,2,3,4,5,6,7,8,9,10,11,12,13,14,15,16,17,18,19,20,21,22,23,24,25]) fun iS=>?_);(have r6:=fun (z:SW fun u=>KB wi.heap.size wi u)=>(HRW.out.kb z.ok).2 6 (.slice (some ⟨p,pof,none⟩) n1 ca) rfl);(have rl:=fun (z:SW fun u=>KB wi.heap.size wi u)=>(HRW.out.kb z.ok).1);(have cx0:=fun (z:SW fun u=>KB wi.heap.size wi u)=>zU HPL.out (zA HQW.out z.ok) HCX.out.1);(have cx1:=fun (z:SW fun u=>KB wi.heap.size wi u)=>zU HPL.out (zA HQW.out z.ok) HCX.out.2.1);(have cx2:=fun (z:SW fun u=>KB wi.heap.size wi u)=>zU HPL.out (zA HQW.out z.ok) HCX.out.2.2);(have pl:=fun (z:SW fun u=>KB wi.heap.size wi u)=>Nat.lt_of_lt_of_le HPL.out (zA HQW.out z.ok).size);(with_reducible refine zJ ?_);simp only [zB,pka,pkb,pkc,pkd,pke,pkf];(repeat go_big_quiet_step (fail));refine wpQuiet_nil ?_;clear r6 rl cx0 cx1 cx2 pl iS
           ·cases g2
            ·(go_wp2_with fail);go_roundw
             case rel=>exact ⟨q+1,by go_num,by omega,hid (zA HQ.out hS)⟩
             case measure=>simp [intOf]<;>omega
            ·have HKE:=hid (zA HQW.out hS);(go_wp2_with fail);(try rw [Exit.noGoto_ret]);(try go_ret);exact ⟨false,rfl,(fun h=>by cases h),HKE.out⟩
           ·have HKE:=hid (zA HQW.out hS);(go_wp2_with fail);(try rw [Exit.noGoto_ret]);(try go_ret);exact ⟨false,rfl,(fun h=>by cases h),HKE.out⟩
          ·(obtain rfl:q=n1:=by omega);(have k1':¬ (q:Int) < (q:Int):=by omega);(go_wp2_with fail);go_roundw
           case rel=>exact ⟨k+1,by go_num,by omega,HQ1⟩
           case measure=>simp [intOf]<;>omega
    ·(obtain rfl:k=n:=by omega);(have k1:¬ (k:Int) < (k:Int):=by omega);(go_wp2_with fail);(try rw [Exit.noGoto_ret]);(try go_ret);exact ⟨true,rfl,(fun _=>⟨HN60.out,by show l.length≤6; rw [HN.out]; exact HN6.out⟩),HKW.out⟩
theorem may_le {s:ShelfL} (h:zQ z7 s=true):s.entries.length≤64:=by
 unfold zQ at h;rw [Bool.and_eq_true,Bool.and_eq_true,decide_eq_true_eq] at h;exact h.1.2
end Go.Proofs.YtofkjhnhafbfoaaGreatDoor
