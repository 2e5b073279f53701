import Derived.Test.YtiffijoenkcpjaaGreatDoorYPp
set_option linter.unusedVariables false
set_option linter.unusedSimpArgs false
set_option maxRecDepth 100000
set_option maxHeartbeats 4000000
namespace Go.Proofs.YtiffijoenkcpjaaGreatDoor
open Go.RowKit Go.Lib
open Rw
def txtE2:ByteArray:=⟨#[101,45,50]⟩
theorem Mans.one {w:World} {b o k:Nat} {l:List ManL} (h:Mans w (some ⟨b,o,none⟩) l) (hk:k < l.length):Mans w (some ⟨b,o+k * 11,none⟩) [l[k]]:=by
 obtain ⟨hl,ha⟩:=RowOf.lay h hk;refine .inr ⟨b,o+k * 11,rfl,hl,fun i hi=>?_⟩;have hi':i < 1:=hi;(obtain rfl:i=0:=by omega);rw [Nat.zero_mul,Nat.add_zero];exact ha
theorem Tryz.elem23:Tryz.prog.underlying 23=some (.slice (Tryz.prog.elem 23)):=by kernel_rfl
theorem Tryz.sizeE23 (u:World):(sizeOf (Tryz.prog.elem 23)).run Tryz.prog u = .ok 11 u:=by kernel_rfl
theorem addY (b o k:Nat):(⟨b,o,none⟩:Addr).add k=⟨b,o+k,none⟩:=by
 unfold Addr.add;split<;>simp_all
theorem slY_one (b o n mc k:Nat) (hk:k+1≤mc) (u:World):(Instr.slice 23 (.slice (some ⟨b,o,none⟩) n mc) (some (.int .i64 (k:Int))) (some (.int .i64 ((k:Int)+1))) none).run Tryz.prog u = .ok (.slice (some ⟨b,o+k * 11,none⟩) 1 (mc - k)) u:=by
 rw [run_slice_lh (h0:=by omega) (h1:=by omega) (h2:=by omega) (ht:=Tryz.elem23),Tryz.sizeE23];(have e1:((k:Int)+1).toNat=k+1:=by omega);(have e2:k+1 - k=1:=by omega);simp only [Result.andThen,sliced,Int.toNat_natCast,e1,e2];rw [if_neg (by omega),Option.map_some,addY]
theorem slY_oneAt (b o n mc k:Nat) (hk:k+1≤mc) (u:World):(Instr.sliceAt 23 (.slice (some ⟨b,o,none⟩) n mc) (some (.int .i64 (k:Int))) (some (.int .i64 ((k:Int)+1))) none).run Tryz.prog u = .ok (.slice (some ⟨b,o+k * 11,none⟩) 1 (mc - k)) u:=by
 rw [run_sliceAt_slice (h:=Tryz.elem23),slY_one _ _ _ _ _ hk]
theorem slY_two (b o n mc:Nat) (hk:2≤mc) (u:World):(Instr.slice 23 (.slice (some ⟨b,o,none⟩) n mc) none (some (.int .i64 2)) none).run Tryz.prog u = .ok (.slice (some ⟨b,o,none⟩) 2 mc) u:=by
 rw [run_slice_h (h0:=by omega) (h2:=by omega) (ht:=Tryz.elem23),Tryz.sizeE23];simp only [Result.andThen,sliced];rw [if_neg (by omega),Option.map_some,addY,Nat.zero_mul,Nat.add_zero];rfl
theorem slY_twoAt (b o n mc:Nat) (hk:2≤mc) (u:World):(Instr.sliceAt 23 (.slice (some ⟨b,o,none⟩) n mc) none (some (.int .i64 2)) none).run Tryz.prog u = .ok (.slice (some ⟨b,o,none⟩) 2 mc) u:=by
 rw [run_sliceAt_slice (h:=Tryz.elem23),slY_two _ _ _ _ hk]
theorem held_got {l:List ManL} {n:Nat} (h:checkY l=(0,0)) (nm:ByteArray) (hn:(holdsOf l nm).length≤n) (h7:n≤7):∃ s1 s2:List SpanL,heldY l nm=((s1,s2),0)∧SGood 2000 (s1,s2) :=
 ⟨_,_,held_ok h,(held_good (holdsOf l nm) whole_good).mono (by omega)⟩
theorem holds_one1 {m:ManL} (h:m.holds.length≤1) (nm:ByteArray):(holdsOf [m] nm).length≤1:=by
 have f:(m.holds.filter fun h=>yH h.name nm).length≤m.holds.length:=List.length_filter_le _ _;simp only [holdsOf,List.flatMap_cons,List.flatMap_nil,List.append_nil];omega
theorem holds_two2 {a b:ManL} (h1:a.holds.length≤1) (h2:b.holds.length≤1) (nm:ByteArray):(holdsOf [a,b] nm).length≤2:=by
 (have f:∀ l:List HoldL,(l.filter fun h=>yH h.name nm).length≤l.length:=fun l=>List.length_filter_le _ _);have k1:=f a.holds;have k2:=f b.holds;simp only [holdsOf,List.flatMap_cons,List.flatMap_nil,List.append_nil,List.length_append];omega
theorem walk_YardHeld (A:Option Addr) (ca:Nat) (zs:List Int) (B:Option Addr) (cb:Nat) (ys:List Int) (w:World) (hz:IntsAt w A zs) (hzn:zs.length≤9223372036854775807) (hy:IntsAt w B ys) (hyn:ys.length≤9223372036854775807) (hL:Laid w):Calls Tryz.prog 4 #[.slice A zs.length ca,.slice B ys.length cb] w (yT w true):=by
 have CB:=hid (members_any A ca zs w hz hzn);have CV:=hid (fun u (hb:KB w.heap.size w u)=>version_any B cb ys 0 u (rq hy hb) (by omega) (by omega) hyn);have CA:=hid (fun u (hb:KB w.heap.size w u)=>awake17_any u (hL.kb hb));have HV:=hid (versionL_ok ys 0);have HL:=hid hL;clear hL hz hy;generalize versionL ys 0=v at *;generalize zs.length=zn at *;generalize ys.length=yn at *;go_enter Tryz.func4,Tryz.ntmps4;(go_wp2_with fail);refine CB.out.mono ?_;rintro _ w1 ⟨a,b,c,M,mc,rfl,hmc,hm,ht,fa,fb,fc,hb⟩;have HM1:=hid hm;have HT:=hid ht
 have HX:=hid (show ∀ m∈[a,b,c],ManFit m∧(checkM m).1=0∧m.holds.length≤1 from fun m hm=>by
  obtain ⟨k1,k2,k3⟩:=ht.chk;simp only [List.mem_cons,List.not_mem_nil,or_false] at hm;rcases hm with rfl | rfl | rfl
  ·exact ⟨fa,k1,ht.a.hlen⟩
  ·exact ⟨fb,k2,ht.b.hlen⟩
  ·exact ⟨fc,k3,ht.c.hlen⟩)
 have HB1:=hid hb;clear hm ht fa fb fc hb CB;obtain ⟨mb,mo,hd,hM,-,-⟩:=man_at HM1.out (k:=0) (by simp);subst hM;(go_wp2_with fail);refine (CV.out _ HB1.out).mono ?_;rintro _ w2 ⟨rfl,hb⟩;have HM2:=hid (HM1.out.kb ManAt.stays hb.kb);have HB2:=hid (zA HB1.out hb.kb);clear hb HM1 HB1 CV hd;(go_upto_region 2 with fail);refine zI ?_;intro w3 hw3;have HVB:=hid (show Box w3 w2.heap.size [.int .i64 v.maj,.int .i64 v.min,.int .i64 v.pat,.string v.pre,.string v.bld] by rw [hw3]; exact Box.new w2 [.int .i64 v.maj,.int .i64 v.min,.int .i64 v.pat,.string v.pre,.string v.bld] 27);(have hb:KB w2.heap.size w2 w3:=by rw [hw3]; exact zG _ _);clear hw3;have HM3:=hid (HM2.out.kb ManAt.stays hb);have HB3:=hid (zA HB2.out hb);clear hb HM2 HB2;generalize w2.heap.size=g6 at *;obtain ⟨s1,s2,hss,hsg⟩:=held_got HT.out.all txtE2 (holds_len HT.out txtE2) (by omega);obtain ⟨t1,t2,htt,htg⟩:=held_got HT.out.less txtE2 (holds_two2 HT.out.a.hlen HT.out.b.hlen txtE2) (by omega)
 have CH:=hid (fun u (hb:KB w3.heap.size w3 u)=>show Calls Tryz.prog 10 #[.slice (some ⟨mb,mo,none⟩) 3 mc,.string ⟨#[101,45,50]⟩] u (HeldK u ((s1,s2),0)) from by
  have h:=yheld_any (some ⟨mb,mo,none⟩) mc [a,b,c] txtE2 u (HL.out.kb (zA HB3.out hb)) (HM3.out.kb ManAt.stays hb) (by simp) hmc (fun m hm=>(HX.out m hm).1)
  rwa [hss] at h)
 have CL:=hid (fun u (hb:KB w3.heap.size w3 u)=>show Calls Tryz.prog 10 #[.slice (some ⟨mb,mo,none⟩) 2 mc,.string ⟨#[101,45,50]⟩] u (HeldK u ((t1,t2),0)) from by
  have h:=yheld_any (some ⟨mb,mo,none⟩) mc [a,b] txtE2 u (HL.out.kb (zA HB3.out hb)) (Mans.take (l:=[a,b,c]) (HM3.out.kb ManAt.stays hb) 2) (by simp) (Nat.le_trans (by simp) hmc) (fun m hm=>(HX.out m (List.mem_of_mem_take (i:=2) hm)).1)
  rwa [htt] at h)
 have CO:=hid (fun k (hk:k < 3) u (hb:KB w3.heap.size w3 u)=>show Calls Tryz.prog 10 #[.slice (some ⟨mb,mo+k * 11,none⟩) 1 (mc - k),.string ⟨#[101,45,50]⟩] u (HeldK u (heldY [([a,b,c]:List ManL)[k]] txtE2)) from
  yheld_any (some ⟨mb,mo+k * 11,none⟩) (mc - k) [([a,b,c]:List ManL)[k]] txtE2 u (HL.out.kb (zA HB3.out hb)) (Mans.one (l:=[a,b,c]) (HM3.out.kb ManAt.stays hb) hk) (by simp) (by simp; omega) (fun m hm=>by
   rcases List.mem_singleton.1 hm with rfl
   exact (HX.out _ (List.getElem_mem hk)).1))
 have HO:=hid (fun k (hk:k < 3)=>held_got (one_ok (HX.out _ (List.getElem_mem (l:=[a,b,c]) hk)).2.1) txtE2 (holds_one1 (HX.out _ (List.getElem_mem (l:=[a,b,c]) hk)).2.2 txtE2) (by omega));have HEA:=hid (held_each HT.out txtE2 HV.out.1);have HLE:=hid (held_less HT.out txtE2);rw [hss] at HEA HLE;rw [htt] at HLE;dsimp only at HEA HLE;have HSG:=hid hsg;have HTG:=hid htg;clear hss htt hsg htg;obtain ⟨q1,hq1⟩:∃ n,s1.length=n:=⟨_,rfl⟩;obtain ⟨q2,hq2⟩:∃ n,s2.length=n:=⟨_,rfl⟩;obtain ⟨p1,hp1⟩:∃ n,t1.length=n:=⟨_,rfl⟩;obtain ⟨p2,hp2⟩:∃ n,t2.length=n:=⟨_,rfl⟩;unfold HeldK at CH CL;dsimp only at CH CL;rw [hq1,hq2] at CH;rw [hp1,hp2] at CL;have HQ1:=hid hq1;have HQ2:=hid hq2;have HP1:=hid hp1;have HP2:=hid hp2;clear hq1 hq2 hp1 hp2;(obtain ⟨H,hH⟩:∃ H:ManL→Bool,H=fun m=>hasS (heldY [m] txtE2).1.1 (heldY [m] txtE2).1.2 v:=⟨_,rfl⟩);obtain ⟨Wf,hW⟩:∃ Wf:Nat→Bool,Wf=fun k=>(([a,b,c]:List ManL).take k).all H:=⟨_,rfl⟩
 have HW3:=hid (show hasS s1 s2 v=Wf 3 from by
  rw [HEA.out,hW,hH]
  simp only [List.take_succ_cons,List.take_zero,List.all_cons,List.all_nil,Bool.and_true])
 have HTK:=hid (fun k (hk:k < 3)=>show Wf (k+1)=(Wf k&&hasS (heldY [([a,b,c]:List ManL)[k]] txtE2).1.1 (heldY [([a,b,c]:List ManL)[k]] txtE2).1.2 v) from by
  rw [hW];show (([a,b,c]:List ManL).take (k+1)).all H=((([a,b,c]:List ManL).take k).all H&&_)
  rw [List.take_succ_eq_append_getElem (l:=[a,b,c]) hk,List.all_append,List.all_cons,List.all_nil,Bool.and_true,hH])
 have HTZ:=hid (show Wf 0=true from by rw [hW]; rfl);clear hW hH HEA H;(go_wp2_with fail);refine (CH.out _ (zH _)).mono ?_;rintro _ w4 ⟨A1,c1,A2,c2,rfl,h1,h2,hb⟩;have HS1:=hid h1.1;have HS2:=hid h2.1;have HVB4:=hid (HVB.out.kb hb);have HB4:=hid hb;clear h1 h2 hb HVB CH;(go_upto_region 3 with fail);refine zI ?_;intro w5 hw5;have HY:=hid (show Box w5 w4.heap.size [.slice A1 q1 c1,.slice A2 q2 c2] by rw [hw5]; exact Box.new w4 [.slice A1 q1 c1,.slice A2 q2 c2] 42);(have hb:KB w4.heap.size w4 w5:=by rw [hw5]; exact zG _ _);clear hw5;have HS15:=hid (HS1.out.kb hb);have HS25:=hid (HS2.out.kb hb);have HVB5:=hid (HVB4.out.kb hb);have HB5:=hid (zA HB4.out hb);clear hb HS1 HS2 HVB4 HB4;generalize w4.heap.size=g7 at *;(go_upto_block 0 with fail);(go_wp2_with fail);go_loopw [10,9] (fun iv wv wr=>∃ k:Nat,iv = .int .i64 (k:Int)∧wv = .bool (Wf k)∧k≤3∧Hid (KB w5.heap.size w5 wr)) (fun iv _ _=>3 - (intOf iv).toNat)
 case atStart=>exact ⟨0,rfl,by rw [HTZ.out],by omega,hid (zH _)⟩
 case round =>
  (rename World=>wr);obtain ⟨k,rfl,rfl,hk,HK⟩:=hrel;(have k0:(0:Int)≤(k:Int):=by omega);by_cases hlt:k < 3
  ·(have k1:(k:Int) < 3:=by omega);(have sl1:=fun u=>slY_one mb mo 3 mc k (by omega) u);(have sl2:=fun u=>slY_oneAt mb mo 3 mc k (by omega) u);have CK:=hid (CO.out k hlt);have HKT:=hid (HTK.out k hlt);obtain ⟨o1,o2,hoo,hog⟩:=HO.out k hlt;rw [hoo] at CK HKT;have HOG:=hid hog;clear hoo hog;unfold HeldK at CK;dsimp only at CK HKT;obtain ⟨r1,hr1⟩:∃ n,o1.length=n:=⟨_,rfl⟩;obtain ⟨r2,hr2⟩:∃ n,o2.length=n:=⟨_,rfl⟩;rw [hr1,hr2] at CK;have HR1:=hid hr1;have HR2:=hid hr2;clear hr1 hr2;(go_wp2_with fail);refine (CK.out _ (zA HB5.out HK.out)).mono ?_;rintro _ u1 ⟨B1,d1,B2,d2,rfl,h1,h2,hb⟩;have HT1:=hid h1.1;have HT2:=hid h2.1;have HK1:=hid (zA HK.out hb);clear h1 h2 hb HK CK sl1 sl2;(go_upto_region 8 with fail);refine zI ?_;intro u2 hu2;have HZ:=hid (show Box u2 u1.heap.size [.slice B1 r1 d1,.slice B2 r2 d2] by rw [hu2]; exact Box.new u1 [.slice B1 r1 d1,.slice B2 r2 d2] 42);(have hb:KB u1.heap.size u1 u2:=by rw [hu2]; exact zG _ _);clear hu2;have HT12:=hid (HT1.out.kb hb);have HT22:=hid (HT2.out.kb hb);have HK2:=hid (zA HK1.out hb);clear hb HT1 HT2 HK1;generalize u1.heap.size=g11 at *;cases hw:Wf k
   ·have HKF:=hid (HKT.out.trans (by rw [hw,Bool.false_and]));clear hw;(go_wp2_with fail);go_roundw
    case rel=>exact ⟨k+1,by go_num,by rw [HKF.out],by omega,HK2⟩
    case measure=>simp [intOf]<;>omega
   ·have HKF:=hid (HKT.out.trans (by rw [hw,Bool.true_and]));clear hw
    have HHC:=hid (show Calls Tryz.prog 15 #[setV B1 r1 d1 B2 r2 d2,v.val] u2 (yc u2 (hasS o1 o2 v)) from by
     have h:=law_hasR d1 d2 (HL.out.kb (zA HB3.out (zA HB5.out HK2.out))).first (HOG.out.at_ HT12.out HT22.out) HV.out.2 (by omega)
     rwa [HR1.out,HR2.out] at h)
    obtain ⟨z0,z1⟩:=HZ.out.get2;have zl:=HZ.out.1;have v0:=(HVB5.out.kb HK2.out).2 0 _ rfl;have v1:=(HVB5.out.kb HK2.out).2 1 _ rfl;have v2:=(HVB5.out.kb HK2.out).2 2 _ rfl;have v3:=(HVB5.out.kb HK2.out).2 3 _ rfl;have v4:=(HVB5.out.kb HK2.out).2 4 _ rfl;have vl:=(HVB5.out.kb HK2.out).1;(go_wp2_with fail);refine HHC.out.mono ?_;rintro _ u3 ⟨rfl,hb⟩;have HK3:=hid (zA HK2.out hb.kb);clear hb z0 z1 zl v0 v1 v2 v3 v4 vl HHC HK2 HT12 HT22 HZ;(go_wp2_with fail);go_roundw
    case rel=>exact ⟨k+1,by go_num,by rw [HKF.out],by omega,HK3⟩
    case measure=>simp [intOf]<;>omega
  ·(obtain rfl:k=3:=by omega);(have k1:¬ ((3:Nat):Int) < 3:=by omega);rw [← HW3.out];clear HW3 HTK HTZ HO CO;(have sl1:=fun u=>slY_two mb mo 3 mc (by omega) u);(have sl2:=fun u=>slY_twoAt mb mo 3 mc (by omega) u);(go_wp2_with fail);refine (CL.out _ (zA HB5.out HK.out)).mono ?_;rintro _ u1 ⟨B1,d1,B2,d2,rfl,h1,h2,hb⟩;have HT1:=hid h1.1;have HT2:=hid h2.1;have HK1:=hid (zA HK.out hb);clear h1 h2 hb HK CL sl1 sl2;(go_upto_region 12 with fail);refine zI ?_;intro u2 hu2;have HZ:=hid (show Box u2 u1.heap.size [.slice B1 p1 d1,.slice B2 p2 d2] by rw [hu2]; exact Box.new u1 [.slice B1 p1 d1,.slice B2 p2 d2] 42);(have hb:KB u1.heap.size u1 u2:=by rw [hu2]; exact zG _ _);clear hu2;have HT12:=hid (HT1.out.kb hb);have HT22:=hid (HT2.out.kb hb);have HK2:=hid (zA HK1.out hb);clear hb HT1 HT2 HK1;generalize u1.heap.size=g13 at *;have HBU:=hid (zA HB3.out (zA HB5.out HK2.out));(go_wp2_with fail);refine (CA.out _ HBU.out).mono ?_;rintro _ u3 ⟨rfl,hb⟩;have HU3:=hid hb;clear hb
   have HHC:=hid (show Calls Tryz.prog 15 #[setV A1 q1 c1 A2 q2 c2,v.val] u3 (yc u3 (hasS s1 s2 v)) from by
    have h:=law_hasR c1 c2 (HL.out.kb (zA HBU.out HU3.out)).first (HSG.out.at_ (HS15.out.kb (zA HK2.out HU3.out)) (HS25.out.kb (zA HK2.out HU3.out))) HV.out.2 (by omega)
    rwa [HQ1.out,HQ2.out] at h)
   have HY3:=hid (HY.out.kb (zA HK2.out HU3.out));have HV3:=hid (HVB5.out.kb (zA HK2.out HU3.out));obtain ⟨z0,z1⟩:=HY3.out.get2;have zl:=HY3.out.1;have v0:=HV3.out.2 0 _ rfl;have v1:=HV3.out.2 1 _ rfl;have v2:=HV3.out.2 2 _ rfl;have v3:=HV3.out.2 3 _ rfl;have v4:=HV3.out.2 4 _ rfl;have vl:=HV3.out.1;(go_wp2_with fail);refine HHC.out.mono ?_;rintro _ u4 ⟨rfl,hb⟩;have HU4:=hid (zA HU3.out hb.kb);clear hb z0 z1 zl v0 v1 v2 v3 v4 vl HHC HV3;have e6:(hasS s1 s2 v==hasS s1 s2 v)=true:=by simp
   have HWI:=hid (show Calls Tryz.prog 16 #[setV A1 q1 c1 A2 q2 c2,setV B1 p1 d1 B2 p2 d2] u4 (yc u4 true) from by
    have h:=law_withinR c1 c2 d1 d2 (HL.out.kb (zA HBU.out HU4.out)).first (HSG.out.at_ (HS15.out.kb (zA HK2.out HU4.out)) (HS25.out.kb (zA HK2.out HU4.out))) (HTG.out.at_ (HT12.out.kb HU4.out) (HT22.out.kb HU4.out)) (by omega)
    rwa [HLE.out,HQ1.out,HQ2.out,HP1.out,HP2.out] at h)
   have HY4:=hid (HY.out.kb (zA HK2.out HU4.out));have HZ4:=hid (HZ.out.kb HU4.out);obtain ⟨z0,z1⟩:=HY4.out.get2;have zl:=HY4.out.1;obtain ⟨x0,x1⟩:=HZ4.out.get2;have xl:=HZ4.out.1;(go_wp2_with fail);refine HWI.out.mono ?_;rintro _ u5 ⟨rfl,hb⟩;have HBX:=hid (zA (zA HBU.out HU4.out) hb.kb);clear hb z0 z1 zl x0 x1 xl HWI;(go_wp2_with fail);(try rw [Exit.noGoto_ret]);(try (first | go_ret | go_ret2));exact ⟨rfl,HBX.out⟩
end Go.Proofs.YtiffijoenkcpjaaGreatDoor
