import Derived.Test.YtiffijoenkcpjaaGreatDoorYCa
set_option linter.unusedVariables false
set_option linter.unusedSimpArgs false
set_option maxRecDepth 100000
set_option maxHeartbeats 4000000
namespace Go.Proofs.YtiffijoenkcpjaaGreatDoor
open Go.RowKit Go.Lib
theorem mX {c:CompL} (h:¬ MayX c):sL c=false:=by
 rw [Bool.eq_false_iff]; exact fun e=>h (yY.1 e)
theorem jl {op parts:Int} {v:Ver} (hv:yF v=true) (h6:v.bld.toList=[]) (h5:v.pre.toList=[]):sL ⟨op,parts,v⟩ =
 decide ((1≤op∧op≤9)∧((op=9∧0≤parts∧parts≤2)∨(op≠9∧1≤parts∧parts≤3))∧(parts < 1→v.maj=0)∧(parts < 2→v.min=0)∧(parts < 3→v.pat=0)):=by
 rw [Bool.eq_iff_iff,yY,decide_eq_true_eq]
 exact ⟨fun m=>⟨m.op,m.many,m.maj,m.min,m.pat⟩,fun ⟨h1,h2,h3,h4,h7⟩=>⟨h1,hv,h6,h2,fun _=>h5,h3,h4,h7⟩⟩
theorem ko {op parts:Int} {v:Ver} (hv:yF v=true) (h6:v.bld.toList=[]) (h5:¬ v.pre.toList=[]):sL ⟨op,parts,v⟩ =
 decide ((1≤op∧op≤9)∧(op≠9∧parts=3)):=by
 rw [Bool.eq_iff_iff,yY,decide_eq_true_eq]
 constructor
 ·intro m;(have h3:¬ parts < 3:=fun h=>h5 (m.pre h));have h4:=m.many;simp only at h4;exact ⟨m.op,by omega,by omega⟩
 ·rintro ⟨h1,h2,h3⟩;exact ⟨h1,hv,h6,.inr ⟨h2,by simp only; omega,by simp only; omega⟩,fun h=>absurd h (by simp only; omega),fun h=>absurd h (by simp only; omega),fun h=>absurd h (by simp only; omega),fun h=>absurd h (by simp only; omega)⟩
theorem mz (c:CompL) (w:World) (hc:c.fit):Calls Tryz.prog 131 #[c.val] w (yc w (sL c)):=by
 obtain ⟨op,parts,v⟩:=c;generalize hr:sL ⟨op,parts,v⟩=r;have HM:=hid (vm v (w.alloc (.cells (CompL.cells ⟨op,parts,v⟩).toArray 86)) hc);have HBX:=hid (Box.new w (CompL.cells ⟨op,parts,v⟩) 86);have HB0:=hid (zL w (.cells (CompL.cells ⟨op,parts,v⟩).toArray 86));cases hv:yF v
 ·rw [hv] at HM;have HE:=hid (show r=false from hr.symm.trans (mX (fun m=>absurd m.v (by simp [hv]))));clear hr hv;go_enter Tryz.func131,Tryz.ntmps131;go_wp2_with (go_at_call 110; refine HM.out.mono ?_; rintro _ w1 ⟨rfl,hb⟩; have HB:=hid (zC HB0.out hb); obtain ⟨x0,x1,x2,x3,x4,x5,x6⟩:=(HBX.out.below hb).get7; clear hb)
  all_goals
   go_ret;refine ⟨?_,(by with_reducible (first | exact HB.out | exact HB0.out))⟩;exact congrArg (fun b=>Ending.returned (.bool b)) HE.out.symm
 ·rw [hv] at HM;rcases xy v.bld with ⟨e6,n6⟩ | e6
  ·have HE:=hid (show r=false from hr.symm.trans (mX (fun m=>n6 m.bld)));clear hr hv;go_enter Tryz.func131,Tryz.ntmps131;go_wp2_with (go_at_call 110; refine HM.out.mono ?_; rintro _ w1 ⟨rfl,hb⟩; have HB:=hid (zC HB0.out hb); obtain ⟨x0,x1,x2,x3,x4,x5,x6⟩:=(HBX.out.below hb).get7; clear hb)
   all_goals
    go_ret;refine ⟨?_,(by with_reducible (first | exact HB.out | exact HB0.out))⟩;exact congrArg (fun b=>Ending.returned (.bool b)) HE.out.symm
  ·rcases xy v.pre with ⟨e5,n5⟩ | e5
   ·have HE:=hid (hr.symm.trans (ko (op:=op) (parts:=parts) hv e6 n5));clear hr hv;go_enter Tryz.func131,Tryz.ntmps131;go_wp2_with (go_at_call 110; refine HM.out.mono ?_; rintro _ w1 ⟨rfl,hb⟩; have HB:=hid (zC HB0.out hb); obtain ⟨x0,x1,x2,x3,x4,x5,x6⟩:=(HBX.out.below hb).get7; clear hb)
    all_goals
     go_ret;refine ⟨?_,(by with_reducible (first | exact HB.out | exact HB0.out))⟩;refine congrArg (fun b=>Ending.returned (.bool b)) ?_;rw [HE.out,Bool.eq_iff_iff];simp only [Bool.and_eq_true,Bool.or_eq_true,beq_iff_eq,bne_iff_ne,decide_eq_true_eq,Bool.false_eq_true,Bool.true_eq_false,iff_true,true_iff,iff_false,false_iff];clear HM HBX HE HB0;(try simp only [beq_iff_eq,beq_eq_false_iff_ne,bne_iff_ne,bne_eq_false_iff_eq,ne_eq] at *);omega
   ·have HE:=hid (hr.symm.trans (jl (op:=op) (parts:=parts) hv e6 e5));clear hr hv;go_enter Tryz.func131,Tryz.ntmps131;go_wp2_with (go_at_call 110; refine HM.out.mono ?_; rintro _ w1 ⟨rfl,hb⟩; have HB:=hid (zC HB0.out hb); obtain ⟨x0,x1,x2,x3,x4,x5,x6⟩:=(HBX.out.below hb).get7; clear hb)
    all_goals
     go_ret;refine ⟨?_,(by with_reducible (first | exact HB.out | exact HB0.out))⟩;refine congrArg (fun b=>Ending.returned (.bool b)) ?_;rw [HE.out,Bool.eq_iff_iff];simp only [Bool.and_eq_true,Bool.or_eq_true,beq_iff_eq,bne_iff_ne,decide_eq_true_eq,Bool.false_eq_true,Bool.true_eq_false,iff_true,true_iff,iff_false,false_iff];clear HM HBX HE HB0;(try simp only [beq_iff_eq,beq_eq_false_iff_ne,bne_iff_ne,bne_eq_false_iff_eq,ne_eq] at *);omega
theorem jd (c:CompL) (w:World) (hc:c.fit):Calls Tryz.prog 68 #[c.val] w (yc w (sL c)):=by
 obtain ⟨op,parts,v⟩:=c;generalize hr:sL ⟨op,parts,v⟩=r;have HM:=hid (vC v (w.alloc (.cells (CompL.cells ⟨op,parts,v⟩).toArray 86)) hc);have HBX:=hid (Box.new w (CompL.cells ⟨op,parts,v⟩) 86);have HB0:=hid (zL w (.cells (CompL.cells ⟨op,parts,v⟩).toArray 86));cases hv:yF v
 ·rw [hv] at HM;have HE:=hid (show r=false from hr.symm.trans (mX (fun m=>absurd m.v (by simp [hv]))));clear hr hv;go_enter Tryz.func68,Tryz.ntmps68;go_wp2_with (go_at_call 36; refine HM.out.mono ?_; rintro _ w1 ⟨rfl,hb⟩; have HB:=hid (zC HB0.out hb); obtain ⟨x0,x1,x2,x3,x4,x5,x6⟩:=(HBX.out.below hb).get7; clear hb)
  all_goals
   go_ret;refine ⟨?_,(by with_reducible (first | exact HB.out | exact HB0.out))⟩;exact congrArg (fun b=>Ending.returned (.bool b)) HE.out.symm
 ·rw [hv] at HM;rcases xy v.bld with ⟨e6,n6⟩ | e6
  ·have HE:=hid (show r=false from hr.symm.trans (mX (fun m=>n6 m.bld)));clear hr hv;go_enter Tryz.func68,Tryz.ntmps68;go_wp2_with (go_at_call 36; refine HM.out.mono ?_; rintro _ w1 ⟨rfl,hb⟩; have HB:=hid (zC HB0.out hb); obtain ⟨x0,x1,x2,x3,x4,x5,x6⟩:=(HBX.out.below hb).get7; clear hb)
   all_goals
    go_ret;refine ⟨?_,(by with_reducible (first | exact HB.out | exact HB0.out))⟩;exact congrArg (fun b=>Ending.returned (.bool b)) HE.out.symm
  ·rcases xy v.pre with ⟨e5,n5⟩ | e5
   ·have HE:=hid (hr.symm.trans (ko (op:=op) (parts:=parts) hv e6 n5));clear hr hv;go_enter Tryz.func68,Tryz.ntmps68;go_wp2_with (go_at_call 36; refine HM.out.mono ?_; rintro _ w1 ⟨rfl,hb⟩; have HB:=hid (zC HB0.out hb); obtain ⟨x0,x1,x2,x3,x4,x5,x6⟩:=(HBX.out.below hb).get7; clear hb)
    all_goals
     go_ret;refine ⟨?_,(by with_reducible (first | exact HB.out | exact HB0.out))⟩;refine congrArg (fun b=>Ending.returned (.bool b)) ?_;rw [HE.out,Bool.eq_iff_iff];simp only [Bool.and_eq_true,Bool.or_eq_true,beq_iff_eq,bne_iff_ne,decide_eq_true_eq,Bool.false_eq_true,Bool.true_eq_false,iff_true,true_iff,iff_false,false_iff];clear HM HBX HE HB0;(try simp only [beq_iff_eq,beq_eq_false_iff_ne,bne_iff_ne,bne_eq_false_iff_eq,ne_eq] at *);omega
   ·have HE:=hid (hr.symm.trans (jl (op:=op) (parts:=parts) hv e6 e5));clear hr hv;go_enter Tryz.func68,Tryz.ntmps68;go_wp2_with (go_at_call 36; refine HM.out.mono ?_; rintro _ w1 ⟨rfl,hb⟩; have HB:=hid (zC HB0.out hb); obtain ⟨x0,x1,x2,x3,x4,x5,x6⟩:=(HBX.out.below hb).get7; clear hb)
    all_goals
     go_ret;refine ⟨?_,(by with_reducible (first | exact HB.out | exact HB0.out))⟩;refine congrArg (fun b=>Ending.returned (.bool b)) ?_;rw [HE.out,Bool.eq_iff_iff];simp only [Bool.and_eq_true,Bool.or_eq_true,beq_iff_eq,bne_iff_ne,decide_eq_true_eq,Bool.false_eq_true,Bool.true_eq_false,iff_true,true_iff,iff_false,false_iff];clear HM HBX HE HB0;(try simp only [beq_iff_eq,beq_eq_false_iff_ne,bne_iff_ne,bne_eq_false_iff_eq,ne_eq] at *);omega
end Go.Proofs.YtiffijoenkcpjaaGreatDoor
namespace Go.Proofs.YtiffijoenkcpjaaGreatDoor
open Go.RowKit Go.Lib
open Rw
theorem fa (op:Int) (w:World):Calls Tryz.prog 169 #[.int .i64 op] w fun e w'=>e = .returned (.string (xP (yh op)))∧w=w':=by
 by_cases h1:op=1
 ·subst h1;go_enter Tryz.func169,Tryz.ntmps169;(go_wp2_with fail);go_ret;exact ⟨rfl,rfl⟩
 (have d1:(op==1)=false:=by simp [h1]);by_cases h2:op=2
 ·subst h2;go_enter Tryz.func169,Tryz.ntmps169;(go_wp2_with fail);go_ret;exact ⟨rfl,rfl⟩
 (have d2:(op==2)=false:=by simp [h2]);by_cases h3:op=3
 ·subst h3;go_enter Tryz.func169,Tryz.ntmps169;(go_wp2_with fail);go_ret;exact ⟨rfl,rfl⟩
 (have d3:(op==3)=false:=by simp [h3]);by_cases h4:op=4
 ·subst h4;go_enter Tryz.func169,Tryz.ntmps169;(go_wp2_with fail);go_ret;exact ⟨rfl,rfl⟩
 (have d4:(op==4)=false:=by simp [h4]);by_cases h5:op=5
 ·subst h5;go_enter Tryz.func169,Tryz.ntmps169;(go_wp2_with fail);go_ret;exact ⟨rfl,rfl⟩
 (have d5:(op==5)=false:=by simp [h5]);by_cases h6:op=6
 ·subst h6;go_enter Tryz.func169,Tryz.ntmps169;(go_wp2_with fail);go_ret;exact ⟨rfl,rfl⟩
 (have d6:(op==6)=false:=by simp [h6]);by_cases h7:op=7
 ·subst h7;go_enter Tryz.func169,Tryz.ntmps169;(go_wp2_with fail);go_ret;exact ⟨rfl,rfl⟩
 (have d7:(op==7)=false:=by simp [h7]);by_cases h8:op=8
 ·subst h8;go_enter Tryz.func169,Tryz.ntmps169;(go_wp2_with fail);go_ret;exact ⟨rfl,rfl⟩
 (have d8:(op==8)=false:=by simp [h8]);have hs:=hid (show yh op=[] by simp [yh,h1,h2,h3,h4,h5,h6,h7,h8]);rw [hs.out];clear h1 h2 h3 h4 h5 h6 h7 h8;go_enter Tryz.func169,Tryz.ntmps169;(go_wp2_with fail);go_ret;exact ⟨rfl,rfl⟩
theorem ky (op:Int) (w:World):Calls Tryz.prog 71 #[.int .i64 op] w fun e w'=>e = .returned (.string (xP (yh op)))∧w=w':=by
 by_cases h1:op=1
 ·subst h1;go_enter Tryz.func71,Tryz.ntmps71;(go_wp2_with fail);go_ret;exact ⟨rfl,rfl⟩
 (have d1:(op==1)=false:=by simp [h1]);by_cases h2:op=2
 ·subst h2;go_enter Tryz.func71,Tryz.ntmps71;(go_wp2_with fail);go_ret;exact ⟨rfl,rfl⟩
 (have d2:(op==2)=false:=by simp [h2]);by_cases h3:op=3
 ·subst h3;go_enter Tryz.func71,Tryz.ntmps71;(go_wp2_with fail);go_ret;exact ⟨rfl,rfl⟩
 (have d3:(op==3)=false:=by simp [h3]);by_cases h4:op=4
 ·subst h4;go_enter Tryz.func71,Tryz.ntmps71;(go_wp2_with fail);go_ret;exact ⟨rfl,rfl⟩
 (have d4:(op==4)=false:=by simp [h4]);by_cases h5:op=5
 ·subst h5;go_enter Tryz.func71,Tryz.ntmps71;(go_wp2_with fail);go_ret;exact ⟨rfl,rfl⟩
 (have d5:(op==5)=false:=by simp [h5]);by_cases h6:op=6
 ·subst h6;go_enter Tryz.func71,Tryz.ntmps71;(go_wp2_with fail);go_ret;exact ⟨rfl,rfl⟩
 (have d6:(op==6)=false:=by simp [h6]);by_cases h7:op=7
 ·subst h7;go_enter Tryz.func71,Tryz.ntmps71;(go_wp2_with fail);go_ret;exact ⟨rfl,rfl⟩
 (have d7:(op==7)=false:=by simp [h7]);by_cases h8:op=8
 ·subst h8;go_enter Tryz.func71,Tryz.ntmps71;(go_wp2_with fail);go_ret;exact ⟨rfl,rfl⟩
 (have d8:(op==8)=false:=by simp [h8]);have hs:=hid (show yh op=[] by simp [yh,h1,h2,h3,h4,h5,h6,h7,h8]);rw [hs.out];clear h1 h2 h3 h4 h5 h6 h7 h8;go_enter Tryz.func71,Tryz.ntmps71;(go_wp2_with fail);go_ret;exact ⟨rfl,rfl⟩
theorem fR (op:Int):(xP (yh op)).size≤2:=by
 rw [strB_size0];unfold yh
 repeat' split
 all_goals simp
where strB_size0 {l:List UInt8}:(xP l).size=l.length:=by rw [← zF,zx]
def oC (v:Ver) (k:Nat):List UInt8:=zT [46] ([vR v.maj,vR v.min,vR v.pat].take k)
theorem iu (v:Ver):oC v 0=[]:=rfl
theorem iA (v:Ver):oC v 1=vR v.maj:=rfl
theorem hY (v:Ver):oC v 2=vR v.maj++[46]++vR v.min:=rfl
theorem Zj (v:Ver):oC v 3=vR v.maj++[46]++(vR v.min++[46]++vR v.pat):=rfl
theorem dd {op parts:Int} {v:Ver} (h:op=9) {k:Nat} (hk:parts=k) (h2:k≤2):um ⟨op,parts,v⟩=oC v k++((if 0 < k then [46] else [])++[42]):=by
 subst hk;rw [um,if_pos h];rcases (show k=0∨k=1∨k=2 by omega) with rfl | rfl | rfl<;>simp [yS,oC,zT]
theorem nP {op parts:Int} {v:Ver} (h:op≠9) {k:Nat} (hk:parts=k):um ⟨op,parts,v⟩=yh op++(oC v k++qU v):=by
 subst hk;rw [um,if_neg h]; rfl
theorem b46:bts (⟨#[46]⟩:ByteArray)=[46]:=zN [46]
theorem Vw:bts (⟨#[42]⟩:ByteArray)=[42]:=zN [42]
theorem uV {d:ByteArray} {n:Int} (h:bts d=vR n) (hf:wV n=true):d.size≤4:=by rw [← zF,h]; exact uA hf
theorem nR (c:CompL) (w:World) (hL:Laid w) (hc:c.fit):Calls Tryz.prog 132 #[c.val] w (xK w (zh c)):=by
 have HM:=hid (mz c (w.alloc (.cells c.cells.toArray 86)) hc);have HBX:=hid (Box.new w c.cells 86);have HB0:=hid (zL w (.cells c.cells.toArray 86));cases hm:sL c
 ·rw [hm] at HM;have HP:=hid (show zh c=[] by rw [zh,hm]; rfl);go_enter Tryz.func132,Tryz.ntmps132;(go_wp2_with fail);refine HM.out.mono ?_;rintro _ w1 ⟨rfl,hb⟩;(go_wp2_with fail);go_ret;exact ⟨_,rfl,by rw [HP.out]; exact zN [],zC HB0.out hb⟩
 ·rw [hm] at HM;have M:=hid (yY.1 hm);have HP:=hid (xA M.out);have HL:=hid hL;clear hm hL;obtain ⟨op,parts,v⟩:=c;(have hpar:0≤parts∧parts≤3:=by have:=M.out.many; simp only at this; omega);obtain ⟨n,rfl⟩:=Int.eq_ofNat_of_zero_le hpar.1;(have hn3:n≤3:=by omega);clear hpar;have HSG:=hid (fun u=>fa op u);have hsz:=fR op;have HSB:=hid (zx (yh op));have HF1:=hid (yN M.out.v);generalize xP (yh op)=sg at *;go_enter Tryz.func132,Tryz.ntmps132;(go_wp2_with fail);refine HM.out.mono ?_;rintro _ w1 ⟨rfl,hb⟩;have HB:=hid (zC HB0.out hb);have HX:=hid (HBX.out.below hb);obtain ⟨x0,x1,x2,x3,x4,x5,x6⟩:=HX.out.get7;clear hb HM HBX HB0;(go_wp2_with fail);refine (HSG.out _).mono ?_;rintro _ _ ⟨rfl,rfl⟩;(go_upto_block 0 with fail);refine zI ?_;intro u0 hu;have HB:=hid (zC HB.out (show Below w1.heap.size w1 u0 by rw [hu]; exact zL _ _));have HX:=hid (HX.out.below (show Below w1.heap.size w1 u0 by rw [hu]; exact zL _ _));have HN:Hid (Box u0 w1.heap.size [.int .i64 v.maj,.int .i64 v.min,.int .i64 v.pat]):=hid (by rw [hu]; exact Box.new w1 [.int .i64 v.maj,.int .i64 v.min,.int .i64 v.pat] _);clear hu x0 x1 x2 x3 x4 x5 x6;generalize w1.heap.size=gn at *;go_cut [3] from 24 to 61 (fun sv wx=>∃ t:ByteArray,sv = .string t∧t.size≤2+5 * n∧Hid (bts t=yh op++oC v n)∧Hid (Below u0.heap.size u0 wx))
  case first =>
   (go_wp2_with fail);go_loopw [23,3] (fun i s wr=>∃ (k:Nat) (t:ByteArray),i = .int .i64 k∧s = .string t∧k≤n∧t.size≤2+5 * k∧Hid (bts t=yh op++oC v k)∧Hid (Below u0.heap.size u0 wr)) (fun i _ _=>3 - (intOf i).toNat)
   case atStart=>exact ⟨0,sg,rfl,rfl,Nat.zero_le _,by omega,hid (by rw [HSB.out,iu,List.append_nil]),hid (Below.refl _ _)⟩
   case round =>
    obtain ⟨k,t,rfl,rfl,hk,hts,HT,HBR⟩:=hrel;have hlx:=(HX.out.below HBR.out).1;have hln:=(HN.out.below HBR.out).1;obtain ⟨x0,x1,x2,x3,x4,x5,x6⟩:=(HX.out.below HBR.out).get7;obtain ⟨y0,y1,y2⟩:=(⟨(HN.out.below HBR.out).2 0 _ rfl,(HN.out.below HBR.out).2 1 _ rfl,(HN.out.below HBR.out).2 2 _ rfl⟩:wr.cell? ⟨gn,0,none⟩=some (.int .i64 v.maj)∧wr.cell? ⟨gn,1,none⟩=some (.int .i64 v.min)∧wr.cell? ⟨gn,2,none⟩=some (.int .i64 v.pat));by_cases hkn:k < n
    ·(have d1:decide ((n:Int)≤(k:Int))=false:=by simp; omega);(have hk3:k=0∨k=1∨k=2:=by omega);rcases hk3 with rfl | rfl | rfl
     ·have HD:=hid (fun u (h:Below u0.heap.size u0 u)=>vB v.maj u (HL.out.below (zC HB.out h)) HF1.out.1);(go_wp2_with fail);refine (HD.out _ HBR.out).mono ?_;rintro _ w3 ⟨d,rfl,hd,hb⟩;have hds:=uV hd HF1.out.1;have HDD:=hid hd;clear hd;(go_wp2_with fail);go_roundw
      case rel=>exact ⟨1,_,by go_num,rfl,by omega,by rw [ByteArray.size_append]; omega,hid (by rw [zK,HT.out,HDD.out,iu,iA,List.append_nil]),hid (zC HBR.out hb)⟩
      case measure=>simp [intOf]
     ·have HD:=hid (fun u (h:Below u0.heap.size u0 u)=>vB v.min u (HL.out.below (zC HB.out h)) HF1.out.2.1);(go_wp2_with fail);refine (HD.out _ HBR.out).mono ?_;rintro _ w3 ⟨d,rfl,hd,hb⟩;have hds:=uV hd HF1.out.2.1;have HDD:=hid hd;clear hd;(go_wp2_with fail);go_roundw
      case rel=>exact ⟨2,_,by go_num,rfl,by omega,by rw [ByteArray.size_append,ByteArray.size_append]; have:(⟨#[46]⟩:ByteArray).size=1:=rfl; omega,hid (by rw [zK,zK,HT.out,HDD.out,b46,iA,hY]; simp),hid (zC HBR.out hb)⟩
      case measure=>simp [intOf]
     ·have HD:=hid (fun u (h:Below u0.heap.size u0 u)=>vB v.pat u (HL.out.below (zC HB.out h)) HF1.out.2.2.1);(go_wp2_with fail);refine (HD.out _ HBR.out).mono ?_;rintro _ w3 ⟨d,rfl,hd,hb⟩;have hds:=uV hd HF1.out.2.2.1;have HDD:=hid hd;clear hd;(go_wp2_with fail);go_roundw
      case rel=>exact ⟨3,_,by go_num,rfl,by omega,by rw [ByteArray.size_append,ByteArray.size_append]; have:(⟨#[46]⟩:ByteArray).size=1:=rfl; omega,hid (by rw [zK,zK,HT.out,HDD.out,b46,hY,Zj]; simp),hid (zC HBR.out hb)⟩
      case measure=>simp [intOf]
    ·(obtain rfl:k=n:=by omega);(have d1:decide ((k:Int)≤(k:Int))=true:=by simp);(have hs3:k < 3∨k=3:=by omega);rcases hs3 with hs3 | hs3
     ·obtain ⟨vk,yk⟩:∃ x:Int,wr.cell? ⟨gn,k,none⟩=some (.int .i64 x):=by
       rcases (show k=0∨k=1∨k=2 by omega) with e | e | e
       ·rw [e]; exact ⟨_,y0⟩
       ·rw [e]; exact ⟨_,y1⟩
       ·rw [e]; exact ⟨_,y2⟩
      (have hk33:(k:Int) < 3:=by omega);(go_wp2_with fail);go_meet
      case rel=>exact ⟨t,rfl,hts,HT,HBR⟩
     ·(have h33:¬ (k:Int) < 3:=by omega);clear hs3;(go_wp2_with fail);go_meet
      case rel=>exact ⟨t,rfl,hts,HT,HBR⟩
  case rest =>
   obtain ⟨t,rfl,hts,HT,HBR⟩:=hcut;obtain ⟨x0,x1,x2,x3,x4,x5,x6⟩:=(HX.out.below HBR.out).get7;(have hts2:t.size≤20:=by omega);by_cases h9:op=9
   ·(have q9:(op==9)=true:=by simp [h9]);(have hk2:n≤2:=by have:=M.out.many; simp only at this; omega);have HX9:=hid (dd h9 (parts:=(n:Int)) (v:=v) rfl hk2);have HS9:=hid (show yh op=[] by rw [h9]; rfl);clear h9;by_cases hk0:n=0
    ·(have hk1:¬ (0:Int) < (n:Int):=by omega);have HK0:=hid hk0;clear hk0;(go_wp2_with fail);go_ret;refine ⟨_,rfl,?_,zC HB.out HBR.out⟩;rw [HP.out,HX9.out,zK,HT.out,HS9.out,Vw,HK0.out]; rfl
    ·(have hk1:(0:Int) < (n:Int):=by omega);(go_wp2_with fail);go_ret;refine ⟨_,rfl,?_,zC HB.out HBR.out⟩;rw [HP.out,HX9.out,zK,zK,HT.out,HS9.out,Vw,b46,if_pos (by omega)]; simp
   ·(have q9:(op==9)=false:=by simp [h9]);have HX9:=hid (nP h9 (parts:=(n:Int)) (v:=v) rfl);clear h9;have hfp:=hc.1;simp only at hfp;rcases xy v.pre with ⟨e5,n5⟩ | e5
    ·have HE:=hid (rh e5);(go_wp2_with fail);go_ret;refine ⟨_,rfl,?_,zC HB.out HBR.out⟩;rw [HP.out,HX9.out,zK,zK,HT.out,HE.out,b45]; simp
    ·have HE:=hid (tj e5);(go_wp2_with fail);go_ret;refine ⟨_,rfl,?_,zC HB.out HBR.out⟩;rw [HP.out,HX9.out,HT.out,HE.out]; simp
end Go.Proofs.YtiffijoenkcpjaaGreatDoor
