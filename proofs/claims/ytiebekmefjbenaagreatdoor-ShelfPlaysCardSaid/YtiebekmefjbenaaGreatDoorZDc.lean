import Derived.Test.YtiebekmefjbenaaGreatDoorZCm
set_option linter.unusedVariables false
set_option linter.unusedSimpArgs false
set_option maxRecDepth 100000
set_option maxHeartbeats 4000000
namespace Go.Proofs.YtiebekmefjbenaaGreatDoor
open Go.RowKit Go.Lib
open Rw
theorem Vu {w w1 w2:World} {g:Nat} (hg:w.heap.size=g) (h:Below g w w1) (k:Below w1.heap.size w1 w2):Below w.heap.size w w2:=by subst hg; exact zC h k
abbrev rp:List UInt8:=[32,124,124,32]
abbrev o7:List UInt8:=[44,32]
theorem lJ:bts (⟨#[32,124,124,32]⟩:ByteArray)=rp:=zN [32,124,124,32]
theorem lI:bts (⟨#[44,32]⟩:ByteArray)=o7:=zN [44,32]
theorem VY {r:List (List CompL)} {k:Nat} (h:k < r.length):jt rp (r.map l9) (k+1)=(jt rp (r.map l9) k++if 0 < k then rp else [])++l9 r[k]:=by
 rw [Z1 rp (l:=r.map l9) (k:=k) (by rw [List.length_map]; exact h),List.getElem_map]
theorem WC {a:List CompL} {k:Nat} (h:k < a.length):jt o7 (a.map zh) (k+1)=(jt o7 (a.map zh) k++if 0 < k then o7 else [])++zh a[k]:=by
 rw [Z1 o7 (l:=a.map zh) (k:=k) (by rw [List.length_map]; exact h),List.getElem_map]
theorem Y9 (r:List (List CompL)):jt rp (r.map l9) r.length=xd r:=by
 have:=XY rp (r.map l9);rw [List.length_map] at this;exact this
theorem WF (a:List CompL):jt o7 (a.map zh) a.length=l9 a:=by
 have:=XY o7 (a.map zh);rw [List.length_map] at this;exact this
def Vk (w:World) (b o:Nat) (c:CompL):Prop:=w.cell? ⟨b,o,none⟩=some (.int .i64 c.op)∧w.cell? ⟨b,o+1,none⟩=some (.int .i64 c.parts)∧w.cell? ⟨b,o+2,none⟩=some (.int .i64 c.v.maj)∧w.cell? ⟨b,o+3,none⟩=some (.int .i64 c.v.min)∧w.cell? ⟨b,o+4,none⟩=some (.int .i64 c.v.pat)∧w.cell? ⟨b,o+5,none⟩=some (.string c.v.pre)∧w.cell? ⟨b,o+6,none⟩=some (.string c.v.bld)
theorem Lies.at7 {w:World} {A:Option Addr} {l:List CompL} {k:Nat} (h:rf w A l) (hk:k < l.length):∃ b off,A=some ⟨b,off,none⟩∧b < w.heap.size∧Vk w b (off+k * 7) l[k]:=by
 obtain ⟨b,off,hA,hl,hc⟩:=h.at_ hk;exact ⟨b,off,hA,hl,hc 0 _ rfl,hc 1 _ rfl,hc 2 _ rfl,hc 3 _ rfl,hc 4 _ rfl,hc 5 _ rfl,hc 6 _ rfl⟩
theorem oi (A:Option Addr) (c:Nat) (r:List (List CompL)) (w:World) (h:Alts w A r) (hf:Z7 r) (h6:r.length≤6) (h66:∀ a∈r,a.length≤6):Calls Tryz.prog 207 #[wL A r.length c] w (xK w (xd r)):=by
 have HF:=hid hf;have H66:=hid h66;have HA:=hid h;have HALL:=hid (Y9 r);clear hf h66 h;generalize hn:r.length=n at *;have HN:=hid hn;clear hn;go_enter Tryz.func207,Tryz.ntmps207;(go_upto_block 0 with fail);refine zI ?_;intro w1 hw1;have HX:=hid (show Box w1 w.heap.size [.slice A n c] by rw [hw1]; exact Box.new w [.slice A n c] 190);have HB:=hid (show Below w.heap.size w w1 by rw [hw1]; exact zL _ _);have HA:=hid (HA.out.below HB.out);clear hw1;generalize hg:w.heap.size=g at *;(go_wp2_with fail);go_loopw [4,3] (fun i s wr=>∃ (k:Nat) (t:ByteArray),i = .int .i64 k∧s = .string t∧k≤n∧t.size≤400 * k∧Hid (bts t=jt rp (r.map l9) k)∧Hid (Below w1.heap.size w1 wr)) (fun i _ _=>n - (intOf i).toNat)
 case atStart=>exact ⟨0,_,rfl,rfl,Nat.zero_le _,Nat.zero_le _,hid (by rw [V6]; exact zN []),hid (Below.refl _ _)⟩
 case round =>
  obtain ⟨k,t,rfl,rfl,hk,hts,HT,HB1⟩:=hrel;have x0:=(HX.out.below HB1.out).2 0 _ rfl;have xl:=(HX.out.below HB1.out).1;by_cases hlt:k < n
  ·(have hlt':k < r.length:=by rw [HN.out]; exact hlt);obtain ⟨b,off,Ai,ci,hA,hbl,hcell,hcs⟩:=HA.out.at_ hlt';subst hA;have hcell':=HB1.out.cell (p:=⟨b,off+k,none⟩) hbl;rw [hcell] at hcell';have HCS:=hid hcs;have HHC:=hid hcell;have hbr:b < wr.heap.size:=Nat.lt_of_lt_of_le hbl HB1.out.size;have HAF:=hid (HF.out _ (List.getElem_mem hlt'));have ha6:=H66.out _ (List.getElem_mem hlt');have HJ:=hid (VY hlt');clear hcell hcs;generalize r[k]=a at *;generalize hm:a.length=m at *;have HM:=hid hm;clear hm;(have i0:(0:Int)≤(k:Int):=by omega);(have i1:(k:Int) < (n:Int):=by omega);(go_upto_if 14 with fail);go_cut [3] from 15 to 41 (fun s wx=>∃ t2:ByteArray,s = .string t2∧t2.size≤400 * k+4∧Hid (bts t2=jt rp (r.map l9) k++if 0 < k then rp else [])∧wx=wr)
   case first =>
    by_cases hk0:k=0
    ·subst hk0;(go_wp2_with fail);go_meet
     case rel=>exact ⟨t,rfl,by omega,hid (by rw [HT.out]; simp),rfl⟩
    ·(have hkp:(0:Int) < (k:Int):=by omega);have HKP:=hid (show 0 < k by omega);(go_wp2_with fail);go_meet
     case rel=>exact ⟨_,rfl,by rw [ByteArray.size_append]; simp only [show (⟨#[32,124,124,32]⟩:ByteArray).size=4 from rfl]; omega,hid (by rw [zK,HT.out,if_pos HKP.out,lJ]),rfl⟩
   case rest =>
    obtain ⟨t2,rfl,hts2,HT2,hwx⟩:=hcut;subst hwx;clear hcell' x0;(go_upto_block 2 with fail);(go_wp2_with fail);go_loopw [5,3] (fun i s ur=>∃ (j:Nat) (u:ByteArray),i = .int .i64 j∧s = .string u∧j≤m∧u.size≤400 * k+4+62 * j∧Hid (bts u=(jt rp (r.map l9) k++if 0 < k then rp else [])++jt o7 (a.map zh) j)∧Hid (Below w1.heap.size w1 ur)) (fun i _ _=>m - (intOf i).toNat)
    case atStart=>exact ⟨0,_,rfl,rfl,Nat.zero_le _,by omega,hid (by rw [HT2.out,V6,List.append_nil]),HB1⟩
    case round =>
     (rename World=>ur);obtain ⟨j,u,rfl,rfl,hj,hus,HU,HB2⟩:=hrel;have x0:=(HX.out.below HB2.out).2 0 _ rfl;have xl2:=(HX.out.below HB2.out).1;have hcell':=(HB2.out.cell (p:=⟨b,off+k,none⟩) hbl).trans HHC.out;have hbu:b < ur.heap.size:=Nat.lt_of_lt_of_le hbl HB2.out.size;by_cases hlj:j < m
     ·(have hlj':j < a.length:=by rw [HM.out]; exact hlj);(have j0:(0:Int)≤(j:Int):=by omega);(have j1:(j:Int) < (m:Int):=by omega);obtain ⟨b2,off2,hAi,hbl2,hrow⟩:=(Lies.below HCS.out HB2.out).at7 hlj';subst hAi;have HCF:=hid (HAF.out _ (List.getElem_mem hlj'));have HJ2:=hid (WC hlj');generalize a[j]=x at *;obtain ⟨c0,c1,c2,c3,c4,c5,c6⟩:=hrow;(go_upto_if 28 with fail);go_cut [3] from 29 to 41 (fun s wx=>∃ u2:ByteArray,s = .string u2∧u2.size≤400 * k+6+62 * j∧Hid (bts u2=bts u++if 0 < j then o7 else [])∧wx=ur)
      case first =>
       by_cases hj0:j=0
       ·subst hj0;(go_wp2_with fail);go_meet
        case rel=>exact ⟨u,rfl,by omega,hid (by simp),rfl⟩
       ·(have hjp:(0:Int) < (j:Int):=by omega);have HJP:=hid (show 0 < j by omega);(go_wp2_with fail);go_meet
        case rel=>exact ⟨_,rfl,by rw [ByteArray.size_append]; simp only [show (⟨#[44,32]⟩:ByteArray).size=2 from rfl]; omega,hid (by rw [zK,if_pos HJP.out,lI]),rfl⟩
      case rest =>
       obtain ⟨u2,rfl,hus2,HU2,hwx⟩:=hcut;subst hwx;(go_wp2_with fail);refine (sI x _ HCF.out).mono ?_;rintro _ w3 ⟨p,rfl,hp,hb⟩;have HP:=hid hp;(have hps:p.size≤60:=by rw [← zF,hp]; exact rU x);have HB3:=hid (zC HB2.out hb);clear hp hb x0 hcell' c0 c1 c2 c3 c4 c5 c6;(go_wp2_with fail);go_roundw
       case rel=>exact ⟨j+1,_,by go_num,rfl,by omega,by rw [ByteArray.size_append]; omega,hid (by rw [zK,HU2.out,HU.out,HP.out,HJ2.out]; simp only [List.append_assoc]),HB3⟩
       case measure=>simp [intOf]; omega
     ·(obtain rfl:j=m:=by omega);(have hge:¬ (j:Int) < (j:Int):=by omega);(go_wp2_with fail);go_roundw
      case rel=>exact ⟨k+1,_,by go_num,rfl,by omega,by omega,hid (by rw [HU.out,HJ.out,← WF,HM.out]),HB2⟩
      case measure=>simp [intOf]; omega
  ·(obtain rfl:k=n:=by omega);(have hge:¬ (k:Int) < (k:Int):=by omega);(go_wp2_with fail);go_ret;exact ⟨_,rfl,by rw [HT.out,HALL.out],Vu hg HB.out HB1.out⟩
theorem cm {a:List CompL} {k:Nat} (h:k < a.length) (hm:sL a[k]=false):eF a=false:=by
 rw [eF,Bool.and_eq_false_iff];right;rw [List.all_eq_false];exact ⟨_,List.getElem_mem h,by rw [hm]; simp⟩
theorem bi {r:List (List CompL)} {k:Nat} (h:k < r.length) (hm:eF r[k]=false):tD r=false:=by
 rw [tD,Bool.and_eq_false_iff];right;rw [List.all_eq_false];exact ⟨_,List.getElem_mem h,by rw [hm]; simp⟩
theorem kI {a:List CompL} (h:¬ (1≤a.length∧a.length≤6)):eF a=false:=by rw [eF,decide_eq_false h]; rfl
theorem jV {r:List (List CompL)} (h:¬ (1≤r.length∧r.length≤6)):tD r=false:=by rw [tD,decide_eq_false h]; rfl
theorem q7 {α:Type} {p:α→Bool} {l:List α} {k:Nat} (h:k < l.length) (ha:(l.take k).all p=true) (hp:p l[k]=true):(l.take (k+1)).all p=true:=by
 rw [List.take_succ_eq_append_getElem h,List.all_append,ha]; simp [hp]
theorem gw {a:List CompL} (h:1≤a.length∧a.length≤6) (ha:(a.take a.length).all sL=true):eF a=true:=by rw [List.take_length] at ha; rw [eF,ha,decide_eq_true h]; rfl
theorem gj {r:List (List CompL)} (h:1≤r.length∧r.length≤6) (ha:(r.take r.length).all eF=true):tD r=true:=by rw [List.take_length] at ha; rw [tD,ha,decide_eq_true h]; rfl
theorem gJ (A:Option Addr) (c:Nat) (r:List (List CompL)) (w:World) (h:Alts w A r) (hf:Z7 r) (hn:r.length≤4398046511104) (hm:∀ a∈r,a.length≤4398046511104):Calls Tryz.prog 206 #[wL A r.length c] w (yc w (tD r)):=by
 have HF:=hid hf;have HMM:=hid hm;have HA:=hid h;have HL0:=hid (jV (r:=r));have HY0:=hid (gj (r:=r));clear hf hm h;have HLE:=hn;generalize hn2:r.length=n at *;have HN:=hid hn2;clear hn hn2;by_cases hsm:1≤n∧n≤6
 ·go_enter Tryz.func206,Tryz.ntmps206;(have a1:¬ (n:Int) < 1:=by omega);(have a2:¬ (6:Int) < (n:Int):=by omega);(go_upto_block 0 with fail);refine zI ?_;intro w1 hw1;have HX:=hid (show Box w1 w.heap.size [.slice A n c] by rw [hw1]; exact Box.new w [.slice A n c] 190);have HB:=hid (show Below w.heap.size w w1 by rw [hw1]; exact zL _ _);have HA:=hid (HA.out.below HB.out);clear hw1;generalize hg:w.heap.size=g at *;(go_wp2_with fail);go_loopw [3] (fun i wr=>∃ (k:Nat),i = .int .i64 k∧k≤n∧Hid ((r.take k).all eF=true)∧Hid (Below w1.heap.size w1 wr)) (fun i _=>n - (intOf i).toNat)
  case atStart=>exact ⟨0,rfl,Nat.zero_le _,hid (by simp),hid (Below.refl _ _)⟩
  case round =>
   obtain ⟨k,rfl,hk,HT,HB1⟩:=hrel;have HBW:=hid (Vu hg HB.out HB1.out);have x0:=(HX.out.below HB1.out).2 0 _ rfl;have xl:=(HX.out.below HB1.out).1;by_cases hlt:k < n
   ·(have hlt':k < r.length:=by rw [HN.out]; exact hlt);obtain ⟨b,off,Ai,ci,hA,hbl,hcell,hcs⟩:=HA.out.at_ hlt';subst hA;have hcell':=HB1.out.cell (p:=⟨b,off+k,none⟩) hbl;rw [hcell] at hcell';have HCS:=hid hcs;have HHC:=hid hcell;have hbr:b < wr.heap.size:=Nat.lt_of_lt_of_le hbl HB1.out.size;have HAF:=hid (HF.out _ (List.getElem_mem hlt'));have ham:=HMM.out _ (List.getElem_mem hlt');have HNO:=hid (bi hlt');have HST:=hid (fun h=>q7 hlt' HT.out h);clear hcell hcs;generalize r[k]=a at *;have HL1:=hid (kI (a:=a));have HY1:=hid (gw (a:=a));generalize hm:a.length=m at *;have HM:=hid hm;clear hm;(have i0:(0:Int)≤(k:Int):=by omega);(have i1:(k:Int) < (n:Int):=by omega);by_cases hsa:1≤m∧m≤6
    ·(have b1:¬ (m:Int) < 1:=by omega);(have b2:¬ (6:Int) < (m:Int):=by omega);(go_upto_block 2 with fail);(go_wp2_with fail);go_loopw [4] (fun i ur=>∃ (j:Nat),i = .int .i64 j∧j≤m∧Hid ((a.take j).all sL=true)∧Hid (Below w1.heap.size w1 ur)) (fun i _=>m - (intOf i).toNat)
     case atStart=>exact ⟨0,rfl,Nat.zero_le _,hid (by simp),HB1⟩
     case round =>
      (rename World=>ur);obtain ⟨j,rfl,hj,HU,HB2⟩:=hrel;have HBU:=hid (Vu hg HB.out HB2.out);have x0:=(HX.out.below HB2.out).2 0 _ rfl;have xl2:=(HX.out.below HB2.out).1;have hcell':=(HB2.out.cell (p:=⟨b,off+k,none⟩) hbl).trans HHC.out;have hbu:b < ur.heap.size:=Nat.lt_of_lt_of_le hbl HB2.out.size;by_cases hlj:j < m
      ·(have hlj':j < a.length:=by rw [HM.out]; exact hlj);(have j0:(0:Int)≤(j:Int):=by omega);(have j1:(j:Int) < (m:Int):=by omega);obtain ⟨b2',off2,hAi,hbl2,hrow⟩:=(Lies.below HCS.out HB2.out).at7 hlj';subst hAi;have HCF:=hid (HAF.out _ (List.getElem_mem hlj'));have HNA:=hid (cm hlj');have HSU:=hid (fun h=>q7 hlj' HU.out h);generalize a[j]=x at *;obtain ⟨c0,c1,c2,c3,c4,c5,c6⟩:=hrow;have HMX:=hid (fun u=>jd x u HCF.out);(go_wp2_with fail);refine (HMX.out _).mono ?_;rintro _ w3 ⟨rfl,hb⟩;have HB3:=hid (zC HB2.out hb);have HBW3:=hid (zC HBU.out hb);clear hb x0 hcell' c0 c1 c2 c3 c4 c5 c6 HMX;cases hmx:sL x
       ·have HE:=hid (HNO.out (HNA.out hmx));(go_wp2_with fail);go_ret;exact ⟨by rw [show tD r=false from HE.out]; rfl,HBW3.out⟩
       ·have HE:=hid (HSU.out hmx);(go_wp2_with fail);go_roundw
        case rel=>exact ⟨j+1,by go_num,by omega,HE,HB3⟩
        case measure=>simp [intOf]; omega
      ·(obtain rfl:j=m:=by omega);(have hge:¬ (j:Int) < (j:Int):=by omega);have HE:=hid (HST.out (HY1.out hsa HU.out));(go_wp2_with fail);go_roundw
       case rel=>exact ⟨k+1,by go_num,by omega,HE,HB2⟩
       case measure=>simp [intOf]; omega
    ·have HE:=hid (HNO.out (HL1.out hsa));by_cases hs0:m < 1
     ·(have b1:(m:Int) < 1:=by omega);(go_wp2_with fail);go_ret;exact ⟨by rw [show tD r=false from HE.out]; rfl,HBW.out⟩
     ·(have b1:¬ (m:Int) < 1:=by omega);(have b2:(6:Int) < (m:Int):=by omega);(go_wp2_with fail);go_ret;exact ⟨by rw [show tD r=false from HE.out]; rfl,HBW.out⟩
   ·(obtain rfl:k=n:=by omega);(have hge:¬ (k:Int) < (k:Int):=by omega);have HE:=hid (HY0.out hsm HT.out);(go_wp2_with fail);go_ret;exact ⟨by rw [show tD r=true from HE.out]; rfl,HBW.out⟩
 ·have HE:=hid (HL0.out hsm);by_cases hs0:n < 1
  ·(have b1:(n:Int) < 1:=by omega);go_enter Tryz.func206,Tryz.ntmps206;(go_wp2_with fail);go_ret;exact ⟨by rw [show tD r=false from HE.out]; rfl,zL _ _⟩
  ·(have b1:¬ (n:Int) < 1:=by omega);(have b2:(6:Int) < (n:Int):=by omega);go_enter Tryz.func206,Tryz.ntmps206;(go_wp2_with fail);go_ret;exact ⟨by rw [show tD r=false from HE.out]; rfl,zL _ _⟩
theorem vb {r:List (List CompL)} (h:tD r=true):r.length≤6∧∀ a∈r,a.length≤6:=by
 have:=eJ.1 h;exact ⟨this.le,fun a ha=>(this.may a ha).le⟩
theorem ZZ (A:Option Addr) (c:Nat) (r:List (List CompL)) (w:World) (h:Alts w A r) (hf:Z7 r) (hn:r.length≤4398046511104) (hm:∀ a∈r,a.length≤4398046511104):Calls Tryz.prog 208 #[wL A r.length c] w (yc w (bD r)):=by
 have HFEW:=hid (fun u (hb:Below w.heap.size w u)=>gJ A c r u (h.below hb) hf hn hm);have HTX:=hid (fun u (hb:Below w.heap.size w u) (h6:tD r=true)=>oi A c r u (h.below hb) hf (vb h6).1 (vb h6).2);have HMG:=hid (show bD r=(tD r&&decide ((xd r).length≤96)) from rfl);have HB0:=hid (zL w (.cells #[.slice A r.length c] 190));have HX0:=hid (Box.new w [.slice A r.length c] 190);clear h hf hn hm;generalize r.length=n at *;go_enter Tryz.func208,Tryz.ntmps208;(go_wp2_with fail);refine (HFEW.out _ HB0.out).mono ?_;rintro _ w1 ⟨rfl,hb⟩;have HB:=hid (zC HB0.out hb);have x0:=(HX0.out.below hb).2 0 _ rfl;have xl:=(HX0.out.below hb).1;clear hb;cases hfe:tD r
 ·rw [hfe] at HMG;(go_wp2_with fail);go_ret;exact ⟨by rw [HMG.out]; rfl,HB.out⟩
 ·have HT:=hid (HTX.out _ HB.out hfe);rw [hfe] at HMG;clear hfe;(go_wp2_with fail);refine HT.out.mono ?_;rintro _ w2 ⟨t,rfl,ht,hb⟩;have HB2:=hid (zC HB.out hb);have HTS:=hid (show t.size=(xd r).length by rw [← ht,zF]);clear ht hb x0 HT;(go_wp2_with fail);go_ret;refine ⟨?_,HB2.out⟩;rw [HMG.out,Bool.true_and,← HTS.out];by_cases h96:t.size≤96<;>simp [h96]<;>omega
theorem j7 (A:Option Addr) (c:Nat) (r:List (List CompL)) (w:World) (h:Alts w A r) (hf:Z7 r) (hn:r.length≤4398046511104) (hm:∀ a∈r,a.length≤4398046511104):Calls Tryz.prog 182 #[wL A r.length c] w (xK w (qE r)):=by
 have HMAY:=hid (fun u (hb:Below w.heap.size w u)=>ZZ A c r u (h.below hb) hf hn hm);have HTX:=hid (fun u (hb:Below w.heap.size w u) (h6:tD r=true)=>oi A c r u (h.below hb) hf (vb h6).1 (vb h6).2);have HMG:=hid (show qE r=if bD r then xd r else [] from rfl);have HB0:=hid (zL w (.cells #[.slice A r.length c] 190));have HX0:=hid (Box.new w [.slice A r.length c] 190);clear h hf hn hm;generalize r.length=n at *;go_enter Tryz.func182,Tryz.ntmps182;(go_wp2_with fail);refine (HMAY.out _ HB0.out).mono ?_;rintro _ w1 ⟨rfl,hb⟩;have HB:=hid (zC HB0.out hb);have x0:=(HX0.out.below hb).2 0 _ rfl;have xl:=(HX0.out.below hb).1;clear hb;cases hfe:bD r
 ·rw [hfe] at HMG;(go_wp2_with fail);go_ret;exact ⟨_,rfl,by rw [HMG.out]; exact zN [],HB.out⟩
 ·have HT:=hid (HTX.out _ HB.out (by rw [bD,Bool.and_eq_true] at hfe; exact hfe.1));rw [hfe] at HMG;clear hfe;(go_wp2_with fail);refine HT.out.mono ?_;rintro _ w2 ⟨t,rfl,ht,hb⟩;have HB2:=hid (zC HB.out hb);have HTS:=hid ht;clear ht hb x0 HT;(go_wp2_with fail);go_ret;exact ⟨t,rfl,by rw [HMG.out,HTS.out]; rfl,HB2.out⟩
def YY:Value→ByteArray | .string s=>s | _=>⟨#[]⟩
theorem mq (l:List UInt8) (c:UInt8):Lib.trimLeftB l c=l.dropWhile (·==c):=rfl
theorem f8 {t:ByteArray} (h:0 < t.size):bts t=t[0]::(bts t).drop 1:=by
 have e:=List.drop_eq_getElem_cons (l:=bts t) (i:=0) (by rw [zF]; exact h);rw [List.drop_zero,wR t 0 h] at e;exact e
theorem Zg {t:ByteArray} {c:UInt8} (h:0 < t.size) (hc:t[0]=c):Lib.trimLeftB (bts t) c=Lib.trimLeftB ((bts t).drop 1) c:=by
 rw [f8 h,mq,List.dropWhile_cons,if_pos (by simp [hc])]; rfl
theorem dz {t:ByteArray} {c:UInt8} (h:0 < t.size) (hc:¬ t[0]=c):Lib.trimLeftB (bts t) c=bts t:=by
 rw [f8 h,mq,List.dropWhile_cons,if_neg (by simp [hc])]
theorem lP {t:ByteArray} (h:0 < t.size):bts t=(bts t).take (t.size - 1)++[t[t.size - 1]]:=by
 have e:=v9 t (t.size - 1) (by omega);rw [show t.size - 1+1=t.size by omega,yD] at e;exact e
theorem Zv {t:ByteArray} {c:UInt8} (h:0 < t.size) (hc:t[t.size - 1]=c):Lib.trimRightB (bts t) c=Lib.trimRightB ((bts t).take (t.size - 1)) c:=by
 rw [lP h,xB,if_pos (by simp [hc]),← lP h]
theorem eR {t:ByteArray} {c:UInt8} (h:0 < t.size) (hc:¬ t[t.size - 1]=c):Lib.trimRightB (bts t) c=bts t:=by
 rw [lP h,xB,if_neg (by simp [hc])]
theorem gF {t:ByteArray} (h:t.size=0):bts t=[]:=List.length_eq_zero_iff.1 (by rw [zF]; exact h)
theorem eO {a:UInt8} {n:Nat} (hn:n < 256) (h:¬ a=UInt8.ofNat n):((a.toNat:Int)==(n:Int))=false:=by
 rw [beq_eq_false_iff_ne];intro e;refine h (UInt8.toNat_inj.1 ?_);rw [UInt8.toNat_ofNat_of_lt' (by simpa using hn)];omega
theorem b9 (s:ByteArray) (w:World) (hs:s.size≤9223372036854775807):Calls Tryz.prog 205 #[.string s] w (xK w (Lib.trimB (bts s) 32)):=by
 have HT:=hid (kT 32 (bts s));go_enter Tryz.func205,Tryz.ntmps205;(go_upto_block 0 with fail);go_cut [0] from 3 to 30 (fun v wx=>∃ t:ByteArray,v = .string t∧t.size≤s.size∧Hid (bts t=Lib.trimLeftB (bts s) 32)∧wx=w)
 case first =>
  (go_wp2_with fail);go_loopw [0] (fun v wr=>∃ t:ByteArray,v = .string t∧t.size≤s.size∧Hid (Lib.trimLeftB (bts t) 32=Lib.trimLeftB (bts s) 32)∧wr=w) (fun v _=>(YY v).size)
  case atStart=>exact ⟨s,rfl,Nat.le_refl _,hid rfl,rfl⟩
  case round =>
   obtain ⟨t,rfl,hts,HTL,rfl⟩:=hrel;by_cases h0:0 < t.size
   ·(have i0:(0:Int) < (t.size:Int):=by omega);by_cases hc:t[0]=32
    ·(have d1:((t[0].toNat:Int)==32)=true:=by rw [hc]; rfl);have HE:=hid (Zg h0 hc);clear hc;(go_wp2_with fail);go_roundw
     case rel=>exact ⟨_,rfl,by rw [ByteArray.size_extract]; omega,hid (by rw [fH,← HE.out,HTL.out]),by first | rfl | trivial⟩
     case measure=>simp only [YY,ByteArray.size_extract]; omega
    ·have d1:((t[0].toNat:Int)==32)=false:=eO (n:=32) (by decide) hc;have HE:=hid (dz h0 hc);clear hc;(go_wp2_with fail);go_meet
     case rel=>exact ⟨t,rfl,hts,hid (by rw [← HTL.out,HE.out]),rfl⟩
   ·(have i0:¬ (0:Int) < (t.size:Int):=by omega);have HE:=hid (gF (show t.size=0 by omega));(go_wp2_with fail);go_meet
    case rel=>exact ⟨t,rfl,hts,hid (by rw [← HTL.out,HE.out]; rfl),rfl⟩
 case rest =>
  obtain ⟨t1,rfl,hts1,HT1,hwx⟩:=hcut;subst hwx;(go_upto_block 2 with fail);(go_wp2_with fail);go_loopw [0] (fun v wr=>∃ t:ByteArray,v = .string t∧t.size≤s.size∧Hid (Lib.trimRightB (bts t) 32=Lib.trimRightB (bts t1) 32)∧wr=wc) (fun v _=>(YY v).size)
  case atStart=>exact ⟨t1,rfl,hts1,hid rfl,rfl⟩
  case round =>
   obtain ⟨t,rfl,hts,HTL,rfl⟩:=hrel;by_cases h0:0 < t.size
   ·(have i0:(0:Int) < (t.size:Int):=by omega);(have i1:t.size - 1 < t.size:=by omega);by_cases hc:t[t.size - 1]=32
    ·(have d1:((t[t.size - 1].toNat:Int)==32)=true:=by rw [hc]; rfl);have HE:=hid (Zv h0 hc);clear hc;(go_wp2_with fail);go_roundw
     case rel=>exact ⟨_,rfl,by rw [ByteArray.size_extract]; omega,hid (by
      rw [xR,List.drop_zero,Nat.sub_zero]
      first
       | (rw [← HE.out,HTL.out]; done)
       | (rw [show ((t.size:Int) - 1).toNat=t.size - 1 by omega,← HE.out,HTL.out])),by first | rfl | trivial⟩
     case measure=>simp only [YY,ByteArray.size_extract]; omega
    ·have d1:((t[t.size - 1].toNat:Int)==32)=false:=eO (n:=32) (by decide) hc;have HE:=hid (eR h0 hc);clear hc;(go_wp2_with fail);go_ret;exact ⟨t,rfl,by rw [← HT.out,← HT1.out,← HTL.out,HE.out],Below.refl _ _⟩
   ·(have i0:¬ (0:Int) < (t.size:Int):=by omega);have HE:=hid (gF (show t.size=0 by omega));(go_wp2_with fail);go_ret;exact ⟨t,rfl,by rw [← HT.out,← HT1.out,← HTL.out,HE.out]; rfl,Below.refl _ _⟩
def kA (w:World) (s:ByteArray) (l:Value) (f k:Nat) (wr:World):Prop :=
 ∃ ps:List (List UInt8),k≤s.size∧f≤s.size∧f≤k+1∧ps.length≤k∧wr.ownsRow w.heap.size 9 1 l ps.length (ps.map jX) ∧
  yZ [] (bts s)=ps++yZ (((bts s).take k).drop f) ((bts s).drop (max f k))∧Below w.heap.size w wr
theorem jg (w:World) (s:ByteArray):kA w s (.slice none 0 0) 0 0 w :=
 ⟨[],Nat.zero_le _,Nat.zero_le _,Nat.zero_le _,Nat.zero_le _,World.ownsRow_nil _ _ _ _,by simp,Below.refl _ _⟩
theorem fL {s:ByteArray} {k:Nat} (h:k+1 < s.size):(bts s).drop k=s[k]::s[k+1]::(bts s).drop (k+2):=by
 have e:=List.drop_eq_getElem_cons (l:=bts s) (i:=k) (by rw [zF]; omega);rw [wR s k (by omega)] at e;have e2:=List.drop_eq_getElem_cons (l:=bts s) (i:=k+1) (by rw [zF]; omega);rw [wR s (k+1) h] at e2;rw [e,e2]
theorem eV {w w':World} {s:ByteArray} {v':Value} {f k:Nat} {ps:List (List UInt8)} (hlt:k+1 < s.size) (hf:f≤k) (hp:ps.length≤k)
 (HS:yZ [] (bts s)=ps++yZ (((bts s).take k).drop f) ((bts s).drop (max f k))) (h1:s[k]=124) (h2:s[k+1]=124)
 (h3:w'.ownsRow w.heap.size 9 1 v' (ps.length+1) (ps.map jX++[.string (s.extract f k)])) (hb:Below w.heap.size w w'):kA w s v' (k+2) (k+1) w':=by
 refine ⟨ps++[((bts s).take k).drop f],by omega,by omega,by omega,by simp; omega,?_,?_,hb⟩
 ·rw [uB,← uH] at h3;simpa using h3
 ·rw [HS,Nat.max_eq_right hf,fL hlt,h1,h2,Nat.max_eq_left (by omega)];have:((bts s).take (k+1)).drop (k+2)=[]:=List.drop_eq_nil_of_le (by rw [List.length_take]; omega);rw [this];simp [yZ]
theorem oy {s:ByteArray} {k f:Nat} (h:k < s.size) (hf:f≤k):((bts s).take (k+1)).drop f=((bts s).take k).drop f++[s[k]]:=by
 rw [v9 s k h,List.drop_append_of_le_length];have:=zF s;rw [List.length_take]; omega
theorem kD {w wr:World} {s:ByteArray} {l:Value} {f k:Nat} {ps:List (List UInt8)} (hlt:k+1 < s.size) (hfs:f≤s.size) (hf:f≤k) (hp:ps.length≤k)
 (HS:yZ [] (bts s)=ps++yZ (((bts s).take k).drop f) ((bts s).drop (max f k))) (h1:¬ (s[k]=124∧s[k+1]=124))
 (h2:wr.ownsRow w.heap.size 9 1 l ps.length (ps.map jX)) (hb:Below w.heap.size w wr):kA w s l f (k+1) wr:=by
 refine ⟨ps,by omega,hfs,by omega,by omega,h2,?_,hb⟩
 rw [HS,Nat.max_eq_right hf,Nat.max_eq_right (by omega),fL hlt,oy (by omega) hf]
 have e:=List.drop_eq_getElem_cons (l:=bts s) (i:=k+1) (by rw [zF]; omega)
 rw [wR s (k+1) hlt] at e
 rw [e]
 conv=>lhs; unfold yZ
 rw [if_neg h1]
theorem iM {w wr:World} {s:ByteArray} {l:Value} {f k:Nat} {ps:List (List UInt8)} (hlt:k+1 < s.size) (hfs:f≤s.size) (hf:f≤k+1) (hkf:k < f) (hp:ps.length≤k)
 (HS:yZ [] (bts s)=ps++yZ (((bts s).take k).drop f) ((bts s).drop (max f k)))
 (h2:wr.ownsRow w.heap.size 9 1 l ps.length (ps.map jX)) (hb:Below w.heap.size w wr):kA w s l f (k+1) wr:=by
 refine ⟨ps,by omega,hfs,by omega,by omega,h2,?_,hb⟩
 have a:((bts s).take k).drop f=[]:=List.drop_eq_nil_of_le (by rw [List.length_take]; omega)
 have b:((bts s).take (k+1)).drop f=[]:=List.drop_eq_nil_of_le (by rw [List.length_take]; omega)
 rw [HS,a,b,Nat.max_eq_left (by omega),Nat.max_eq_left (by omega)]
theorem cD {w w':World} {s:ByteArray} {v':Value} {f k:Nat} {ps:List (List UInt8)} (hge:s.size≤k+1) (hks:k≤s.size) (hfs:f≤s.size) (hf:f≤k+1)
 (HS:yZ [] (bts s)=ps++yZ (((bts s).take k).drop f) ((bts s).drop (max f k)))
 (h2:w'.ownsRow w.heap.size 9 1 v' (ps.length+1) (ps.map jX++[.string (s.extract f s.size)])) (hb:Below w.heap.size w w'):s9 w (yZ [] (bts s)) (.returned v') w':=by
 have hl:=zF s
 have e:yZ (((bts s).take k).drop f) ((bts s).drop (max f k))=[(bts s).drop f]:=by
  rcases Nat.lt_or_ge k f with h | h
  ·have a:((bts s).take k).drop f=[]:=List.drop_eq_nil_of_le (by rw [List.length_take]; omega);have b:(bts s).drop (max f k)=[]:=List.drop_eq_nil_of_le (by rw [hl]; omega);have d:(bts s).drop f=[]:=List.drop_eq_nil_of_le (by rw [hl]; omega);rw [a,b,d]; rfl
  ·rw [Nat.max_eq_right h]
   have hjoin:((bts s).take k).drop f++(bts s).drop k=(bts s).drop f:=by
    conv=>rhs; rw [← List.take_append_drop k (bts s)]
    rw [List.drop_append_of_le_length (by rw [List.length_take]; omega)]
   rcases Nat.lt_or_ge k s.size with h3 | h3
   ·have e1:=List.drop_eq_getElem_cons (l:=bts s) (i:=k) (by rw [hl]; exact h3);have e2:(bts s).drop (k+1)=[]:=List.drop_eq_nil_of_le (by rw [hl]; omega);rw [e2] at e1;rw [← hjoin,e1]; rfl
   ·have e1:(bts s).drop k=[]:=List.drop_eq_nil_of_le (by rw [hl]; omega);rw [← hjoin,e1,List.append_nil]; rfl
 rw [e] at HS
 rw [HS]
 refine eI ?_ (by simp) hb
 rw [uB] at h2
 rw [List.take_of_length_le (by rw [List.length_drop]; omega)] at h2
 simpa using h2
theorem bB (s:ByteArray) (w:World) (hs:s.size≤4398046511104):Calls Tryz.prog 203 #[.string s] w (s9 w (yZ [] (bts s))):=by
 go_enter Tryz.func203,Tryz.ntmps203;(go_upto_block 0 with fail);(go_wp2_with fail);go_loopw [3,4,5] (fun l fr i wr=>∃ (k f:Nat),i = .int .i64 k∧fr = .int .i64 f∧kA w s l f k wr) (fun _ _ i _=>s.size - (intOf i).toNat)
 case atStart=>exact ⟨0,0,rfl,rfl,jg _ _⟩
 case round =>
  obtain ⟨k,f,rfl,rfl,ps,hk,hfs,hf,hp,hown,hS,hb⟩:=hrel;have HS:=hid hS;clear hS;have hsz:=hb.size;by_cases hlt:k+1 < s.size
  ·(have i1:(k:Int)+1 < (s.size:Int):=by omega);(have i2:k < s.size:=by omega);by_cases hkf:f≤k
   ·(have d3:¬ (k:Int) < (f:Int):=by omega);(have d3b:(f:Int)≤(k:Int):=by omega);by_cases hc:s[k]=124
    ·(have d1:((s[k].toNat:Int)==124)=true:=by rw [hc]; rfl);by_cases hc2:s[k+1]=124
     ·(have d2:((s[k+1].toNat:Int)==124)=true:=by rw [hc2]; rfl);have HC:=hid (And.intro hc hc2);clear hc hc2;go_wp2_with (first | (at_builtin; refine wu yd rfl (.tmp 29) (.tmp 34) rfl [.string (s.extract f k)] hown hb rfl rfl rfl ?_ (by unfold maxLen; omega) (by omega) (Nat.le_refl _) hsz ?_))
      ·simp [Value.oneCell']
      ·intro v' w' h2 hb2 hs2;have R:=hid (eV hlt hkf hp HS.out HC.out.1 HC.out.2 h2 hb2);clear hown h2 hb2;(go_wp2_with fail);go_roundw
       case rel=>exact ⟨k+1,k+2,by go_num,by go_num,R.out⟩
       case measure=>simp [intOf]; omega
     ·have d2:((s[k+1].toNat:Int)==124)=false:=eO (n:=124) (by decide) hc2;have R:=hid (kD hlt hfs hkf hp HS.out (fun h=>hc2 h.2) hown hb);clear hc hc2;(go_wp2_with fail);go_roundw
      case rel=>exact ⟨k+1,f,by go_num,rfl,R.out⟩
      case measure=>simp [intOf]; omega
    ·have d1:((s[k].toNat:Int)==124)=false:=eO (n:=124) (by decide) hc;have R:=hid (kD hlt hfs hkf hp HS.out (fun h=>hc h.1) hown hb);clear hc;(go_wp2_with fail);go_roundw
     case rel=>exact ⟨k+1,f,by go_num,rfl,R.out⟩
     case measure=>simp [intOf]; omega
   ·have R:=hid (iM hlt hfs hf (by omega) hp HS.out hown hb);(have d3b:¬ (f:Int)≤(k:Int):=by omega);(have d3:(k:Int) < (f:Int):=by omega);go_wp2_with fail
    all_goals
     go_roundw
     case rel=>exact ⟨k+1,f,by go_num,rfl,R.out⟩
     case measure=>simp [intOf]; omega
  ·(have i1:¬ (k:Int)+1 < (s.size:Int):=by omega);go_wp2_with (first | (at_builtin; refine wu yd rfl (.tmp 38) (.tmp 42) rfl [.string (s.extract f s.size)] hown hb rfl rfl rfl ?_ (by unfold maxLen; omega) (by omega) (Nat.le_refl _) hsz ?_))
   ·simp [Value.oneCell']
   ·intro v' w' h2 hb2 hs2;have R:=hid (cD (by omega) hk hfs hf HS.out h2 hb2);clear hown h2;(go_wp2_with fail);go_ret;exact R.out
end Go.Proofs.YtiebekmefjbenaaGreatDoor
