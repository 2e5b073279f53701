import Derived.Test.YtiebekmefjbenaaGreatDoorZNf
import Derived.Test.YtiebekmefjbenaaGreatDoorZNn
set_option linter.unusedVariables false
set_option linter.unusedSimpArgs false
set_option maxRecDepth 100000
set_option maxHeartbeats 2000000
namespace Go.Proofs.YtiebekmefjbenaaGreatDoor
open Go.RowKit Go.Lib
open Rw
theorem ent11 {w:World} {g:Nat} {a0 a1 a2 a3 a4 a5 a6 a7 a8 a9 aaL:Value} (h:Box w g [a0,a1,a2,a3,a4,a5,a6,a7,a8,a9,aaL]):w.cell? ⟨g,0,none⟩=some a0∧w.cell? ⟨g,1,none⟩=some a1∧w.cell? ⟨g,2,none⟩=some a2∧w.cell? ⟨g,3,none⟩=some a3∧w.cell? ⟨g,4,none⟩=some a4∧w.cell? ⟨g,5,none⟩=some a5∧w.cell? ⟨g,6,none⟩=some a6∧w.cell? ⟨g,7,none⟩=some a7∧w.cell? ⟨g,8,none⟩=some a8∧w.cell? ⟨g,9,none⟩=some a9∧w.cell? ⟨g,10,none⟩=some aaL∧g < w.heap.size :=
 ⟨h.2 0 _ rfl,h.2 1 _ rfl,h.2 2 _ rfl,h.2 3 _ rfl,h.2 4 _ rfl,h.2 5 _ rfl,h.2 6 _ rfl,h.2 7 _ rfl,h.2 8 _ rfl,h.2 9 _ rfl,h.2 10 _ rfl,h.1⟩
theorem grown_any (a:ShelfL) (A:Option Addr) (c:Nat) (b:ShelfL) (B:Option Addr) (d:Nat) (w:World) (hL:Laid w) (hEa:yL w A a.entries) (hoka:EntsOk a.entries) (hca:a.entries.length≤c) (hE:yL w B b.entries) (hok:EntsOk b.entries) (hc:b.entries.length≤d):Calls Tryz.prog 12 #[a.val A c,b.val B d] w (yT w (grownS z7 a b)):=by
 have HMA:=hid (fun u (hb:KB w.heap.size w u)=>kr a A c u (hL.kb hb) (hEa.kb EntryAt.stays hb) hoka hca);have HMB:=hid (fun u (hb:KB w.heap.size w u)=>kr b B d u (hL.kb hb) (hE.kb EntryAt.stays hb) hok hc);have HR:=hid (show grownS z7 a b=(zQ z7 a&&zQ z7 b&&yH a.name b.name&&growsL a.entries b.entries) from rfl);have HSB:=hid (show yH a.name b.name=(a.name.toList==b.name.toList) from rfl);have hln:=hok.len;have hla:=hoka.len;have HRX:=hid hEa;have HRY:=hid hE;clear hL hE hok hEa hoka hca hc;generalize grownS z7 a b=res at *;generalize zQ z7 a=ma at *;generalize zQ z7 b=mb at *;obtain ⟨anm,xl_⟩:=a;obtain ⟨bnm,yl_⟩:=b;dsimp only [ShelfL.val] at *;generalize hna:xl_.length=m at *;generalize hnb:yl_.length=n at *;have HN:=hid hna;have HM:=hid hnb;clear hna hnb;generalize hsb:yH anm bnm=sbL at *;clear hsb;go_enter Tryz.func12,Tryz.ntmps12;(go_upto_region 1 with fail);refine zI ?_;intro u1 hu;have HX:=hid (show Box u1 w.heap.size [.string anm,.slice A m c] by rw [hu]; exact (Box.new w [.string anm,.slice A m c] 25).kb (zG _ _));have HB0:=hid (show KB w.heap.size w (w.alloc (.cells #[.string anm,.slice A m c] 25)) from zG _ _);have HY:=hid (show Box u1 (w.heap.size+1) [.string bnm,.slice B n d] by rw [hu]; have:=Box.new (w.alloc (.cells #[.string anm,.slice A m c] 25)) [.string bnm,.slice B n d] 25; rwa [World.size_alloc] at this)
 have HB1:=hid (show KB w.heap.size w u1 by rw [hu]; exact zA HB0.out (zG _ _));clear hu HB0;generalize w.heap.size+1=q2 at *;have x0:=HX.out.2 0 _ rfl;have x1:=HX.out.2 1 _ rfl;have xl:=HX.out.1;cases ma
 ·(go_wp2_with fail);refine (HMA.out u1 HB1.out).mono ?_;rintro _ u2 ⟨rfl,hb⟩;have HB2:=hid (zA HB1.out hb);clear hb x0 x1 xl;(go_wp2_with fail);(try rw [Exit.noGoto_ret]);(try go_ret);exact ⟨by rw [HR.out]<;>rfl,HB2.out⟩
 ·(go_wp2_with fail);refine (HMA.out u1 HB1.out).mono ?_;rintro _ u2 ⟨rfl,hb⟩;have HB2:=hid (zA HB1.out hb);have HX2:=hid (HX.out.kb hb);have HY2:=hid (HY.out.kb hb);clear hb x0 x1 xl;have y0:=HY2.out.2 0 _ rfl;have y1:=HY2.out.2 1 _ rfl;have yl:=HY2.out.1;cases mb
  ·(go_wp2_with fail);refine (HMB.out u2 HB2.out).mono ?_;rintro _ u3 ⟨rfl,hb⟩;have HB3:=hid (zA HB2.out hb);clear hb y0 y1 yl;(go_wp2_with fail);(try rw [Exit.noGoto_ret]);(try go_ret);exact ⟨by rw [HR.out]<;>rfl,HB3.out⟩
  ·(go_wp2_with fail);refine (HMB.out u2 HB2.out).mono ?_;rintro _ u3 ⟨rfl,hb⟩;have HB3:=hid (zA HB2.out hb);have HX3:=hid (HX2.out.kb hb);have HY3:=hid (HY2.out.kb hb);clear hb y0 y1 yl;have x0:=HX3.out.2 0 _ rfl;have x1:=HX3.out.2 1 _ rfl;have xl:=HX3.out.1;have y0:=HY3.out.2 0 _ rfl;have y1:=HY3.out.2 1 _ rfl;have yl:=HY3.out.1;cases sbL
   ·have e1:(anm.toList==bnm.toList)=false:=HSB.out.symm;(have e2:(anm.toList != bnm.toList)=true:=by rw [bne,e1]; rfl);(go_wp2_with fail);(try rw [Exit.noGoto_ret]);(try go_ret);exact ⟨by rw [HR.out]<;>rfl,HB3.out⟩
   ·have e1:(anm.toList==bnm.toList)=true:=HSB.out.symm;(have e2:(anm.toList != bnm.toList)=false:=by rw [bne,e1]; rfl);by_cases hmn:n < m
    ·(have i1:decide ((n:Int) < (m:Int))=true:=by rw [decide_eq_true_iff]; omega);have HF:=hid (grows_len (a:=xl_) (b:=yl_) (by rw [HN.out,HM.out]; exact hmn));(go_wp2_with fail);(try rw [Exit.noGoto_ret]);(try go_ret);exact ⟨by rw [HR.out,HF.out]<;>rfl,HB3.out⟩
    ·(have i1:decide ((n:Int) < (m:Int))=false:=by rw [decide_eq_false_iff_not]; omega);(go_upto_block 0 with fail);(go_wp2_with fail);clear x0 x1 xl y0 y1 yl;go_loopw [35] (fun i ww=>∃ k:Nat,i = .int .i64 (k:Int)∧k≤m∧Hid (growsL xl_ yl_=growsL (xl_.drop k) (yl_.drop k))∧Hid (KB u3.heap.size u3 ww)) (fun i _=>m - (intOf i).toNat)
     case atStart=>exact ⟨0,rfl,Nat.zero_le _,hid rfl,hid (zH _)⟩
     case round =>
      (rename World=>wr);obtain ⟨k,rfl,hk,HD,HK⟩:=hrel;have HKW:=hid (zA HB3.out HK.out);by_cases hlt:k < m
      ·(have h1:k < xl_.length:=by rw [HN.out]; exact hlt);(have h2:k < yl_.length:=by rw [HM.out]; omega);obtain ⟨p,off,hdx,hA,hrx,hcx⟩:=v7 HRX.out h1;obtain ⟨q,of2,hdy,hB,hry,hcy⟩:=v7 HRY.out h2;subst hA;subst hB;have HS:=hid (grows_drop h1 h2);(have k0:(0:Int)≤(k:Int):=by omega);(have k1:(k:Int) < (m:Int):=by omega);(have k2:(k:Int) < (n:Int):=by omega);have f1:=(HY3.out.kb HK.out).2 1 _ rfl;have f3:=(HY3.out.kb HK.out).1;generalize xl_[k]=x at *;generalize yl_[k]=y at *;have HC:=hid (fun u (hb:KB w.heap.size w u)=>rsame_any x.rc y.rc hdx hdy u (hrx.kb hb) (hry.kb hb));have HEY:=hid (show sameEn x y=((x.sum==y.sum)&&sameRc x.rc y.rc) from rfl);generalize sameEn x y=rse at *;obtain ⟨⟨xn,xvL,xne,xba,xfe⟩,xs,xk⟩:=x;obtain ⟨⟨yn,yvL,yne,yba,yfe⟩,ys,yk⟩:=y;obtain ⟨Ax,axL,Bx,bx,Fx,fx⟩:=hdx;obtain ⟨Ay,ayL,By,by_,Fy,fyL⟩:=hdy;have hcx2:=hcx.kb HKW.out;have hcy2:=hcy.kb HKW.out;clear hrx hry hcx hcy;dsimp only [RecL.val] at HC;dsimp only at HEY;generalize sameRc ⟨xn,xvL,xne,xba,xfe⟩ ⟨yn,yvL,yne,yba,yfe⟩=rrc at *;obtain ⟨c0,c1,c2,c3,c4,c5,c6,c7,c8,c9,c10,cl⟩:=hcx2;obtain ⟨d0,d1,d2,d3,d4,d5,d6,d7,d8,d9L,d10,dl⟩:=hcy2;dsimp only at c0 c1 c2 c3 c4 c5 c6 c7 c8 c9 c10 d0 d1 d2 d3 d4 d5 d6 d7 d8 d9L d10;(go_upto_region 7 with fail);refine zI ?_;intro u5 hu;have HP5:=hid (show Box u5 wr.heap.size [.string xn,.int .i64 xvL.maj,.int .i64 xvL.min,.int .i64 xvL.pat,.string xvL.pre,.string xvL.bld,.slice Ax xne.length axL,.slice Bx xba.length bx,.slice Fx xfe.length fx,.int .u64 xs,.bool xk] by rw [hu]; exact (Box.new wr [.string xn,.int .i64 xvL.maj,.int .i64 xvL.min,.int .i64 xvL.pat,.string xvL.pre,.string xvL.bld,.slice Ax xne.length axL,.slice Bx xba.length bx,.slice Fx xfe.length fx,.int .u64 xs,.bool xk] 55).kb (zG _ _))
       have HQ5:=hid (show Box u5 (wr.heap.size+1) [.string yn,.int .i64 yvL.maj,.int .i64 yvL.min,.int .i64 yvL.pat,.string yvL.pre,.string yvL.bld,.slice Ay yne.length ayL,.slice By yba.length by_,.slice Fy yfe.length fyL,.int .u64 ys,.bool yk] by rw [hu]; have:=Box.new (wr.alloc (.cells #[.string xn,.int .i64 xvL.maj,.int .i64 xvL.min,.int .i64 xvL.pat,.string xvL.pre,.string xvL.bld,.slice Ax xne.length axL,.slice Bx xba.length bx,.slice Fx xfe.length fx,.int .u64 xs,.bool xk] 55)) [.string yn,.int .i64 yvL.maj,.int .i64 yvL.min,.int .i64 yvL.pat,.string yvL.pre,.string yvL.bld,.slice Ay yne.length ayL,.slice By yba.length by_,.slice Fy yfe.length fyL,.int .u64 ys,.bool yk] 55; rwa [World.size_alloc] at this);have HK5:=hid (show KB w.heap.size w u5 by rw [hu]; exact zA HKW.out (zA (zG _ _) (zG _ _)));have HK6:=hid (show KB u3.heap.size u3 u5 by rw [hu]; exact zA HK.out (zA (zG _ _) (zG _ _)));clear hu c0 c1 c2 c3 c4 c5 c6 c7 c8 c9 c10 cl d0 d1 d2 d3 d4 d5 d6 d7 d8 d9L d10 dl f1 f3;generalize wr.heap.size+1=g9 at *;obtain ⟨x0,x1,x2,x3,x4,x5,x6,x7,x8,x9,x10,xl⟩:=ent11 HP5.out;obtain ⟨y0,y1,y2,y3,y4,y5,y6,y7,y8,y9,y10,yl⟩:=ent11 HQ5.out;by_cases hss:xs=ys
       ·(have e8L:(xs==ys)=true:=by rw [beq_iff_eq]; exact hss);(have n8L:(xs != ys)=false:=by rw [bne,e8L]; rfl);have HEY:=hid (HEY.out.trans (by rw [e8L,Bool.true_and]:_=rrc));clear hss;(go_wp2_with fail);refine (HC.out u5 HK5.out).mono ?_;rintro _ u6 ⟨rfl,hb⟩;have HK7:=hid (zA HK5.out hb);have HK8:=hid (zA HK6.out hb);clear hb x0 x1 x2 x3 x4 x5 x6 x7 x8 x9 x10 xl y0 y1 y2 y3 y4 y5 y6 y7 y8 y9 y10 yl;cases rrc
        ·have HF:=hid (HD.out.trans (HS.out.trans (by rw [HEY.out,Bool.false_and]:_=false)));(go_wp2_with fail);(try rw [Exit.noGoto_ret]);(try go_ret);exact ⟨by rw [HR.out,HF.out]<;>rfl,HK7.out⟩
        ·have HV2:=hid (HS.out.trans (by rw [HEY.out,Bool.true_and]));(go_wp2_with fail);go_roundw
         case rel=>exact ⟨k+1,by go_num,by omega,hid (HD.out.trans HV2.out),HK8⟩
         case measure=>simp [intOf]<;>omega
       ·(have e8L:(xs==ys)=false:=by rw [beq_eq_false_iff_ne]; exact hss);(have n8L:(xs != ys)=true:=by rw [bne,e8L]; rfl);have HF:=hid (HD.out.trans (HS.out.trans (by rw [HEY.out,e8L,Bool.false_and,Bool.false_and]:_=false)));clear hss;(go_wp2_with fail);(try rw [Exit.noGoto_ret]);(try go_ret);exact ⟨by rw [HR.out,HF.out]<;>rfl,HK5.out⟩
      ·(obtain rfl:k=m:=by omega);(have k1:¬ (k:Int) < (k:Int):=by omega);have HF:=hid (HD.out.trans (grows_end (by rw [HN.out]; exact Nat.le_refl _)));(go_wp2_with fail);(try rw [Exit.noGoto_ret]);(try go_ret);exact ⟨by rw [HR.out,HF.out]<;>rfl,HKW.out⟩
def unY (x:EntryL):EntryL:={ x with yanked:=false }
theorem hit_un (nm:List UInt8) (v:Ver) (x:EntryL):js nm v (unY x)=js nm v x:=rfl
theorem place_un {nm:List UInt8} {v:Ver}:∀ (l:List EntryL) (i:Nat),zi nm v i (l.map unY)=zi nm v i l
 | [],_=>rfl
 | x::l,i=>by rw [List.map_cons,zi,zi,hit_un,place_un l (i+1)]
theorem entry_un (ah:List EntryL) (x:EntryL):wD z7 (ah.map unY) (unY x)=wD z7 ah x:=by
 unfold wD;rw [show (unY x).rc=x.rc from rfl,show (unY x).sum=x.sum from rfl,place_un]
theorem ents_un:∀ (l ah:List EntryL),yA z7 (ah.map unY) (l.map unY)=yA z7 ah l
 | [],_=>rfl
 | x::l,ah=>by
  rw [List.map_cons,yA,yA,entry_un,← ents_un l (ah++[x]),List.map_append];rfl
theorem may_un {nm:ByteArray} {l m:List EntryL} (h:l.map unY=m.map unY):zQ z7 ⟨nm,l⟩=zQ z7 ⟨nm,m⟩:=by
 (have hl:l.length=m.length:=by simpa using congrArg List.length h);unfold zQ;dsimp only;rw [hl,← ents_un l [],← ents_un m [],h]
theorem grows_un:∀ {l m:List EntryL},l.map unY=m.map unY→growsL l m=true
 | [],_,_=>by rw [growsL]
 | x::l,[],h=>by simp at h
 | x::l,y::m,h=>by
  rw [List.map_cons,List.map_cons] at h;(injection h with h1 h2);have e1:x.sum=y.sum:=congrArg (·.sum) h1;have e2:x.rc=y.rc:=congrArg (·.rc) h1;rw [growsL,grows_un h2,sameEn,e1,e2,sameRc_self];simp
def markE (l:List EntryL) (j:Nat) (b:Bool):List EntryL:=l.modify j fun x=>{ x with yanked:=b }
theorem mark_len {l:List EntryL} {j:Nat} {b:Bool}:(markE l j b).length=l.length:=by simp [markE]
theorem mark_un (l:List EntryL) (j:Nat) (b:Bool):(markE l j b).map unY=l.map unY:=by
 apply List.ext_getElem?;intro i;rw [List.getElem?_map,List.getElem?_map,markE,List.getElem?_modify];by_cases e:j=i
 ·subst e;cases l[j]?<;>simp [unY]
 ·simp [e]
theorem yank_mark {nm:ByteArray} {l m:List EntryL} {j:Nat} (hm:zQ z7 ⟨nm,l⟩=true) (hj:j < l.length) (h:m.map unY=l.map unY) (b:Bool):yankS z7 ⟨nm,m⟩ (bts l[j].rc.name) l[j].rc.v b=(⟨nm,markE m j b⟩,0):=by
 have hp:zi (bts l[j].rc.name) l[j].rc.v 0 m=(j:Int):=by
  rw [← place_un m 0,h,place_un l 0];refine (aK hj (tQ (s:=⟨nm,l⟩) hm hj)).2 ?_;have:=(hG (nB (s:=⟨nm,l⟩) hm) _ hj).2
  rwa [List.nil_append] at this
 rw [yankS,may_un h,hm,if_neg (by simp)];dsimp only;rw [hp,if_neg (by omega),Int.toNat_natCast];rfl
theorem grown_un {nm:ByteArray} {l m:List EntryL} (hm:zQ z7 ⟨nm,l⟩=true) (h:l.map unY=m.map unY):grownS z7 ⟨nm,l⟩ ⟨nm,m⟩=true:=by
 rw [grownS,← may_un h,hm,sameB_self,grows_un h];rfl
theorem unY_ok {l m:List EntryL} (h:m.map unY=l.map unY) (ok:EntsOk l):EntsOk m:=by
 have hm:∀ x∈m,∃ y∈l,x.rc=y.rc:=fun x hx=>by
  have h1:unY x∈m.map unY:=List.mem_map.2 ⟨x,hx,rfl⟩;rw [h] at h1;obtain ⟨y,hy,e⟩:=List.mem_map.1 h1;exact ⟨y,hy,(congrArg (·.rc) e).symm⟩
 refine ⟨fun x hx=>?_,fun x hx=>?_,?_⟩
 ·obtain ⟨y,hy,e⟩:=hm x hx;rw [e]; exact ok.fit y hy
 ·obtain ⟨y,hy,e⟩:=hm x hx;rw [e]; exact ok.small y hy
 ·(have:m.length=l.length:=by simpa using congrArg List.length h);rw [this]; exact ok.len
def MarkK (w:World) (es:List EntryL) (n:Nat) (e:Ending) (w':World):Prop:=∃ (A:Option Addr) (c:Nat),e = .returned (.tuple #[.agg #[.string ⟨#[111,110,101]⟩,.slice A n c],.int .i64 0])∧yL w' A es∧n≤c∧KB w.heap.size w w'
end Go.Proofs.YtiebekmefjbenaaGreatDoor
