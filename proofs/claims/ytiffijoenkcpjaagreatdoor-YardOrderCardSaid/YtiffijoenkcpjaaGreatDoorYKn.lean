import Derived.Test.YtiffijoenkcpjaaGreatDoorYKg
import Derived.Test.YtiffijoenkcpjaaGreatDoorYKj
set_option linter.unusedVariables false
set_option linter.unusedSimpArgs false
set_option maxRecDepth 100000
set_option maxHeartbeats 8000000
namespace Go.Proofs.YtiffijoenkcpjaaGreatDoor
open Go.RowKit Go.Lib
open Rw
theorem oB (s:List UInt8):Z7 (yB s).1:=by
 (have nil:Z7 []:=fun a ha=>by simp at ha);unfold yB;split
 ·exact nil
 ·rename_i h
  cases h2:vg (yZ [] s) with
  | none=>exact nil
  | some r =>
   have:=sT (fun x hx=>by have:=uo hx; omega) h2;simp only;split
   ·split
    ·exact this
    ·exact nil
   ·exact nil
theorem te (s:List UInt8):(yB s).1.length≤6∧∀ a∈(yB s).1,a.length≤6:=by
 unfold yB;split
 ·exact ⟨by simp,fun a ha=>by simp at ha⟩
 ·split
  ·exact ⟨by simp,fun a ha=>by simp at ha⟩
  ·split
   ·rename_i hf
    have h:=eJ.1 hf;split
    ·exact ⟨h.le,fun a ha=>(h.may a ha).le⟩
    ·exact ⟨by simp,fun a ha=>by simp at ha⟩
   ·exact ⟨by simp,fun a ha=>by simp at ha⟩
theorem qR {l:List UInt8} (h:(yB l).2≠0):xI l=false:=by rw [xI,decide_eq_false h,Bool.false_and]
theorem ph {l:List UInt8} (h:(yB l).2=0):xI l=decide (qE (yB l).1=l):=by rw [xI,decide_eq_true h,Bool.true_and]
theorem du (s:ByteArray) (w:World) (hL:Laid w):Calls Tryz.prog 155 #[.string s] w (yT w (xI (bts s))):=by
 have HPA:=hid (dK s w hL);have HPR:=hid (fun A c u (hb:KB w.heap.size w u) (h:Alts u A (yB (bts s)).1)=>dv A c (yB (bts s)).1 u (hL.kb hb) h (oB _) (by have:=(te (bts s)).1; omega) (fun a ha=>by have:=(te (bts s)).2 a ha; omega));have HMF:=hid (fun h=>qR (l:=bts s) h);have HMT:=hid (fun h=>ph (l:=bts s) h);go_enter Tryz.func155,Tryz.ntmps155;(go_wp2_with fail);refine HPA.out.mono ?_;rintro _ w1 ⟨A,c,rfl,hl,hb⟩;have HL1:=hid hl;have HB:=hid hb;clear hl hb;generalize hoo:(yB (bts s)).1=o at *;generalize hee:(yB (bts s)).2=er at *;have HOO:=hid hoo;clear hoo;by_cases he:er=0
 ·have HE:=hid (HMT.out he);(have e0:(er==0)=true:=by rw [beq_iff_eq]; exact he);subst he;(go_upto_region 2 with fail);refine zI ?_;intro w2 hw2;have HX:=hid (show Box w2 w1.heap.size [.slice A o.length c] by rw [hw2]; exact Box.new w1 [.slice A o.length c] 102);have HB2:=hid (show KB w1.heap.size w1 w2 by rw [hw2]; exact zG _ _);clear hw2;replace HPR:=hid (HPR.out A c w2 (zA HB.out HB2.out) (HL1.out.kb HB2.out));have x0:=HX.out.2 0 _ rfl;have xl:=HX.out.1;generalize o.length=n at *;(go_wp2_with fail);refine HPR.out.mono ?_;rintro _ w3 ⟨t,rfl,ht,hb⟩;have HB3:=hid (zA HB.out (zA HB2.out hb))
  have HT:=hid (show (t.toList==s.toList)=decide (qE o=bts s) by
   rw [← ht];by_cases h:bts t=bts s
   ·rw [decide_eq_true h,beq_iff_eq]; exact h
   ·rw [decide_eq_false h,beq_eq_false_iff_ne]; exact h)
  clear hb ht;(go_wp2_with fail);(try go_ret);exact ⟨by rw [HE.out,← HT.out]<;>rfl,HB3.out⟩
 ·have HE:=hid (HMF.out he);(have e0:(er==0)=false:=by rw [beq_eq_false_iff_ne]; exact he);clear he;(go_upto_region 2 with fail);refine zI ?_;intro w2 hw2;have HB2:=hid (show KB w1.heap.size w1 w2 by rw [hw2]; exact zG _ _);clear hw2;(go_wp2_with fail);(try go_ret);exact ⟨by first | (rw [HE.out]; done) | (rw [HE.out]; rfl),zA HB.out HB2.out⟩
def bz (w:World) (x:Int) (e:Ending) (w':World):Prop:=e = .returned (.int .i64 x)∧KB w.heap.size w w'
abbrev WishL.val (x:WishL) (A:Option Addr) (c:Nat):Value := .agg #[.string x.name,.string x.rng,.slice A x.feats.length c,.bool x.bare]
abbrev WishL.cells (x:WishL) (A:Option Addr) (c:Nat):List Value:=[.string x.name,.string x.rng,.slice A x.feats.length c,.bool x.bare]
abbrev NeedL.val (x:NeedL) (A:Option Addr) (c:Nat):Value := .agg #[.slice A x.any.length c,.string x.whn,.string x.opt]
abbrev NeedL.cells (x:NeedL) (A:Option Addr) (c:Nat):List Value:=[.slice A x.any.length c,.string x.whn,.string x.opt]
theorem yQ {w:World} {g:Nat} {r:RecL} {hd:RecH} (h:Box w g (r.cells hd)):w.cell? ⟨g,0,none⟩=some (.string r.name)∧w.cell? ⟨g,1,none⟩=some (.int .i64 r.v.maj)∧w.cell? ⟨g,2,none⟩=some (.int .i64 r.v.min)∧w.cell? ⟨g,3,none⟩=some (.int .i64 r.v.pat)∧w.cell? ⟨g,4,none⟩=some (.string r.v.pre)∧w.cell? ⟨g,5,none⟩=some (.string r.v.bld)∧w.cell? ⟨g,6,none⟩=some (.slice hd.A r.needs.length hd.ca)∧w.cell? ⟨g,7,none⟩=some (.slice hd.B r.bars.length hd.cb)∧w.cell? ⟨g,8,none⟩=some (.slice hd.F r.feats.length hd.cf)∧g < w.heap.size :=
 ⟨h.2 0 _ rfl,h.2 1 _ rfl,h.2 2 _ rfl,h.2 3 _ rfl,h.2 4 _ rfl,h.2 5 _ rfl,h.2 6 _ rfl,h.2 7 _ rfl,h.2 8 _ rfl,h.1⟩
theorem Zu {own nm rng:List UInt8} (h:zg nm=false):wY own nm rng=4:=by rw [wY,h]; rfl
theorem aG {own nm rng:List UInt8} (h:zg nm=true) (h2:nm=own):wY own nm rng=8:=by rw [wY,h,if_neg (by simp),if_pos h2]
theorem ar {own nm rng:List UInt8} (h:zg nm=true) (h2:nm≠own) (h3:xI rng=false):wY own nm rng=6:=by rw [wY,h,h3,if_neg (by simp),if_neg h2]; rfl
theorem ZM {own nm rng:List UInt8} (h:zg nm=true) (h2:nm≠own) (h3:xI rng=true):wY own nm rng=0:=by rw [wY,h,h3,if_neg (by simp),if_neg h2]; rfl
theorem ft (r:RecL) (hd:RecH) (nm rng:ByteArray) (w:World) (hL:Laid w):Calls Tryz.prog 112 #[r.val hd,.string nm,.string rng] w (bz w (wY (bts r.name) (bts nm) (bts rng))):=by
 have HN:=hid (fun u=>vS nm u);have HR:=hid (fun u (hb:KB w.heap.size w u)=>du rng u (hL.kb hb));have H1:=hid (fun h=>Zu (own:=bts r.name) (nm:=bts nm) (rng:=bts rng) h);have H2:=hid (fun h h2=>aG (own:=bts r.name) (nm:=bts nm) (rng:=bts rng) h h2);have H3:=hid (fun h h2 h3=>ar (own:=bts r.name) (nm:=bts nm) (rng:=bts rng) h h2 h3);have H4:=hid (fun h h2 h3=>ZM (own:=bts r.name) (nm:=bts nm) (rng:=bts rng) h h2 h3);clear hL;go_enter Tryz.func112,Tryz.ntmps112;(go_upto_region 1 with fail);refine zI ?_;intro u1 hu;have HX:=hid (show Box u1 w.heap.size (r.cells hd) by rw [hu]; exact Box.new w (r.cells hd) 32);have HB1:=hid (show KB w.heap.size w u1 by rw [hu]; exact zG _ _);clear hu;generalize wY (bts r.name) (bts nm) (bts rng)=x at *;cases hn:zg (bts nm)
 ·have HE:=hid (H1.out hn);rw [hn] at HN;clear hn;(go_wp2_with fail);refine (HN.out _).mono ?_;rintro _ u2 ⟨rfl,hb⟩;have HB2:=hid (zA HB1.out hb.kb);clear hb;(go_wp2_with fail);(try rw [Exit.noGoto_ret]);(try go_ret);exact ⟨by first | (rw [HE.out]; done) | (rw [HE.out]; rfl),HB2.out⟩
 ·rw [hn] at HN;by_cases he:bts nm=bts r.name
  ·have HE:=hid (H2.out hn he);(have e0:(nm.toList==r.name.toList)=true:=by rw [beq_iff_eq]; exact he);clear hn he;(go_wp2_with fail);refine (HN.out _).mono ?_;rintro _ u2 ⟨rfl,hb⟩;have HB2:=hid (zA HB1.out hb.kb);have HX2:=hid (HX.out.kb hb.kb);clear hb;have x0:=HX2.out.2 0 _ rfl;have xl:=HX2.out.1;(go_wp2_with fail);(try rw [Exit.noGoto_ret]);(try go_ret);exact ⟨by first | (rw [HE.out]; done) | (rw [HE.out]; rfl),HB2.out⟩
  ·(have e0:(nm.toList==r.name.toList)=false:=by rw [beq_eq_false_iff_ne]; exact he);cases hr:xI (bts rng)
   ·have HE:=hid (H3.out hn he hr);rw [hr] at HR;clear hn he hr;(go_wp2_with fail);refine (HN.out _).mono ?_;rintro _ u2 ⟨rfl,hb⟩;have HB2:=hid (zA HB1.out hb.kb);have HX2:=hid (HX.out.kb hb.kb);clear hb;have x0:=HX2.out.2 0 _ rfl;have xl:=HX2.out.1;(go_wp2_with fail);refine (HR.out _ HB2.out).mono ?_;rintro _ u3 ⟨rfl,hb⟩;have HB3:=hid (zA HB2.out hb);clear hb x0 xl;(go_wp2_with fail);(try rw [Exit.noGoto_ret]);(try go_ret);exact ⟨by first | (rw [HE.out]; done) | (rw [HE.out]; rfl),HB3.out⟩
   ·have HE:=hid (H4.out hn he hr);rw [hr] at HR;clear hn he hr;(go_wp2_with fail);refine (HN.out _).mono ?_;rintro _ u2 ⟨rfl,hb⟩;have HB2:=hid (zA HB1.out hb.kb);have HX2:=hid (HX.out.kb hb.kb);clear hb;have x0:=HX2.out.2 0 _ rfl;have xl:=HX2.out.1;(go_wp2_with fail);refine (HR.out _ HB2.out).mono ?_;rintro _ u3 ⟨rfl,hb⟩;have HB3:=hid (zA HB2.out hb);clear hb x0 xl;(go_wp2_with fail);(try rw [Exit.noGoto_ret]);(try go_ret);exact ⟨by first | (rw [HE.out]; done) | (rw [HE.out]; rfl),HB3.out⟩
theorem l6 {own:List UInt8} {alone:Bool} {x:WishL} (h:wY own (bts x.name) (bts x.rng)≠0):uW own alone x=wY own (bts x.name) (bts x.rng):=by rw [uW,if_neg h]
theorem gg {own:List UInt8} {alone:Bool} {x:WishL} (h:wY own (bts x.name) (bts x.rng)=0):uW own alone x=if yO alone x.feats then 0 else 11:=by rw [uW,if_pos h]
def wfR (l:List ByteArray) (k:Nat):Bool:=xF ((l.map bts).drop (k - 1))&&(l.drop k).all (fun s=>zY (bts s))
theorem Yr {alone:Bool} {l:List ByteArray} (h6:l.length≤6) (h:alone=true∨l.length=0):yO alone l=wfR l 0:=by
 unfold yO wfR;rw [decide_eq_true h6]
 have:(alone || l.isEmpty)=true:=by
  rcases h with h | h
  ·rw [h]; rfl
  ·rw [List.eq_nil_of_length_eq_zero h]; simp
 rw [this,Bool.true_and,Bool.true_and,Bool.and_comm]; rfl
theorem WL {alone:Bool} {l:List ByteArray} (h:6 < l.length):yO alone l=false:=by
 unfold yO;rw [decide_eq_false (by omega)]; rfl
theorem Wm {l:List ByteArray} (h:0 < l.length):yO false l=false:=by
 unfold yO;(have:l.isEmpty=false:=by cases l; simp at h; rfl);rw [this]; simp
theorem bQ {l:List ByteArray} (h:0 < l.length):wfR l 0=(zY (bts l[0])&&wfR l 1):=by
 unfold wfR;rw [vx h,Bool.and_left_comm]
theorem Ye {l:List ByteArray} {j:Nat} (h:j+1 < l.length):wfR l (j+1)=((Op.bytesLess (bts l[j]) (bts l[j+1])&&zY (bts l[j+1]))&&wfR l (j+1+1)):=by
 unfold wfR;rw [Nat.add_sub_cancel,Nat.add_sub_cancel,vx h,th (l:=l.map bts) (k:=j) (by rw [List.length_map]; exact h)];simp only [List.getElem_map];cases Op.bytesLess (bts l[j]) (bts l[j+1])<;>cases zY (bts l[j+1])<;>simp
theorem WP {l:List ByteArray} {k:Nat} (h:l.length≤k):wfR l k=true:=by
 unfold wfR;rw [r9 h,sa (by rw [List.length_map]; omega)]; rfl
theorem YT (r:RecL) (hd:RecH) (x:WishL) (A:Option Addr) (c:Nat) (alone:Bool) (w:World) (hL:Laid w) (htx:Texts w A x.feats) (hn:x.feats.length≤9223372036854775807):Calls Tryz.prog 153 #[r.val hd,x.val A c,.bool alone] w (bz w (uW (bts r.name) alone x)):=by
 have HWH:=hid (fun u (hb:KB w.heap.size w u)=>ft r hd x.name x.rng u (hL.kb hb));have HEB:=hid (fun h=>l6 (own:=bts r.name) (alone:=alone) (x:=x) h);have HEG:=hid (fun h=>gg (own:=bts r.name) (alone:=alone) (x:=x) h);have HTX:=hid htx;clear hL htx;go_enter Tryz.func153,Tryz.ntmps153;(go_upto_region 1 with fail);refine zI ?_;intro u1 hu;have HX:=hid (show Box u1 w.heap.size (r.cells hd) by rw [hu]; exact (Box.new w (r.cells hd) 32).kb (zG _ _));have HB0:=hid (show KB w.heap.size w (w.alloc (.cells (r.cells hd).toArray 32)) from zG _ _);have HY:=hid (show Box u1 (w.heap.size+1) (x.cells A c) by rw [hu]; have:=Box.new (w.alloc (.cells (r.cells hd).toArray 32)) (x.cells A c) 167; rwa [World.size_alloc] at this);have HB1:=hid (show KB w.heap.size w u1 by rw [hu]; exact zA HB0.out (zG _ _));clear hu HB0;generalize w.heap.size+1=q at *;obtain ⟨x0,x1,x2,x3,x4,x5,x6,x7,x8,xl⟩:=yQ HX.out;have y0:=HY.out.2 0 _ rfl;have y1:=HY.out.2 1 _ rfl;have yl:=HY.out.1;generalize hwe:uW (bts r.name) alone x=er at *;have HWE:=hid hwe;clear hwe;obtain ⟨xnm,xrg,of,xb⟩:=x;dsimp only at *;generalize hwm:wY (bts r.name) (bts xnm) (bts xrg)=wm at *;have HWM:=hid hwm;clear hwm;(go_wp2_with fail);refine (HWH.out _ HB1.out).mono ?_;rintro _ u2 ⟨rfl,hb⟩;have HB2:=hid (zA HB1.out hb);replace HY:=hid (HY.out.kb hb);clear hb x0 x1 x2 x3 x4 x5 x6 x7 x8 xl y0 y1 yl HX HWH HB1
 have y2:=HY.out.2 2 _ rfl;have yl:=HY.out.1;by_cases hw0:wm=0
 ·have HE:=hid (HEG.out hw0);(have e0:(wm==0)=true:=by rw [beq_iff_eq]; exact hw0);(have e9:(wm != 0)=false:=by rw [bne,e0]; rfl);clear hw0 HEB HEG;by_cases h6:of.length≤6
  ·(have i6:decide ((6:Int) < (of.length:Int))=false:=by rw [decide_eq_false_iff_not]; omega);by_cases hal:alone=true∨of.length=0
   ·have HST:=hid (HE.out.trans (by rw [Yr h6 hal]))
    have hal2:(decide ((0:Int) < (of.length:Int))&&!alone)=false:=by
     rcases hal with h | h
     ·rw [h]; simp
     ·rw [h]; simp
    have HA2:=hid hal2;clear hal hal2 HE
    obtain ⟨i0,al,hi0,hal3,hcase⟩:∃ i0 al:Bool,i0=decide ((0:Int) < (of.length:Int))∧al=alone∧(i0=false∨(i0=true∧al=true)):=by
     refine ⟨_,_,rfl,rfl,?_⟩;have:=HA2.out;cases h:decide ((0:Int) < (of.length:Int))
     ·exact .inl rfl
     ·rw [h] at this; right; exact ⟨rfl,by simpa using this⟩
    subst hal3;have j0:decide ((0:Int) < (of.length:Int))=i0:=hi0.symm;(have j9:decide (0 < of.length)=i0:=by rw [← j0]; simp);clear hi0 HA2;have HTX2:=hid (Texts.kb HTX.out HB2.out);generalize hm:of.length=m at *;have HM:=hid hm;clear hm;rcases hcase with rfl | ⟨rfl,rfl⟩
    all_goals
     (go_upto_block 0 with fail);(go_wp2_with fail);go_loopw [36] (fun i wr=>∃ k:Nat,i = .int .i64 (k:Int)∧k≤m∧Hid (er=if wfR of k then 0 else 11)∧Hid (KB u2.heap.size u2 wr)) (fun i _=>m - (intOf i).toNat)
     case atStart=>exact ⟨0,rfl,Nat.zero_le _,HST,hid (zH _)⟩
     case round =>
      obtain ⟨k,rfl,hk,HD,HB⟩:=hrel;have HBW:=hid (zA HB2.out HB.out);have HYW:=hid (HY.out.kb HB.out);have z2:=HYW.out.2 2 _ rfl;have zl:=HYW.out.1;by_cases hlt:k < m
      ·(have hlt':k < of.length:=by rw [HM.out]; exact hlt);obtain ⟨b,off,hA,hbl,hcx⟩:=Texts.cell (Texts.kb HTX2.out HB.out) hlt';(have k0:(0:Int)≤(k:Int):=by omega);(have k1:(k:Int) < (m:Int):=by omega);have HWD:=hid (fun u=>wS of[k] u);rcases k with _ | j
       ·have HS:=hid (bQ hlt');subst hA;simp only [Nat.add_zero] at hcx;generalize of[0]=s at *;cases hwd:zY (bts s)
        ·rw [hwd] at HWD;have HE:=hid (show er=11 by rw [HD.out,HS.out,hwd]; rfl);clear hwd;(go_wp2_with fail);refine (HWD.out _).mono ?_;rintro _ u3 ⟨rfl,hb⟩;have HB3:=hid (zA HBW.out hb.kb);clear hb;(go_wp2_with fail);(try rw [Exit.noGoto_ret]);(try go_ret);exact ⟨by first | (rw [HE.out]; done) | (rw [HE.out]; rfl),HB3.out⟩
        ·rw [hwd] at HWD;have HE:=hid (show er=if wfR of 1 then 0 else 11 by rw [HD.out,HS.out,hwd,Bool.true_and]);clear hwd;(go_wp2_with fail);refine (HWD.out _).mono ?_;rintro _ u3 ⟨rfl,hb⟩;have HB3:=hid (zA HB.out hb.kb);clear hb;(go_wp2_with fail);go_roundw
         case rel=>exact ⟨1,by go_num,by omega,HE,HB3⟩
         case measure=>simp [intOf]<;>omega
       ·have HS:=hid (Ye hlt');have hc0:=Texts.lay1 (hA▸Texts.kb HTX2.out HB.out) (Nat.lt_of_succ_lt hlt');subst hA;(have j2:decide ((0:Int) < (j:Int)+1)=true:=by rw [decide_eq_true_iff]; omega);(have j3:(0:Int)≤(j:Int):=by omega);(have j4:(j:Int) < (m:Int):=by omega);have HC0:=hid hc0;clear hc0;generalize of[j+1]=s at *;generalize of[j]=p at *;cases hwd:zY (bts s)
        ·rw [hwd] at HWD;have HE:=hid (show er=11 by rw [HD.out,HS.out,hwd]; simp);clear hwd;(go_wp2_with fail);refine (HWD.out _).mono ?_;rintro _ u3 ⟨rfl,hb⟩;have HB3:=hid (zA HBW.out hb.kb);clear hb;(go_wp2_with fail);(try rw [Exit.noGoto_ret]);(try go_ret);exact ⟨by first | (rw [HE.out]; done) | (rw [HE.out]; rfl),HB3.out⟩
        ·rw [hwd] at HWD;cases hls:Op.bytesLess (bts p) (bts s)
         all_goals
          have hls2:Op.bytesLess p.toList s.toList=_:=hls;have HLS:=hid hls;have HWT:=hid hwd;clear hls hwd;(go_wp2_with fail);refine (HWD.out _).mono ?_;rintro _ u3 ⟨rfl,hb⟩;have HB3:=hid (zA HB.out hb.kb);have HB4:=hid (zA HBW.out hb.kb);have HYU:=hid (HYW.out.kb hb.kb);have z3:=HYU.out.2 2 _ rfl;have zl3:=HYU.out.1;have c0:=(hb.kb.cell (p:=⟨b,off+j,none⟩) HC0.out.1).trans HC0.out.2;have cl:=Nat.lt_of_lt_of_le HC0.out.1 hb.kb.size;clear hb z2 zl hcx hbl;go_wp2_with fail
          first
          | (try rw [Exit.noGoto_ret]
             try go_ret
             exact ⟨by rw [show er=11 by rw [HD.out,HS.out,HLS.out]; rfl]<;>rfl,HB4.out⟩)
          | (go_roundw
             case rel=>exact ⟨j+1+1,by go_num,by omega,hid (by rw [HD.out,HS.out,HLS.out,HWT.out]; rfl),HB3⟩
             case measure=>simp [intOf]<;>omega)
      ·(obtain rfl:k=m:=by omega);(have k1:¬ (k:Int) < (k:Int):=by omega);have HE:=hid (show er=0 by rw [HD.out,WP (by rw [HM.out]; exact Nat.le_refl _)]; rfl);(go_wp2_with fail);(try rw [Exit.noGoto_ret]);(try go_ret);exact ⟨by first | (rw [HE.out]; done) | (rw [HE.out]; rfl),HBW.out⟩
   ·have hz:0 < of.length:=by
     rcases Nat.eq_zero_or_pos of.length with h | h
     ·exact absurd (.inr h) hal
     ·exact h
    have ha:alone=false:=by
     cases alone
     ·rfl
     ·exact absurd (.inl rfl) hal
    (have j0:decide ((0:Int) < (of.length:Int))=true:=by rw [decide_eq_true_iff]; omega);(have j9:decide (0 < of.length)=true:=by rw [decide_eq_true_iff]; omega);replace HE:=hid (show er=11 by rw [HE.out,ha,Wm hz]; rfl);subst ha;clear hal hz;generalize of.length=m at *;(go_wp2_with fail);(try rw [Exit.noGoto_ret]);(try go_ret);exact ⟨by first | (rw [HE.out]; done) | (rw [HE.out]; rfl),HB2.out⟩
  ·(have i6:decide ((6:Int) < (of.length:Int))=true:=by rw [decide_eq_true_iff]; omega);replace HE:=hid (show er=11 by rw [HE.out,WL (by omega)]; rfl);clear h6;generalize of.length=m at *;(go_wp2_with fail);(try rw [Exit.noGoto_ret]);(try go_ret);exact ⟨by first | (rw [HE.out]; done) | (rw [HE.out]; rfl),HB2.out⟩
 ·have HE:=hid (HEB.out hw0);(have e0:(wm==0)=false:=by rw [beq_eq_false_iff_ne]; exact hw0);(have e9:(wm != 0)=true:=by rw [bne,e0]; rfl);clear hw0 HEB HEG;(go_wp2_with fail);(try rw [Exit.noGoto_ret]);(try go_ret);exact ⟨by rw [HE.out]<;>rfl,HB2.out⟩
theorem t9 {w:World} {A:Option Addr} {l:List WishL} {k:Nat} (h:RowOf 4 WishAt w A l) (hk:k < l.length):∃ b off A' c',A=some ⟨b,off,none⟩∧b < w.heap.size∧w.cell? ⟨b,off+k * 4,none⟩=some (.string l[k].name)∧w.cell? ⟨b,off+k * 4+1,none⟩=some (.string l[k].rng)∧w.cell? ⟨b,off+k * 4+2,none⟩=some (.slice A' l[k].feats.length c')∧w.cell? ⟨b,off+k * 4+3,none⟩=some (.bool l[k].bare)∧Texts w A' l[k].feats∧l[k].feats.length≤9223372036854775807∧l[k].feats.length≤c':=by
 obtain ⟨b,off,hA,hl,h1,h2,⟨A',c',h3,h4,h5,h6⟩,h7⟩:=h.at_ hk;exact ⟨b,off,A',c',hA,hl,h1,h2,h3,h7,h4,h5,h6⟩
theorem jQ {own:List UInt8} {n:NeedL} (h:n.any.length=0):yg own n=9:=by rw [yg,if_pos h]
theorem l0 {own:List UInt8} {n:NeedL} (h:n.any.length≠0) (h2:3 < n.any.length):yg own n=3:=by rw [yg,if_neg h,if_pos h2]
theorem gN {own:List UInt8} {n:NeedL} (h:n.any.length≠0) (h2:¬ 3 < n.any.length) (h3:yj (uW own (decide (n.any.length=1))) n.any≠0):yg own n=yj (uW own (decide (n.any.length=1))) n.any:=by rw [yg,if_neg h,if_neg h2,if_neg h3]
theorem ZD {own:List UInt8} {n:NeedL} (h:n.any.length≠0) (h2:¬ 3 < n.any.length) (h3:yj (uW own (decide (n.any.length=1))) n.any=0):yg own n=if ye (bts n.whn) then (if bts n.opt=[]∨zY (bts n.opt)=true then 0 else 14) else 7:=by rw [yg,if_neg h,if_neg h2,if_pos h3]
theorem YX (r:RecL) (hd:RecH) (n:NeedL) (A:Option Addr) (c:Nat) (w:World) (hL:Laid w) (hrow:RowOf 4 WishAt w A n.any):Calls Tryz.prog 111 #[r.val hd,n.val A c] w (bz w (yg (bts r.name) n)):=by
 have HROW:=hid hrow;have HWI:=hid (fun x A' c' al u (hb:KB w.heap.size w u) (ht:Texts u A' x.feats) (hl:x.feats.length≤9223372036854775807)=>YT r hd x A' c' al u (hL.kb hb) ht hl);have HMK:=hid (fun s u (hb:KB w.heap.size w u)=>nX s u (hL.kb hb));have HE0:=hid (fun h=>jQ (own:=bts r.name) (n:=n) h);have HE1:=hid (fun h h2=>l0 (own:=bts r.name) (n:=n) h h2);have HE2:=hid (fun h h2 h3=>gN (own:=bts r.name) (n:=n) h h2 h3);have HE3:=hid (fun h h2 h3=>ZD (own:=bts r.name) (n:=n) h h2 h3);clear hrow hL;go_enter Tryz.func111,Tryz.ntmps111;(go_upto_region 1 with fail);refine zI ?_;intro u1 hu;have HX:=hid (show Box u1 w.heap.size (r.cells hd) by rw [hu]; exact (Box.new w (r.cells hd) 32).kb (zG _ _));have HB0:=hid (show KB w.heap.size w (w.alloc (.cells (r.cells hd).toArray 32)) from zG _ _);have HY:=hid (show Box u1 (w.heap.size+1) (n.cells A c) by rw [hu]; have:=Box.new (w.alloc (.cells (r.cells hd).toArray 32)) (n.cells A c) 122; rwa [World.size_alloc] at this);have HB1:=hid (show KB w.heap.size w u1 by rw [hu]; exact zA HB0.out (zG _ _));clear hu HB0;generalize w.heap.size+1=q at *;have y0:=HY.out.2 0 _ rfl;have yl:=HY.out.1;obtain ⟨any,whn,opt⟩:=n;dsimp only at *;generalize hne:yg (bts r.name) ⟨any,whn,opt⟩=er at *;have HNE:=hid hne;clear hne;generalize hm:any.length=m at *;have HM:=hid hm;clear hm;replace HY:=hid (show Box u1 q [.slice A m c,.string whn,.string opt] by have:=HY.out; rw [← HM.out]; exact this)
 by_cases hm0:m=0
 ·have HE:=hid (HE0.out hm0);subst hm0;clear HE0 HE1 HE2 HE3;(go_wp2_with fail);(try rw [Exit.noGoto_ret]);(try go_ret);exact ⟨by first | (rw [HE.out]; done) | (rw [HE.out]; rfl),HB1.out⟩
 ·(have e0:((m:Int)==0)=false:=by rw [beq_eq_false_iff_ne]; omega);by_cases hm3:3 < m
  ·have HE:=hid (HE1.out hm0 hm3);(have i3:(3:Int) < (m:Int):=by omega);clear HE0 HE1 HE2 HE3 hm0;(go_wp2_with fail);(try rw [Exit.noGoto_ret]);(try go_ret);exact ⟨by first | (rw [HE.out]; done) | (rw [HE.out]; rfl),HB1.out⟩
  ·(have i3:¬ (3:Int) < (m:Int):=by omega);replace HE2:=hid (HE2.out hm0 hm3);replace HE3:=hid (HE3.out hm0 hm3)
   have i1b:((m:Int)==1)=decide (m=1):=by
    by_cases h:m=1
    ·rw [decide_eq_true h,beq_iff_eq]; omega
    ·rw [decide_eq_false h,beq_eq_false_iff_ne]; omega
   clear HE0 HE1;generalize hfw:uW (bts r.name) (decide (m=1))=fw at *;have HFW:=hid hfw;clear hfw;generalize hal:decide (m=1)=al at *;clear hal;(go_upto_block 0 with fail);(go_wp2_with fail);go_loopw [19] (fun i wr=>∃ k:Nat,i = .int .i64 (k:Int)∧k≤m∧Hid (yj fw any=yj fw (any.drop k))∧Hid (KB u1.heap.size u1 wr)) (fun i _=>m - (intOf i).toNat)
   case atStart=>exact ⟨0,rfl,Nat.zero_le _,hid rfl,hid (zH _)⟩
   case round =>
    obtain ⟨k,rfl,hk,HD,HB⟩:=hrel;have HBW:=hid (zA HB1.out HB.out);have HYW:=hid (HY.out.kb HB.out);have HXW:=hid (HX.out.kb HB.out);by_cases hlt:k < m
    ·(have hlt':k < any.length:=by rw [HM.out]; exact hlt);obtain ⟨b,off,A',c',hA,hbl,c0,c1,c2,c3,htx,hfl,-⟩:=t9 (HROW.out.kb WishAt.stays HBW.out) hlt';subst hA;(have k0:(0:Int)≤(k:Int):=by omega);(have k1:(k:Int) < (m:Int):=by omega);have HS:=hid (uZ (f:=fw) hlt');have HTX:=hid htx;have HFL:=hid hfl;clear htx hfl;generalize any[k]=x at *;obtain ⟨xnm,xrg,of,xb⟩:=x;dsimp only at c0 c1 c2 c3 HTX HFL;(go_upto_region 8 with fail);refine zI ?_;intro u2 hu;have HZ:=hid (show Box u2 wr.heap.size (WishL.cells ⟨xnm,xrg,of,xb⟩ A' c') by rw [hu]; exact Box.new wr (WishL.cells ⟨xnm,xrg,of,xb⟩ A' c') 167);have HBU:=hid (show KB wr.heap.size wr u2 by rw [hu]; exact zG _ _);clear hu c0 c1 c2 c3 hbl y0 yl;have HYU:=hid (HYW.out.kb HBU.out);have y0:=HYU.out.2 0 _ rfl;have yl:=HYU.out.1;obtain ⟨x0,x1,x2,x3,x4,x5,x6,x7,x8,xl⟩:=yQ (HXW.out.kb HBU.out);have HBW2:=hid (zA HBW.out HBU.out);have HBU1:=hid (zA HB.out HBU.out);have HCW:=hid (HWI.out ⟨xnm,xrg,of,xb⟩ A' c' al u2 HBW2.out (Texts.kb HTX.out HBU.out) HFL.out);rw [HFW.out] at HCW;clear HBU;generalize wr.heap.size=q2 at *;have z0:=HZ.out.2 0 _ rfl;have z1:=HZ.out.2 1 _ rfl;have z2:=HZ.out.2 2 _ rfl;have z3:=HZ.out.2 3 _ rfl;have zl:=HZ.out.1;generalize hfx:fw ⟨xnm,xrg,of,xb⟩=ex at *;have HFX:=hid hfx;clear hfx;(go_wp2_with fail);refine HCW.out.mono ?_;rintro _ u3 ⟨rfl,hb⟩;have HB3:=hid (zA HBU1.out hb)
     have HBW3:=hid (zA HBW2.out hb);clear hb x0 x1 x2 x3 x4 x5 x6 x7 x8 xl z0 z1 z2 z3 zl y0 yl;by_cases hex:ex=0
     ·(have e1:(ex != 0)=false:=by rw [hex]; rfl);have HEX:=hid hex;clear hex;(go_wp2_with fail);go_roundw
      case rel=>exact ⟨k+1,by go_num,by omega,hid (by first | rw [HD.out,HS.out,if_pos HEX.out] | rw [HD.out,HS.out,HFX.out,if_pos HEX.out]),HB3⟩
      case measure=>simp [intOf]<;>omega
     ·(have e1:(ex != 0)=true:=by rw [bne_iff_ne]; exact hex);have HV:=hid (show yj fw any=ex by first | rw [HD.out,HS.out,if_neg hex] | rw [HD.out,HS.out,HFX.out,if_neg hex]);have HE:=hid (HE2.out (by rw [HV.out]; exact hex));clear hex;(go_wp2_with fail);(try rw [Exit.noGoto_ret]);(try go_ret);exact ⟨by rw [show er=ex from HE.out.trans HV.out]<;>rfl,HBW3.out⟩
    ·(obtain rfl:k=m:=by omega);(have k1:¬ (k:Int) < (k:Int):=by omega);have HE:=hid (HE3.out (by rw [HD.out,tf (by rw [HM.out]; exact Nat.le_refl _)]));have y1:=HYW.out.2 1 _ rfl;have y2:=HYW.out.2 2 _ rfl;have yl:=HYW.out.1;have HM2:=hid (HMK.out whn wr HBW.out);clear y0 HD;cases hmk:ye (bts whn)
     ·rw [hmk] at HM2;have HE4:=hid (show er=7 by rw [HE.out,hmk]; rfl);clear hmk HE;(go_wp2_with fail);refine HM2.out.mono ?_;rintro _ u3 ⟨rfl,hb⟩;have HB3:=hid (zA HBW.out hb);clear hb y1 y2 yl;(go_wp2_with fail);(try rw [Exit.noGoto_ret]);(try go_ret);exact ⟨by rw [HE4.out]<;>rfl,HB3.out⟩
     ·rw [hmk] at HM2;have HE4:=hid (show er=if bts opt=[]∨zY (bts opt)=true then 0 else 14 by rw [HE.out,hmk]; rfl);clear hmk HE;(go_wp2_with fail);refine HM2.out.mono ?_;rintro _ u3 ⟨rfl,hb⟩;have HB3:=hid (zA HBW.out hb);have HYU:=hid (HYW.out.kb hb);clear hb y1 y2 yl;have y2:=HYU.out.2 2 _ rfl;have yl:=HYU.out.1;by_cases ho:bts opt=[]
      ·have HE5:=hid (show er=0 by rw [HE4.out,if_pos (.inl ho)]);(have o1:(opt.toList==[])=true:=by rw [beq_iff_eq]; exact ho);(have o2:(opt.toList != [])=false:=by rw [bne,o1]; rfl);clear ho HE4;(go_wp2_with fail);(try rw [Exit.noGoto_ret]);(try go_ret);exact ⟨by rw [HE5.out]<;>rfl,HB3.out⟩
      ·(have o1:(opt.toList==[])=false:=by rw [beq_eq_false_iff_ne]; exact ho);(have o2:(opt.toList != [])=true:=by rw [bne,o1]; rfl);have HWO:=hid (fun u=>wS opt u);cases hwo:zY (bts opt)
       ·rw [hwo] at HWO;have HE5:=hid (show er=14 by rw [HE4.out,if_neg (by rintro (h | h); exact ho h; rw [hwo] at h; cases h)]);clear ho HE4 hwo;(go_wp2_with fail);refine (HWO.out _).mono ?_;rintro _ u4 ⟨rfl,hb⟩;have HB4:=hid (zA HB3.out hb.kb);clear hb y2 yl;(go_wp2_with fail);(try rw [Exit.noGoto_ret]);(try go_ret);exact ⟨by rw [HE5.out]<;>rfl,HB4.out⟩
       ·rw [hwo] at HWO;have HE5:=hid (show er=0 by rw [HE4.out,if_pos (.inr hwo)]);clear ho HE4 hwo;(go_wp2_with fail);refine (HWO.out _).mono ?_;rintro _ u4 ⟨rfl,hb⟩;have HB4:=hid (zA HB3.out hb.kb);clear hb y2 yl;(go_wp2_with fail);(try rw [Exit.noGoto_ret]);(try go_ret);exact ⟨by rw [HE5.out]<;>rfl,HB4.out⟩
theorem uC {w:World} {A:Option Addr} {l:List NeedL} {k:Nat} (h:RowOf 3 NeedAt w A l) (hk:k < l.length):∃ b off A' c',A=some ⟨b,off,none⟩∧b < w.heap.size∧w.cell? ⟨b,off+k * 3,none⟩=some (.slice A' l[k].any.length c')∧w.cell? ⟨b,off+k * 3+1,none⟩=some (.string l[k].whn)∧w.cell? ⟨b,off+k * 3+2,none⟩=some (.string l[k].opt)∧RowOf 4 WishAt w A' l[k].any∧l[k].any.length≤9223372036854775807:=by
 obtain ⟨b,off,hA,hl,⟨A',c',h1,h2,h5⟩,h3,h4⟩:=h.at_ hk;exact ⟨b,off,A',c',hA,hl,h1,h3,h4,h2,h5⟩
theorem bW {l:List NeedL} {s:ByteArray} {x y:List UInt8} (h:xp (bts s)=(2,x,y)):vj l s=if ym l x then 0 else 14:=by
 unfold vj; simp only [h,if_true]
theorem cO {l:List NeedL} {s:ByteArray} {x y:List UInt8} (h:xp (bts s)=(3,x,y)):vj l s=if vA l x then 0 else 16:=by
 unfold vj; simp [h]
theorem bd {l:List NeedL} {s:ByteArray} {k:Int} {x y:List UInt8} (h:xp (bts s)=(k,x,y)) (h2:k≠2) (h3:k≠3):vj l s=0:=by
 unfold vj; simp [h,h2,h3]
def mY (n:NeedL) (x:List UInt8):Bool:=match n.any with | [w]=>decide (bts w.name=x) | _=>false
theorem gR {l:List NeedL} {k:Nat} {x:List UInt8} (h:k < l.length):ym (l.drop k) x=(decide (bts l[k].opt=x) || ym (l.drop (k+1)) x):=qy (p:=fun n:NeedL=>decide (bts n.opt=x)) h
theorem ZV {l:List NeedL} {k:Nat} {x:List UInt8} (h:l.length≤k):ym (l.drop k) x=false:=mS (p:=fun n:NeedL=>decide (bts n.opt=x)) h
theorem li {l:List NeedL} {k:Nat} {x:List UInt8} (h:k < l.length):vA (l.drop k) x=(mY l[k] x || vA (l.drop (k+1)) x):=qy (p:=fun n:NeedL=>mY n x) h
theorem eL {l:List NeedL} {k:Nat} {x:List UInt8} (h:l.length≤k):vA (l.drop k) x=false:=mS (p:=fun n:NeedL=>mY n x) h
theorem eA {n:NeedL} {x:List UInt8} (h:n.any.length≠1):mY n x=false:=by
 unfold mY;split
 ·rename_i w hw; rw [hw] at h; exact absurd rfl h
 ·rfl
theorem k9 {n:NeedL} {x:List UInt8} {w:WishL} (h:n.any=[w]):mY n x=decide (bts w.name=x):=by unfold mY; rw [h]
theorem ez (r:RecL) (hd:RecH) (s:ByteArray) (w:World) (hL:Laid w) (hr:RecLies w hd r) (hs:s.size≤2097152):Calls Tryz.prog 115 #[r.val hd,.string s] w (bz w (vj r.needs s)):=by
 obtain ⟨A0,ca,B0,cb,F0,cf⟩:=hd;have HIT:=hid (fun u (hb:KB w.heap.size w u)=>mJ s u (hL.kb hb) hs);have HNE:=hid (show RowOf 3 NeedAt w A0 r.needs from hr.needs);have HE2:=hid (fun x y h=>bW (l:=r.needs) (s:=s) (x:=x) (y:=y) h);have HE3:=hid (fun x y h=>cO (l:=r.needs) (s:=s) (x:=x) (y:=y) h);have HE0:=hid (fun k x y h h2 h3=>bd (l:=r.needs) (s:=s) (k:=k) (x:=x) (y:=y) h h2 h3);have hln:r.needs.length≤9223372036854775807:=hr.ln;clear hL hr;go_enter Tryz.func115,Tryz.ntmps115;(go_upto_region 1 with fail);refine zI ?_;intro u1 hu;have HX:=hid (show Box u1 w.heap.size (r.cells ⟨A0,ca,B0,cb,F0,cf⟩) by rw [hu]; exact Box.new w (r.cells ⟨A0,ca,B0,cb,F0,cf⟩) 32);have HB1:=hid (show KB w.heap.size w u1 by rw [hu]; exact zG _ _);clear hu;generalize hre:vj r.needs s=er at *;have HRE:=hid hre;clear hre;generalize xp (bts s)=rr at *;obtain ⟨kd,xx,yy⟩:=rr;(go_wp2_with fail);refine (HIT.out _ HB1.out).mono ?_;rintro _ u2 ⟨xa,xb,rfl,hxa,-,hb⟩;have HB2:=hid (zA HB1.out hb);replace HX:=hid (HX.out.kb hb);have HXA:=hid hxa;dsimp only at HXA;clear hb hxa HIT;have x6:u2.cell? ⟨w.heap.size,6,none⟩=some (.slice A0 r.needs.length ca):=HX.out.2 6 _ rfl;have xl:=HX.out.1;generalize r.needs=l at *;have HCE:=hid (show ∀ n:Nat,True from fun _=>trivial);by_cases h2:kd=2
 ·subst h2;have HE:=hid (HE2.out xx yy rfl);clear HE2 HE3 HE0;clear HCE;generalize hnn:l.length=n at *;have HN:=hid hnn;clear hnn;(go_upto_block 0 with fail);(go_wp2_with fail);go_loopw [19] (fun i wr=>∃ k:Nat,i = .int .i64 (k:Int)∧k≤n∧Hid (ym l xx=ym (l.drop k) xx)∧Hid (KB u2.heap.size u2 wr)) (fun i _=>n - (intOf i).toNat)
  case atStart=>exact ⟨0,rfl,Nat.zero_le _,hid rfl,hid (zH _)⟩
  case round =>
   obtain ⟨k,rfl,hk,HD,HB⟩:=hrel;have HBW:=hid (zA HB2.out HB.out);by_cases hlt:k < n
   ·(have hlt':k < l.length:=by rw [HN.out]; exact hlt);obtain ⟨b,off,A',c',hA,hbl,c0,c1,c2,hrow,hal⟩:=uC (HNE.out.kb NeedAt.stays HBW.out) hlt';have HROW:=hid hrow;(have k0:(0:Int)≤(k:Int):=by omega);(have k1:(k:Int) < (n:Int):=by omega);have HS:=hid (gR (x:=xx) hlt');clear hrow hal;generalize l[k]=nd at *;obtain ⟨any,whn,opt⟩:=nd;dsimp only at c0 c1 c2 HS HROW;subst hA;by_cases ho:bts opt=xx
    ·(have o1:(opt.toList==xa.toList)=true:=by rw [beq_iff_eq]; exact ho.trans HXA.out.symm);have HE2:=hid (show er=0 by rw [HE.out,HD.out,HS.out,decide_eq_true ho]; rfl);clear ho;(go_wp2_with fail);(try rw [Exit.noGoto_ret]);(try go_ret);exact ⟨by rw [HE2.out]<;>rfl,zA HBW.out (zG _ _)⟩
    ·(have o1:(opt.toList==xa.toList)=false:=by rw [beq_eq_false_iff_ne]; exact fun e=>ho (Eq.trans e HXA.out));have HO:=hid ho;clear ho;(go_wp2_with fail);go_roundw
     case rel=>exact ⟨k+1,by go_num,by omega,hid (by rw [HD.out,HS.out,decide_eq_false HO.out,Bool.false_or]),hid (zA HB.out (zG _ _))⟩
     case measure=>simp [intOf]<;>omega
   ·(obtain rfl:k=n:=by omega);(have k1:¬ (k:Int) < (k:Int):=by omega);have HE2:=hid (show er=14 by rw [HE.out,HD.out,ZV (by rw [HN.out]; exact Nat.le_refl _)]; rfl);(go_wp2_with fail);(try rw [Exit.noGoto_ret]);(try go_ret);exact ⟨by rw [HE2.out]<;>rfl,HBW.out⟩
 ·(have g2:(kd==2)=false:=by rw [beq_eq_false_iff_ne]; exact h2);by_cases h3:kd=3
  ·subst h3;have HE:=hid (HE3.out xx yy rfl);clear HE2 HE3 HE0 h2;clear HCE;generalize hnn:l.length=n at *;have HN:=hid hnn;clear hnn;(go_upto_block 0 with fail);(go_wp2_with fail);go_loopw [19] (fun i wr=>∃ k:Nat,i = .int .i64 (k:Int)∧k≤n∧Hid (vA l xx=vA (l.drop k) xx)∧Hid (KB u2.heap.size u2 wr)) (fun i _=>n - (intOf i).toNat)
   case atStart=>exact ⟨0,rfl,Nat.zero_le _,hid rfl,hid (zH _)⟩
   case round =>
    obtain ⟨k,rfl,hk,HD,HB⟩:=hrel;have HBW:=hid (zA HB2.out HB.out);by_cases hlt:k < n
    ·(have hlt':k < l.length:=by rw [HN.out]; exact hlt);obtain ⟨b,off,A',c',hA,hbl,c0,c1,c2,hrow,hal⟩:=uC (HNE.out.kb NeedAt.stays HBW.out) hlt';have HROW:=hid hrow;(have k0:(0:Int)≤(k:Int):=by omega);(have k1:(k:Int) < (n:Int):=by omega);have HS:=hid (li (x:=xx) hlt');have HPN:=hid (fun h=>eA (n:=l[k]'hlt') (x:=xx) h);have HPO:=hid (fun wi h=>k9 (n:=l[k]'hlt') (x:=xx) (w:=wi) h);clear hrow hal;generalize l[k]=nd at *;obtain ⟨any,whn,opt⟩:=nd;dsimp only at c0 c1 c2 HS HROW HPN HPO;subst hA;by_cases h1:any.length=1
     ·obtain ⟨wi,rfl⟩:∃ wi,any=[wi]:=by
       rcases any with _ | ⟨a,_ | ⟨b,q⟩⟩
       ·cases h1
       ·exact ⟨a,rfl⟩
       ·simp at h1
      replace HPO:=hid (HPO.out wi rfl);obtain ⟨b2,off2,A2,c2',hA2,hbl2,d0,-⟩:=t9 (k:=0) HROW.out (by simp);subst hA2;simp only [Nat.zero_mul,Nat.add_zero,List.getElem_cons_zero] at d0;simp only [List.length_cons,List.length_nil] at c0;clear h1 HPN;by_cases ho:bts wi.name=xx
      ·(have o1:(wi.name.toList==xa.toList)=true:=by rw [beq_iff_eq]; exact ho.trans HXA.out.symm);have HE2:=hid (show er=0 by rw [HE.out,HD.out,HS.out,HPO.out,decide_eq_true ho]; rfl);clear ho;generalize wi.name=wn at *;(go_wp2_with fail);(try rw [Exit.noGoto_ret]);(try go_ret);exact ⟨by rw [HE2.out]<;>rfl,zA HBW.out (zG _ _)⟩
      ·(have o1:(wi.name.toList==xa.toList)=false:=by rw [beq_eq_false_iff_ne]; exact fun e=>ho (Eq.trans e HXA.out));have HO:=hid (show mY ⟨[wi],whn,opt⟩ xx=false by rw [HPO.out,decide_eq_false ho]);clear ho;generalize wi.name=wn at *;(go_wp2_with fail);go_roundw
       case rel=>exact ⟨k+1,by go_num,by omega,hid (by rw [HD.out,HS.out,HO.out,Bool.false_or]),hid (zA HB.out (zG _ _))⟩
       case measure=>simp [intOf]<;>omega
     ·have HO:=hid (HPN.out h1);(have e1:((any.length:Int)==1)=false:=by rw [beq_eq_false_iff_ne]; omega);clear h1 HPN HPO;generalize any.length=al at *;(go_wp2_with fail);go_roundw
      case rel=>exact ⟨k+1,by go_num,by omega,hid (by rw [HD.out,HS.out,HO.out,Bool.false_or]),hid (zA HB.out (zG _ _))⟩
      case measure=>simp [intOf]<;>omega
    ·(obtain rfl:k=n:=by omega);(have k1:¬ (k:Int) < (k:Int):=by omega);have HE2:=hid (show er=16 by rw [HE.out,HD.out,eL (by rw [HN.out]; exact Nat.le_refl _)]; rfl);(go_wp2_with fail);(try rw [Exit.noGoto_ret]);(try go_ret);exact ⟨by rw [HE2.out]<;>rfl,HBW.out⟩
  ·(have g3:(kd==3)=false:=by rw [beq_eq_false_iff_ne]; exact h3);have HE:=hid (HE0.out kd xx yy rfl h2 h3);clear HE2 HE3 HE0 h2 h3;clear HCE;generalize hnn:l.length=n at *;have HN:=hid hnn;clear hnn;(go_upto_block 0 with fail);(go_wp2_with fail);go_loopw [19] (fun i wr=>∃ k:Nat,i = .int .i64 (k:Int)∧k≤n∧Hid (er=0)∧Hid (KB u2.heap.size u2 wr)) (fun i _=>n - (intOf i).toNat)
   case atStart=>exact ⟨0,rfl,Nat.zero_le _,HE,hid (zH _)⟩
   case round =>
    obtain ⟨k,rfl,hk,HD,HB⟩:=hrel;have HBW:=hid (zA HB2.out HB.out);by_cases hlt:k < n
    ·(have hlt':k < l.length:=by rw [HN.out]; exact hlt);obtain ⟨b,off,A',c',hA,hbl,c0,c1,c2,hrow,hal⟩:=uC (HNE.out.kb NeedAt.stays HBW.out) hlt';have HROW:=hid hrow;(have k0:(0:Int)≤(k:Int):=by omega);(have k1:(k:Int) < (n:Int):=by omega);clear hrow hal;generalize l[k]=nd at *;obtain ⟨any,whn,opt⟩:=nd;dsimp only at c0 c1 c2 HROW;subst hA;generalize any.length=al at *;(go_wp2_with fail);go_roundw
     case rel=>exact ⟨k+1,by go_num,by omega,HD,hid (zA HB.out (zG _ _))⟩
     case measure=>simp [intOf]<;>omega
    ·(obtain rfl:k=n:=by omega);(have k1:¬ (k:Int) < (k:Int):=by omega);(go_wp2_with fail);(try rw [Exit.noGoto_ret]);(try go_ret);exact ⟨by rw [HE.out]<;>rfl,HBW.out⟩
end Go.Proofs.YtiffijoenkcpjaaGreatDoor
