import Derived.ArgAppend
import Derived.Test.YtiffijoenkcpjaaGreatDoorYCf
set_option linter.unusedVariables false
set_option linter.unusedSimpArgs false
set_option maxRecDepth 100000
set_option maxHeartbeats 8000000
namespace Go.Proofs.YtiffijoenkcpjaaGreatDoor
open Go.RowKit Go.Lib
open Rw
def highP (v:Ver) (p:Int):CutL:=highN v (p+1).toNat
theorem highP_step (v:Ver) {p:Int} (h:0≤p):highP v p=if (bumpL v p).2 then ⟨0,(bumpL v p).1,false⟩ else highP v (p - 1):=by
 obtain ⟨n,rfl⟩:=Int.eq_ofNat_of_zero_le h;(have e1:((n:Int)+1).toNat=n+1:=by omega);(have e2:((n:Int) - 1+1).toNat=n:=by omega);rw [highP,highP,e1,e2,highN]
abbrev zero7C:List Value:=[.int .i64 0,.int .i64 0,.int .i64 0,.int .i64 0,.string ⟨#[]⟩,.string ⟨#[]⟩,.bool false]
theorem bump_bare (v:Ver) (p:Int):bareV (bumpL v p).1=(bumpL v p).1:=by
 unfold bumpL;split
 ·unfold bumpV;split
  ·rfl
  ·split<;>rfl
 ·rfl
theorem high_any (v:Ver) (p:Int) (w:World) (hv:v.fit) (hm:yF v=true) (hp:-1≤p∧p≤2):Calls Tryz.prog 179 #[v.val,.int .i64 p] w (CutPost w (highP v p)):=by
 have HBM:=hid (fun (q:Int) u (hq:q=2∨q=1∨q=0)=>bump_any v q u hv hm hq);have HST:=hid (fun (q:Int) (h:0≤q)=>highP_step v h);go_enter Tryz.func179,Tryz.ntmps179;(go_upto_block 0 with fail);refine zI ?_;intro w1 hw1;have X2:=hid (show Box w1 w.heap.size v.cells by rw [hw1]; exact (Box.new w v.cells 27).below (zL _ _));have O4:=hid (show Own w.heap.size w1 (w.heap.size+1) zero7C by rw [hw1]; exact Own.new2 w _ zero7C 109 (Nat.le_refl _));have HB:=hid (show Below w.heap.size w w1 by rw [hw1]; exact zC (zL _ _) (zL _ _));(have hl24:w.heap.size≤w.heap.size+1:=by omega);clear hw1;go_cut [] from 7 to 20 (fun wx=>Hid (highP v p=ig)∧Hid (Own w.heap.size wx (w.heap.size+1) zero7C)∧Hid (Below w.heap.size w wx))
 case first =>
  (go_wp2_with fail);go_loopw [1] (fun i wr=>∃ q:Int,i = .int .i64 q∧-1≤q∧q≤2∧Hid (highP v p=highP v q)∧Hid (Box wr w.heap.size v.cells)∧Hid (Own w.heap.size wr (w.heap.size+1) zero7C)∧Hid (Below w.heap.size w wr)) (fun i _=>(intOf i+1).toNat)
  case atStart=>exact ⟨p,rfl,hp.1,hp.2,hid rfl,X2,O4,HB⟩
  case round =>
   obtain ⟨q,rfl,hq1,hq2,HQ,X2,O4,HB⟩:=hrel;by_cases h0:0≤q
   ·(have hq3:q=2∨q=1∨q=0:=by omega);have HBQ:=hid (fun u=>HBM.out q u hq3);have HSQ:=hid (HST.out q h0);clear hq3;obtain ⟨x0,x1,x2,x3,x4⟩:=X2.out.get5;have hlx:=X2.out.1;have HBB:=hid (bump_bare v q);generalize bumpL v q=bq at *;obtain ⟨bv,bb⟩:=bq;dsimp only at HBQ HSQ HBB;(go_wp2_with fail);refine (HBQ.out _).mono ?_;rintro _ w2 ⟨rfl,hb⟩;dsimp only;have X2:=hid (X2.out.below hb);have O4:=hid (O4.out.below hb);have HB:=hid (zC HB.out hb);clear hb x0 x1 x2 x3 x4 hlx;(go_upto_if 17 with fail);refine zI ?_;intro w3 hw3;have O5:=hid (show Own w.heap.size w3 w2.heap.size bv.cells by rw [hw3]; exact Own.new w2 bv.cells 27 HB.out.size);have X2:=hid (show Box w3 w.heap.size v.cells by rw [hw3]; exact X2.out.below (zL _ _));have O4:=hid (show Own w.heap.size w3 (w.heap.size+1) zero7C by rw [hw3]; exact O4.out.alloc _);have HB:=hid (show Below w.heap.size w w3 by rw [hw3]; exact zC HB.out (zL _ _));clear hw3;generalize w2.heap.size=g5 at *;cases bb
    ·have HQ2:=hid (show highP v p=highP v (q - 1) by rw [HQ.out,HSQ.out]; rfl);(go_wp2_with fail);go_roundw
     case rel=>exact ⟨q - 1,by go_num,by omega,by omega,HQ2,X2,O4,HB⟩
     case measure=>simp [intOf]; omega
    ·have HQ2:=hid (show highP v p=⟨0,bv,false⟩ by rw [HQ.out,HSQ.out]; rfl);obtain ⟨y0,y1,y2,y3,y4⟩:=O5.out.box.get5;have hlt5:=O5.out.box.1;obtain ⟨x0,x1,x2,x3,x4,x5,x6⟩:=O4.out.box.get7;have sf4:∀ j,w3.frozen? ⟨w.heap.size+1,j,none⟩=false:=O4.out.soft;have hlt4:=O4.out.box.1;(go_wp2_with fail);refine zP ?_;intro w9 hw9;(have O9:Own w.heap.size w9 (w.heap.size+1) (CutL.cells ⟨0,bv,false⟩):=by rw [hw9]; exact O4.out.set7 _ _ _ _ _ _ _);(have B9:Below w.heap.size w w9:=by rw [hw9]; exact ze HB.out hl24 _ _ _ _ _ _ _);clear hw9;obtain ⟨k0,k1,k2,k3,k4,k5,k6⟩:=O9.box.get7;refine bodyPost_ret (v:=CutL.val ⟨0,bv,false⟩) (by simp [results,Tryz.results179,go_sem,k0,k1,k2,k3,k4,k5,k6,ig,xD]) rfl ?_;rw [HQ2.out];exact ⟨rfl,B9⟩
   ·have HQ2:=hid (show highP v p=ig by
     rw [HQ.out];obtain rfl:q=-1:=by omega
     rfl)
    (go_wp2_with fail);go_meet
    case rel=>exact ⟨HQ2,O4,HB⟩
 case rest =>
  obtain ⟨HQ2,O4,HB⟩:=hcut;obtain ⟨x0,x1,x2,x3,x4,x5,x6⟩:=O4.out.box.get7;have sf4:∀ j,wc.frozen? ⟨w.heap.size+1,j,none⟩=false:=O4.out.soft;have hlt4:=O4.out.box.1;(go_wp2_with fail);refine zP ?_;intro w9 hw9;(have O9:Own w.heap.size w9 (w.heap.size+1) (CutL.cells ig):=by rw [hw9]; exact O4.out.set7 _ _ _ _ _ _ _);(have B9:Below w.heap.size w w9:=by rw [hw9]; exact ze HB.out hl24 _ _ _ _ _ _ _);clear hw9;obtain ⟨k0,k1,k2,k3,k4,k5,k6⟩:=O9.box.get7;refine bodyPost_ret (v:=CutL.val ig) (by simp [results,Tryz.results179,go_sem,k0,k1,k2,k3,k4,k5,k6,ig,xD]) rfl ?_;rw [HQ2.out];exact ⟨rfl,B9⟩
theorem caret_any (c:CompL) (w:World) (hm:MayX c) (h9:c.op≠9):Calls Tryz.prog 182 #[c.val] w (sB w (turnsX c)):=by
 obtain ⟨op,parts,v⟩:=c;have HM:=hid hm;(have h1:1≤parts:=by have:=hm.many; simp only at this h9; omega);(have h3:parts≤3:=by have:=hm.many; simp only at this h9; omega);have hf:=yN hm.v;(have f1:0≤v.maj:=by have:=hf.1; simp only [wV,decide_eq_true_eq] at this; exact this.1);(have f2:0≤v.min:=by have:=hf.2.1; simp only [wV,decide_eq_true_eq] at this; exact this.1);(have f3:0≤v.pat:=by have:=hf.2.2.1; simp only [wV,decide_eq_true_eq] at this; exact this.1);have m2:parts < 2→v.min=0:=hm.min;have m3:parts < 3→v.pat=0:=hm.pat;have HA:=hid (And.intro h1 (And.intro h3 (And.intro f1 (And.intro f2 (And.intro f3 (And.intro m2 m3))))));have HT:=hid (show turnsX ⟨op,parts,v⟩=if v.maj≠0 then 0 else if v.min≠0 then 1 else if v.pat≠0 then 2 else (parts - 1).toNat from rfl);clear hm hf m2 m3 h9 f1 f2 f3;generalize turnsX ⟨op,parts,v⟩=tn at *;go_enter Tryz.func182,Tryz.ntmps182;go_wp2_with fail
 all_goals
  go_ret;refine ⟨?_,zL _ _⟩;refine congrArg (fun n:Int=>Ending.returned (.int .i64 n)) ?_;obtain ⟨h1,h3,f1,f2,f3,m2,m3⟩:=HA.out;rw [HT.out];clear HM HA HT;try simp only [beq_iff_eq,beq_eq_false_iff_ne,bne_iff_ne,bne_eq_false_iff_eq,ne_eq,Bool.not_eq_true,Bool.or_eq_true,Bool.or_eq_false_iff,decide_eq_true_eq,decide_eq_false_iff_not] at *
  repeat' split
  all_goals omega
theorem rown_nil {w w':World} (h:Below w.heap.size w w'):RowN w [] (.returned (.slice none 0 0)) w':=⟨none,0,rfl,SpanB.nil _ _,h⟩
theorem xspans_any (s:SpanL) (w:World) (hs:s.fit):Calls Tryz.prog 181 #[s.val] w (RowN w (rowX s)):=by
 have HC:=hid (fun u=>ccompare_any s.fr s.til u hs.1 hs.2);have HR:=hid (show rowX s=if Xc s.fr s.til < 0 then [s] else [] from rfl);generalize rowX s=rw0 at *;generalize Xc s.fr s.til=cm at *;go_enter Tryz.func181,Tryz.ntmps181;(go_wp2_with fail);refine rx ?_;intro w1 hw1;have HX:=hid (show Box w1 w.heap.size s.cells by rw [hw1]; exact Box.new w s.cells 111);have HB:=hid (show Below w.heap.size w w1 by rw [hw1]; exact zL _ _);clear hw1;refine (HC.out _).mono ?_;rintro _ w2 ⟨rfl,hb⟩;have HX:=hid (HX.out.below hb);have HB:=hid (zC HB.out hb);clear hb HC;obtain ⟨⟨y0,y1,y2,y3,y4,y5,y6⟩,⟨y7,y8,y9,y10,y11,y12,y13⟩⟩:=HX.out.get14;by_cases h:0≤cm
 ·have HE:=hid (HR.out.trans (if_neg (by omega)));(go_wp2_with fail);go_ret;rw [HE.out];exact rown_nil HB.out
 ·have HE:=hid (HR.out.trans (if_pos (by omega)));(have h2:cm < 0:=by omega);have hlt:=HX.out.1;(go_wp2_with fail);go_ret;rw [HE.out];exact ⟨_,_,rfl,⟨Spans.one (Box.new w2 s.cells 111),fun ad e=>by injection e with e; rw [← e]; exact HB.out.size⟩,zC HB.out (zL _ _)⟩
def behP (op parts:Int) (v:Ver):CutL:=if parts < 3∧op≠9 then highP v (parts - 1) else ⟨0,v,true⟩
theorem beh_eq {op parts:Int} {v:Ver} (h9:op≠9) (h1:1≤parts):behP op parts v=behindX ⟨op,parts,v⟩:=by
 unfold behP behindX;by_cases h:parts < 3
 ·rw [if_pos ⟨h,h9⟩,if_pos h,highP,show parts - 1+1=parts by omega]
 ·rw [if_neg (fun e=>h e.1),if_neg h]
theorem own_fr {B:Nat} {w:World} {g:Nat} {a b:CutL} (h:Own B w g (SpanL.cells ⟨a,b⟩)) (c:CutL):Own B (w.setCells g 0 c.cells) g (SpanL.cells ⟨c,b⟩):=h.fr14 c
theorem own_til {B:Nat} {w:World} {g:Nat} {a b:CutL} (h:Own B w g (SpanL.cells ⟨a,b⟩)) (c:CutL):Own B (w.setCells g 7 c.cells) g (SpanL.cells ⟨a,c⟩):=h.til14 c
theorem own_cells {B:Nat} {w:World} {g k o:Nat} {cs vs:List Value} (h:Own B w g cs) (hk:g≠k):Own B (w.setCells k o vs) g cs:=⟨h.box.setOther hk,h.soft.set,h.low⟩
theorem own_c7 {B:Nat} {w:World} {g:Nat} {a b:CutL} (h:Own B w g a.cells):Own B (w.setCells g 0 b.cells) g b.cells:=h.set7 _ _ _ _ _ _ _
theorem box_cells {w:World} {g k o:Nat} {cs vs:List Value} (h:Box w g cs) (hk:g≠k):Box (w.setCells k o vs) g cs:=h.setOther hk
theorem turns_le {op parts:Int} {v:Ver} (h3:parts≤3):turnsX ⟨op,parts,v⟩≤2:=by
 unfold turnsX
 repeat' split
 all_goals first | omega | (simp only; omega)
theorem region_any (c:CompL) (w:World) (hc:c.fit):Calls Tryz.prog 134 #[c.val] w (RowN w (regionX c)):=by
 have HMAY:=hid (mz c (w.alloc (.cells c.cells.toArray 86)) hc);have HBX:=hid (Box.new w c.cells 86);have HB0:=hid (zL w (.cells c.cells.toArray 86));cases hm:sL c
 ·rw [hm] at HMAY;have HP:=hid (show regionX c=[] by unfold regionX; rw [hm]; rfl);go_enter Tryz.func134,Tryz.ntmps134;(go_wp2_with fail);refine HMAY.out.mono ?_;rintro _ w1 ⟨rfl,hb⟩;(go_wp2_with fail);go_ret;rw [HP.out];exact rown_nil (zC HB0.out hb)
 ·rw [hm] at HMAY;have M:=hid (yY.1 hm);have HP:=hid (show regionX c=if c.op=2 then rnotL (rowX (spanX c)) else rowX (spanX c) by unfold regionX; rw [hm,if_pos rfl]);have HSF:=hid (spanX_fit hc);have HRF:=hid (rowX_good (spanX_fit hc));clear hm;obtain ⟨op,parts,v⟩:=c;have HVF:=hid (show v.fit from hc);generalize hsp:spanX ⟨op,parts,v⟩=sp at *;have HSP:=hid hsp;clear hsp hc;dsimp only at HP;(have h1:0≤parts:=by have:=M.out.many; simp only at this; omega);(have h3:parts≤3:=by have:=M.out.many; simp only at this; omega);have hop1:1≤op:=M.out.op.1;have hop9:op≤9:=M.out.op.2;go_enter Tryz.func134,Tryz.ntmps134;(go_wp2_with fail);refine HMAY.out.mono ?_;rintro _ w1 ⟨rfl,hb⟩;have HX:=hid (HBX.out.below hb);have HB:=hid (zC HB0.out hb);clear hb HBX HB0 HMAY;have hX1:w.heap.size < w1.heap.size:=HX.out.1;have HX1:=hid HX.out;(go_upto_region 3 with fail);go_cut [3,4] from 9 to 95 (fun pa pb wx=>∃ g3 g4:Nat,pa = .pointer (some ⟨g3,0,none⟩)∧pb = .pointer (some ⟨g4,0,none⟩)∧g3≠g4∧Hid (Own w1.heap.size wx g3 (CutL.cells ⟨0,v,false⟩))∧Hid (Own w1.heap.size wx g4 (CutL.cells ⟨0,v,true⟩))∧Hid (Below w1.heap.size w1 wx))
  case first =>
   have hS:Below w1.heap.size w1 w1.drew:=(Below.refl _ _).drew;(refine wpS (fun u=>Below w1.heap.size w1 u) (.two [0,1,2,3,4,5] 6 7 (.call [] 7 (.call [] 8 (.call [] 9 (.last [])))) (.call [] 6 (.call [] 8 (.call [] 9 (.last []))))) fun iS=>?_);(have q2:=fun (z:SW fun u=>Below w1.heap.size w1 u)=>(HX.out.below z.ok).get7.2.2.1);(have q3:=fun (z:SW fun u=>Below w1.heap.size w1 u)=>(HX.out.below z.ok).get7.2.2.2.1);(have q4:=fun (z:SW fun u=>Below w1.heap.size w1 u)=>(HX.out.below z.ok).get7.2.2.2.2.1);(have q5:=fun (z:SW fun u=>Below w1.heap.size w1 u)=>(HX.out.below z.ok).get7.2.2.2.2.2.1);(have q6:=fun (z:SW fun u=>Below w1.heap.size w1 u)=>(HX.out.below z.ok).get7.2.2.2.2.2.2);refine uh ?_;simp only [zB,pka,pkb,pkc,pkd,pke,pkf];(repeat go_big_quiet_step (fail));refine wpQuiet_nil ?_;refine ⟨?_,?_⟩
   ·(go_wp2_with fail);refine zE (zC hS (zL _ _)) ?_;refine zD ?_;simp only [zB,pka,pkb,pkc,pkd,pke,pkf];(repeat go_big_quiet_step (fail));refine wpQuiet_nil ?_;(go_wp2_with fail);refine zE (zC hS (zC (zL _ _) (zL _ _))) ?_;refine zD ?_;simp only [zB,pka,pkb,pkc,pkd,pke,pkf];(repeat go_big_quiet_step (fail));refine wpQuiet_nil ?_;(go_wp2_with fail);refine zE (zC hS (zC (zL _ _) (zL _ _))) ?_;refine zD ?_;simp only [zB,pka,pkb,pkc,pkd,pke,pkf];(repeat go_big_quiet_step (fail));refine wpQuiet_nil ?_;(go_wp2_with fail);refine zE (zC hS (zC (zL _ _) (zL _ _))) ?_;refine zJ ?_;simp only [zB,pka,pkb,pkc,pkd,pke,pkf];(repeat go_big_quiet_step (fail));refine wpQuiet_nil ?_;(go_wp2_with fail);go_meet
    case rel=>exact ⟨w1.heap.size,w1.heap.size+1,rfl,rfl,by omega,hid ((Own.new w1.drew (CutL.cells ⟨0,v,false⟩) 109 (Nat.le_refl _)).alloc _),hid (Own.new2 w1.drew _ (CutL.cells ⟨0,v,true⟩) 109 (Nat.le_refl _)),hid (zC hS (zC (zL _ _) (zL _ _)))⟩
   ·(go_wp2_with fail);refine zE (zC hS (zL _ _)) ?_;refine zD ?_;simp only [zB,pka,pkb,pkc,pkd,pke,pkf];(repeat go_big_quiet_step (fail));refine wpQuiet_nil ?_;(go_wp2_with fail);refine zE (zC hS (zC (zL _ _) (zL _ _))) ?_;refine zD ?_;simp only [zB,pka,pkb,pkc,pkd,pke,pkf];(repeat go_big_quiet_step (fail));refine wpQuiet_nil ?_;(go_wp2_with fail);refine zE (zC hS (zC (zL _ _) (zL _ _))) ?_;refine zD ?_;simp only [zB,pka,pkb,pkc,pkd,pke,pkf];(repeat go_big_quiet_step (fail));refine wpQuiet_nil ?_;(go_wp2_with fail);refine zE (zC hS (zC (zL _ _) (zL _ _))) ?_;refine zJ ?_;simp only [zB,pka,pkb,pkc,pkd,pke,pkf];(repeat go_big_quiet_step (fail));refine wpQuiet_nil ?_;(go_wp2_with fail);go_meet
    case rel=>exact ⟨w1.heap.size+1,w1.heap.size,rfl,rfl,by omega,hid (Own.new2 w1.drew _ (CutL.cells ⟨0,v,false⟩) 109 (Nat.le_refl _)),hid ((Own.new w1.drew (CutL.cells ⟨0,v,true⟩) 109 (Nat.le_refl _)).alloc _),hid (zC hS (zC (zL _ _) (zL _ _)))⟩
  case rest =>
   obtain ⟨g3,g4,rfl,rfl,hne,O3,O4,HB1⟩:=hcut;have HX:=hid (HX.out.below HB1.out);have l3:=O3.out.box.1;have l4:=O4.out.box.1;have lo3:=O3.out.low;have lo4:=O4.out.low;obtain ⟨x0,x1,x2,x3,x4,x5,x6⟩:=O3.out.box.get7;obtain ⟨y0,y1,y2,y3,y4,y5,y6⟩:=O4.out.box.get7;(go_upto_region 5 with fail);refine zI ?_;intro w2 hw2;have O5:=hid (show Own w1.heap.size w2 wc.heap.size (SpanL.cells ⟨⟨0,v,false⟩,⟨0,v,true⟩⟩) by rw [hw2]; exact Own.new wc (SpanL.cells ⟨⟨0,v,false⟩,⟨0,v,true⟩⟩) 111 HB1.out.size);have O3:=hid (show Own w1.heap.size w2 g3 (CutL.cells ⟨0,v,false⟩) by rw [hw2]; exact O3.out.alloc _);have O4:=hid (show Own w1.heap.size w2 g4 (CutL.cells ⟨0,v,true⟩) by rw [hw2]; exact O4.out.alloc _);have HX:=hid (show Box w2 w.heap.size (CompL.cells ⟨op,parts,v⟩) by rw [hw2]; exact HX.out.below (zL _ _));have HB1:=hid (show Below w1.heap.size w1 w2 by rw [hw2]; exact zC HB1.out (zL _ _));clear hw2 x0 x1 x2 x3 x4 x5 x6 y0 y1 y2 y3 y4 y5 y6;(have h53:wc.heap.size≠g3:=by omega);(have h54:wc.heap.size≠g4:=by omega);(have h5w:wc.heap.size≠w.heap.size:=by omega);(have h4w:w.heap.size≠g4:=by omega);have l5:w1.heap.size≤wc.heap.size:=O5.out.low;clear l3 l4;generalize wc.heap.size=g5 at *;obtain ⟨x0,x1,x2,x3,x4,x5,x6⟩:=HX.out.get7;generalize hbc:decide (parts < 3∧op≠9)=bc;have HBC:=hid hbc;clear hbc;go_cut [25] from 18 to 95 (fun b wx=>b = .bool bc∧wx=w2)
   case first =>
    by_cases hp3:parts < 3
    ·by_cases h9:op=9
     ·(have d1:(op != 9)=false:=by simp [h9]);have HE:=hid (show bc=false by rw [← HBC.out]; simp [h9]);clear h9;(go_wp2_with fail);go_meet
      case rel=>exact ⟨by rw [HE.out],rfl⟩
     ·(have d1:(op != 9)=true:=by simp [h9]);have HE:=hid (show bc=true by rw [← HBC.out]; simp [h9,hp3]);clear h9;(go_wp2_with fail);go_meet
      case rel=>exact ⟨by rw [HE.out],rfl⟩
    ·(have hp4:3≤parts:=by omega);have HE:=hid (show bc=false by rw [← HBC.out]; simp [hp3]);(go_wp2_with fail);go_meet
     case rel=>exact ⟨by rw [HE.out],rfl⟩
   case rest =>
    obtain ⟨rfl,hwx⟩:=hcut;subst hwx;have HBH:Hid (∃ bh:CutL,behP op parts v=bh):=hid ⟨_,rfl⟩;obtain ⟨bh,hbh⟩:=HBH.out;have HBH:=hid hbh;clear hbh;(go_upto_if 25 with fail);go_cut [] from 25 to 95 (fun wx=>Hid (Own w1.heap.size wx g5 (SpanL.cells ⟨⟨0,v,false⟩,bh⟩))∧Hid (Own w1.heap.size wx g3 (CutL.cells ⟨0,v,false⟩))∧Hid (Own w1.heap.size wx g4 bh.cells)∧Hid (Box wx w.heap.size (CompL.cells ⟨op,parts,v⟩))∧Hid (Below w1.heap.size w1 wx))
    case first =>
     cases bc
     ·have HE:=hid (show bh=⟨0,v,true⟩ by
       rw [← HBH.out,behP,if_neg]
       simpa using HBC.out)
      (go_wp2_with fail);go_meet
      case rel=>rw [HE.out]; exact ⟨O5,O3,O4,HX,HB1⟩
     ·have hcond:=HBC.out;simp only [decide_eq_true_eq] at hcond;(have hp1:1≤parts:=by have:=M.out.many; simp only at this; omega);have HE:=hid (show highP v (parts - 1)=bh by rw [← HBH.out,behP,if_pos hcond]);have HHI:=hid (fun u=>high_any v (parts - 1) u HVF.out M.out.v (by omega));rw [HE.out] at HHI;have HBHF:=hid (show (parts - 1:Int)≤2 by omega);clear hcond;(go_wp2_with fail);refine (HHI.out _).mono ?_;rintro _ w3 ⟨rfl,hb⟩;have O5:=hid (O5.out.below hb);have O3:=hid (O3.out.below hb);have O4:=hid (O4.out.below hb);have HX:=hid (HX.out.below hb);have HB1:=hid (zC HB1.out hb);clear hb x0 x1 x2 x3 x4 x5 x6 HHI;obtain ⟨y0,y1,y2,y3,y4,y5,y6⟩:=O4.out.box.get7;have sf4:∀ j,w3.frozen? ⟨g4,j,none⟩=false:=O4.out.soft;have l4:=O4.out.box.1;(go_upto_region 7 with fail);refine zI ?_;intro w4 hw4;replace hw4:w4=w3.setCells g4 0 bh.cells:=hw4;have O5:=hid (show Own w1.heap.size w4 g5 (SpanL.cells ⟨⟨0,v,false⟩,⟨0,v,true⟩⟩) by rw [hw4]; exact own_cells O5.out h54);have O3:=hid (show Own w1.heap.size w4 g3 (CutL.cells ⟨0,v,false⟩) by rw [hw4]; exact own_cells O3.out hne);have O4:=hid (show Own w1.heap.size w4 g4 bh.cells by rw [hw4]; exact own_c7 O4.out);have HX:=hid (show Box w4 w.heap.size (CompL.cells ⟨op,parts,v⟩) by rw [hw4]; exact box_cells HX.out h4w);have HB1:=hid (show Below w1.heap.size w1 w4 by rw [hw4]; exact below_cells HB1.out lo4 _ _);clear hw4 y0 y1 y2 y3 y4 y5 y6 sf4 l4
      obtain ⟨y0,y1,y2,y3,y4,y5,y6⟩:=O4.out.box.get7;obtain ⟨-,⟨z7,z8,z9,z10,z11,z12,z13⟩⟩:=O5.out.box.get14;have sf5:∀ j,w4.frozen? ⟨g5,j,none⟩=false:=O5.out.soft;have ll5:=O5.out.box.1;have ll4:=O4.out.box.1;(go_wp2_with fail);go_meet
      case rel=>exact ⟨hid (own_til O5.out bh),hid (own_cells (k:=g5) (o:=7) (vs:=bh.cells) O3.out h53.symm),hid (own_cells (k:=g5) (o:=7) (vs:=bh.cells) O4.out h54.symm),hid (box_cells (k:=g5) (o:=7) (vs:=bh.cells) HX.out h5w.symm),hid (below_cells HB1.out l5 7 bh.cells)⟩
    case rest =>
     obtain ⟨O5,O3,O4,HX,HB1⟩:=hcut;clear x0 x1 x2 x3 x4 x5 x6 HBC;have HBE:=hid (fun (h9:op≠9)=>(show behindX ⟨op,parts,v⟩=bh by rw [← beh_eq h9 (by have:=M.out.many; simp only at this; omega),HBH.out]));obtain ⟨x0,x1,x2,x3,x4,x5,x6⟩:=HX.out.get7;obtain ⟨⟨z0,z1,z2,z3,z4,z5,z6⟩,⟨z7,z8,z9,z10,z11,z12,z13⟩⟩:=O5.out.box.get14;obtain ⟨y0,y1,y2,y3,y4,y5,y6⟩:=O4.out.box.get7;obtain ⟨u0,u1,u2,u3,u4,u5,u6⟩:=O3.out.box.get7;have sf5:∀ j,wc.frozen? ⟨g5,j,none⟩=false:=O5.out.soft;have ll5:=O5.out.box.1;have ll4:=O4.out.box.1;have ll3:=O3.out.box.1;have hxl:=HX.out.1;(go_upto_block 0 with fail);go_cut [] from 36 to 95 (fun wx=>op≠2∧Hid (Own w1.heap.size wx g5 sp.cells)∧Hid (Below w1.heap.size w1 wx))
     case first =>
      (have hops:op=1∨op=2∨op=3∨op=4∨op=5∨op=6∨op=7∨op=8∨op=9:=by omega);rcases hops with rfl | rfl | rfl | rfl | rfl | rfl | rfl | rfl | rfl
      ·have HS:=hid (show sp=⟨⟨0,v,false⟩,bh⟩ by rw [← HSP.out]; simp [spanX,lowX,HBE.out]);(go_wp2_with fail);go_meet
       case rel=>exact ⟨by decide,hid (by rw [HS.out]; exact O5.out),HB1⟩
      ·have HS:=hid (show sp=⟨⟨0,v,false⟩,bh⟩ by rw [← HSP.out]; simp [spanX,lowX,HBE.out]);have HSPN:=hid (fun u=>xspans_any sp u HSF.out);rw [HS.out] at HSPN;have HPR:=hid (HP.out.trans (if_pos rfl));(go_wp2_with fail);refine (HSPN.out _).mono ?_;rintro _ w3 ⟨A,cap,rfl,hsb,hb⟩;have HRF:=hid HRF.out;rw [HS.out] at HRF HPR;have HNOT:=hid (not_any w3.heap.size A cap (rowX ⟨⟨0,v,false⟩,bh⟩) w3 hsb.1 HRF.out.1 (by have:=HRF.out.2; omega) (Nat.le_refl _));have HB3:=hid (zC HB.out (zC HB1.out hb));clear hb hsb HSPN;generalize (rowX ⟨⟨0,v,false⟩,bh⟩).length=nr at *;(go_wp2_with fail);refine HNOT.out.mono ?_;rintro _ w4 ⟨vr,rfl,hown,hb,-⟩;(go_wp2_with fail);go_ret;rw [HPR.out];obtain ⟨A2,c2,e2,hsb2⟩:=SpanB.own hown;exact ⟨A2,c2,congrArg Ending.returned e2,hsb2.low HB3.out.size,zC HB3.out hb⟩
      ·have HS:=hid (show sp=⟨rR,⟨0,v,false⟩⟩ by rw [← HSP.out]; simp [spanX,lowX]);(go_wp2_with fail);go_meet
       case rel=>exact ⟨by decide,hid (by rw [HS.out]; exact own_til (own_fr O5.out rR) ⟨0,v,false⟩),hid (below_cells (below_cells HB1.out l5 0 rR.cells) l5 7 (CutL.cells ⟨0,v,false⟩))⟩
      ·have HS:=hid (show sp=⟨rR,bh⟩ by rw [← HSP.out]; simp [spanX,HBE.out]);(go_wp2_with fail);go_meet
       case rel=>exact ⟨by decide,hid (by rw [HS.out]; exact own_fr O5.out rR),hid (below_cells HB1.out l5 0 rR.cells)⟩
      ·have HS:=hid (show sp=⟨bh,ig⟩ by rw [← HSP.out]; simp [spanX,HBE.out]);(go_wp2_with fail);go_meet
       case rel=>exact ⟨by decide,hid (by rw [HS.out]; exact own_til (own_fr O5.out bh) ig),hid (below_cells (below_cells HB1.out l5 0 bh.cells) l5 7 ig.cells)⟩
      ·have HS:=hid (show sp=⟨⟨0,v,false⟩,ig⟩ by rw [← HSP.out]; simp [spanX,lowX]);(go_wp2_with fail);go_meet
       case rel=>exact ⟨by decide,hid (by rw [HS.out]; exact own_til O5.out ig),hid (below_cells HB1.out l5 7 ig.cells)⟩
      ·have HT2:=hid (turns_le (op:=7) (v:=v) h3)
       have HS:=hid (show sp=⟨⟨0,v,false⟩,highP v (turnsX ⟨7,parts,v⟩:Nat)⟩ by
        rw [← HSP.out,highP];(have e:(((turnsX ⟨7,parts,v⟩:Nat):Int)+1).toNat=turnsX ⟨7,parts,v⟩+1:=by omega);rw [e]
        simp [spanX,lowX])
       have HCR:=hid (fun u=>caret_any ⟨7,parts,v⟩ u M.out (show (7:Int)≠9 by decide));have HHI:=hid (fun u=>high_any v ((turnsX ⟨7,parts,v⟩:Nat):Int) u HVF.out M.out.v (by have:=HT2.out; omega));generalize highP v ((turnsX ⟨7,parts,v⟩:Nat):Int)=hc at *;generalize ((turnsX ⟨7,parts,v⟩:Nat):Int)=tn at *;(go_upto_region 21 with fail);have hS:Below w1.heap.size w1 wc.drew:=zC HB1.out (Below.refl _ _).drew;(refine wpS (fun u=>Below w1.heap.size w1 u) (.call [0,1,2] 3 (.call [] 4 (.call [5] 6 (.last [])))) fun iS=>?_);(have q0:=fun (z:SW fun u=>Below w1.heap.size w1 u)=>(HX1.out.below z.ok).get7.1);(have q1:=fun (z:SW fun u=>Below w1.heap.size w1 u)=>(HX1.out.below z.ok).get7.2.1);(have q2:=fun (z:SW fun u=>Below w1.heap.size w1 u)=>(HX1.out.below z.ok).get7.2.2.1);(have q3:=fun (z:SW fun u=>Below w1.heap.size w1 u)=>(HX1.out.below z.ok).get7.2.2.2.1);(have q4:=fun (z:SW fun u=>Below w1.heap.size w1 u)=>(HX1.out.below z.ok).get7.2.2.2.2.1);(have q5:=fun (z:SW fun u=>Below w1.heap.size w1 u)=>(HX1.out.below z.ok).get7.2.2.2.2.2.1);(have q6:=fun (z:SW fun u=>Below w1.heap.size w1 u)=>(HX1.out.below z.ok).get7.2.2.2.2.2.2);refine zD ?_;simp only [zB,pka,pkb,pkc,pkd,pke,pkf];(repeat go_big_quiet_step (fail));refine wpQuiet_nil ?_;(go_wp2_with fail);refine (HCR.out _).mono ?_;rintro _ w3 ⟨rfl,hb3⟩;have HB3:=hid (zC hS hb3);(go_wp2_with fail);refine zE (HB3.out) ?_
       refine zD ?_;simp only [zB,pka,pkb,pkc,pkd,pke,pkf];(repeat go_big_quiet_step (fail));refine wpQuiet_nil ?_;(go_wp2_with fail);refine (HHI.out _).mono ?_;rintro _ w4 ⟨rfl,hb4⟩;have HB4:=hid (zC HB3.out hb4);have O5:=hid (((O5.out.below (Below.refl _ _).drew).below hb3).below hb4);clear hb3 hb4 z0 z1 z2 z3 z4 z5 z6 z7 z8 z9 z10 z11 z12 z13 sf5 ll5;(go_wp2_with fail);refine zE (HB4.out) ?_;obtain ⟨-,⟨z7,z8,z9,z10,z11,z12,z13⟩⟩:=O5.out.box.get14;have sf5:∀ j,w4.frozen? ⟨g5,j,none⟩=false:=O5.out.soft;have ll5:=O5.out.box.1;refine zD ?_;simp only [zB,pka,pkb,pkc,pkd,pke,pkf];(repeat go_big_quiet_step (fail));refine wpQuiet_nil ?_;(go_wp2_with fail);refine zE (below_cells HB4.out l5 7 hc.cells) ?_;refine zJ ?_;simp only [zB,pka,pkb,pkc,pkd,pke,pkf];(repeat go_big_quiet_step (fail));refine wpQuiet_nil ?_;(go_wp2_with fail);go_meet
       case rel=>exact ⟨by decide,hid (by rw [HS.out]; exact own_til O5.out hc),hid (below_cells HB4.out l5 7 hc.cells)⟩
      ·(have h8:1≤parts:=by have:=M.out.many; simp only at this; omega);have HS:=hid (show sp=⟨⟨0,v,false⟩,highP v (min (parts - 1) 1)⟩ by rw [← HSP.out,highP]; simp [spanX,lowX]);have HHI:=hid (fun u=>high_any v (min (parts - 1) 1) u HVF.out M.out.v (by omega));generalize highP v (min (parts - 1) 1)=hc at *;(go_wp2_with fail);refine (HHI.out _).mono ?_;rintro _ w4 ⟨rfl,hb4⟩;have HB4:=hid (zC HB1.out hb4);have O5:=hid (O5.out.below hb4);clear hb4 z0 z1 z2 z3 z4 z5 z6 z7 z8 z9 z10 z11 z12 z13 sf5 ll5;obtain ⟨-,⟨z7,z8,z9,z10,z11,z12,z13⟩⟩:=O5.out.box.get14;have sf5:∀ j,w4.frozen? ⟨g5,j,none⟩=false:=O5.out.soft;have ll5:=O5.out.box.1;(go_wp2_with fail);go_meet
       case rel=>exact ⟨by decide,hid (by rw [HS.out]; exact own_til O5.out hc),hid (below_cells HB4.out l5 7 hc.cells)⟩
      ·by_cases hp0:parts=0
       ·have HS:=hid (show sp=⟨rR,ig⟩ by rw [← HSP.out]; simp [spanX,hp0]);(have hp1:¬ 0 < parts:=by omega);clear hp0;(go_wp2_with fail);go_meet
        case rel=>exact ⟨by decide,hid (by rw [HS.out]; exact own_til (own_fr O5.out rR) ig),hid (below_cells (below_cells HB1.out l5 0 rR.cells) l5 7 ig.cells)⟩
       ·have hp1:0 < parts:=by omega
        have HS:=hid (show sp=⟨⟨0,v,false⟩,highP v (parts - 1)⟩ by
         rw [← HSP.out,highP,show parts - 1+1=parts by omega]
         simp [spanX,lowX,hp0])
        have HHI:=hid (fun u=>high_any v (parts - 1) u HVF.out M.out.v (by omega));clear hp0;generalize highP v (parts - 1)=hc at *;(go_upto_region 27 with fail);refine zI ?_;intro w3 hw3;replace hw3:w3=(wc.setCells g5 0 rR.cells).setCells g5 7 ig.cells:=hw3;have O5:=hid (show Own w1.heap.size w3 g5 (SpanL.cells ⟨rR,ig⟩) by rw [hw3]; exact own_til (own_fr O5.out rR) ig);have O3:=hid (show Own w1.heap.size w3 g3 (CutL.cells ⟨0,v,false⟩) by rw [hw3]; exact own_cells (own_cells O3.out h53.symm) h53.symm);have HB1:=hid (show Below w1.heap.size w1 w3 by rw [hw3]; exact below_cells (below_cells HB1.out l5 0 rR.cells) l5 7 ig.cells);clear hw3 z0 z1 z2 z3 z4 z5 z6 z7 z8 z9 z10 z11 z12 z13 sf5 ll5 u0 u1 u2 u3 u4 u5 u6 ll3 x0 x1 x2 x3 x4 x5 x6 y0 y1 y2 y3 y4 y5 y6 ll4 hxl;have hS:Below w1.heap.size w1 w3.drew∧Box w3.drew g3 (CutL.cells ⟨0,v,false⟩):=⟨zC HB1.out (Below.refl _ _).drew,O3.out.box.below (Below.refl _ _).drew⟩;(refine wpS (fun u=>Below w1.heap.size w1 u∧Box u g3 (CutL.cells ⟨0,v,false⟩)) (.call [0,1,2,3,4,5] 6 (.call [7] 8 (.last []))) fun iS=>?_);(have q0:=fun (z:SW fun u=>Below w1.heap.size w1 u∧Box u g3 (CutL.cells ⟨0,v,false⟩))=>(HX1.out.below z.ok.1).get7.1);(have q1:=fun (z:SW fun u=>Below w1.heap.size w1 u∧Box u g3 (CutL.cells ⟨0,v,false⟩))=>(HX1.out.below z.ok.1).get7.2.1);have q2:=fun (z:SW fun u=>Below w1.heap.size w1 u∧Box u g3 (CutL.cells ⟨0,v,false⟩))=>(HX1.out.below z.ok.1).get7.2.2.1
        (have q3:=fun (z:SW fun u=>Below w1.heap.size w1 u∧Box u g3 (CutL.cells ⟨0,v,false⟩))=>(HX1.out.below z.ok.1).get7.2.2.2.1);(have q4:=fun (z:SW fun u=>Below w1.heap.size w1 u∧Box u g3 (CutL.cells ⟨0,v,false⟩))=>(HX1.out.below z.ok.1).get7.2.2.2.2.1);(have q5:=fun (z:SW fun u=>Below w1.heap.size w1 u∧Box u g3 (CutL.cells ⟨0,v,false⟩))=>(HX1.out.below z.ok.1).get7.2.2.2.2.2.1);(have q6:=fun (z:SW fun u=>Below w1.heap.size w1 u∧Box u g3 (CutL.cells ⟨0,v,false⟩))=>(HX1.out.below z.ok.1).get7.2.2.2.2.2.2);(have r0:=fun (z:SW fun u=>Below w1.heap.size w1 u∧Box u g3 (CutL.cells ⟨0,v,false⟩))=>z.ok.2.get7.1);(have r1:=fun (z:SW fun u=>Below w1.heap.size w1 u∧Box u g3 (CutL.cells ⟨0,v,false⟩))=>z.ok.2.get7.2.1);(have r2:=fun (z:SW fun u=>Below w1.heap.size w1 u∧Box u g3 (CutL.cells ⟨0,v,false⟩))=>z.ok.2.get7.2.2.1);(have r3:=fun (z:SW fun u=>Below w1.heap.size w1 u∧Box u g3 (CutL.cells ⟨0,v,false⟩))=>z.ok.2.get7.2.2.2.1);(have r4:=fun (z:SW fun u=>Below w1.heap.size w1 u∧Box u g3 (CutL.cells ⟨0,v,false⟩))=>z.ok.2.get7.2.2.2.2.1);(have r5:=fun (z:SW fun u=>Below w1.heap.size w1 u∧Box u g3 (CutL.cells ⟨0,v,false⟩))=>z.ok.2.get7.2.2.2.2.2.1);(have r6:=fun (z:SW fun u=>Below w1.heap.size w1 u∧Box u g3 (CutL.cells ⟨0,v,false⟩))=>z.ok.2.get7.2.2.2.2.2.2);refine zD ?_;simp only [zB,pka,pkb,pkc,pkd,pke,pkf];(repeat go_big_quiet_step (fail));refine wpQuiet_nil ?_
        (go_wp2_with fail);refine (HHI.out _).mono ?_;rintro _ w4 ⟨rfl,hb4⟩;have HB4:=hid (zC hS.1 hb4);have HX3:=hid (hS.2.below hb4);have O5:=hid ((O5.out.below (Below.refl _ _).drew).below hb4);clear hb4;(go_wp2_with fail);refine zE (⟨HB4.out,HX3.out⟩) ?_;obtain ⟨⟨z0,z1,z2,z3,z4,z5,z6⟩,⟨z7,z8,z9,z10,z11,z12,z13⟩⟩:=O5.out.box.get14;have sf5:∀ j,w4.frozen? ⟨g5,j,none⟩=false:=O5.out.soft;have ll5:=O5.out.box.1;refine zD ?_;simp only [zB,pka,pkb,pkc,pkd,pke,pkf];(repeat go_big_quiet_step (fail));refine wpQuiet_nil ?_;(go_wp2_with fail);refine zE ⟨below_cells HB4.out l5 0 (SpanL.cells ⟨⟨0,v,false⟩,hc⟩),box_cells (k:=g5) (o:=0) (vs:=SpanL.cells ⟨⟨0,v,false⟩,hc⟩) HX3.out h53.symm⟩ ?_;refine zJ ?_;simp only [zB,pka,pkb,pkc,pkd,pke,pkf];(repeat go_big_quiet_step (fail));refine wpQuiet_nil ?_;(go_wp2_with fail);go_meet
        case rel=>exact ⟨by decide,hid (by rw [HS.out]; exact O5.out.set14 rfl ⟨⟨0,v,false⟩,hc⟩),hid (below_cells HB4.out l5 0 (SpanL.cells ⟨⟨0,v,false⟩,hc⟩))⟩
     case rest =>
      obtain ⟨hop2,O5,HB1⟩:=hcut;have HPR:=hid (HP.out.trans (if_neg hop2));obtain ⟨⟨z0,z1,z2,z3,z4,z5,z6⟩,⟨z7,z8,z9,z10,z11,z12,z13⟩⟩:=O5.out.box.get14;have ll5:=O5.out.box.1;have HSPN:=hid (fun u=>xspans_any sp u HSF.out);(go_wp2_with fail);refine (HSPN.out _).mono ?_;rintro _ w3 ⟨A,cap,rfl,hsb,hb⟩;have HB3:=hid (zC HB.out (zC HB1.out hb));have HSB:=hid (hsb.low (Nat.le_trans HB.out.size HB1.out.size));clear hb hsb HSPN;have HLR:=hid (show ∃ n,(rowX sp).length=n from ⟨_,rfl⟩);(go_wp2_with fail);go_ret;rw [HPR.out];exact ⟨A,cap,rfl,HSB.out,HB3.out⟩
theorem zone_any (c:CompL) (w:World) (hc:c.fit):Calls Tryz.prog 136 #[c.val] w (RowN w (zoneX c)):=by
 have HMAY:=hid (mz c (w.alloc (.cells c.cells.toArray 86)) hc);have HBX:=hid (Box.new w c.cells 86);have HB0:=hid (zL w (.cells c.cells.toArray 86));cases hm:sL c
 ·rw [hm] at HMAY;have HP:=hid (show zoneX c=[] by unfold zoneX; rw [hm]; rfl);go_enter Tryz.func136,Tryz.ntmps136;(go_wp2_with fail);refine HMAY.out.mono ?_;rintro _ w1 ⟨rfl,hb⟩;(go_wp2_with fail);go_ret;rw [HP.out];exact rown_nil (zC HB0.out hb)
 ·rw [hm] at HMAY;by_cases h4:0 < c.v.pre.size
  ·obtain ⟨e4,n4⟩:=zj h4;have HP:=hid (show zoneX c=[⟨⟨0,leastX c.v,false⟩,⟨0,relV c.v,false⟩⟩] by unfold zoneX; rw [hm,bts,e4]; rfl);clear hm;obtain ⟨op,parts,v⟩:=c;go_enter Tryz.func136,Tryz.ntmps136;(go_wp2_with fail);refine HMAY.out.mono ?_;rintro _ w1 ⟨rfl,hb⟩;have HX:=hid (HBX.out.below hb);have HB:=hid (zC HB0.out hb);clear hb HBX HB0 HMAY;have hX1:w.heap.size < w1.heap.size:=HX.out.1;obtain ⟨k0,k1,k2,k3,k4,k5,k6⟩:=HX.out.get7;(try dsimp only at h4 e4 n4 HP);(go_wp2_with fail);go_ret;rw [HP.out];refine ⟨_,_,rfl,?_,zC HB.out (zC (zL _ _) (zC (zL _ _) (zL _ _)))⟩;have hq:=SpanB.fresh ((w1.alloc (.cells #[.int .i64 v.maj,.int .i64 v.min,.int .i64 v.pat,.string ⟨#[]⟩,.string ⟨#[]⟩] 27)).alloc (.cells #[.int .i64 v.maj,.int .i64 v.min,.int .i64 v.pat,.string ⟨#[48]⟩,.string ⟨#[]⟩] 27)) ⟨⟨0,leastX v,false⟩,⟨0,relV v,false⟩⟩ 111;have hz:w.heap.size≤((w1.alloc (.cells #[.int .i64 v.maj,.int .i64 v.min,.int .i64 v.pat,.string ⟨#[]⟩,.string ⟨#[]⟩] 27)).alloc (.cells #[.int .i64 v.maj,.int .i64 v.min,.int .i64 v.pat,.string ⟨#[48]⟩,.string ⟨#[]⟩] 27)).heap.size:=Nat.le_trans HB.out.size (Nat.le_trans (zL _ _).size (zL _ _).size);have hq2:=hq.low hz;simp only [World.alloc,Array.size_push] at hq2;exact hq2
  ·have e4:=yi h4;have HP:=hid (show zoneX c=[] by unfold zoneX; rw [hm,bts,e4]; rfl);clear hm;obtain ⟨op,parts,v⟩:=c;go_enter Tryz.func136,Tryz.ntmps136;(go_wp2_with fail);refine HMAY.out.mono ?_;rintro _ w1 ⟨rfl,hb⟩;have HX:=hid (HBX.out.below hb);have HB:=hid (zC HB0.out hb);clear hb HBX HB0 HMAY;have hX1:w.heap.size < w1.heap.size:=HX.out.1;obtain ⟨k0,k1,k2,k3,k4,k5,k6⟩:=HX.out.get7;(try dsimp only at h4 e4);(go_wp2_with fail);go_ret;rw [HP.out];exact rown_nil HB.out
abbrev KB (B:Nat) (w w':World):Prop:=Go.RowKit.Below B w w'
def und (w:World):World:={ w with drawn:=0 }
theorem uf {B:Nat} {w w':World} (h:KB B w w'):Below B (und w) w':=⟨⟨h.os,h.tape,h.output,h.size,h.block⟩,Nat.zero_le _⟩
theorem Below.kb {B:Nat} {w w':World} (h:Below B w w'):KB B w w':=h.toBelow
theorem zA {w0 w1 w2:World} (h:KB w0.heap.size w0 w1) (k:KB w1.heap.size w1 w2):KB w0.heap.size w0 w2:=Go.RowKit.Below.trans h (Go.RowKit.Below.mono k h.size)
theorem zH (w:World):KB w.heap.size w w:=Go.RowKit.Below.refl _ _
theorem zG (w:World) (o:Obj):KB w.heap.size w (w.alloc o):=(zL w o).kb
theorem Box.kb {w w':World} {g:Nat} {cs:List Value} (h:Box w g cs) (hb:KB w.heap.size w w'):Box w' g cs:=Box.below (w:=und w) h (uf hb)
theorem Own.kb {B:Nat} {w w':World} {g:Nat} {cs:List Value} (h:Own B w g cs) (hb:KB w.heap.size w w'):Own B w' g cs:=Own.below (w:=und w) ⟨h.box,h.soft,h.low⟩ (uf hb)
theorem Spans.kb {w w':World} {A:Option Addr} {l:List SpanL} (h:Spans w A l) (hb:KB w.heap.size w w'):Spans w' A l:=Spans.below (w:=und w) h (uf hb)
theorem SpanB.kb {w w':World} {base:Nat} {A:Option Addr} {l:List SpanL} (h:SpanB w base A l) (hb:KB w.heap.size w w'):SpanB w' base A l:=⟨h.1.kb hb,h.2⟩
theorem Laid.kb {w w':World} (h:Laid w) (hb:KB w.heap.size w w'):Laid w':=Laid.below (w:=und w) ⟨h.first,h.pow,h.maxl⟩ (uf hb)
theorem tG {w w':World} {base size n:Nat} {e:TypeId} {v:Value} {xs:List Value} (h:w.ownsRow base e size v n xs) (hb:KB w.heap.size w w'):w'.ownsRow base e size v n xs:=pC (w1:=und w) h (uf hb)
def yT (w:World) (b:Bool) (e:Ending) (w':World):Prop:=e = .returned (.bool b)∧KB w.heap.size w w'
def nM (w:World) (l:List UInt8) (e:Ending) (w':World):Prop:=∃ s:ByteArray,e = .returned (.string s)∧bts s=l∧KB w.heap.size w w'
def Lies {α:Type} (n:Nat) (f:α→List Value) (w:World) (A:Option Addr) (l:List α):Prop :=
 l=[]∨∃ b off,A=some ⟨b,off,none⟩∧b < w.heap.size∧∀ i (h:i < l.length) (j:Nat) (u:Value),(f l[i])[j]?=some u→w.cell? ⟨b,off+i * n+j,none⟩=some u
section
variable {α:Type} {n:Nat} {f:α→List Value} {w w':World} {A:Option Addr} {l:List α}
theorem Lies.below (h:Lies n f w A l) (hb:Below w.heap.size w w'):Lies n f w' A l:=by
 rcases h with h | ⟨b,off,rfl,hlt,hc⟩
 ·exact .inl h
 ·exact .inr ⟨b,off,rfl,Nat.lt_of_lt_of_le hlt hb.size,fun i hi j u hj=>(hb.cell (p:=⟨b,_,none⟩) hlt).trans (hc i hi j u hj)⟩
theorem Lies.kb (h:Lies n f w A l) (hb:KB w.heap.size w w'):Lies n f w' A l:=Lies.below (w:=und w) h (uf hb)
theorem Lies.at_ {k:Nat} (h:Lies n f w A l) (hk:k < l.length):∃ b off,A=some ⟨b,off,none⟩∧b < w.heap.size∧∀ (j:Nat) (u:Value),(f l[k])[j]?=some u→w.cell? ⟨b,off+k * n+j,none⟩=some u:=by
 rcases h with h | ⟨b,off,rfl,hlt,hc⟩
 ·subst h; simp at hk
 ·exact ⟨b,off,rfl,hlt,hc k hk⟩
theorem Lies.lay {b off k:Nat} (h:Lies n f w (some ⟨b,off,none⟩) l) (hk:k < l.length):b < w.heap.size∧∀ (j:Nat) (u:Value),(f l[k])[j]?=some u→w.cell? ⟨b,off+k * n+j,none⟩=some u:=by
 obtain ⟨b',off',e,h1,h2⟩:=h.at_ hk;(injection e with e);(injection e with e1 e2 e3);subst e1; subst e2;exact ⟨h1,h2⟩
end
abbrev rf (w:World) (A:Option Addr) (l:List CompL):Prop:=Lies 7 CompL.cells w A l
def Alts (w:World) (A:Option Addr) (r:List (List CompL)):Prop :=
 r=[]∨∃ b off,A=some ⟨b,off,none⟩∧b < w.heap.size∧∀ i (h:i < r.length),∃ Ai ci,w.cell? ⟨b,off+i,none⟩=some (.slice Ai r[i].length ci)∧rf w Ai r[i]
theorem Alts.below {w w':World} {A:Option Addr} {r:List (List CompL)} (h:Alts w A r) (hb:Below w.heap.size w w'):Alts w' A r:=by
 rcases h with h | ⟨b,off,rfl,hlt,hc⟩
 ·exact .inl h
 ·refine .inr ⟨b,off,rfl,Nat.lt_of_lt_of_le hlt hb.size,fun i hi=>?_⟩;obtain ⟨Ai,ci,h1,h2⟩:=hc i hi;exact ⟨Ai,ci,(hb.cell (p:=⟨b,_,none⟩) hlt).trans h1,h2.below hb⟩
theorem Alts.kb {w w':World} {A:Option Addr} {r:List (List CompL)} (h:Alts w A r) (hb:KB w.heap.size w w'):Alts w' A r:=Alts.below (w:=und w) h (uf hb)
theorem Alts.nil {w:World} {A:Option Addr}:Alts w A [] := .inl rfl
theorem Alts.at_ {w:World} {A:Option Addr} {r:List (List CompL)} {k:Nat} (h:Alts w A r) (hk:k < r.length) :
 ∃ b off Ai ci,A=some ⟨b,off,none⟩∧b < w.heap.size∧w.cell? ⟨b,off+k,none⟩=some (.slice Ai r[k].length ci)∧rf w Ai r[k]:=by
 rcases h with h | ⟨b,off,rfl,hlt,hc⟩
 ·subst h; simp at hk
 ·obtain ⟨Ai,ci,h1,h2⟩:=hc k hk;exact ⟨b,off,Ai,ci,rfl,hlt,h1,h2⟩
abbrev wL (A:Option Addr) (n c:Nat):Value := .agg #[.slice A n c]
def Z7 (r:List (List CompL)):Prop:=∀ a∈r,∀ c∈a,CompL.fit c
theorem oF (sep:List UInt8):∀ (ps:List (List UInt8)),Lib.join ps sep=zT sep ps
 | []=>rfl
 | [p]=>Lib.join_one p sep
 | p::q::r=>by
  have ih:=oF sep (q::r);rw [Lib.join_cons] at ih ⊢;rw [zT,← ih];simp [Lib.joinTail,Lib.join_cons]
theorem Tryz.extraJoin:Builder.Extra Tryz.prog Tryz.lays156_ren where
 sizeBuilder:=by kernel_rfl
 liesBuilder:=by kernel_rfl
 t5:=Tryz.underlying5
 a5:=Tryz.isAgg5
 z5:=Tryz.sizeOf5
 v5:=Tryz.zeroValue5
 infoByte:=by kernel_rfl
 cellsByte:=by kernel_rfl
 sizeByte:=by kernel_rfl
 neB5:=by decide
theorem oZ (g c:Nat) (ds:List ByteArray) (sep:ByteArray) (w:World) (hb:Box w g (ds.map Value.string)) (hc:ds.length≤c) (hn:ds.length≤1000000)
 (hlen:(zT (bts sep) (ds.map bts)).length≤140737488355328):Calls Tryz.prog 133 #[.slice (some ⟨g,0,none⟩) ds.length c,.string sep] w (nM w (zT (bts sep) (ds.map bts))):=by
 have e2:(bts:ByteArray→List UInt8)=fun x=>x.data.toList:=funext fun x=>by rw [bts,yX]
 have he:Lib.join (ds.map (·.data.toList)) sep.data.toList=zT (bts sep) (ds.map bts):=by rw [oF,e2]
 refine (Any.strings_Join Tryz.lays156 Tryz.extraJoin g 0 c ds sep w (fun j x hj=>?_) hb.1 (by omega) hc (by rw [he]; exact hlen)).mono ?_
 ·rw [Nat.zero_add];exact hb.2 j (.string x) (by rw [List.getElem?_map,hj]; rfl)
 ·rintro e w' ⟨rfl,h⟩;rw [he];exact ⟨_,rfl,zx _,h⟩
theorem xC (sep:List UInt8) (B:Nat):∀ (ps:List (List UInt8)),(∀ p∈ps,p.length≤B)→(zT sep ps).length≤(B+sep.length) * ps.length
 | [],_=>by simp [zT]
 | [p],h=>by
  have:=h p (by simp);simp only [zT,List.length_cons,List.length_nil,Nat.zero_add,Nat.mul_one]; omega
 | p::q::r,h=>by
  have h1:=h p (by simp);have h2:=xC sep B (q::r) (fun x hx=>h x (List.mem_cons_of_mem _ hx));(have e:(B+sep.length) * (p::q::r).length=(B+sep.length) * (q::r).length+(B+sep.length):=by rw [List.length_cons,Nat.mul_succ]);rw [e];simp only [zT,List.length_append];omega
theorem gb {v:Ver} (hm:yF v=true):(qU v).length≤37:=by
 obtain ⟨-,-,-,hp,-⟩:=yN hm;unfold qU;split
 ·simp
 ·rw [tI,Bool.or_eq_true] at hp;rcases hp with hp | hp
  ·exact absurd hp (by assumption)
  ·rw [fF,Bool.and_eq_true] at hp;have:=qr hp.1;simp only [List.length_cons]; omega
theorem aQ {c:CompL} (h:MayX c):∀ w∈yS c,w.length≤4:=by
 obtain ⟨f1,f2,f3,-,-⟩:=yN h.v;intro w hw;have:=List.mem_of_mem_take hw;simp only [List.mem_cons,List.not_mem_nil,or_false] at this;rcases this with e | e | e<;>rw [e]<;>exact uA (by assumption)
theorem aa (c:CompL):(yS c).length≤3:=by unfold yS; rw [List.length_take]; simp; omega
theorem bm (op:Int):(yh op).length≤2:=by
 unfold yh; repeat' split
 all_goals simp
theorem rU (c:CompL):(zh c).length≤60:=by
 unfold zh;split
 ·rename_i hm
  have M:=yY.1 hm;have h1:=aQ M;have h2:=aa c;have h3:=gb M.v;have h4:=bm c.op;unfold um;split
  ·have:=xC [46] 4 (yS c++[[42]]) (fun p hp=>by
    rcases List.mem_append.1 hp with h | h
    ·exact h1 p h
    ·simp only [List.mem_singleton] at h; rw [h]; decide)
   rw [List.length_append] at this;simp only [List.length_cons,List.length_nil] at this;omega
  ·have:=xC [46] 4 (yS c) h1;simp only [List.length_append,List.length_cons,List.length_nil] at this ⊢;omega
 ·simp
theorem fN (a:List CompL):(l9 a).length≤62 * a.length:=by
 have:=xC [44,32] 60 (a.map zh) (fun p hp=>by
  obtain ⟨c,-,rfl⟩:=List.mem_map.1 hp
  exact rU c)
 rw [List.length_map] at this;exact this
theorem dc {r:List (List CompL)} (h:∀ a∈r,a.length≤6):(xd r).length≤376 * r.length:=by
 have:=xC [32,124,124,32] 372 (r.map l9) (fun p hp=>by
  obtain ⟨a,ha,rfl⟩:=List.mem_map.1 hp;have:=fN a;have:=h a ha
  omega)
 rw [List.length_map] at this;exact this
end Go.Proofs.YtiffijoenkcpjaaGreatDoor
