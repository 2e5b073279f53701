import Derived.Test.YtiffijoenkcpjaaGreatDoorYPj
import Derived.Test.YtiffijoenkcpjaaGreatDoorYPk
set_option linter.unusedVariables false
set_option linter.unusedSimpArgs false
set_option maxRecDepth 100000
set_option maxHeartbeats 4000000
namespace Go.Proofs.YtiffijoenkcpjaaGreatDoor
open Go.RowKit Go.Lib
open Rw
theorem box_atY {W:World} {g:Nat} {cs:List Value} {T:TypeId} (hg:g=W.heap.size):Box (W.alloc (.cells cs.toArray T)) g cs:=by
 subst hg;exact Box.new _ _ _
theorem pins_one {w:World} {g:Nat} {p:PinL} (h:Box w g (pinCells p)):Z6 w (some ⟨g,0,none⟩) [p] := .inr ⟨g,0,rfl,h.1,fun i hi=>by
 have hi':i < 1:=hi;obtain rfl:i=0:=by omega
 exact ⟨h.2 0 _ rfl,h.2 1 _ rfl⟩⟩
theorem holds_one {w:World} {g:Nat} {p:HoldL} (h:Box w g (holdCells p)):HoldsW w (some ⟨g,0,none⟩) [p] := .inr ⟨g,0,rfl,h.1,fun i hi=>by
 have hi':i < 1:=hi;obtain rfl:i=0:=by omega
 exact ⟨h.2 0 _ rfl,h.2 1 _ rfl⟩⟩
theorem mans_box {w:World} {g:Nat} {ps:List MP} (h:Box w g (ps.flatMap mpCells)) (k:∀ p∈ps,MpSub w p):Mans w (some ⟨g,0,none⟩) (ps.map (·.1)):=by
 refine pairs_mans (.inr ⟨g,0,rfl,h.1,fun i hi j u hj=>?_⟩) k;have hj':j < 11:=(List.getElem?_eq_some_iff.1 hj).1;rw [Nat.zero_add];exact h.2 (i * 11+j) u (by rw [lN mp_len ps i j hi hj']; exact hj)
def hdA (g:Nat):ManH:=⟨noH,some ⟨g,0,none⟩,1,some ⟨g+1,0,none⟩,1⟩
def hdB (g:Nat):ManH:=⟨noH,some ⟨g,0,none⟩,1,none,0⟩
theorem yaw_fit:∀ m∈[manA,manB],ManFit m:=by
 intro m hm;simp only [List.mem_cons,List.not_mem_nil,or_false] at hm;rcases hm with rfl | rfl
 ·exact ⟨Xw _ _ _,fun f hf=>by cases hf⟩
 ·exact ⟨Xw _ _ _,fun f hf=>by cases hf⟩
theorem yaw_fitA:∀ m∈[manA,manA],ManFit m:=by
 intro m hm;refine yaw_fit m ?_;simp only [List.mem_cons,List.not_mem_nil,or_false,or_self] at hm;subst hm;exact List.mem_cons_self ..
theorem yaw_two:∃ p0 p1:PinL,pinsY [manA,manB]=([p0,p1],0)∧p0.name=⟨#[97]⟩:=by
 obtain ⟨e1,e2⟩:=yaw_pins;(rcases h:pinsY [manA,manB] with ⟨pl,pe⟩);rw [h] at e1 e2;dsimp only at e1 e2;subst e1
 match pl,e2 with
 | [],e2=>simp at e2
 | [_],e2=>simp at e2
 | [p0,p1],e2 =>
  simp only [List.map_cons,List.map_nil,List.cons.injEq,and_true] at e2;exact ⟨p0,p1,rfl,xE (e2.1.trans (zN [97]).symm)⟩
 | _::_::_::_,e2=>simp at e2
theorem yaw_one:(holdsOf [manA,manB] yTb).length=1:=by decide +kernel
theorem yaw_set:∃ s1 s2:List SpanL,heldY [manA,manB] yTb=((s1,s2),0)∧SGood 252 (s1,s2)∧hasS s1 s2 yv1=true∧hasS s1 s2 yv2=false:=by
 obtain ⟨e1,e2,e3⟩:=yaw_held
 have hg:SGood 252 (heldY [manA,manB] yTb).1:=by
  rw [heldY,if_neg (by rw [yaw_check]; simp)];have:=held_good (holdsOf [manA,manB] yTb) whole_good
  rwa [yaw_one] at this
 (rcases h:heldY [manA,manB] yTb with ⟨⟨s1,s2⟩,he⟩);rw [h] at e1 e2 e3 hg;dsimp only at e1 e2 e3 hg;subst e1;exact ⟨s1,s2,rfl,hg,e2,e3⟩
theorem awake17_any (w:World) (hL:Laid w):Calls Tryz.prog 11 #[] w (yT w true):=by
 have HL:=hid hL;clear hL;obtain ⟨p0,p1,hpp,n0⟩:=yaw_two;obtain ⟨s1,s2,hss,hsg,hh1,hh2⟩:=yaw_set;have HSG:=hid hsg;have HH1:=hid hh1;have HH2:=hid hh2;clear hsg hh1 hh2;obtain ⟨q1,hq1⟩:∃ n,s1.length=n:=⟨_,rfl⟩;obtain ⟨q2,hq2⟩:∃ n,s2.length=n:=⟨_,rfl⟩
 have CP:=hid (fun g u (hb:KB w.heap.size w u) (hA:Mans u (some ⟨g,0,none⟩) [manA,manB])=>show Calls Tryz.prog 9 #[.slice (some ⟨g,0,none⟩) 2 2] u (YPinsK u ([p0,p1],0)) from by
  have h:=ypins_any (some ⟨g,0,none⟩) 2 [manA,manB] u (HL.out.kb hb) hA (by decide) (by decide) yaw_fit
  rwa [hpp] at h)
 have CH:=hid (fun g u (hb:KB w.heap.size w u) (hA:Mans u (some ⟨g,0,none⟩) [manA,manB])=>show Calls Tryz.prog 10 #[.slice (some ⟨g,0,none⟩) 2 2,.string ⟨#[98]⟩] u (HeldK u ((s1,s2),0)) from by
  have h:=yheld_any (some ⟨g,0,none⟩) 2 [manA,manB] yTb u (HL.out.kb hb) hA (by decide) (by decide) yaw_fit
  rwa [hss] at h)
 have CC:=hid (fun g u (hb:KB w.heap.size w u) (hA:Mans u (some ⟨g,0,none⟩) [manA,manA])=>show Calls Tryz.prog 24 #[.slice (some ⟨g,0,none⟩) 2 2] u (uK u (8,1)) from by
  have h:=ycheck_any (some ⟨g,0,none⟩) 2 [manA,manA] u (HL.out.kb hb) hA (by decide) (by decide) yaw_fitA
  rwa [yaw_twice] at h)
 have CM:=hid (fun g u (hb:KB w.heap.size w u) (hA:Mans u (some ⟨g,0,none⟩) [manA,manB])=>show Calls Tryz.prog 19 #[.slice (some ⟨g,0,none⟩) 2 2,.string ⟨#[98]⟩] u (Wf u 1) from by
  have h:=ymember_any (some ⟨g,0,none⟩) 2 [manA,manB] yTb u (HL.out.kb hb) hA (by decide) (by decide) yaw_fit
  rwa [yaw_member] at h)
 clear hpp hss;go_enter Tryz.func11,Tryz.ntmps11;(go_upto_region 2 with fail);refine zI ?_;intro w1 hw1;have HP:=hid (show Box w1 w.heap.size (pinCells ⟨yTb,tOne⟩) by rw [hw1]; exact ((Box.new w (pinCells ⟨yTb,tOne⟩) 53).kb (zG _ _)).kb (zG _ _));have HH:=hid (show Box w1 (w.heap.size+1) (holdCells ⟨yTb,tLt2⟩) by rw [hw1]; exact (box_atY (cs:=holdCells ⟨yTb,tLt2⟩) (by rw [World.size_alloc])).kb (zG _ _));have HA:=hid (show Box w1 (w.heap.size+2) (manA.cells (hdA w.heap.size)) by rw [hw1]; exact box_atY (cs:=manA.cells (hdA w.heap.size)) (by rw [World.size_alloc,World.size_alloc]));have HB:=hid (show KB w.heap.size w w1 by rw [hw1]; exact zA (zA (zG _ _) (zG _ _)) (zG _ _));clear hw1;have HLA:=hid (show ManLies w1 (hdA w.heap.size) manA from ⟨⟨.inl rfl,.inl rfl,.inl rfl,by decide,by decide,by decide⟩,pins_one HP.out,holds_one HH.out,by decide,by decide⟩);clear HP HH;(go_upto_region 3 with fail);refine zI ?_;intro w2 hw2;have HP:=hid (show Box w2 w1.heap.size (pinCells ⟨yTa,tTwo⟩) by rw [hw2]; exact (Box.new w1 (pinCells ⟨yTa,tTwo⟩) 53).kb (zG _ _));have HBB:=hid (show Box w2 (w1.heap.size+1) (manB.cells (hdB w1.heap.size)) by rw [hw2]; exact box_atY (cs:=manB.cells (hdB w1.heap.size)) (by rw [World.size_alloc]));(have hb:KB w1.heap.size w1 w2:=by rw [hw2]; exact zA (zG _ _) (zG _ _));clear hw2;have HLB:=hid (show ManLies w2 (hdB w1.heap.size) manB from ⟨⟨.inl rfl,.inl rfl,.inl rfl,by decide,by decide,by decide⟩,pins_one HP.out,.inl rfl,by decide,by decide⟩)
 have HA2:=hid (HA.out.kb hb);have HLA2:=hid (HLA.out.kb hb);have HB2:=hid (zA HB.out hb);clear HP hb HA HLA HB;obtain ⟨x0,x1,x2,x3,x4,x5,x6,x7,x8,x9,x10,xl⟩:=rec11 HA2.out;obtain ⟨y0,y1,y2,y3,y4,y5,y6,y7,y8,y9,y10,yl⟩:=rec11 HBB.out;(go_upto_region 4 with fail);refine zI ?_;intro w3 hw3;have HR:=hid (show Box w3 w2.heap.size ([(manA,hdA w.heap.size),(manB,hdB w1.heap.size)].flatMap mpCells) by rw [hw3]; exact box_atY (cs:=[(manA,hdA w.heap.size),(manB,hdB w1.heap.size)].flatMap mpCells) rfl);(have hb:KB w2.heap.size w2 w3:=by rw [hw3]; exact zG _ _);clear hw3 x0 x1 x2 x3 x4 x5 x6 x7 x8 x9 x10 xl y0 y1 y2 y3 y4 y5 y6 y7 y8 y9 y10 yl;have HLA3:=hid (HLA2.out.kb hb);have HLB3:=hid (HLB.out.kb hb)
 have HM3:=hid (show Mans w3 (some ⟨w2.heap.size,0,none⟩) [manA,manB] from mans_box HR.out (fun p hp=>by
  simp only [List.mem_cons,List.not_mem_nil,or_false] at hp;rcases hp with rfl | rfl
  ·exact HLA3.out
  ·exact HLB3.out))
 have HA3:=hid (HA2.out.kb hb);have HB3:=hid (zA HB2.out hb);clear hb HR HLB HLB3 HLA2 HA2 HB2 HBB;generalize w2.heap.size=g3 at *;(go_wp2_with fail);refine (CP.out _ _ HB3.out HM3.out).mono ?_;rintro _ w4 ⟨PA,pc,he,hpi,hb⟩;replace he:_=Ending.returned (.tuple #[.slice PA 2 pc,.int .i64 0]):=he;subst he;have HPI:=hid (show Z6 w4 PA [p0,p1] from hpi);have HM4:=hid (HM3.out.kb ManAt.stays hb);have HA4:=hid (HA3.out.kb hb);have HLA4:=hid (HLA3.out.kb hb);have HB4:=hid (zA HB3.out hb);clear hpi hb HM3 HA3 HLA3 HB3 CP;(go_wp2_with fail);refine (CH.out _ _ HB4.out HM4.out).mono ?_;rintro _ w5 ⟨SA,sc,SB,sd,he,hs1,hs2,hb⟩;replace he:_=Ending.returned (.tuple #[setV SA s1.length sc SB s2.length sd,.int .i64 0]):=he;rw [hq1,hq2] at he;subst he;have HS1:=hid (show Spans w5 SA s1 from hs1.1);have HS2:=hid (show Spans w5 SB s2 from hs2.1);have HPI5:=hid (HPI.out.kb PinAt.stays hb);have HM5:=hid (HM4.out.kb ManAt.stays hb);have HA5:=hid (HA4.out.kb hb);have HLA5:=hid (HLA4.out.kb hb);have HB5:=hid (zA HB4.out hb);clear hs1 hs2 hb HM4 HA4 HLA4 HB4 HPI CH;(go_upto_region 6 with fail);refine zI ?_;intro w6 hw6;have HY:=hid (show Box w6 w5.heap.size [.slice SA q1 sc,.slice SB q2 sd] by rw [hw6]; exact Box.new w5 [.slice SA q1 sc,.slice SB q2 sd] 42);(have hb:KB w5.heap.size w5 w6:=by rw [hw6]; exact zG _ _);clear hw6;have HS16:=hid (HS1.out.kb hb);have HS26:=hid (HS2.out.kb hb)
 have HPI6:=hid (HPI5.out.kb PinAt.stays hb);have HM6:=hid (HM5.out.kb ManAt.stays hb);have HA6:=hid (HA5.out.kb hb);have HLA6:=hid (HLA5.out.kb hb);have HB6:=hid (zA HB5.out hb);clear hb HM5 HA5 HLA5 HB5 HPI5 HS1 HS2;generalize w5.heap.size=g5 at *;obtain ⟨x0,x1,x2,x3,x4,x5,x6,x7,x8,x9,x10,xl⟩:=rec11 HA6.out
 have HRA:=hid (show Mans (w6.alloc (.cells ([(manA,hdA w.heap.size),(manA,hdA w.heap.size)].flatMap mpCells).toArray 36)) (some ⟨w6.heap.size,0,none⟩) [manA,manA] from mans_box (Box.new w6 ([(manA,hdA w.heap.size),(manA,hdA w.heap.size)].flatMap mpCells) 36) (fun p hp=>by
  simp only [List.mem_cons,List.not_mem_nil,or_false,or_self] at hp;subst hp
  exact HLA6.out.kb (zG _ _)))
 (go_wp2_with fail);refine (CC.out w6.heap.size _ (zA HB6.out (zG _ _)) HRA.out).mono ?_;rintro _ w7 ⟨rfl,hb0⟩;have hb:=zA (zG w6 _) hb0;have HY7:=hid (HY.out.kb hb);have HS17:=hid (HS16.out.kb hb);have HS27:=hid (HS26.out.kb hb);have HPI7:=hid (HPI6.out.kb PinAt.stays hb);have HM7:=hid (HM6.out.kb ManAt.stays hb);have HB7:=hid (zA HB6.out hb);clear hb hb0 HY HS16 HS26 HPI6 HM6 HA6 HLA6 HB6 HRA CC x0 x1 x2 x3 x4 x5 x6 x7 x8 x9 x10 xl;have HH1C:=hid (fun u (hb:KB w7.heap.size w7 u)=>law_hasR sc sd ((HL.out.kb HB7.out).kb hb).first (HSG.out.at_ (HS17.out.kb hb) (HS27.out.kb hb)) (show yv1.fit from Xw _ _ _) (by omega));have HH2C:=hid (fun u (hb:KB w7.heap.size w7 u)=>law_hasR sc sd ((HL.out.kb HB7.out).kb hb).first (HSG.out.at_ (HS17.out.kb hb) (HS27.out.kb hb)) (show yv2.fit from Xw _ _ _) (by omega));dsimp only at HH1C HH2C;rw [HH1.out,hq1,hq2] at HH1C;rw [HH2.out,hq1,hq2] at HH2C;obtain ⟨pb,po,hPA,hpl,hp0,-⟩:=aJ HPI7.out (k:=0) (by simp);subst hPA;rw [Nat.zero_mul,Nat.add_zero] at hp0;(replace hp0:w7.cell? ⟨pb,po,none⟩=some (.string ⟨#[97]⟩):=by rw [← n0]; exact hp0);obtain ⟨y0,y1⟩:=HY7.out.get2;have yl:=HY7.out.1;(go_wp2_with fail);refine (HH1C.out _ (zH _)).mono ?_;rintro _ w8 ⟨rfl,hb⟩;have HB8:=hid hb.kb;clear hb y0 y1 yl;obtain ⟨y0,y1⟩:=(HY7.out.kb HB8.out).get2;have yl:=(HY7.out.kb HB8.out).1;(go_wp2_with fail);refine (HH2C.out _ HB8.out).mono ?_;rintro _ w9 ⟨rfl,hb⟩
 have HB9:=hid (zA HB8.out hb.kb);clear hb y0 y1 yl;(go_wp2_with fail);refine (CM.out _ _ (zA HB7.out HB9.out) (HM7.out.kb ManAt.stays HB9.out)).mono ?_;rintro _ w10 ⟨rfl,hb⟩;have HBX:=hid (zA (zA HB7.out HB9.out) hb);clear hb;(go_wp2_with fail);(try rw [Exit.noGoto_ret]);(try (first | go_ret | go_ret2));exact ⟨rfl,HBX.out⟩
end Go.Proofs.YtiffijoenkcpjaaGreatDoor
