import Derived.Deep.Quiet
import Derived.IntWalk
import Derived.Laws.IdiomCopy
import Derived.OrdersHeld
import Derived.Test.YtiffijoenkcpjaaGreatDoorYBb
set_option linter.unusedVariables false
set_option linter.unusedSimpArgs false
set_option maxRecDepth 100000
set_option maxHeartbeats 4000000
namespace Go.Proofs.YtiffijoenkcpjaaGreatDoor
open Go.RowKit Go.Lib
theorem uR (b o j:Nat):(Addr.mk b o none).add j=⟨b,o+j,none⟩:=by
 unfold Addr.add;split<;>simp_all
def Box (w:World) (g:Nat) (cs:List Value):Prop:=g < w.heap.size∧∀ j u,cs[j]?=some u→w.cell? ⟨g,j,none⟩=some u
theorem Box.below {w w':World} {g:Nat} {cs:List Value} (h:Box w g cs) (hb:Below w.heap.size w w'):Box w' g cs :=
 ⟨Nat.lt_of_lt_of_le h.1 hb.size,fun j u hj=>(hb.cell (p:=⟨g,j,none⟩) h.1).trans (h.2 j u hj)⟩
theorem Box.new (w:World) (cs:List Value) (t:TypeId):Box (w.alloc (.cells cs.toArray t)) w.heap.size cs:=by
 refine ⟨by simp,fun j u hj=>?_⟩;rw [World.cell?_alloc_at _ _ _ _ rfl];simpa using hj
theorem box_1 {w w1:World} {cs:List Value} {t:TypeId} (hb:Below (w.alloc (.cells cs.toArray t)).heap.size (w.alloc (.cells cs.toArray t)) w1):Box w1 w.heap.size cs∧Below w.heap.size w w1 :=
 ⟨(Box.new w cs t).below hb,xj hb⟩
theorem box_2 {w w1:World} {cs ds:List Value} {t s:TypeId} (hb:Below ((w.alloc (.cells cs.toArray t)).alloc (.cells ds.toArray s)).heap.size ((w.alloc (.cells cs.toArray t)).alloc (.cells ds.toArray s)) w1) :
 Box w1 w.heap.size cs∧Box w1 (w.heap.size+1) ds∧Below w.heap.size w w1:=by
 refine ⟨((Box.new w cs t).below (zL _ _)).below hb,?_,zC (zC (zL _ _) (zL _ _)) hb⟩
 have:=(Box.new (w.alloc (.cells cs.toArray t)) ds s).below hb
 simpa using this
theorem Box.get5 {w:World} {g:Nat} {x0 x1 x2 x3 x4:Value} (h:Box w g [x0,x1,x2,x3,x4]):w.cell? ⟨g,0,none⟩=some x0∧w.cell? ⟨g,1,none⟩=some x1∧w.cell? ⟨g,2,none⟩=some x2∧w.cell? ⟨g,3,none⟩=some x3∧w.cell? ⟨g,4,none⟩=some x4 :=
 ⟨h.2 0 _ rfl,h.2 1 _ rfl,h.2 2 _ rfl,h.2 3 _ rfl,h.2 4 _ rfl⟩
theorem Box.get7 {w:World} {g:Nat} {x0 x1 x2 x3 x4 x5 x6:Value} (h:Box w g [x0,x1,x2,x3,x4,x5,x6]):w.cell? ⟨g,0,none⟩=some x0∧w.cell? ⟨g,1,none⟩=some x1∧w.cell? ⟨g,2,none⟩=some x2∧w.cell? ⟨g,3,none⟩=some x3∧w.cell? ⟨g,4,none⟩=some x4∧w.cell? ⟨g,5,none⟩=some x5∧w.cell? ⟨g,6,none⟩=some x6 :=
 ⟨h.2 0 _ rfl,h.2 1 _ rfl,h.2 2 _ rfl,h.2 3 _ rfl,h.2 4 _ rfl,h.2 5 _ rfl,h.2 6 _ rfl⟩
structure CutL where
 en:Int
 v:Ver
 aft:Bool
abbrev CutL.cells (c:CutL):List Value:=[.int .i64 c.en,.int .i64 c.v.maj,.int .i64 c.v.min,.int .i64 c.v.pat,.string c.v.pre,.string c.v.bld,.bool c.aft]
abbrev CutL.val (c:CutL):Value := .agg #[.int .i64 c.en,.int .i64 c.v.maj,.int .i64 c.v.min,.int .i64 c.v.pat,.string c.v.pre,.string c.v.bld,.bool c.aft]
def CutL.fit (c:CutL):Prop:=c.v.fit
def xD:Ver:=⟨0,0,0,⟨#[]⟩,⟨#[]⟩⟩
def fB (c:CutL):Bool:=if c.en=0 then yF c.v&&(bts c.v.bld).isEmpty else (decide (c.en=-1) || decide (c.en=1))&&mj c.v xD&&!c.aft
theorem eqlV0 (a:Ver) (w:World):(binOp .eql 27 a.val (.agg #[.int .i64 0,.int .i64 0,.int .i64 0,.string ⟨#[]⟩,.string ⟨#[]⟩])).run Tryz.prog w = .ok (.bool (mj a xD)) w:=UE a xD w
theorem eqgV0 (op:BinOp) (x y:Operand) (a:Ver) (w:World):(eqGuard op 27 x y a.val (.agg #[.int .i64 0,.int .i64 0,.int .i64 0,.string ⟨#[]⟩,.string ⟨#[]⟩])).run Tryz.prog w = .ok () w:=UG op x y a xD w
theorem fK {c:CutL} (h:c.en=-1∨c.en=1):fB c=(mj c.v xD&&!c.aft):=by
 rw [fB,if_neg (by omega)];rcases h with h | h<;>simp [h]
theorem mayC_zero {c:CutL} (h:c.en=0):fB c=(yF c.v&&(bts c.v.bld).isEmpty):=by rw [fB,if_pos h]
theorem mayC_else {c:CutL} (h0:c.en≠0) (h1:c.en≠-1) (h2:c.en≠1):fB c=false:=by rw [fB,if_neg h0]; simp [h1,h2]
theorem cmay_any (c:CutL) (w:World) (hc:c.fit):Calls Tryz.prog 141 #[c.val] w (yc w (fB c)):=by
 generalize hr:fB c=r;have HR:=hid hr;clear hr;have hq:=eqlV0;have hqg:=eqgV0;by_cases hE:c.en=-1∨c.en=1
 ·have HE:=hid (fK hE)
  have hcase:(c.en==-1)=true∨((c.en==-1)=false∧(c.en==1)=true):=by
   rcases hE with h | h
   ·exact .inl (by simp [h])
   ·exact .inr ⟨by simp [h],by simp [h]⟩
  clear hE;cases hv:mj c.v xD
  ·rcases hcase with h1 | ⟨h1,h2⟩
   all_goals
    go_enter Tryz.func141,Tryz.ntmps141;(go_wp2_with fail);go_ret;exact ⟨by rw [← HR.out,HE.out,hv]; rfl,zL _ _⟩
  ·rcases hcase with h1 | ⟨h1,h2⟩
   all_goals
    go_enter Tryz.func141,Tryz.ntmps141;(go_wp2_with fail);go_ret;exact ⟨by rw [← HR.out,HE.out,hv]; rfl,zL _ _⟩
 ·(have h1:(c.en==-1)=false:=by simp; omega);(have h2:(c.en==1)=false:=by simp; omega);by_cases hz:c.en=0
  ·(have h3:(c.en != 0)=false:=by simp [hz]);have HE:=hid (mayC_zero hz);clear hE hz;cases hv:yF c.v
   ·go_enter Tryz.func141,Tryz.ntmps141;(go_wp2_with (go_at_call 110; refine (vm c.v _ hc).mono ?_; rintro e w1 ⟨rfl,hb1⟩));go_ret;exact ⟨by rw [← HR.out,HE.out,hv]; rfl,xj hb1⟩
   ·go_enter Tryz.func141,Tryz.ntmps141;(go_wp2_with fail);refine (vm c.v _ hc).mono ?_;rintro e w1 ⟨rfl,hb1⟩;obtain ⟨hx,hbw⟩:=box_1 (cs:=c.cells) hb1;obtain ⟨x0,x1,x2,x3,x4,x5,x6⟩:=hx.get7;clear hx hb1;(go_wp2_with fail);go_ret;exact ⟨by rw [← HR.out,HE.out,hv]; rfl,hbw⟩
  ·(have h3:(c.en != 0)=true:=by simpa using hz);have HE:=hid (mayC_else hz (by omega) (by omega));clear hE hz;go_enter Tryz.func141,Tryz.ntmps141;(go_wp2_with fail);go_ret;exact ⟨by rw [← HR.out,HE.out]; rfl,zL _ _⟩
theorem rcmay_any (c:CutL) (w:World) (hc:c.fit):Calls Tryz.prog 144 #[c.val] w (yc w (fB c)):=by
 generalize hr:fB c=r;have HR:=hid hr;clear hr;have hq:=eqlV0;have hqg:=eqgV0;by_cases hz:c.en=0
 ·(have h3:(c.en==0)=true:=by simp [hz]);have HE:=hid (mayC_zero hz);clear hz;cases hv:yF c.v
  ·go_enter Tryz.func144,Tryz.ntmps144;(go_wp2_with (go_at_call 36; refine (vC c.v _ hc).mono ?_; rintro e w1 ⟨rfl,hb1⟩));go_ret;exact ⟨by rw [← HR.out,HE.out,hv]; rfl,xj hb1⟩
  ·go_enter Tryz.func144,Tryz.ntmps144;(go_wp2_with fail);refine (vC c.v _ hc).mono ?_;rintro e w1 ⟨rfl,hb1⟩;obtain ⟨hx,hbw⟩:=box_1 (cs:=c.cells) hb1;obtain ⟨x0,x1,x2,x3,x4,x5,x6⟩:=hx.get7;clear hx hb1;(go_wp2_with fail);go_ret;exact ⟨by rw [← HR.out,HE.out,hv]; rfl,hbw⟩
 ·(have h3:(c.en==0)=false:=by simpa using hz);by_cases hE:c.en=-1∨c.en=1
  ·have HE:=hid (fK hE)
   have hcase:(c.en==-1)=true∨((c.en==-1)=false∧(c.en==1)=true):=by
    rcases hE with h | h
    ·exact .inl (by simp [h])
    ·exact .inr ⟨by simp [h],by simp [h]⟩
   clear hE hz;cases hv:mj c.v xD
   ·rcases hcase with h1 | ⟨h1,h2⟩
    all_goals
     go_enter Tryz.func144,Tryz.ntmps144;(go_wp2_with fail);go_ret;exact ⟨by rw [← HR.out,HE.out,hv]; rfl,zL _ _⟩
   ·rcases hcase with h1 | ⟨h1,h2⟩
    all_goals
     go_enter Tryz.func144,Tryz.ntmps144;(go_wp2_with fail);go_ret;exact ⟨by rw [← HR.out,HE.out,hv]; rfl,zL _ _⟩
  ·(have h1:(c.en==-1)=false:=by simp; omega);(have h2:(c.en==1)=false:=by simp; omega);have HE:=hid (mayC_else hz (by omega) (by omega));clear hE hz;go_enter Tryz.func144,Tryz.ntmps144;(go_wp2_with fail);go_ret;exact ⟨by rw [← HR.out,HE.out]; rfl,zL _ _⟩
def Xc (a b:CutL):Int:=if fB a=false∨fB b=false then 0 else if a.en≠0∨b.en≠0 then xT a.en b.en else if xX a.v b.v≠0 then xX a.v b.v else if a.aft=b.aft then 0 else if b.aft then -1 else 1
theorem WB {a b:CutL} (h1:fB a=true) (h2:fB b=true):Xc a b=if a.en≠0∨b.en≠0 then xT a.en b.en else if xX a.v b.v≠0 then xX a.v b.v else if a.aft=b.aft then 0 else if b.aft then -1 else 1:=by
 rw [Xc,if_neg (by simp [h1,h2])]
theorem ccompare_any (a b:CutL) (w:World) (ha:a.fit) (hb:b.fit):Calls Tryz.prog 94 #[a.val,b.val] w (sB w (Xc a b)):=by
 generalize hr:Xc a b=r;have HR:=hid hr;clear hr;cases h1:fB a
 ·go_enter Tryz.func94,Tryz.ntmps94;(go_wp2_with fail);refine (cmay_any a _ ha).mono ?_;rintro e w1 ⟨rfl,hb1⟩;obtain ⟨hx,hy,hbw⟩:=box_2 (cs:=a.cells) (ds:=b.cells) hb1;clear hx hy hb1;(go_wp2_with fail);go_ret;exact ⟨by rw [← HR.out,Xc,if_pos (.inl h1)]; rfl,hbw⟩
 ·cases h2:fB b
  ·go_enter Tryz.func94,Tryz.ntmps94;(go_wp2_with fail);refine (cmay_any a _ ha).mono ?_;rintro e w1 ⟨rfl,hb1⟩;obtain ⟨hx,hy,hbw⟩:=box_2 (cs:=a.cells) (ds:=b.cells) hb1;obtain ⟨y0,y1,y2,y3,y4,y5,y6⟩:=hy.get7;clear hx hy hb1;(go_wp2_with fail);refine (cmay_any b _ hb).mono ?_;rintro e w2 ⟨rfl,hb2⟩;(go_wp2_with fail);go_ret;exact ⟨by rw [← HR.out,Xc,if_pos (.inr h2)]; rfl,zC hbw hb2⟩
  ·have HV:=hid (WB h1 h2);go_enter Tryz.func94,Tryz.ntmps94;(go_wp2_with fail);refine (cmay_any a _ ha).mono ?_;rintro e w1 ⟨rfl,hb1⟩;obtain ⟨hx,hy,hbw⟩:=box_2 (cs:=a.cells) (ds:=b.cells) hb1;obtain ⟨y0,y1,y2,y3,y4,y5,y6⟩:=hy.get7;clear hb1;(go_wp2_with fail);refine (cmay_any b _ hb).mono ?_;rintro e w2 ⟨rfl,hb2⟩;have hx2:=hx.below hb2;have hy2:=hy.below hb2;have hbw2:=zC hbw hb2;clear y0 y1 y2 y3 y4 y5 y6 hx hy hbw hb2;obtain ⟨x0,x1,x2,x3,x4,x5,x6⟩:=hx2.get7;obtain ⟨y0,y1,y2,y3,y4,y5,y6⟩:=hy2.get7;by_cases hE:a.en≠0∨b.en≠0
   ·have HE:=hid (show Xc a b=xT a.en b.en by rw [HV.out,if_pos hE])
    have hcase:(a.en != 0)=true∨((a.en != 0)=false∧(b.en != 0)=true):=by
     by_cases h:a.en=0
     ·exact .inr ⟨by simp [h],by simp; omega⟩
     ·exact .inl (by simpa using h)
    clear hE hx2 hy2;rcases hcase with e1 | ⟨e1,e2⟩
    all_goals
     (go_wp2_with (go_at_call 142; refine (q8 _ _ _).mono ?_; rintro e w' ⟨rfl,rfl⟩));go_ret;exact ⟨by rw [← HR.out,HE.out]; rfl,hbw2⟩
   ·(have e1:(a.en != 0)=false:=by simp; omega);(have e2:(b.en != 0)=false:=by simp; omega);have HE:=hid (show Xc a b=if xX a.v b.v≠0 then xX a.v b.v else if a.aft=b.aft then 0 else if b.aft then -1 else 1 by rw [HV.out,if_neg hE]);clear hE;(go_wp2_with fail);refine (qO a.v b.v _ ha hb).mono ?_;rintro e w3 ⟨rfl,hb3⟩;have hx3:=hx2.below hb3;have hy3:=hy2.below hb3;have hbw3:=zC hbw2 hb3;clear x0 x1 x2 x3 x4 x5 x6 y0 y1 y2 y3 y4 y5 y6 hx2 hy2 hbw2 hb3;obtain ⟨x0,x1,x2,x3,x4,x5,x6⟩:=hx3.get7;obtain ⟨y0,y1,y2,y3,y4,y5,y6⟩:=hy3.get7;clear hx3 hy3;by_cases hc:xX a.v b.v=0
    ·(have hcond:(xX a.v b.v != 0)=false:=by simp [hc]);have HC:=hid hc;clear hc;cases ka:a.aft<;>cases kb:b.aft
     ·(go_wp2_with fail);go_ret;exact ⟨by rw [← HR.out,HE.out,HC.out,ka,kb]; rfl,hbw3⟩
     ·(go_wp2_with fail);go_ret;exact ⟨by rw [← HR.out,HE.out,HC.out,ka,kb]; rfl,hbw3⟩
     ·(go_wp2_with fail);go_ret;exact ⟨by rw [← HR.out,HE.out,HC.out,ka,kb]; rfl,hbw3⟩
     ·(go_wp2_with fail);go_ret;exact ⟨by rw [← HR.out,HE.out,HC.out,ka,kb]; rfl,hbw3⟩
    ·(have hcond:(xX a.v b.v != 0)=true:=by simpa using hc);have HE2:=hid (show Xc a b=xX a.v b.v by rw [HE.out,if_pos hc]);clear hc;(go_wp2_with fail);go_ret;exact ⟨by rw [← HR.out,HE2.out]; rfl,hbw3⟩
theorem rccompare_any (a b:CutL) (w:World) (ha:a.fit) (hb:b.fit):Calls Tryz.prog 96 #[a.val,b.val] w (sB w (Xc a b)):=by
 generalize hr:Xc a b=r;have HR:=hid hr;clear hr;cases h1:fB a
 ·go_enter Tryz.func96,Tryz.ntmps96;(go_wp2_with fail);refine (rcmay_any a _ ha).mono ?_;rintro e w1 ⟨rfl,hb1⟩;obtain ⟨hx,hy,hbw⟩:=box_2 (cs:=a.cells) (ds:=b.cells) hb1;clear hx hy hb1;(go_wp2_with fail);go_ret;exact ⟨by rw [← HR.out,Xc,if_pos (.inl h1)]; rfl,hbw⟩
 ·cases h2:fB b
  ·go_enter Tryz.func96,Tryz.ntmps96;(go_wp2_with fail);refine (rcmay_any a _ ha).mono ?_;rintro e w1 ⟨rfl,hb1⟩;obtain ⟨hx,hy,hbw⟩:=box_2 (cs:=a.cells) (ds:=b.cells) hb1;obtain ⟨y0,y1,y2,y3,y4,y5,y6⟩:=hy.get7;clear hx hy hb1;(go_wp2_with fail);refine (rcmay_any b _ hb).mono ?_;rintro e w2 ⟨rfl,hb2⟩;(go_wp2_with fail);go_ret;exact ⟨by rw [← HR.out,Xc,if_pos (.inr h2)]; rfl,zC hbw hb2⟩
  ·have HV:=hid (WB h1 h2);go_enter Tryz.func96,Tryz.ntmps96;(go_wp2_with fail);refine (rcmay_any a _ ha).mono ?_;rintro e w1 ⟨rfl,hb1⟩;obtain ⟨hx,hy,hbw⟩:=box_2 (cs:=a.cells) (ds:=b.cells) hb1;obtain ⟨y0,y1,y2,y3,y4,y5,y6⟩:=hy.get7;clear hb1;(go_wp2_with fail);refine (rcmay_any b _ hb).mono ?_;rintro e w2 ⟨rfl,hb2⟩;have hx2:=hx.below hb2;have hy2:=hy.below hb2;have hbw2:=zC hbw hb2;clear y0 y1 y2 y3 y4 y5 y6 hx hy hbw hb2;obtain ⟨x0,x1,x2,x3,x4,x5,x6⟩:=hx2.get7;obtain ⟨y0,y1,y2,y3,y4,y5,y6⟩:=hy2.get7;by_cases hE:a.en≠0∨b.en≠0
   ·have HE:=hid (show Xc a b=xT a.en b.en by rw [HV.out,if_pos hE])
    have hcase:(a.en != b.en)=true∨((a.en != b.en)=false∧(a.en != 0)=true):=by
     by_cases h:a.en=b.en
     ·exact .inr ⟨by simp [h],by simp; omega⟩
     ·exact .inl (by simpa using h)
    clear hE hx2 hy2;rcases hcase with e1 | ⟨e1,e2⟩
    all_goals
     (go_wp2_with (go_at_call 145; refine (us _ _ _).mono ?_; rintro e w' ⟨rfl,rfl⟩));go_ret;exact ⟨by rw [← HR.out,HE.out]; rfl,hbw2⟩
   ·(have e1:(a.en != b.en)=false:=by simp; omega);(have e2:(a.en != 0)=false:=by simp; omega);have HE:=hid (show Xc a b=if xX a.v b.v≠0 then xX a.v b.v else if a.aft=b.aft then 0 else if b.aft then -1 else 1 by rw [HV.out,if_neg hE]);clear hE;(go_wp2_with fail);refine (jf a.v b.v _ ha hb).mono ?_;rintro e w3 ⟨rfl,hb3⟩;have hx3:=hx2.below hb3;have hy3:=hy2.below hb3;have hbw3:=zC hbw2 hb3;clear x0 x1 x2 x3 x4 x5 x6 y0 y1 y2 y3 y4 y5 y6 hx2 hy2 hbw2 hb3;obtain ⟨x0,x1,x2,x3,x4,x5,x6⟩:=hx3.get7;obtain ⟨y0,y1,y2,y3,y4,y5,y6⟩:=hy3.get7;clear hx3 hy3;by_cases hc:xX a.v b.v=0
    ·(have hcond:(xX a.v b.v != 0)=false:=by simp [hc]);have HC:=hid hc;clear hc;cases ka:a.aft<;>cases kb:b.aft
     ·(go_wp2_with fail);go_ret;exact ⟨by rw [← HR.out,HE.out,HC.out,ka,kb]; rfl,hbw3⟩
     ·(go_wp2_with fail);go_ret;exact ⟨by rw [← HR.out,HE.out,HC.out,ka,kb]; rfl,hbw3⟩
     ·(go_wp2_with fail);go_ret;exact ⟨by rw [← HR.out,HE.out,HC.out,ka,kb]; rfl,hbw3⟩
     ·(go_wp2_with fail);go_ret;exact ⟨by rw [← HR.out,HE.out,HC.out,ka,kb]; rfl,hbw3⟩
    ·(have hcond:(xX a.v b.v != 0)=true:=by simpa using hc);have HE2:=hid (show Xc a b=xX a.v b.v by rw [HE.out,if_pos hc]);clear hc;(go_wp2_with fail);go_ret;exact ⟨by rw [← HR.out,HE2.out]; rfl,hbw3⟩
def aheadC (c:CutL) (v:Ver):Bool:=fB c&&yF v&&(if c.en≠0 then decide (c.en < 0) else decide (xX c.v v < 0) || (decide (xX c.v v=0)&&!c.aft))
structure SpanL where
 fr:CutL
 til:CutL
abbrev SpanL.cells (s:SpanL):List Value:=[.int .i64 s.fr.en,.int .i64 s.fr.v.maj,.int .i64 s.fr.v.min,.int .i64 s.fr.v.pat,.string s.fr.v.pre,.string s.fr.v.bld,.bool s.fr.aft,.int .i64 s.til.en,.int .i64 s.til.v.maj,.int .i64 s.til.v.min,.int .i64 s.til.v.pat,.string s.til.v.pre,.string s.til.v.bld,.bool s.til.aft]
abbrev SpanL.val (s:SpanL):Value := .agg #[.int .i64 s.fr.en,.int .i64 s.fr.v.maj,.int .i64 s.fr.v.min,.int .i64 s.fr.v.pat,.string s.fr.v.pre,.string s.fr.v.bld,.bool s.fr.aft,.int .i64 s.til.en,.int .i64 s.til.v.maj,.int .i64 s.til.v.min,.int .i64 s.til.v.pat,.string s.til.v.pre,.string s.til.v.bld,.bool s.til.aft]
def SpanL.fit (s:SpanL):Prop:=s.fr.fit∧s.til.fit
def iJ (s:SpanL):Bool:=fB s.fr&&fB s.til&&decide (Xc s.fr s.til < 0)
def holdsS (s:SpanL) (v:Ver):Bool:=iJ s&&yF v&&aheadC s.fr v&&!aheadC s.til v
theorem Box.get14 {w:World} {g:Nat} {x0 x1 x2 x3 x4 x5 x6 x7 x8 x9 x10 x11 x12 x13:Value} (h:Box w g [x0,x1,x2,x3,x4,x5,x6,x7,x8,x9,x10,x11,x12,x13]):(w.cell? ⟨g,0,none⟩=some x0∧w.cell? ⟨g,1,none⟩=some x1∧w.cell? ⟨g,2,none⟩=some x2∧w.cell? ⟨g,3,none⟩=some x3∧w.cell? ⟨g,4,none⟩=some x4∧w.cell? ⟨g,5,none⟩=some x5∧w.cell? ⟨g,6,none⟩=some x6) ∧
 (w.cell? ⟨g,7,none⟩=some x7∧w.cell? ⟨g,8,none⟩=some x8∧w.cell? ⟨g,9,none⟩=some x9∧w.cell? ⟨g,10,none⟩=some x10∧w.cell? ⟨g,11,none⟩=some x11∧w.cell? ⟨g,12,none⟩=some x12∧w.cell? ⟨g,13,none⟩=some x13) :=
 ⟨⟨h.2 0 _ rfl,h.2 1 _ rfl,h.2 2 _ rfl,h.2 3 _ rfl,h.2 4 _ rfl,h.2 5 _ rfl,h.2 6 _ rfl⟩,⟨h.2 7 _ rfl,h.2 8 _ rfl,h.2 9 _ rfl,h.2 10 _ rfl,h.2 11 _ rfl,h.2 12 _ rfl,h.2 13 _ rfl⟩⟩
def CutPost (w:World) (c:CutL) (e:Ending) (w':World):Prop:=e = .returned c.val∧Below w.heap.size w w'
def rR:CutL:=⟨-1,xD,false⟩
def ig:CutL:=⟨1,xD,false⟩
theorem aheadC_no1 {c:CutL} {v:Ver} (h:fB c=false):aheadC c v=false:=by simp [aheadC,h]
theorem aheadC_no2 {c:CutL} {v:Ver} (h:yF v=false):aheadC c v=false:=by simp [aheadC,h]
theorem aheadC_end {c:CutL} {v:Ver} (h1:fB c=true) (h2:yF v=true) (h:c.en≠0):aheadC c v=decide (c.en < 0):=by simp [aheadC,h1,h2,h]
theorem aheadC_in {c:CutL} {v:Ver} (h1:fB c=true) (h2:yF v=true) (h:c.en=0):aheadC c v=(decide (xX c.v v < 0) || (decide (xX c.v v=0)&&!c.aft)):=by simp [aheadC,h1,h2,h]
theorem spanmay_any (s:SpanL) (w:World) (hs:s.fit):Calls Tryz.prog 140 #[s.val] w (yc w (iJ s)):=by
 generalize hr:iJ s=r;have HR:=hid hr;clear hr;cases h1:fB s.fr
 ·go_enter Tryz.func140,Tryz.ntmps140;(go_wp2_with fail);refine (cmay_any s.fr _ hs.1).mono ?_;rintro e w1 ⟨rfl,hb1⟩;obtain ⟨hx,hbw⟩:=box_1 (cs:=s.cells) hb1;clear hx hb1;(go_wp2_with fail);go_ret;exact ⟨by rw [← HR.out,iJ,h1]; rfl,hbw⟩
 ·cases h2:fB s.til
  ·go_enter Tryz.func140,Tryz.ntmps140;(go_wp2_with fail);refine (cmay_any s.fr _ hs.1).mono ?_;rintro e w1 ⟨rfl,hb1⟩;obtain ⟨hx,hbw⟩:=box_1 (cs:=s.cells) hb1;obtain ⟨_,y0,y1,y2,y3,y4,y5,y6⟩:=hx.get14;clear hx hb1;(go_wp2_with fail);refine (cmay_any s.til _ hs.2).mono ?_;rintro e w2 ⟨rfl,hb2⟩;(go_wp2_with fail);go_ret;exact ⟨by rw [← HR.out,iJ,h1,h2]; rfl,zC hbw hb2⟩
  ·go_enter Tryz.func140,Tryz.ntmps140;(go_wp2_with fail);refine (cmay_any s.fr _ hs.1).mono ?_;rintro e w1 ⟨rfl,hb1⟩;obtain ⟨hx,hbw⟩:=box_1 (cs:=s.cells) hb1;obtain ⟨_,y0,y1,y2,y3,y4,y5,y6⟩:=hx.get14;clear hb1;(go_wp2_with fail);refine (cmay_any s.til _ hs.2).mono ?_;rintro e w2 ⟨rfl,hb2⟩;have hx2:=hx.below hb2;have hbw2:=zC hbw hb2;clear y0 y1 y2 y3 y4 y5 y6 hx hbw hb2;obtain ⟨⟨x0,x1,x2,x3,x4,x5,x6⟩,y0,y1,y2,y3,y4,y5,y6⟩:=hx2.get14;clear hx2;(go_wp2_with fail);refine (ccompare_any s.fr s.til _ hs.1 hs.2).mono ?_;rintro e w3 ⟨rfl,hb3⟩;(go_wp2_with fail);go_ret;exact ⟨by rw [← HR.out,iJ,h1,h2]; rfl,zC hbw2 hb3⟩
theorem rahead_any (c:CutL) (v:Ver) (w:World) (hc:c.fit) (hv:v.fit):Calls Tryz.prog 102 #[c.val,v.val] w (yc w (aheadC c v)):=by
 generalize hr:aheadC c v=r;have HR:=hid hr;clear hr;cases h1:fB c
 ·go_enter Tryz.func102,Tryz.ntmps102;(go_wp2_with fail);refine (rcmay_any c _ hc).mono ?_;rintro e w1 ⟨rfl,hb1⟩;obtain ⟨hx,hy,hbw⟩:=box_2 (cs:=c.cells) (ds:=v.cells) hb1;clear hx hy hb1;(go_wp2_with fail);go_ret;exact ⟨by rw [← HR.out,aheadC_no1 h1]; rfl,hbw⟩
 ·cases h2:yF v
  ·go_enter Tryz.func102,Tryz.ntmps102;(go_wp2_with fail);refine (rcmay_any c _ hc).mono ?_;rintro e w1 ⟨rfl,hb1⟩;obtain ⟨hx,hy,hbw⟩:=box_2 (cs:=c.cells) (ds:=v.cells) hb1;obtain ⟨y0,y1,y2,y3,y4⟩:=hy.get5;clear hx hy hb1;(go_wp2_with fail);refine (vC v _ hv).mono ?_;rintro e w2 ⟨rfl,hb2⟩;(go_wp2_with fail);go_ret;exact ⟨by rw [← HR.out,aheadC_no2 h2]; rfl,zC hbw hb2⟩
  ·go_enter Tryz.func102,Tryz.ntmps102;(go_wp2_with fail);refine (rcmay_any c _ hc).mono ?_;rintro e w1 ⟨rfl,hb1⟩;obtain ⟨hx,hy,hbw⟩:=box_2 (cs:=c.cells) (ds:=v.cells) hb1;obtain ⟨y0,y1,y2,y3,y4⟩:=hy.get5;clear hb1;(go_wp2_with fail);refine (vC v _ hv).mono ?_;rintro e w2 ⟨rfl,hb2⟩;have hx2:=hx.below hb2;have hy2:=hy.below hb2;have hbw2:=zC hbw hb2;clear y0 y1 y2 y3 y4 hx hy hbw hb2;obtain ⟨x0,x1,x2,x3,x4,x5,x6⟩:=hx2.get7;obtain ⟨y0,y1,y2,y3,y4⟩:=hy2.get5;by_cases hE:c.en=0
   ·(have e1:(c.en != 0)=false:=by simp [hE]);have HE:=hid (aheadC_in h1 h2 hE);clear hE;(go_wp2_with fail);refine (jf c.v v _ hc hv).mono ?_;rintro e w3 ⟨rfl,hb3⟩;have hx3:=hx2.below hb3;have hbw3:=zC hbw2 hb3;clear x0 x1 x2 x3 x4 x5 x6 y0 y1 y2 y3 y4 hx2 hy2 hbw2 hb3;obtain ⟨x0,x1,x2,x3,x4,x5,x6⟩:=hx3.get7;clear hx3;by_cases hl:xX c.v v < 0
    ·(have hd:decide (xX c.v v < 0)=true:=by simpa using hl);(go_wp2_with fail);go_ret;exact ⟨by rw [← HR.out,HE.out,hd]; rfl,hbw3⟩
    ·(have hd:decide (xX c.v v < 0)=false:=by simpa using hl);by_cases hz:xX c.v v=0
     ·(have hz1:(xX c.v v==0)=true:=by simp [hz]);have HZ:=hid hz;clear hz hl;cases ka:c.aft
      ·(go_wp2_with fail);go_ret;exact ⟨by rw [← HR.out,HE.out,HZ.out,ka]; rfl,hbw3⟩
      ·(go_wp2_with fail);go_ret;exact ⟨by rw [← HR.out,HE.out,HZ.out,ka]; rfl,hbw3⟩
     ·(have hz1:(xX c.v v==0)=false:=by simpa using hz);have HZ:=hid (show decide (xX c.v v=0)=false by simpa using hz);have HD:=hid hd;clear hz hl;(go_wp2_with fail);go_ret;exact ⟨by rw [← HR.out,HE.out,HZ.out,HD.out]; rfl,hbw3⟩
   ·(have e1:(c.en != 0)=true:=by simpa using hE);have HE:=hid (aheadC_end h1 h2 hE);clear hE;(go_wp2_with fail);go_ret;exact ⟨by rw [← HR.out,HE.out]; rfl,hbw2⟩
theorem rspanmay_any (s:SpanL) (w:World) (hs:s.fit):Calls Tryz.prog 95 #[s.val] w (yc w (iJ s)):=by
 generalize hr:iJ s=r;have HR:=hid hr;clear hr;cases h1:fB s.fr
 ·go_enter Tryz.func95,Tryz.ntmps95;(go_wp2_with fail);refine (rcmay_any s.fr _ hs.1).mono ?_;rintro e w1 ⟨rfl,hb1⟩;obtain ⟨hx,hbw⟩:=box_1 (cs:=s.cells) hb1;clear hx hb1;(go_wp2_with fail);go_ret;exact ⟨by rw [← HR.out,iJ,h1]; rfl,hbw⟩
 ·cases h2:fB s.til
  ·go_enter Tryz.func95,Tryz.ntmps95;(go_wp2_with fail);refine (rcmay_any s.fr _ hs.1).mono ?_;rintro e w1 ⟨rfl,hb1⟩;obtain ⟨hx,hbw⟩:=box_1 (cs:=s.cells) hb1;obtain ⟨_,y0,y1,y2,y3,y4,y5,y6⟩:=hx.get14;clear hx hb1;(go_wp2_with fail);refine (rcmay_any s.til _ hs.2).mono ?_;rintro e w2 ⟨rfl,hb2⟩;(go_wp2_with fail);go_ret;exact ⟨by rw [← HR.out,iJ,h1,h2]; rfl,zC hbw hb2⟩
  ·go_enter Tryz.func95,Tryz.ntmps95;(go_wp2_with fail);refine (rcmay_any s.fr _ hs.1).mono ?_;rintro e w1 ⟨rfl,hb1⟩;obtain ⟨hx,hbw⟩:=box_1 (cs:=s.cells) hb1;obtain ⟨_,y0,y1,y2,y3,y4,y5,y6⟩:=hx.get14;clear hb1;(go_wp2_with fail);refine (rcmay_any s.til _ hs.2).mono ?_;rintro e w2 ⟨rfl,hb2⟩;have hx2:=hx.below hb2;have hbw2:=zC hbw hb2;clear y0 y1 y2 y3 y4 y5 y6 hx hbw hb2;obtain ⟨⟨x0,x1,x2,x3,x4,x5,x6⟩,y0,y1,y2,y3,y4,y5,y6⟩:=hx2.get14;clear hx2;(go_wp2_with fail);refine (rccompare_any s.fr s.til _ hs.1 hs.2).mono ?_;rintro e w3 ⟨rfl,hb3⟩;(go_wp2_with fail);go_ret;exact ⟨by rw [← HR.out,iJ,h1,h2]; rfl,zC hbw2 hb3⟩
theorem rholds_any (s:SpanL) (v:Ver) (w:World) (hs:s.fit) (hv:v.fit):Calls Tryz.prog 59 #[s.val,v.val] w (yc w (holdsS s v)):=by
 generalize hr:holdsS s v=r;have HR:=hid hr;clear hr;cases h1:iJ s
 ·go_enter Tryz.func59,Tryz.ntmps59;(go_wp2_with fail);refine (rspanmay_any s _ hs).mono ?_;rintro e w1 ⟨rfl,hb1⟩;obtain ⟨hx,hy,hbw⟩:=box_2 (cs:=s.cells) (ds:=v.cells) hb1;clear hx hy hb1;(go_wp2_with fail);go_ret;exact ⟨by rw [← HR.out,holdsS,h1]; rfl,hbw⟩
 ·go_enter Tryz.func59,Tryz.ntmps59;(go_wp2_with fail);refine (rspanmay_any s _ hs).mono ?_;rintro e w1 ⟨rfl,hb1⟩;obtain ⟨hx,hy,hbw⟩:=box_2 (cs:=s.cells) (ds:=v.cells) hb1;obtain ⟨y0,y1,y2,y3,y4⟩:=hy.get5;clear hb1;(go_wp2_with fail);refine (vC v _ hv).mono ?_;rintro e w2 ⟨rfl,hb2⟩;have hx2:=hx.below hb2;have hy2:=hy.below hb2;have hbw2:=zC hbw hb2;clear y0 y1 y2 y3 y4 hx hy hbw hb2;cases h2:yF v
  ·(go_wp2_with fail);go_ret;exact ⟨by rw [← HR.out,holdsS,h1,h2]; rfl,hbw2⟩
  ·obtain ⟨⟨x0,x1,x2,x3,x4,x5,x6⟩,z0,z1,z2,z3,z4,z5,z6⟩:=hx2.get14;obtain ⟨y0,y1,y2,y3,y4⟩:=hy2.get5;clear z0 z1 z2 z3 z4 z5 z6;(go_wp2_with fail);refine (rahead_any s.fr v _ hs.1 hv).mono ?_;rintro e w3 ⟨rfl,hb3⟩;have hx3:=hx2.below hb3;have hy3:=hy2.below hb3;have hbw3:=zC hbw2 hb3;clear x0 x1 x2 x3 x4 x5 x6 y0 y1 y2 y3 y4 hx2 hy2 hbw2 hb3;cases h3:aheadC s.fr v
   ·(go_wp2_with fail);go_ret;exact ⟨by rw [← HR.out,holdsS,h1,h2,h3]; rfl,hbw3⟩
   ·obtain ⟨⟨x0,x1,x2,x3,x4,x5,x6⟩,z0,z1,z2,z3,z4,z5,z6⟩:=hx3.get14;obtain ⟨y0,y1,y2,y3,y4⟩:=hy3.get5;clear x0 x1 x2 x3 x4 x5 x6 hx3 hy3;(go_wp2_with fail);refine (rahead_any s.til v _ hs.2 hv).mono ?_;rintro e w4 ⟨rfl,hb4⟩;(go_wp2_with fail);go_ret;exact ⟨by rw [← HR.out,holdsS,h1,h2,h3]; rfl,zC hbw3 hb4⟩
theorem first_any (w:World):Calls Tryz.prog 61 #[] w (CutPost w rR):=by
 go_enter Tryz.func61,Tryz.ntmps61;go_wp2;refine bodyPost_ret (v:=rR.val) (by simp [results,Tryz.results61,go_sem,rR,xD]) rfl ⟨rfl,?_⟩;exact zL _ _
theorem last_any (w:World):Calls Tryz.prog 62 #[] w (CutPost w ig):=by
 go_enter Tryz.func62,Tryz.ntmps62;go_wp2;refine bodyPost_ret (v:=ig.val) (by simp [results,Tryz.results62,go_sem,ig,xD]) rfl ⟨rfl,?_⟩;exact zL _ _
structure BW (w:World) where
 v:World
 ok:Below w.heap.size w v
instance (w:World):Nonempty (BW w):=⟨⟨w,Below.refl _ _⟩⟩
theorem wp_region_below {P:Program} {id:Nat} {Q:Exit→Act→World→Prop} {a:Act} {w:World} {l:List Oper} (hm:P.follows .mixedOrders=true) (hB:Region.lexB .any l.toArray=true)
 (h:wpQuiet P l.toArray (fun w'=>∃ z:BW w,w'=z.v) (fun a'=>∀ w',(∃ z:BW w,w'=z.v)→Q .normal a' w') l a):(Code.region id l.toArray true).wp P Q a w :=
 wp_region_quiet (C:=fun w'=>∃ z:BW w,w'=z.v) hm hB ⟨⟨w.drew,(Below.refl _ _).drew⟩,rfl⟩ (by simpa using h)
theorem bw_cell (w:World) (z:BW w) (b o:Nat) (h:b < w.heap.size):z.v.cell? ⟨b,o,none⟩=w.cell? ⟨b,o,none⟩:=z.ok.cell (p:=⟨b,o,none⟩) h
theorem bw_bool {P:Program} {f:FuncId} {args:Array Value} {w:World} {z:BW w} {b:Bool} (h:Calls P f args z.v (yc z.v b)) :
 Calls P f args z.v fun e w''=>e = .returned (.bool b)∧∃ z':BW w,w''=z'.v:=h.mono fun _ w'' ⟨he,hb⟩=>⟨he,⟨w'',zC z.ok hb⟩,rfl⟩
theorem bw_int {P:Program} {f:FuncId} {args:Array Value} {w:World} {z:BW w} {n:Int} (h:Calls P f args z.v (sB z.v n)) :
 Calls P f args z.v fun e w''=>e = .returned (.int .i64 n)∧∃ z':BW w,w''=z'.v:=h.mono fun _ w'' ⟨he,hb⟩=>⟨he,⟨w'',zC z.ok hb⟩,rfl⟩
def rb (o:Oper):Bool:=match o.op with
 | .move _ | .assign _ | .pick _ _ _ | .build _ _ | .load _ _ | .binOp _ _ _ _ _ | .unOp _ _ _ | .convert _ _ _ | .fieldAddr _ _ _ | .field _ _ _ | .indexAddr _ _ _ | .index _ _ _ | .slice _ _ _ _ _ | .extract _ _ | .makeInterface _ _ | .nilCheck _=>true
 | .call c=>match c.callee with
  | .builtin .len=>true
  | _=>false
 | _=>false
theorem cj {P:Program} {w w':World} {n:Next} (s:Sem Value) (h:(do pure (Next.value (← s)):Sem Next).run P w = .ok n w'):∃ x,n = .value x:=by
 simp only [Sem.run_bind] at h;cases hs:s.run P w with
 | ok x w1 =>
  rw [hs] at h;simp only [Result.andThen_ok,Sem.run_pure] at h;(injection h with h1 h2);exact ⟨x,h1.symm⟩
 | halt x w1 =>
  rw [hs] at h;simp at h
theorem YE {P:Program} {w w':World} {n:Next} (s:Sem Bool) (f:Bool→Value) (h:(do pure (Next.value (f (← s))):Sem Next).run P w = .ok n w'):∃ x,n = .value x:=by
 simp only [Sem.run_bind] at h;cases hs:s.run P w with
 | ok x w1 =>
  rw [hs] at h;simp only [Result.andThen_ok,Sem.run_pure] at h;(injection h with h1 h2);exact ⟨f x,h1.symm⟩
 | halt x w1 =>
  rw [hs] at h;simp at h
theorem mP {P:Program} {w w':World} {n:Next} (h:(runtimePanic .nilDeref:Sem Next).run P w = .ok n w'):False:=by
 simp [runtimePanic] at h
theorem Xl {P:Program} {w':World} {n:Next} {v:Value} {r:Result (Option Bool)} {u:Unsupported} (h:(r.andThen fun a w'=>Sem.run P (if (a != some false)=true then (unsupported u >>= fun _:PUnit=>pure (Next.value v)) else pure (Next.value v)) w') = .ok n w'):∃ x,n = .value x:=by
 cases r with
 | halt x w1=>simp at h
 | ok x w1 =>
  simp only [Result.andThen_ok] at h;split at h
  ·simp at h
  ·simp only [Sem.run_pure] at h;(injection h with h1 h2);exact ⟨_,h1.symm⟩
theorem kG {P:Program} {o:Oper} {x:Operand} {ρ:Operand→Value} {w w':World} {n:Next} (hp:o.op = .nilCheck x) (h:(execOp ρ o).run P w = .ok n w'):∃ x,n = .value x:=by
 unfold execOp at h;simp only [hp] at h;split at h
 ·exact (mP h).elim
 ·exact (mP h).elim
 ·exact (mP h).elim
 ·split at h
  ·exact (mP h).elim
  ·simp only [Sem.run_bind,run_program,Result.andThen_ok] at h;exact Xl h
  ·simp only [Sem.run_pure] at h; injection h with h1 h2; exact ⟨_,h1.symm⟩
 ·simp only [Sem.run_pure] at h; injection h with h1 h2; exact ⟨_,h1.symm⟩
theorem ax {P:Program} {o:Oper} {ρ:Operand→Value} {w w':World} {n:Next} (hp:rb o=true) (h:(execOp ρ o).run P w = .ok n w'):∃ x,n = .value x:=by
 obtain ⟨dst,op,type,pos,after,guard⟩:=o
 cases op<;>first
  | (exfalso; simp only [rb,Bool.false_eq_true] at hp; done)
  | (simp only [execOp] at h; exact cj _ h)
  | (simp only [execOp,Sem.run_pure] at h; injection h with h1 h2; exact ⟨_,h1.symm⟩)
  | (rename_i c x y; simp only [execOp] at h; exact YE (asBool (ρ c)) (fun t=>if t=true then ρ x else ρ y) h)
  | exact kG rfl h
  | skip
 rename_i c
 obtain ⟨callee,args,ats⟩:=c
 cases callee<;>first
  | (exfalso; simp only [rb,Bool.false_eq_true] at hp; done)
  | skip
 rename_i b
 cases b<;>first
  | (exfalso; simp only [rb,Bool.false_eq_true] at hp; done)
  | skip
 simp only [execOp,resolve,invoke,builtin,Sem.run_bind,Sem.run_pure,Result.andThen_ok] at h;refine cj (P:=P) (w:=w) (w':=w') (Builtin.len_ ats type (args.map ρ)) ?_;simp only [Sem.run_bind,Sem.run_pure];exact h
theorem ie {P:Program} {o:Oper} {a:Act} {C:World→Prop} {w:World} {v:Value} (hp:rb o=true) (h:Oper.quietAt P o a C w v):(execOp a.eval o).run P w = .ok (.value v) w:=by
 unfold Oper.quietAt at h;cases hr:(execOp a.eval o).run P w with
 | halt x w'=>rw [hr] at h; exact h.elim
 | ok n w' =>
  obtain ⟨x,rfl⟩:=ax hp hr;rw [hr] at h;obtain ⟨rfl,rfl⟩:=h;rfl
inductive Plan where
 | last (seg:List Nat)
 | call (seg:List Nat) (k:Nat) (next:Plan)
 | two (seg:List Nat) (k l:Nat) (kl lk:Plan)
def V8:Oper:={ dst:=none,op := .move (.tmp 0),type:=0,pos:="",after:=#[],guard:=none }
def zB (ops:Array Oper) (l:List Nat):List Oper:=l.map fun i=>(ops[i]?).getD V8
def ru (md:Region.Mode) (ops:Array Oper) (f:Array Bool→Bool):List Nat→Array Bool→Bool
 | [],l=>f l
 | i::is,l=>(Region.ready md ops l).contains i&&(Region.free md ops l i&&(((ops[i]?).map rb).getD false&&ru md ops f is (l.setIfInBounds i true)))
def qH (md:Region.Mode) (ops:Array Oper):Plan→Array Bool→Bool
 | .last seg,l=>ru md ops (fun l=>(Region.ready md ops l).isEmpty) seg l
 | .call seg k next,l=>ru md ops (fun l=>(Region.ready md ops l==[k])&&qH md ops next (l.setIfInBounds k true)) seg l
 | .two seg k m p q,l=>ru md ops (fun l=>(Region.ready md ops l==[k,m])&&(qH md ops p (l.setIfInBounds k true)&&qH md ops q (l.setIfInBounds m true))) seg l
def xG:Plan→Nat
 | .last seg=>seg.length
 | .call seg _ next=>seg.length+(xG next+1)
 | .two seg _ _ p q=>seg.length+(max (xG p) (xG q)+1)
section
variable {P:Program} {ops:Array Oper} {Q:Exit→Act→World→Prop} {md:Region.Mode}
def l8 (S:World→Prop) (next:Act→World→Prop) (Q:Exit→Act→World→Prop):Exit→Act→World→Prop
 | .normal,a,w=>S w∧next a w
 | e,a,w=>Q e a w
def wg (P:Program) (ops:Array Oper) (C:World→World→Prop) (Q:Exit→Act→World→Prop):Plan→World→Act→World→Prop
 | .last seg,c,a,w=>wpQuiet P ops (C c) (fun a'=>Q .normal a' w) (zB ops seg) a
 | .call seg k next,c,a,w=>wpQuiet P ops (C c) (fun a'=>wpList P ops (l8 (C c) (fun a'' w'=>wg P ops C Q next w' a'' w') Q) (zB ops [k]) a' w) (zB ops seg) a
 | .two seg k l p q,c,a,w=>wpQuiet P ops (C c) (fun a'=>wpList P ops (l8 (C c) (fun a'' w'=>wg P ops C Q p w' a'' w') Q) (zB ops [k]) a' w ∧
  wpList P ops (l8 (C c) (fun a'' w'=>wg P ops C Q q w' a'' w') Q) (zB ops [l]) a' w) (zB ops seg) a
theorem so {S S':World→Prop} (hS:∀ w,S' w→S w):∀ (fuel:Nat) (l:Array Bool) (a:Act) (w:World),wpAnyH P md ops Q S' fuel l a w→wpAnyH P md ops Q S fuel l a w
 | 0,_,_,_,h=>h
 | fuel+1,_,_,_,h=>⟨h.1,fun i hi=>wpOp_mono (fun a' w' h'=>⟨hS _ h'.1,so hS fuel _ a' w' h'.2⟩) (h.2 i hi)⟩
theorem sh {S:World→Prop} {f:Array Bool→Bool} {T:Act→Prop} (hs:Region.noSelect ops=true) (hQ:∀ c a d v w,Q (.panic c) (Act.put a d v) w→Q (.panic c) a w) (fuel:Nat) {w:World} (hS:S w)
 (hT:∀ l a,f l=true→T a→wpAnyH P md ops Q S fuel l a w):∀ (seg:List Nat) (l:Array Bool) (a:Act),ru md ops f seg l=true→wpQuiet P ops S T (zB ops seg) a→wpAnyH P md ops Q S (seg.length+fuel) l a w
 | [],l,a,hf,h=>by
  simp only [List.length_nil,Nat.zero_add];exact hT l a hf h
 | i::is,l,a,hf,h=>by
  simp only [ru,Bool.and_eq_true] at hf;obtain ⟨hr,hfr,hp,hrest⟩:=hf
  obtain ⟨o,ho⟩:∃ o,ops[i]?=some o:=by
   have:=(mem_ready.1 (by simpa using hr:i∈Region.ready md ops l)).2;exact ⟨this.choose,this.choose_spec.1⟩
  rw [ho] at hp;(have e:zB ops (i::is)=o::zB ops is:=by simp [zB,ho]);rw [e] at h;(have hlen:(i::is).length+fuel=(is.length+fuel)+1:=by simp only [List.length_cons]; omega);rw [hlen];unfold wpQuiet at h;by_cases hw:Region.wanted o (yielded ops a.tmps)=true
  ·rw [if_pos hw] at h;obtain ⟨v,hv,hk⟩:=h;exact wpAnyH_take ho hs hfr hr (fun c a w=>hQ c a _ _ w) (.inl ⟨hw,fun w' hw'=>ie hp (hv w' hw')⟩) hS (sh hs hQ fuel hS hT is _ _ hrest hk)
  ·rw [if_neg hw] at h;exact wpAnyH_take ho hs hfr hr (fun c a w=>hQ c a _ _ w) (.inr ⟨by simpa using hw,rfl⟩) hS (sh hs hQ fuel hS hT is _ _ hrest h)
theorem bF {K:Exit→Act→World→Prop} {k:Nat} {a:Act} {w:World} {o:Oper} (hk:ops[k]?=some o) (hc:∀ c a w,K (.panic c) a w=Q (.panic c) a w) (ho:∀ a w,K .outgrown a w=Q .outgrown a w) (h:wpList P ops K (zB ops [k]) a w):wpOp P ops Q k (K .normal) a w:=by
 unfold wpOp;simp only [hk];simp only [zB,List.map_cons,hk,List.map_nil,Option.getD_some] at h;unfold wpList at h;by_cases hw:Region.wanted o (yielded ops a.tmps)=true
 ·rw [if_pos hw] at h ⊢;rcases h with h | ⟨h1,h2⟩
  ·left;unfold Oper.wp at *;generalize (execOp a.eval o).run P w=r at *;cases r with
   | ok n w' =>
    cases n<;>simp only [Oper.upon] at h ⊢<;>first
     | exact h
     | (refine Calls.mono h fun e w'' he=>?_
        cases e with
        | returned v=>exact he
        | panicked c=>simp only [hc] at he; exact he
        | outgrown =>
         obtain ⟨a1,w1,h1⟩:=he
         rw [ho] at h1
         exact ⟨a1,w1,h1⟩)
     | exact Rows.mono h fun _ _ he=>he
   | halt x w' =>
    cases x<;>simp only [Oper.upon] at h ⊢<;>first
     | exact h
     | (rw [hc] at h; exact h)
  ·right;obtain ⟨a1,w1,h2⟩:=h2;rw [ho] at h2;exact ⟨h1,a1,w1,h2⟩
 ·rw [if_neg hw] at h ⊢;exact h
theorem sW {C:World→World→Prop} (ht:∀ c w u,C c w→C w u→C c u) (hrf:∀ c w,C c w→C w w) (hs:Region.noSelect ops=true) (hQ:∀ c a d v w,Q (.panic c) (Act.put a d v) w→Q (.panic c) a w) :
 ∀ (p:Plan) (c:World) (l:Array Bool) (a:Act) (w:World) (fuel:Nat),qH md ops p l=true→xG p≤fuel→C c w→wg P ops C Q p c a w→wpAnyH P md ops Q (C c) fuel l a w
 | .last seg,c,l,a,w,fuel,hp,hf,hc,h=>by
  obtain ⟨m,rfl⟩:∃ m,fuel=seg.length+m:=⟨fuel - seg.length,by simp only [xG] at hf; omega⟩;exact sh hs hQ m hc (fun l' a' hl ha=>wpAnyH_done (by simpa using hl) ha m) seg l a hp h
 | .call seg k next,c,l,a,w,fuel,hp,hf,hc,h=>by
  obtain ⟨m,rfl⟩:∃ m,fuel=seg.length+(m+1):=⟨fuel - seg.length - 1,by simp only [xG] at hf; omega⟩;refine sh hs hQ (m+1) hc (fun l' a' hl ha=>?_) seg l a hp h;simp only [Bool.and_eq_true,beq_iff_eq] at hl;refine wpAnyH_all hl.1 (by simp) (fun i hi=>?_);(obtain rfl:i=k:=by simpa using hi);obtain ⟨o,ho,-⟩:=(mem_ready.1 (show i∈Region.ready md ops l' by rw [hl.1]; exact hi)).2;refine wpOp_mono (fun a2 w2 h2=>⟨h2.1,?_⟩) (bF (Q:=Q) ho (by intros; rfl) (by intros; rfl) ha);exact so (fun u hu=>ht c w2 u h2.1 hu) m _ _ _ (sW ht hrf hs hQ next w2 _ a2 w2 m hl.2 (by simp only [xG] at hf; omega) (hrf _ _ h2.1) h2.2)
 | .two seg k k2 p q,c,l,a,w,fuel,hp,hf,hc,h=>by
  obtain ⟨m,rfl⟩:∃ m,fuel=seg.length+(m+1):=⟨fuel - seg.length - 1,by simp only [xG] at hf; omega⟩;refine sh hs hQ (m+1) hc (fun l' a' hl ha=>?_) seg l a hp h;simp only [Bool.and_eq_true,beq_iff_eq] at hl;refine wpAnyH_all hl.1 (by simp) (fun i hi=>?_);obtain ⟨o,ho,-⟩:=(mem_ready.1 (show i∈Region.ready md ops l' by rw [hl.1]; exact hi)).2;(have hi2:i=k∨i=k2:=by simpa using hi);rcases hi2 with rfl | rfl
  ·refine wpOp_mono (fun a2 w2 h2=>⟨h2.1,?_⟩) (bF (Q:=Q) ho (by intros; rfl) (by intros; rfl) ha.1);exact so (fun u hu=>ht c w2 u h2.1 hu) m _ _ _ (sW ht hrf hs hQ p w2 _ a2 w2 m hl.2.1 (by simp only [xG] at hf; omega) (hrf _ _ h2.1) h2.2)
  ·refine wpOp_mono (fun a2 w2 h2=>⟨h2.1,?_⟩) (bF (Q:=Q) ho (by intros; rfl) (by intros; rfl) ha.2);exact so (fun u hu=>ht c w2 u h2.1 hu) m _ _ _ (sW ht hrf hs hQ q w2 _ a2 w2 m hl.2.2 (by simp only [xG] at hf; omega) (hrf _ _ h2.1) h2.2)
theorem t8 (C:World→World→Prop) (ht:∀ c w u,C c w→C w u→C c u) (hrf:∀ c w,C c w→C w w) (p:Plan) {id:Nat} {a:Act} {w:World} (h0:C w w.drew) (hm:P.follows .mixedOrders=true)
 (hQ:∀ c a d v w,Q (.panic c) (Act.put a d v) w→Q (.panic c) a w) (hP:(Region.noSelect ops&&qH .any ops p (Array.replicate ops.size false)&&decide (xG p≤ops.size))=true)
 (h:wg P ops C Q p w a w.drew):(Code.region id ops true).wp P Q a w:=by
 simp only [Bool.and_eq_true,decide_eq_true_eq] at hP
 exact wp_region_held (S:=C w) hm (sW ht hrf hP.1.1 hQ p w _ a _ ops.size hP.1.2 hP.2 h0 h)
end
def Grown (c u:World):Prop:=∃ z:BW c,u=z.v
theorem me {c u:World} (h:Below c.heap.size c u):∃ z:BW c,u=z.v:=⟨⟨u,h⟩,rfl⟩
theorem Grown.out {c u:World} (h:Grown c u):Below c.heap.size c u:=by
 obtain ⟨z,rfl⟩:=h;exact z.ok
theorem lH {P:Program} {ops:Array Oper} {Q:Exit→Act→World→Prop} (p:Plan) {id:Nat} {a:Act} {w:World} (hm:P.follows .mixedOrders=true)
 (hQ:∀ c a d v w,Q (.panic c) (Act.put a d v) w→Q (.panic c) a w) (hP:(Region.noSelect ops&&qH .any ops p (Array.replicate ops.size false)&&decide (xG p≤ops.size))=true)
 (h:wg P ops (fun c u=>∃ z:BW c,u=z.v) Q p w a w.drew):(Code.region id ops true).wp P Q a w :=
 t8 (fun c u=>∃ z:BW c,u=z.v) (fun c w u h k=>me (zC (Grown.out h) (Grown.out k))) (fun c w h=>me (Below.refl _ _)) p (me (Below.refl _ _).drew) hm hQ hP h
theorem zD {P:Program} {ops:Array Oper} {C:World→World→Prop} {Q:Exit→Act→World→Prop} {seg:List Nat} {k:Nat} {next:Plan} {c w:World} {a:Act}
 (h:wpQuiet P ops (C c) (fun a'=>wpList P ops (l8 (C c) (fun a'' w'=>wg P ops C Q next w' a'' w') Q) (zB ops [k]) a' w) (zB ops seg) a):wg P ops C Q (.call seg k next) c a w:=h
theorem uh {P:Program} {ops:Array Oper} {C:World→World→Prop} {Q:Exit→Act→World→Prop} {seg:List Nat} {k l:Nat} {p q:Plan} {c w:World} {a:Act}
 (h:wpQuiet P ops (C c) (fun a'=>wpList P ops (l8 (C c) (fun a'' w'=>wg P ops C Q p w' a'' w') Q) (zB ops [k]) a' w∧wpList P ops (l8 (C c) (fun a'' w'=>wg P ops C Q q w' a'' w') Q) (zB ops [l]) a' w) (zB ops seg) a) :
 wg P ops C Q (.two seg k l p q) c a w:=h
theorem zJ {P:Program} {ops:Array Oper} {C:World→World→Prop} {Q:Exit→Act→World→Prop} {seg:List Nat} {c w:World} {a:Act}
 (h:wpQuiet P ops (C c) (fun a'=>Q .normal a' w) (zB ops seg) a):wg P ops C Q (.last seg) c a w:=h
theorem ul {P:Program} {ops:Array Oper} {Q:Exit→Act→World→Prop} {p:Plan} {c w:World} {a:Act} (h1:Below c.heap.size c w) (h2:wg P ops (fun c u=>∃ z:BW c,u=z.v) Q p w a w) :
 l8 (fun u=>∃ z:BW c,u=z.v) (fun a'' w'=>wg P ops (fun c u=>∃ z:BW c,u=z.v) Q p w' a'' w') Q .normal a w:=⟨⟨⟨w,h1⟩,rfl⟩,h2⟩
structure SW (S:World→Prop) where
 v:World
 ok:S v
theorem YQ {P:Program} {ops:Array Oper} {Q:Exit→Act→World→Prop} (S:World→Prop) (p:Plan) {id:Nat} {a:Act} {w:World} (h0:S w.drew) (hm:P.follows .mixedOrders=true)
 (hQ:∀ c a d v w,Q (.panic c) (Act.put a d v) w→Q (.panic c) a w) (hP:(Region.noSelect ops&&qH .any ops p (Array.replicate ops.size false)&&decide (xG p≤ops.size))=true)
 (h:wg P ops (fun _ u=>∃ z:SW S,u=z.v) Q p w a w.drew):(Code.region id ops true).wp P Q a w :=
 t8 (fun _ u=>∃ z:SW S,u=z.v) (fun _ _ _ _ k=>k) (fun _ _ h=>h) p ⟨⟨_,h0⟩,rfl⟩ hm hQ hP h
theorem wpS {P:Program} {ops:Array Oper} {Q:Exit→Act→World→Prop} (S:World→Prop) (p:Plan) {id:Nat} {a:Act} {w:World} (h:Nonempty (SW S)→wg P ops (fun _ u=>∃ z:SW S,u=z.v) Q p w a w.drew) (h0:S w.drew:=by assumption) (hm:P.follows .mixedOrders=true:=by kernel_rfl)
 (hQ:∀ c a d v w,Q (.panic c) (Act.put a d v) w→Q (.panic c) a w:=by intro _ _ d _ _ h; cases d<;>exact h) (hP:(Region.noSelect ops&&qH .any ops p (Array.replicate ops.size false)&&decide (xG p≤ops.size))=true:=by kernel_rfl):(Code.region id ops true).wp P Q a w:=YQ S p h0 hm hQ hP (h ⟨⟨_,h0⟩⟩)
theorem pka:type_of% @List.map_cons:=@List.map_cons
theorem pkb:type_of% @List.map_nil:=@List.map_nil
theorem pkc:type_of% @List.getElem?_toArray:=@List.getElem?_toArray
theorem pkd:type_of% @List.getElem?_cons_zero:=@List.getElem?_cons_zero
theorem pke:type_of% @List.getElem?_cons_succ:=@List.getElem?_cons_succ
theorem pkf:type_of% @Option.getD_some:=@Option.getD_some
theorem zE {P:Program} {ops:Array Oper} {Q:Exit→Act→World→Prop} {S:World→Prop} {p:Plan} {w:World} {a:Act} (h1:S w) (h2:wg P ops (fun _ u=>∃ z:SW S,u=z.v) Q p w a w) :
 l8 (fun u=>∃ z:SW S,u=z.v) (fun a'' w'=>wg P ops (fun _ u=>∃ z:SW S,u=z.v) Q p w' a'' w') Q .normal a w:=⟨⟨⟨w,h1⟩,rfl⟩,h2⟩
instance:Inhabited SpanL:=⟨⟨rR,ig⟩⟩
def nth (l:List SpanL) (i:Nat):SpanL:=l.getD i default
theorem nth_lt {l:List SpanL} {i:Nat} (h:i < l.length):nth l i=l[i]:=by simp [nth,h]
def Spans (w:World) (A:Option Addr) (l:List SpanL):Prop :=
 l=[]∨∃ b off,A=some ⟨b,off,none⟩∧b < w.heap.size∧∀ i,i < l.length→∀ j u,(nth l i).cells[j]?=some u→w.cell? ⟨b,off+i * 14+j,none⟩=some u
theorem Spans.below {w w':World} {A:Option Addr} {l:List SpanL} (h:Spans w A l) (hb:Below w.heap.size w w'):Spans w' A l:=by
 rcases h with h | ⟨b,off,rfl,hlt,hc⟩
 ·exact .inl h
 ·exact .inr ⟨b,off,rfl,Nat.lt_of_lt_of_le hlt hb.size,fun i hi j u hj=>(hb.cell (p:=⟨b,_,none⟩) hlt).trans (hc i hi j u hj)⟩
theorem Spans.nil {w:World} {A:Option Addr}:Spans w A [] := .inl rfl
def Row7 (w:World) (b o:Nat) (c:CutL):Prop:=w.cell? ⟨b,o,none⟩=some (.int .i64 c.en)∧w.cell? ⟨b,o+1,none⟩=some (.int .i64 c.v.maj)∧w.cell? ⟨b,o+2,none⟩=some (.int .i64 c.v.min)∧w.cell? ⟨b,o+3,none⟩=some (.int .i64 c.v.pat)∧w.cell? ⟨b,o+4,none⟩=some (.string c.v.pre)∧w.cell? ⟨b,o+5,none⟩=some (.string c.v.bld)∧w.cell? ⟨b,o+6,none⟩=some (.bool c.aft)
theorem Row7.below {w w':World} {b o:Nat} {c:CutL} (h:Row7 w b o c) (hlt:b < w.heap.size) (hb:Below w.heap.size w w'):Row7 w' b o c:=by
 obtain ⟨h0,h1,h2,h3,h4,h5,h6⟩:=h;(have e:∀ q,w'.cell? ⟨b,q,none⟩=w.cell? ⟨b,q,none⟩:=fun q=>hb.cell (p:=⟨b,q,none⟩) hlt);exact ⟨(e _).trans h0,(e _).trans h1,(e _).trans h2,(e _).trans h3,(e _).trans h4,(e _).trans h5,(e _).trans h6⟩
theorem Spans.at_ {w:World} {A:Option Addr} {l:List SpanL} {k:Nat} (h:Spans w A l) (hk:k < l.length) :
 ∃ b off,A=some ⟨b,off,none⟩∧b < w.heap.size∧Row7 w b (off+k * 14) (nth l k).fr∧Row7 w b (off+k * 14+7) (nth l k).til:=by
 rcases h with h | ⟨b,off,rfl,hlt,hc⟩
 ·subst h; simp at hk
 ·have h:=hc k hk;exact ⟨b,off,rfl,hlt,⟨h 0 _ rfl,h 1 _ rfl,h 2 _ rfl,h 3 _ rfl,h 4 _ rfl,h 5 _ rfl,h 6 _ rfl⟩,⟨h 7 _ rfl,h 8 _ rfl,h 9 _ rfl,h 10 _ rfl,h 11 _ rfl,h 12 _ rfl,h 13 _ rfl⟩⟩
theorem Spans.lay {w:World} {b off:Nat} {l:List SpanL} {k:Nat} (h:Spans w (some ⟨b,off,none⟩) l) (hk:k < l.length) :
 b < w.heap.size∧Row7 w b (off+k * 14) (nth l k).fr∧Row7 w b (off+k * 14+7) (nth l k).til:=by
 obtain ⟨b',off',e,h1,h2,h3⟩:=h.at_ hk
 injection e with e
 injection e with e1 e2 e3
 subst e1; subst e2
 exact ⟨h1,h2,h3⟩
def fitL (l:List SpanL):Prop:=∀ i,i < l.length→(nth l i).fit
theorem Tryz.info111:(Tryz.prog.info? 111).map (fun i=>(i.zero,i.size,i.bytes))=some (some (SpanL.val ⟨⟨0,xD,false⟩,⟨0,xD,false⟩⟩),14,144):=by kernel_rfl
def mayTo (l:List SpanL) (k:Nat):Prop:=∀ j,j < k→iJ (nth l j)=true∧(0 < j→Xc (nth l (j - 1)).til (nth l j).fr < 0)
def mayAt (l:List SpanL) (j:Nat):Bool:=iJ (nth l j)&&(decide (j=0) || decide (Xc (nth l (j - 1)).til (nth l j).fr < 0))
def mayR (l:List SpanL):Bool:=(List.range l.length).all (mayAt l)
theorem mayR_true {l:List SpanL} (h:mayTo l l.length):mayR l=true:=by
 rw [mayR,List.all_eq_true];intro j hj;have:=h j (List.mem_range.1 hj);rw [mayAt,this.1];by_cases h0:j=0
 ·simp [h0]
 ·have:=this.2 (by omega); simp [this]
theorem mayR_iff {l:List SpanL}:mayR l=true↔mayTo l l.length:=by
 refine ⟨fun h j hj=>?_,mayR_true⟩;rw [mayR,List.all_eq_true] at h;have:=h j (List.mem_range.2 hj);rw [mayAt,Bool.and_eq_true,Bool.or_eq_true,decide_eq_true_eq,decide_eq_true_eq] at this;exact ⟨this.1,fun h0=>this.2.resolve_left (by omega)⟩
theorem mayR_no1 {l:List SpanL} {k:Nat} (hk:k < l.length) (h:iJ (nth l k)=false):mayR l=false:=by
 rw [Bool.eq_false_iff]; intro e;have:=(mayR_iff.1 e k hk).1;rw [h] at this; cases this
theorem mayR_no2 {l:List SpanL} {k:Nat} (hk:k < l.length) (h0:0 < k) (h:0≤Xc (nth l (k - 1)).til (nth l k).fr):mayR l=false:=by
 rw [Bool.eq_false_iff]; intro e;have:=(mayR_iff.1 e k hk).2 h0;omega
theorem mayTo_step {l:List SpanL} {k:Nat} (h:mayTo l k) (h1:iJ (nth l k)=true) (h2:0 < k→Xc (nth l (k - 1)).til (nth l k).fr < 0):mayTo l (k+1):=by
 intro j hj;rcases Nat.lt_or_ge j k with h' | h'
 ·exact h j h'
 ·(obtain rfl:j=k:=by omega);exact ⟨h1,h2⟩
theorem rowmay_any (A:Option Addr) (c:Nat) (l:List SpanL) (w:World) (hl:Spans w A l) (hf:fitL l) (hln:l.length≤4398046511104):Calls Tryz.prog 93 #[.slice A l.length c] w (yc w (mayR l)):=by
 generalize hr:mayR l=r;have HR:=hid hr;clear hr;have HL:=hid hl;have HF:=hid hf;clear hl hf;generalize hn:l.length=n at *;have HN:=hid hn;clear hn;go_enter Tryz.func93,Tryz.ntmps93;(go_wp2_with fail);go_loopw [3,4,7] (fun i0 t i wr=>∃ k:Nat,i = .int .i64 k∧k≤n∧Hid (Spans wr A l)∧Hid (mayTo l k)∧Below w.heap.size w wr) (fun _ _ i _=>n - (intOf i).toNat)
 case atStart=>exact ⟨0,rfl,Nat.zero_le _,HL,fun j hj=>by omega,Below.refl _ _⟩
 case round =>
  obtain ⟨k,rfl,hk,HS,HM,hbr⟩:=hrel;by_cases hlt:k < n
  ·(have hlt':k < l.length:=by rw [HN.out]; exact hlt);obtain ⟨b,off,rfl,hbl,⟨x0,x1,x2,x3,x4,x5,x6⟩,z0,z1,z2,z3,z4,z5,z6⟩:=HS.out.at_ (k:=k) hlt';(have i0:(0:Int)≤(k:Int):=by omega);(have i1:(k:Int) < (n:Int):=by omega);have hfk:=HF.out k hlt';generalize hsk:nth l k=s at *;have HK:=hid hsk;clear hsk;have hB:=hid (Box.new wr s.cells 111);have hbn:=hid (zL wr (.cells s.cells.toArray 111));cases hsm:iJ s
   ·have HE:=hid (mayR_no1 hlt' (by rw [HK.out]; exact hsm));(go_wp2_with fail);have hbw:=bw_cell;refine wp_region_below (by kernel_rfl) (by kernel_rfl) ?_;(repeat (go_big_quiet_step ((go_at_call 140; exact bw_bool (spanmay_any s _ hfk)))));refine wpQuiet_nil ?_;rintro _ ⟨z,rfl⟩;(go_wp2_with fail);go_ret;exact ⟨by rw [← HR.out,HE.out]; rfl,zC hbr (zC hbn.out z.ok)⟩
   ·by_cases h0:k=0
    ·subst h0;simp only [Nat.zero_mul,Nat.add_zero] at x0 x1 x2 x3 x4 x5 x6 z0 z1 z2 z3 z4 z5 z6;(go_wp2_with fail);clear x0 x1 x2 x3 x4 x5 x6 z0 z1 z2 z3 z4 z5 z6;have hbw:=bw_cell;refine wp_region_below (by kernel_rfl) (by kernel_rfl) ?_;(repeat (go_big_quiet_step ((go_at_call 140; exact bw_bool (spanmay_any s _ hfk)))));refine wpQuiet_nil ?_;rintro _ ⟨z,rfl⟩;clear hbw;(go_wp2_with fail);go_roundw
     case rel=>exact ⟨1,by go_num,by omega,HS.out.below (zC hbn.out z.ok),mayTo_step HM.out (by rw [HK.out]; exact hsm) (fun h=>by omega),zC hbr (zC hbn.out z.ok)⟩
     case measure=>simp [intOf]; omega
    ·obtain ⟨m,rfl⟩:∃ m,k=m+1:=⟨k - 1,by omega⟩;obtain ⟨_,_,t0,t1,t2,t3,t4,t5,t6⟩:=HS.out.lay (k:=m) (by omega);have hfm:=HF.out m (by omega);(have j0:(0:Int)≤(m:Int):=by omega);(have j1:(m:Int) < (n:Int):=by omega);generalize hpm:nth l m=p at *;have HP:=hid hpm;clear hpm h0;cases hlt2:decide (0≤Xc p.til s.fr)
     ·have HC:=hid (show Xc p.til s.fr < 0 by simpa using hlt2);(go_wp2_with fail);clear x0 x1 x2 x3 x4 x5 x6 z0 z1 z2 z3 z4 z5 z6;have hbw:=bw_cell;refine wp_region_below (by kernel_rfl) (by kernel_rfl) ?_;(repeat (go_big_quiet_step (first | (go_at_call 140; exact bw_bool (spanmay_any s _ hfk)) | (go_at_call 94; exact bw_int (ccompare_any p.til s.fr _ hfm.2 hfk.1)))));refine wpQuiet_nil ?_;rintro _ ⟨z,rfl⟩;clear hbw;(go_wp2_with fail);go_roundw
      case rel=>exact ⟨m+1+1,by go_num,by omega,HS.out.below (zC hbn.out z.ok),mayTo_step HM.out (by rw [HK.out]; exact hsm) (fun _=>by rw [Nat.add_sub_cancel,HP.out,HK.out]; exact HC.out),zC hbr (zC hbn.out z.ok)⟩
      case measure=>simp [intOf]; omega
     ·have HE:=hid (mayR_no2 hlt' (by omega) (by rw [Nat.add_sub_cancel,HP.out,HK.out]; simpa using hlt2));(go_wp2_with fail);clear x0 x1 x2 x3 x4 x5 x6 z0 z1 z2 z3 z4 z5 z6;have hbw:=bw_cell;refine wp_region_below (by kernel_rfl) (by kernel_rfl) ?_;(repeat (go_big_quiet_step (first | (go_at_call 140; exact bw_bool (spanmay_any s _ hfk)) | (go_at_call 94; exact bw_int (ccompare_any p.til s.fr _ hfm.2 hfk.1)))));refine wpQuiet_nil ?_;rintro _ ⟨z,rfl⟩;clear hbw;(go_wp2_with fail);go_ret;exact ⟨by rw [← HR.out,HE.out]; rfl,zC hbr (zC hbn.out z.ok)⟩
  ·(obtain rfl:k=n:=by omega);(go_wp2_with fail);go_ret;exact ⟨by rw [← HR.out,mayR_true (by rw [HN.out]; exact HM.out)]; rfl,hbr⟩
theorem rrowmay_any (A:Option Addr) (c:Nat) (l:List SpanL) (w:World) (hl:Spans w A l) (hf:fitL l) (hln:l.length≤4398046511104):Calls Tryz.prog 55 #[.slice A l.length c] w (yc w (mayR l)):=by
 generalize hr:mayR l=r;have HR:=hid hr;clear hr;have HL:=hid hl;have HF:=hid hf;clear hl hf;generalize hn:l.length=n at *;have HN:=hid hn;clear hn;go_enter Tryz.func55,Tryz.ntmps55;(go_wp2_with fail);go_loopw [3] (fun i wr=>∃ k:Nat,i = .int .i64 k∧k≤n∧Hid (Spans wr A l)∧Hid (mayTo l k)∧Below w.heap.size w wr) (fun i _=>n - (intOf i).toNat)
 case atStart=>exact ⟨0,rfl,Nat.zero_le _,HL,fun j hj=>by omega,Below.refl _ _⟩
 case round =>
  obtain ⟨k,rfl,hk,HS,HM,hbr⟩:=hrel;by_cases hlt:k < n
  ·(have hlt':k < l.length:=by rw [HN.out]; exact hlt);obtain ⟨b,off,rfl,hbl,⟨x0,x1,x2,x3,x4,x5,x6⟩,z0,z1,z2,z3,z4,z5,z6⟩:=HS.out.at_ (k:=k) hlt';(have i0:(0:Int)≤(k:Int):=by omega);(have i1:(k:Int) < (n:Int):=by omega);have hfk:=HF.out k hlt';generalize hsk:nth l k=s at *;have HK:=hid hsk;clear hsk;cases hsm:iJ s
   ·have HE:=hid (mayR_no1 hlt' (by rw [HK.out]; exact hsm));(go_wp2_with fail);have hbw:=bw_cell;refine wp_region_below (by kernel_rfl) (by kernel_rfl) ?_;(repeat (go_big_quiet_step ((go_at_call 95; exact bw_bool (rspanmay_any s _ hfk)))));refine wpQuiet_nil ?_;rintro _ ⟨z,rfl⟩;clear hbw;(go_wp2_with fail);go_ret;exact ⟨by rw [← HR.out,HE.out]; rfl,zC hbr z.ok⟩
   ·by_cases h0:k=0
    ·subst h0;simp only [Nat.zero_mul,Nat.add_zero] at x0 x1 x2 x3 x4 x5 x6 z0 z1 z2 z3 z4 z5 z6;(go_wp2_with fail);have hbw:=bw_cell;refine wp_region_below (by kernel_rfl) (by kernel_rfl) ?_;(repeat (go_big_quiet_step ((go_at_call 95; exact bw_bool (rspanmay_any s _ hfk)))));refine wpQuiet_nil ?_;rintro _ ⟨z,rfl⟩;clear hbw;(go_wp2_with fail);go_roundw
     case rel=>exact ⟨1,by go_num,by omega,HS.out.below z.ok,mayTo_step HM.out (by rw [HK.out]; exact hsm) (fun h=>by omega),zC hbr z.ok⟩
     case measure=>simp [intOf]; omega
    ·obtain ⟨m,rfl⟩:∃ m,k=m+1:=⟨k - 1,by omega⟩;obtain ⟨_,_,t0,t1,t2,t3,t4,t5,t6⟩:=HS.out.lay (k:=m) (by omega);have hfm:=HF.out m (by omega);(have j0:(0:Int)≤(m:Int):=by omega);(have j1:(m:Int) < (n:Int):=by omega);generalize hpm:nth l m=p at *;have HP:=hid hpm;clear hpm h0;cases hlt2:decide (0≤Xc p.til s.fr)
     ·have HC:=hid (show Xc p.til s.fr < 0 by simpa using hlt2);(go_wp2_with fail);have hbw:=bw_cell;refine wp_region_below (by kernel_rfl) (by kernel_rfl) ?_;(repeat (go_big_quiet_step (first | (go_at_call 95; exact bw_bool (rspanmay_any s _ hfk)) | (go_at_call 96; exact bw_int (rccompare_any p.til s.fr _ hfm.2 hfk.1)))));refine wpQuiet_nil ?_;rintro _ ⟨z,rfl⟩;clear hbw;(go_wp2_with fail);go_roundw
      case rel=>exact ⟨m+1+1,by go_num,by omega,HS.out.below z.ok,mayTo_step HM.out (by rw [HK.out]; exact hsm) (fun _=>by rw [Nat.add_sub_cancel,HP.out,HK.out]; exact HC.out),zC hbr z.ok⟩
      case measure=>simp [intOf]; omega
     ·have HE:=hid (mayR_no2 hlt' (by omega) (by rw [Nat.add_sub_cancel,HP.out,HK.out]; simpa using hlt2));(go_wp2_with fail);have hbw:=bw_cell;refine wp_region_below (by kernel_rfl) (by kernel_rfl) ?_;(repeat (go_big_quiet_step (first | (go_at_call 95; exact bw_bool (rspanmay_any s _ hfk)) | (go_at_call 96; exact bw_int (rccompare_any p.til s.fr _ hfm.2 hfk.1)))));refine wpQuiet_nil ?_;rintro _ ⟨z,rfl⟩;clear hbw;(go_wp2_with fail);go_ret;exact ⟨by rw [← HR.out,HE.out]; rfl,zC hbr z.ok⟩
  ·(obtain rfl:k=n:=by omega);(go_wp2_with fail);go_ret;exact ⟨by rw [← HR.out,mayR_true (by rw [HN.out]; exact HM.out)]; rfl,hbr⟩
def anyTo (p:SpanL→Bool) (l:List SpanL) (k:Nat):Prop:=∀ j,j < k→p (nth l j)=false
theorem anyTo_end {p:SpanL→Bool} {l:List SpanL} (h:anyTo p l l.length):l.any p=false:=by
 rw [List.any_eq_false];intro x hx;obtain ⟨i,hi,rfl⟩:=List.getElem_of_mem hx;have:=h i hi;rw [nth_lt hi] at this;simp [this]
theorem any_at {p:SpanL→Bool} {l:List SpanL} {k:Nat} (hk:k < l.length) (h:p (nth l k)=true):l.any p=true:=by
 rw [List.any_eq_true]; rw [nth_lt hk] at h; exact ⟨_,List.getElem_mem hk,h⟩
theorem anyTo_step {p:SpanL→Bool} {l:List SpanL} {k:Nat} (h:anyTo p l k) (h1:p (nth l k)=false):anyTo p l (k+1):=by
 intro j hj;rcases Nat.lt_or_ge j k with h' | h'
 ·exact h j h'
 ·(obtain rfl:j=k:=by omega);exact h1
def hasR (l:List SpanL) (v:Ver):Bool:=mayR l&&l.any fun s=>holdsS s v
theorem rrowhas_any (A:Option Addr) (c:Nat) (l:List SpanL) (v:Ver) (w:World) (hl:Spans w A l) (hf:fitL l) (hln:l.length≤4398046511104) (hv:v.fit):Calls Tryz.prog 37 #[.slice A l.length c,v.val] w (yc w (hasR l v)):=by
 generalize hr:hasR l v=r;have HR:=hid hr;clear hr;have HF:=hid hf;have HLB:=hid (hl.below (zL w (.cells v.cells.toArray 27)));have HBX:=hid (Box.new w v.cells 27);have hbn:=hid (zL w (.cells v.cells.toArray 27));(have hmay:=fun (wx:World) (B:Option Addr) (h:Spans wx B l)=>rrowmay_any B c l wx h hf hln);clear hl hf;generalize hn:l.length=n at *;have HN:=hid hn;have HMAY:=hid hmay;clear hn hmay;go_enter Tryz.func37,Tryz.ntmps37;(go_wp2_with fail);go_loopw [5] (fun i wr=>∃ k:Nat,i = .int .i64 k∧k≤n∧Hid (Spans wr A l)∧Hid (Box wr w.heap.size v.cells)∧Hid (anyTo (fun s=>holdsS s v) l k)∧Below w.heap.size w wr) (fun i _=>n - (intOf i).toNat)
 case atStart=>exact ⟨0,rfl,Nat.zero_le _,HLB,HBX,fun j hj=>by omega,hbn.out⟩
 case round =>
  obtain ⟨k,rfl,hk,HS,HB,HM,hbr⟩:=hrel;by_cases hlt:k < n
  ·(have hlt':k < l.length:=by rw [HN.out]; exact hlt);(have i0:(0:Int)≤(k:Int):=by omega);(have i1:(k:Int) < (n:Int):=by omega);have hfk:=HF.out k hlt';generalize hsk:nth l k=s at *;have HK:=hid hsk;clear hsk;(go_wp2_with fail);refine (HMAY.out _ _ HS.out).mono ?_;rintro e w1 ⟨rfl,hb1⟩;have hbr1:=zC hbr hb1;cases hm:mayR l
   ·have HE:=hid (show hasR l v=false by rw [hasR,hm]; rfl);(go_wp2_with fail);go_ret;exact ⟨by rw [← HR.out,HE.out]; rfl,hbr1⟩
   ·have HS1:=hid (HS.out.below hb1);have HB1:=hid (HB.out.below hb1);obtain ⟨b,off,rfl,hbl,hx,hz⟩:=HS1.out.at_ (k:=k) hlt';rw [HK.out] at hx hz;obtain ⟨x0,x1,x2,x3,x4,x5,x6⟩:=hx;obtain ⟨z0,z1,z2,z3,z4,z5,z6⟩:=hz;obtain ⟨y0,y1,y2,y3,y4⟩:=HB1.out.get5;have hgb:=HB1.out.1;(go_wp2_with fail);have hbw:=bw_cell;refine wp_region_below (by kernel_rfl) (by kernel_rfl) ?_;(repeat (go_big_quiet_step ((go_at_call 59; exact bw_bool (rholds_any s v _ hfk hv)))));refine wpQuiet_nil ?_;rintro _ ⟨z,rfl⟩;clear hbw x0 x1 x2 x3 x4 x5 x6 z0 z1 z2 z3 z4 z5 z6 y0 y1 y2 y3 y4;cases hh:holdsS s v
    ·(go_wp2_with fail);go_roundw
     case rel=>exact ⟨k+1,by go_num,by omega,HS1.out.below z.ok,HB1.out.below z.ok,anyTo_step HM.out (by rw [HK.out]; exact hh),zC hbr1 z.ok⟩
     case measure=>simp [intOf]; omega
    ·have HE:=hid (show hasR l v=true by rw [hasR,hm,any_at (p:=fun s=>holdsS s v) hlt' (by rw [HK.out]; exact hh)]; rfl);(go_wp2_with fail);go_ret;exact ⟨by rw [← HR.out,HE.out]; rfl,zC hbr1 z.ok⟩
  ·(obtain rfl:k=n:=by omega);(have hd:decide ((k:Int) < (k:Int))=false:=by simp);have HE:=hid (show hasR l v=false by rw [hasR,anyTo_end (by rw [HN.out]; exact HM.out)]; simp);(go_wp2_with fail);go_ret;exact ⟨by rw [← HR.out,HE.out]; rfl,hbr⟩
def eqCut (a b:CutL):Bool:=a.en==b.en&&mj a.v b.v&&a.aft==b.aft
def eqSpan (a b:SpanL):Bool:=eqCut a.fr b.fr&&eqCut a.til b.til
theorem eqCut_iff {a b:CutL}:eqCut a b=true↔a=b:=by
 simp only [eqCut,Bool.and_eq_true,beq_iff_eq,rC];constructor
 ·rintro ⟨⟨h1,h2⟩,h3⟩;cases a; cases b;simp only at h1 h2 h3;rw [h1,h2,h3]
 ·rintro rfl; simp
theorem eqSpan_iff {a b:SpanL}:eqSpan a b=true↔a=b:=by
 simp only [eqSpan,Bool.and_eq_true,eqCut_iff];constructor
 ·rintro ⟨h1,h2⟩;cases a; cases b;simp only at h1 h2;rw [h1,h2]
 ·rintro rfl; simp
theorem fields109:Tryz.prog.underlying 109=some (.struct (Tryz.prog.fieldsOf 109)):=by kernel_rfl
theorem stood109:Tryz.prog.stoodInHeld 109=false:=by kernel_rfl
theorem fields111:Tryz.prog.underlying 111=some (.struct (Tryz.prog.fieldsOf 111)):=by kernel_rfl
theorem stood111:Tryz.prog.stoodInHeld 111=false:=by kernel_rfl
theorem guard111:Tryz.prog.eqGuardType Tryz.prog.depth 111=false:=by kernel_rfl
theorem eqV_in (d:Nat) (a b:Ver) (w:World):(Op.equalIn (d+6) 27 a.val b.val).run Tryz.prog w = .ok (mj a b) w:=by
 rw [show d+6=(d+5)+1 from rfl,run_equalIn_agg w (d+5) 27 _ _ fields27 stood27];simp only [Program.fieldsOf,Tryz.underlying27];have u3:=Tryz.underlying3;have u9:=Tryz.underlying9;have a3:=Tryz.isAgg3;have z3:=Tryz.sizeOf3;have a9:=Tryz.isAgg9;have z9:=Tryz.sizeOf9
 go_simp
 unfold mj;cases h1:a.maj==b.maj<;>cases h2:a.min==b.min<;>cases h3:a.pat==b.pat<;>cases h4:a.pre.toList==b.pre.toList<;>cases h5:a.bld.toList==b.bld.toList<;>simp_all
theorem eqC_in (d:Nat) (a b:CutL) (w:World):(Op.equalIn (d+7) 109 a.val b.val).run Tryz.prog w = .ok (eqCut a b) w:=by
 rw [show d+7=(d+6)+1 from rfl,run_equalIn_agg w (d+6) 109 _ _ fields109 stood109];simp only [Program.fieldsOf,Tryz.underlying109];have u3:=Tryz.underlying3;have u4:=Tryz.underlying4;have a3:=Tryz.isAgg3;have z3:=Tryz.sizeOf3;have a4:=Tryz.isAgg4;have z4:=Tryz.sizeOf4;have a24:=Tryz.isAgg27;have z24:=Tryz.sizeOf27;have hv:=eqV_in d a.v b.v
 go_simp
 unfold eqCut;by_cases h1:a.en=b.en<;>cases h2:mj a.v b.v<;>by_cases h3:a.aft=b.aft<;>simp_all
theorem eqS_in (d:Nat) (a b:SpanL) (w:World):(Op.equalIn (d+8) 111 a.val b.val).run Tryz.prog w = .ok (eqSpan a b) w:=by
 rw [show d+8=(d+7)+1 from rfl,run_equalIn_agg w (d+7) 111 _ _ fields111 stood111];simp only [Program.fieldsOf,Tryz.underlying111];have a35:=Tryz.isAgg109;have z35:=Tryz.sizeOf109;have hv1:=eqC_in d a.fr b.fr;have hv2:=eqC_in d a.til b.til
 go_simp
 unfold eqSpan;cases h1:eqCut a.fr b.fr<;>cases h2:eqCut a.til b.til<;>simp_all
theorem neqS (a b:SpanL) (w:World):(binOp .neq 111 a.val b.val).run Tryz.prog w = .ok (.bool (!eqSpan a b)) w:=by
 rw [run_neq_struct,show (10000:Nat)=9992+8 from rfl,eqS_in]; rfl
theorem eqgS (op:BinOp) (x y:Operand) (a b:SpanL) (w:World):(eqGuard op 111 x y a.val b.val).run Tryz.prog w = .ok () w:=run_eqGuard_agg w op _ x y _ _ guard111
def inB (f t:CutL) (s:SpanL):Bool:=decide (Xc s.fr f≤0)&&decide (Xc t s.til≤0)
def inR (l:List SpanL) (f t:CutL):Bool:=l.any (inB f t)
theorem in_any (A:Option Addr) (c:Nat) (l:List SpanL) (f t:CutL) (w:World) (hl:Spans w A l) (hf:fitL l) (hln:l.length≤4398046511104) (hff:f.fit) (hft:t.fit):Calls Tryz.prog 104 #[.slice A l.length c,f.val,t.val] w (yc w (inR l f t)):=by
 generalize hr:inR l f t=r;have HR:=hid hr;clear hr;have HF:=hid hf;have HLB:=hid ((hl.below (zL w (.cells f.cells.toArray 109))).below (zL _ (.cells t.cells.toArray 109)));have HBF:=hid ((Box.new w f.cells 109).below (zL _ (.cells t.cells.toArray 109)));have HBT:=hid (show Box ((w.alloc (.cells f.cells.toArray 109)).alloc (.cells t.cells.toArray 109)) (w.heap.size+1) t.cells by have:=Box.new (w.alloc (.cells f.cells.toArray 109)) t.cells 109; simpa using this);have hbn:=hid (zC (zL w (.cells f.cells.toArray 109)) (zL _ (.cells t.cells.toArray 109)));clear hl hf;generalize hn:l.length=n at *;have HN:=hid hn;clear hn;go_enter Tryz.func104,Tryz.ntmps104;(go_wp2_with fail);go_loopw [7] (fun i wr=>∃ k:Nat,i = .int .i64 k∧k≤n∧Hid (Spans wr A l)∧Hid (Box wr w.heap.size f.cells)∧Hid (Box wr (w.heap.size+1) t.cells)∧Hid (anyTo (inB f t) l k)∧Below w.heap.size w wr) (fun i _=>n - (intOf i).toNat)
 case atStart=>exact ⟨0,rfl,Nat.zero_le _,HLB,HBF,HBT,fun j hj=>by omega,hbn.out⟩
 case round =>
  obtain ⟨k,rfl,hk,HS,HB,HT,HM,hbr⟩:=hrel;by_cases hlt:k < n
  ·(have hlt':k < l.length:=by rw [HN.out]; exact hlt);obtain ⟨b,off,rfl,hbl,hx,hz⟩:=HS.out.at_ (k:=k) hlt';(have i0:(0:Int)≤(k:Int):=by omega);(have i1:(k:Int) < (n:Int):=by omega);have hfk:=HF.out k hlt';generalize hsk:nth l k=s at *;have HK:=hid hsk;clear hsk;obtain ⟨x0,x1,x2,x3,x4,x5,x6⟩:=hx;obtain ⟨z0,z1,z2,z3,z4,z5,z6⟩:=hz;obtain ⟨f0,f1,f2,f3,f4,f5,f6⟩:=HB.out.get7;obtain ⟨t0,t1,t2,t3,t4,t5,t6⟩:=HT.out.get7;have hgb:=HB.out.1;have hgt:=HT.out.1;cases hd1:decide (Xc s.fr f≤0)
   ·have hp:=hid (show inB f t s=false by rw [inB,hd1]; rfl);(go_wp2_with fail);have hbw:=bw_cell;refine wp_region_below (by kernel_rfl) (by kernel_rfl) ?_;(repeat (go_big_quiet_step ((go_at_call 96; exact bw_int (rccompare_any s.fr f _ hfk.1 hff)))));refine wpQuiet_nil ?_;rintro _ ⟨z,rfl⟩;clear hbw x0 x1 x2 x3 x4 x5 x6 z0 z1 z2 z3 z4 z5 z6 f0 f1 f2 f3 f4 f5 f6 t0 t1 t2 t3 t4 t5 t6;(go_wp2_with fail);go_roundw
    case rel=>exact ⟨k+1,by go_num,by omega,HS.out.below z.ok,HB.out.below z.ok,HT.out.below z.ok,anyTo_step HM.out (by rw [HK.out]; exact hp.out),zC hbr z.ok⟩
    case measure=>simp [intOf]; omega
   ·cases hd2:decide (Xc t s.til≤0)
    ·have hp:=hid (show inB f t s=false by rw [inB,hd2]; simp);(go_wp2_with fail);have hbw:=bw_cell;refine wp_region_below (by kernel_rfl) (by kernel_rfl) ?_;(repeat (go_big_quiet_step (first | (go_at_call_of 96 s.fr.en; exact bw_int (rccompare_any s.fr f _ hfk.1 hff)) | (go_at_call 96; exact bw_int (rccompare_any t s.til _ hft hfk.2)))));refine wpQuiet_nil ?_;rintro _ ⟨z,rfl⟩;clear hbw x0 x1 x2 x3 x4 x5 x6 z0 z1 z2 z3 z4 z5 z6 f0 f1 f2 f3 f4 f5 f6 t0 t1 t2 t3 t4 t5 t6;(go_wp2_with fail);go_roundw
     case rel=>exact ⟨k+1,by go_num,by omega,HS.out.below z.ok,HB.out.below z.ok,HT.out.below z.ok,anyTo_step HM.out (by rw [HK.out]; exact hp.out),zC hbr z.ok⟩
     case measure=>simp [intOf]; omega
    ·have HE:=hid (show inR l f t=true from any_at (p:=inB f t) hlt' (by rw [HK.out,inB,hd1,hd2]; rfl));(go_wp2_with fail);have hbw:=bw_cell;refine wp_region_below (by kernel_rfl) (by kernel_rfl) ?_;(repeat (go_big_quiet_step (first | (go_at_call_of 96 s.fr.en; exact bw_int (rccompare_any s.fr f _ hfk.1 hff)) | (go_at_call 96; exact bw_int (rccompare_any t s.til _ hft hfk.2)))));refine wpQuiet_nil ?_;rintro _ ⟨z,rfl⟩;clear hbw;(go_wp2_with fail);go_ret;exact ⟨by rw [← HR.out,HE.out]; rfl,zC hbr z.ok⟩
  ·(obtain rfl:k=n:=by omega);have HE:=hid (show inR l f t=false from anyTo_end (by rw [HN.out]; exact HM.out));(go_wp2_with fail);go_ret;exact ⟨by rw [← HR.out,HE.out]; rfl,hbr⟩
def sameR (a b:List SpanL):Bool:=decide (a.length=b.length)&&(List.range a.length).all fun i=>eqSpan (nth a i) (nth b i)
def sameTo (a b:List SpanL) (k:Nat):Prop:=∀ j,j < k→eqSpan (nth a j) (nth b j)=true
theorem sameR_iff {a b:List SpanL}:sameR a b=true↔a=b:=by
 simp only [sameR,Bool.and_eq_true,decide_eq_true_eq,List.all_eq_true,List.mem_range];constructor
 ·rintro ⟨h1,h2⟩;(refine List.ext_getElem h1 fun i hi hj=>?_);have:=eqSpan_iff.1 (h2 i hi)
  rwa [nth_lt hi,nth_lt hj] at this
 ·rintro rfl;exact ⟨rfl,fun i _=>eqSpan_iff.2 rfl⟩
theorem sameR_end {a b:List SpanL} (h:a.length=b.length) (hs:sameTo a b a.length):sameR a b=true:=by
 simp only [sameR,Bool.and_eq_true,decide_eq_true_eq,List.all_eq_true,List.mem_range];exact ⟨h,fun i hi=>hs i hi⟩
theorem sameR_no {a b:List SpanL} {k:Nat} (hk:k < a.length) (h:eqSpan (nth a k) (nth b k)=false):sameR a b=false:=by
 rw [Bool.eq_false_iff]; intro e;have:=sameR_iff.1 e;subst this;rw [eqSpan_iff.2 rfl] at h; cases h
theorem sameR_len {a b:List SpanL} (h:a.length≠b.length):sameR a b=false:=by simp [sameR,h]
theorem sameTo_step {a b:List SpanL} {k:Nat} (h:sameTo a b k) (h1:eqSpan (nth a k) (nth b k)=true):sameTo a b (k+1):=by
 intro j hj;rcases Nat.lt_or_ge j k with h' | h'
 ·exact h j h'
 ·(obtain rfl:j=k:=by omega);exact h1
theorem same_any (A B:Option Addr) (c d:Nat) (l m:List SpanL) (w:World) (hl:Spans w A l) (hm:Spans w B m) (hln:l.length≤4398046511104) (hmn:m.length≤4398046511104):Calls Tryz.prog 34 #[.slice A l.length c,.slice B m.length d] w (yc w (sameR l m)):=by
 generalize hr:sameR l m=r;have HR:=hid hr;clear hr;by_cases hlen:l.length=m.length
 ·have hq:=neqS;have hqg:=eqgS;have HL:=hid hl;have HM:=hid hm;have HLEN:=hid hlen;clear hl hm;rw [← hlen];clear hlen hmn;generalize hn:l.length=n at *;have HN:=hid hn;clear hn;go_enter Tryz.func34,Tryz.ntmps34;(go_wp2_with fail);go_loopw [5] (fun i wr=>∃ k:Nat,i = .int .i64 k∧k≤n∧Hid (Spans wr A l)∧Hid (Spans wr B m)∧Hid (sameTo l m k)∧Below w.heap.size w wr) (fun i _=>n - (intOf i).toNat)
  case atStart=>exact ⟨0,rfl,Nat.zero_le _,HL,HM,fun j hj=>by omega,Below.refl _ _⟩
  case round =>
   obtain ⟨k,rfl,hk,HS,HT,HE,hbr⟩:=hrel;by_cases hlt:k < n
   ·(have hlt':k < l.length:=by rw [HN.out]; exact hlt);(have hlt2:k < m.length:=by rw [← HLEN.out]; exact hlt);obtain ⟨b,off,rfl,hbl,hx,hz⟩:=HS.out.at_ (k:=k) hlt';obtain ⟨b2,off2,rfl,hbl2,hx2,hz2⟩:=HT.out.at_ (k:=k) hlt2;(have i0:(0:Int)≤(k:Int):=by omega);(have i1:(k:Int) < (n:Int):=by omega);generalize hsk:nth l k=s at *;generalize htk:nth m k=t at *;have HK:=hid hsk;have HK2:=hid htk;clear hsk htk;obtain ⟨x0,x1,x2,x3,x4,x5,x6⟩:=hx;obtain ⟨z0,z1,z2,z3,z4,z5,z6⟩:=hz;obtain ⟨p0,p1,p2,p3,p4,p5,p6⟩:=hx2;obtain ⟨q0,q1,q2,q3,q4,q5,q6⟩:=hz2;(go_wp2_with fail);have hbw:=bw_cell;refine wp_region_below (by kernel_rfl) (by kernel_rfl) ?_;(repeat (go_big_quiet_step (fail)));refine wpQuiet_nil ?_;rintro _ ⟨z,rfl⟩;clear hbw x0 x1 x2 x3 x4 x5 x6 z0 z1 z2 z3 z4 z5 z6 p0 p1 p2 p3 p4 p5 p6 q0 q1 q2 q3 q4 q5 q6 hq hqg;cases hh:eqSpan s t
    ·have HE2:=hid (show sameR l m=false from sameR_no hlt' (by rw [HK.out,HK2.out]; exact hh));(go_wp2_with fail);go_ret;exact ⟨by rw [← HR.out,HE2.out]; rfl,zC hbr z.ok⟩
    ·(go_wp2_with fail);go_roundw
     case rel=>exact ⟨k+1,by go_num,by omega,HS.out.below z.ok,HT.out.below z.ok,sameTo_step HE.out (by rw [HK.out,HK2.out]; exact hh),zC hbr z.ok⟩
     case measure=>simp [intOf]; omega
   ·(obtain rfl:k=n:=by omega);have HE2:=hid (show sameR l m=true from sameR_end (by rw [HN.out]; exact HLEN.out) (by rw [HN.out]; exact HE.out));(go_wp2_with fail);go_ret;exact ⟨by rw [← HR.out,HE2.out]; rfl,hbr⟩
 ·(have hb:((l.length:Int) != (m.length:Int))=true:=by rw [bne_iff_ne]; omega);have HE:=hid (sameR_len hlen);go_enter Tryz.func34,Tryz.ntmps34;(go_wp2_with fail);go_ret;exact ⟨by rw [← HR.out,HE.out]; rfl,Below.refl _ _⟩
def cellsL (l:List SpanL):List Value:=l.flatMap fun s=>s.cells
theorem cellsL_len (l:List SpanL):(cellsL l).length=l.length * 14:=by
 induction l with
 | nil=>rfl
 | cons s l ih=>simp only [cellsL,List.flatMap_cons,List.length_append] at ih ⊢; rw [ih]; simp only [List.length_cons,List.length_nil]; omega
theorem cellsL_append (l m:List SpanL):cellsL (l++m)=cellsL l++cellsL m:=by simp [cellsL]
theorem cellsL_get:∀ (l:List SpanL) (i j:Nat),i < l.length→j < 14→(cellsL l)[i * 14+j]?=(nth l i).cells[j]?
 | [],i,j,h,_=>by simp at h
 | s::l,0,j,_,hj=>by
  rw [cellsL,List.flatMap_cons,List.getElem?_append_left (by simp; omega)];simp [nth]
 | s::l,i+1,j,h,hj=>by
  have ih:=cellsL_get l i j (by simpa using h) hj;rw [cellsL,List.flatMap_cons,List.getElem?_append_right (by simp; omega)];(have e:(i+1) * 14+j - s.cells.length=i * 14+j:=by simp; omega);rw [e];exact ih.trans (by simp [nth])
theorem EKspans:EK Tryz.prog 40 111 14 144 := .mk' _ Tryz.underlying40 Tryz.info111 rfl (by omega)
def OwnS (w:World) (base:Nat) (v:Value) (l:List SpanL):Prop:=w.ownsRow base 111 14 v l.length (cellsL l)
theorem OwnS.nil (w:World) (base:Nat):OwnS w base (.slice none 0 0) []:=World.ownsRow_nil _ _ _ _
theorem OwnS.form {w:World} {base:Nat} {v:Value} {l:List SpanL} (h:OwnS w base v l):(v = .slice none 0 0∧l=[])∨∃ g cap,v = .slice (some ⟨g,0,none⟩) l.length cap∧base≤g∧g < w.heap.size∧l.length≤cap:=by
 obtain ⟨_,h2⟩:=h;rcases h2 with ⟨h2,h3⟩ | ⟨g,cap,cur,hv,hg,hh,hle,r⟩
 ·exact .inl ⟨h2,List.eq_nil_of_length_eq_zero h3⟩
 ·refine .inr ⟨g,cap,hv,hg,?_,hle⟩;rcases Nat.lt_or_ge g w.heap.size with h | h
  ·exact h
  ·rw [Array.getElem?_eq_none h] at hh; cases hh
theorem OwnS.spans {w:World} {base:Nat} {v:Value} {l:List SpanL} (h:OwnS w base v l):∃ A cap,v = .slice A l.length cap∧Spans w A l:=by
 rcases h.form with ⟨rfl,rfl⟩ | ⟨g,cap,rfl,hg,hlt,hle⟩
 ·exact ⟨none,0,rfl,.inl rfl⟩
 ·refine ⟨some ⟨g,0,none⟩,cap,rfl,.inr ⟨g,0,rfl,hlt,fun i hi j u hj=>?_⟩⟩
  have hj14:j < 14:=by
   rcases Nat.lt_or_ge j 14 with h' | h'
   ·exact h'
   ·rw [List.getElem?_eq_none (by simp; omega)] at hj; cases hj
  have:=h.cellAt (i * 14+j) (by omega);rw [Nat.zero_add,this,cellsL_get l i j hi hj14];exact hj
theorem OwnS.below {w w':World} {base:Nat} {v:Value} {l:List SpanL} (h:OwnS w base v l) (hb:Below w.heap.size w w'):OwnS w' base v l:=pC h hb
theorem cells_set (l:List SpanL) (s:SpanL) (t:CutL):(((((((cellsL (l++[s])).set (l.length * 14+7) (.int .i64 t.en)).set (l.length * 14+7+1) (.int .i64 t.v.maj)).set (l.length * 14+7+2) (.int .i64 t.v.min)).set (l.length * 14+7+3) (.int .i64 t.v.pat)).set (l.length * 14+7+4) (.string t.v.pre)).set (l.length * 14+7+5) (.string t.v.bld)).set (l.length * 14+7+6) (.bool t.aft)=cellsL (l++[⟨s.fr,t⟩]):=by
 have e:∀ (x:SpanL),cellsL [x]=x.cells:=fun x=>by simp [cellsL]
 have st:∀ (ys:List Value) (j:Nat) (u:Value),(cellsL l++ys).set (l.length * 14+j) u=cellsL l++ys.set j u:=fun ys j u=>by
  rw [List.set_append_right _ _ (by rw [cellsL_len]; omega),cellsL_len,Nat.add_sub_cancel_left]
 rw [cellsL_append,cellsL_append,e,e];simp only [Nat.add_assoc,Nat.reduceAdd,st];rfl
theorem OwnS.set7 {w:World} {base g cap n:Nat} {l:List SpanL} {s:SpanL} (t:CutL) (hn:l.length=n) (h:OwnS w base (.slice (some ⟨g,0,none⟩) (n+1) cap) (l++[s])) (hgb:base≤g) (hgw:g < w.heap.size) :
 let w':=(((((((w.setCell ⟨g,n * 14+7,none⟩ (.int .i64 t.en)).setCell ⟨g,n * 14+7+1,none⟩ (.int .i64 t.v.maj)).setCell ⟨g,n * 14+7+2,none⟩ (.int .i64 t.v.min)).setCell ⟨g,n * 14+7+3,none⟩ (.int .i64 t.v.pat)).setCell ⟨g,n * 14+7+4,none⟩ (.string t.v.pre)).setCell ⟨g,n * 14+7+5,none⟩ (.string t.v.bld)).setCell ⟨g,n * 14+7+6,none⟩ (.bool t.aft))
 OwnS w' base (.slice (some ⟨g,0,none⟩) (n+1) cap) (l++[⟨s.fr,t⟩])∧Below base w w'∧w'.heap.size=w.heap.size:=by
 intro w'
 refine ⟨?_,?_,by simp [w',World.setCell]⟩
 ·have h':=h;simp only [OwnS,List.length_append,List.length_singleton,hn] at h' ⊢;have s1:=(World.ownsRow.stored h' (n * 14+7) (.int .i64 t.en)).1;have s2:=(World.ownsRow.stored s1 (n * 14+7+1) (.int .i64 t.v.maj)).1;have s3:=(World.ownsRow.stored s2 (n * 14+7+2) (.int .i64 t.v.min)).1;have s4:=(World.ownsRow.stored s3 (n * 14+7+3) (.int .i64 t.v.pat)).1;have s5:=(World.ownsRow.stored s4 (n * 14+7+4) (.string t.v.pre)).1;have s6:=(World.ownsRow.stored s5 (n * 14+7+5) (.string t.v.bld)).1;have this:=(World.ownsRow.stored s6 (n * 14+7+6) (.bool t.aft)).1;subst hn;rw [cells_set] at this;exact this
 ·exact (((((((Below.refl _ _).setCell hgb _).setCell hgb _).setCell hgb _).setCell hgb _).setCell hgb _).setCell hgb _).setCell hgb _
def growR (l:List SpanL) (f t:CutL):List SpanL :=
 match l.getLast? with
 | some s=>if Xc s.til f=0 then l.dropLast++[⟨s.fr,t⟩] else l++[⟨f,t⟩]
 | none=>[⟨f,t⟩]
def RowPost (w:World) (base:Nat) (l:List SpanL) (e:Ending) (w':World):Prop:=∃ v,e = .returned v∧OwnS w' base v l∧Below base w w'∧w.heap.size≤w'.heap.size
theorem grow_set (base:Nat) (g cap:Nat) (l:List SpanL) (s:SpanL) (f t:CutL) (w:World) (h:OwnS w base (.slice (some ⟨g,0,none⟩) (l.length+1) cap) (l++[s])) (hb:base≤w.heap.size) (hgb:base≤g) (hgw:g < w.heap.size) (hln:l.length≤100000) (hff:f.fit) (hft:t.fit) (hs:s.fit) (hc:Xc s.til f=0) :
 Calls Tryz.prog 105 #[.slice (some ⟨g,0,none⟩) (l.length+1) cap,f.val,t.val] w (RowPost w base (l++[⟨s.fr,t⟩])):=by
 have HO:=hid h
 have z:Row7 w g (l.length * 14+7) s.til:=by
  obtain ⟨A,c,e,hS⟩:=h.spans;(injection e with e1 e2 e3);subst e1;have:=(hS.lay (k:=l.length) (by simp)).2.2;simpa [nth] using this
 have hfr:∀ j,w.frozen? ⟨g,j,none⟩=false:=fun j=>by
  have h':=h;simp only [OwnS,List.length_append,List.length_singleton] at h';exact h'.frozenAt j
 generalize hn:l.length=n at *
 have HN:=hid hn
 have HZ:=hid z
 have HFR:=hid hfr
 obtain ⟨z0,z1,z2,z3,z4,z5,z6⟩:=z
 clear hn h hfr
 have i0:(0:Int)≤(n:Int):=by omega
 have hcz:(Xc s.til f==0)=true:=by simp [hc]
 clear hc
 have hbw:=bw_cell
 have hg1:g < w.heap.size+1+1:=by omega
 have hg2:g < w.heap.size+1:=by omega
 have i1:(n:Int) < ((n+1:Nat):Int):=by omega
 have i2:(n:Int) < (n:Int)+1:=by omega
 go_enter Tryz.func105,Tryz.ntmps105
 go_wp2_with fail
 refine wp_region_below (by kernel_rfl) (by kernel_rfl) ?_
 repeat (go_big_quiet_step ((go_at_call 96; exact bw_int (rccompare_any s.til f _ hs.2 hff))))
 refine wpQuiet_nil ?_
 rintro _ ⟨z,rfl⟩
 have hb3:=z.ok
 generalize z.v=w3 at hb3 ⊢
 clear z hbw z0 z1 z2 z3 z4 z5 z6
 obtain ⟨hx,hy,hb4⟩:=box_2 (cs:=f.cells) (ds:=t.cells) hb3
 obtain ⟨t0,t1,t2,t3,t4,t5,t6⟩:=hy.get7
 obtain ⟨z0,z1,z2,z3,z4,z5,z6⟩:=HZ.out.below hgw hb4
 have hf3:∀ j,w3.frozen? ⟨g,j,none⟩=false:=fun j=>(hb4.frozen (p:=⟨g,j,none⟩) hgw).trans (HFR.out j)
 clear hx hy hb3
 go_wp2_with fail
 go_ret
 have HO3:=HO.out.below hb4
 obtain ⟨q1,q2,q3⟩:=HO3.set7 t HN.out hgb (Nat.lt_of_lt_of_le hgw hb4.size)
 exact ⟨_,rfl,q1,(hb4.mono hb).trans q2,by rw [q3]; exact hb4.size⟩
theorem OwnS.app {w':World} {base:Nat} {v':Value} {l:List SpanL} {s:SpanL} (h:w'.ownsRow base 111 14 v' (l.length+1) (cellsL l++s.cells)):OwnS w' base v' (l++[s]):=by
 simp only [OwnS,List.length_append,List.length_singleton];rw [cellsL_append,show cellsL [s]=s.cells from by simp [cellsL]];exact h
theorem growR_nil (f t:CutL):growR [] f t=[⟨f,t⟩]:=rfl
theorem growR_eq {l:List SpanL} {s:SpanL} {f t:CutL} (h:Xc s.til f=0):growR (l++[s]) f t=l++[⟨s.fr,t⟩]:=by simp [growR,h]
theorem growR_ne {l:List SpanL} {s:SpanL} {f t:CutL} (h:Xc s.til f≠0):growR (l++[s]) f t=l++[s]++[⟨f,t⟩]:=by simp [growR,h]
theorem grow_nil (base:Nat) (f t:CutL) (w:World) (hb:base≤w.heap.size):Calls Tryz.prog 105 #[.slice none 0 0,f.val,t.val] w (RowPost w base [⟨f,t⟩]):=by
 have hM:maxLen=9223372036854775807:=rfl;have hbw:=bw_cell;have hbx:=hid (Box.new (w.alloc (.cells f.cells.toArray 109)) t.cells 109);go_enter Tryz.func105,Tryz.ntmps105;(go_wp2_with fail);refine wp_region_below (by kernel_rfl) (by kernel_rfl) ?_;(repeat (go_big_quiet_step (fail)));refine wpQuiet_nil ?_;rintro _ ⟨z,rfl⟩;have hb3:=z.ok;generalize z.v=w3 at hb3 ⊢;clear z hbw;obtain ⟨hx,hy,hb4⟩:=box_2 (cs:=f.cells) (ds:=t.cells) hb3;obtain ⟨t0,t1,t2,t3,t4,t5,t6⟩:=hy.get7;obtain ⟨f0,f1,f2,f3,f4,f5,f6⟩:=hx.get7;have HOWN:=OwnS.nil w3 base;have hbs:=hb4.size;have hb5:=hb4.mono hb;clear hx hy hb3;go_wp2_with (first | (at_builtin; refine wu EKspans rfl (.tmp 29) (.tmp 33) rfl (SpanL.cells ⟨f,t⟩) HOWN hb5 rfl rfl rfl ?_ ?_ ?_ (Nat.le_refl _) (by omega) ?_))
 ·intro u hu; simp at hu; rcases hu with rfl | rfl | rfl | rfl | rfl | rfl | rfl | rfl | rfl | rfl | rfl | rfl | rfl | rfl<;>rfl
 ·decide
 ·simp
 ·intro v' w' h2 h3 h4;clear HOWN t0 t1 t2 t3 t4 t5 t6 f0 f1 f2 f3 f4 f5 f6;(go_wp2_with fail);go_ret;exact ⟨_,rfl,OwnS.app h2,h3,by omega⟩
theorem grow_nil_any (base g cap:Nat) (f t:CutL) (w:World) (h0:OwnS w base (.slice (some ⟨g,0,none⟩) 0 cap) []) (hb:base≤w.heap.size):Calls Tryz.prog 105 #[.slice (some ⟨g,0,none⟩) 0 cap,f.val,t.val] w (RowPost w base [⟨f,t⟩]):=by
 have hM:maxLen=9223372036854775807:=rfl;have hbw:=bw_cell;have hbx:=hid (Box.new (w.alloc (.cells f.cells.toArray 109)) t.cells 109);have HO:=hid h0;clear h0;go_enter Tryz.func105,Tryz.ntmps105;(go_wp2_with fail);refine wp_region_below (by kernel_rfl) (by kernel_rfl) ?_;(repeat (go_big_quiet_step (fail)));refine wpQuiet_nil ?_;rintro _ ⟨z,rfl⟩;have hb3:=z.ok;generalize z.v=w3 at hb3 ⊢;clear z hbw;obtain ⟨hx,hy,hb4⟩:=box_2 (cs:=f.cells) (ds:=t.cells) hb3;obtain ⟨t0,t1,t2,t3,t4,t5,t6⟩:=hy.get7;obtain ⟨f0,f1,f2,f3,f4,f5,f6⟩:=hx.get7;have HOWN:=HO.out.below hb4;have hbs:=hb4.size;have hb5:=hb4.mono hb;clear hx hy hb3;go_wp2_with (first | (at_builtin; refine wu EKspans rfl (.tmp 29) (.tmp 33) rfl (SpanL.cells ⟨f,t⟩) HOWN hb5 rfl rfl rfl ?_ ?_ ?_ (Nat.le_refl _) (by omega) ?_))
 ·intro u hu; simp at hu; rcases hu with rfl | rfl | rfl | rfl | rfl | rfl | rfl | rfl | rfl | rfl | rfl | rfl | rfl | rfl<;>rfl
 ·decide
 ·simp
 ·intro v' w' h2 h3 h4;clear HOWN t0 t1 t2 t3 t4 t5 t6 f0 f1 f2 f3 f4 f5 f6;(go_wp2_with fail);go_ret;exact ⟨_,rfl,OwnS.app h2,h3,by omega⟩
theorem grow_app (base:Nat) (g cap:Nat) (l:List SpanL) (s:SpanL) (f t:CutL) (w:World) (h:OwnS w base (.slice (some ⟨g,0,none⟩) (l.length+1) cap) (l++[s])) (hb:base≤w.heap.size) (hgb:base≤g) (hgw:g < w.heap.size) (hln:l.length≤100000) (hff:f.fit) (hs:s.fit) (hc:Xc s.til f≠0) :
 Calls Tryz.prog 105 #[.slice (some ⟨g,0,none⟩) (l.length+1) cap,f.val,t.val] w (RowPost w base (l++[s]++[⟨f,t⟩])):=by
 have hM:maxLen=9223372036854775807:=rfl
 have HO:=hid h
 have z:Row7 w g (l.length * 14+7) s.til:=by
  obtain ⟨A,c,e,hS⟩:=h.spans;(injection e with e1 e2 e3);subst e1;have:=(hS.lay (k:=l.length) (by simp)).2.2;simpa [nth] using this
 generalize hn:l.length=n at *
 have HN:=hid hn
 obtain ⟨z0,z1,z2,z3,z4,z5,z6⟩:=z
 clear hn h
 have i0:(0:Int)≤(n:Int):=by omega
 have hcz:(Xc s.til f==0)=false:=by simpa using hc
 clear hc
 have hbw:=bw_cell
 have hg1:g < w.heap.size+1+1:=by omega
 have hg2:g < w.heap.size+1:=by omega
 have i1:(n:Int) < ((n+1:Nat):Int):=by omega
 have i2:(n:Int) < (n:Int)+1:=by omega
 go_enter Tryz.func105,Tryz.ntmps105
 go_wp2_with fail
 refine wp_region_below (by kernel_rfl) (by kernel_rfl) ?_
 repeat (go_big_quiet_step ((go_at_call 96; exact bw_int (rccompare_any s.til f _ hs.2 hff))))
 refine wpQuiet_nil ?_
 rintro _ ⟨z,rfl⟩
 have hb3:=z.ok
 generalize z.v=w3 at hb3 ⊢
 clear z hbw z0 z1 z2 z3 z4 z5 z6
 obtain ⟨hx,hy,hb4⟩:=box_2 (cs:=f.cells) (ds:=t.cells) hb3
 obtain ⟨t0,t1,t2,t3,t4,t5,t6⟩:=hy.get7
 obtain ⟨f0,f1,f2,f3,f4,f5,f6⟩:=hx.get7
 have hbs:=hb4.size
 have hb5:=hb4.mono hb
 have HOWN:w3.ownsRow base 111 14 (.slice (some ⟨g,0,none⟩) (n+1) cap) (n+1) (cellsL (l++[s])):=by
  have h:=HO.out.below hb4;simp only [OwnS,List.length_append,List.length_singleton,HN.out] at h;exact h
 clear hx hy hb3
 go_wp2_with (first | (at_builtin; refine wu EKspans rfl (.tmp 29) (.tmp 33) rfl (SpanL.cells ⟨f,t⟩) HOWN hb5 rfl rfl rfl ?_ ?_ ?_ (Nat.le_refl _) (by omega) ?_))
 ·intro u hu; simp at hu; rcases hu with rfl | rfl | rfl | rfl | rfl | rfl | rfl | rfl | rfl | rfl | rfl | rfl | rfl | rfl<;>rfl
 ·omega
 ·omega
 ·intro v' w' h2 h3 h4;clear HOWN t0 t1 t2 t3 t4 t5 t6 f0 f1 f2 f3 f4 f5 f6;(go_wp2_with fail);go_ret;refine ⟨_,rfl,?_,h3,by omega⟩;refine OwnS.app ?_;rw [List.length_append,List.length_singleton,HN.out];exact h2
theorem grow_any (base:Nat) (v:Value) (l:List SpanL) (f t:CutL) (w:World) (h:OwnS w base v l) (hb:base≤w.heap.size) (hln:l.length≤100000) (hff:f.fit) (hft:t.fit) (hfl:∀ s,s∈l→s.fit) :
 Calls Tryz.prog 105 #[v,f.val,t.val] w (RowPost w base (growR l f t)):=by
 rcases List.eq_nil_or_concat l with rfl | ⟨m,s,rfl⟩
 ·rcases h.form with ⟨rfl,_⟩ | ⟨g,cap,rfl,hg,hlt,hle⟩
  ·exact grow_nil base f t w hb
  ·exact grow_nil_any base g cap f t w h hb
 ·simp only [List.concat_eq_append] at h hln hfl ⊢;rcases h.form with ⟨_,h0⟩ | ⟨g,cap,rfl,hg,hlt,hle⟩
  ·simp at h0
  ·(have hl:(m++[s]).length=m.length+1:=by simp);rw [hl] at h hln ⊢;have hs:s.fit:=hfl s (by simp);by_cases hc:Xc s.til f=0
   ·rw [growR_eq hc]; exact grow_set base g cap m s f t w h hb hg hlt (by omega) hff hft hs hc
   ·rw [growR_ne hc]; exact grow_app base g cap m s f t w h hb hg hlt (by omega) hff hs hc
instance:Inhabited CutL:=⟨rR⟩
def nthC (l:List CutL) (i:Nat):CutL:=l.getD i default
theorem nthC_lt {l:List CutL} {i:Nat} (h:i < l.length):nthC l i=l[i]:=by simp [nthC,h]
def cellsK (l:List CutL):List Value:=l.flatMap fun s=>s.cells
theorem cellsK_len (l:List CutL):(cellsK l).length=l.length * 7:=by
 induction l with
 | nil=>rfl
 | cons s l ih=>simp only [cellsK,List.flatMap_cons,List.length_append] at ih ⊢; rw [ih]; simp only [List.length_cons,List.length_nil]; omega
theorem cellsK_get:∀ (l:List CutL) (i j:Nat),i < l.length→j < 7→(cellsK l)[i * 7+j]?=(nthC l i).cells[j]?
 | [],i,j,h,_=>by simp at h
 | s::l,0,j,_,hj=>by
  rw [cellsK,List.flatMap_cons,List.getElem?_append_left (by simp; omega)];simp [nthC]
 | s::l,i+1,j,h,hj=>by
  have ih:=cellsK_get l i j (by simpa using h) hj;rw [cellsK,List.flatMap_cons,List.getElem?_append_right (by simp; omega)];(have e:(i+1) * 7+j - s.cells.length=i * 7+j:=by simp; omega);rw [e];exact ih.trans (by simp [nthC])
theorem Tryz.info109:(Tryz.prog.info? 109).map (fun i=>(i.zero,i.size,i.bytes))=some (some (CutL.val ⟨0,xD,false⟩),7,72):=by kernel_rfl
theorem EKcuts:EK Tryz.prog 162 109 7 72 := .mk' _ Tryz.underlying162 Tryz.info109 rfl (by omega)
theorem row7_get {w:World} {b o j:Nat} {c:CutL} {u:Value} (h:Row7 w b o c) (hj:c.cells[j]?=some u):w.cell? ⟨b,o+j,none⟩=some u:=by
 obtain ⟨h0,h1,h2,h3,h4,h5,h6⟩:=h
 match j,hj with
 | 0,hj=>rw [← hj]; exact h0
 | 1,hj=>rw [← hj]; exact h1
 | 2,hj=>rw [← hj]; exact h2
 | 3,hj=>rw [← hj]; exact h3
 | 4,hj=>rw [← hj]; exact h4
 | 5,hj=>rw [← hj]; exact h5
 | 6,hj=>rw [← hj]; exact h6
 | _+7,hj=>simp at hj
def CutsAt (w:World) (A:Option Addr) (l:List CutL):Prop :=
 l=[]∨∃ b off,A=some ⟨b,off,none⟩∧b < w.heap.size∧∀ i,i < l.length→Row7 w b (off+i * 7) (nthC l i)
theorem CutsAt.below {w w':World} {A:Option Addr} {l:List CutL} (h:CutsAt w A l) (hb:Below w.heap.size w w'):CutsAt w' A l:=by
 rcases h with h | ⟨b,off,rfl,hlt,hc⟩
 ·exact .inl h
 ·exact .inr ⟨b,off,rfl,Nat.lt_of_lt_of_le hlt hb.size,fun i hi=>(hc i hi).below hlt hb⟩
theorem CutsAt.at_ {w:World} {A:Option Addr} {l:List CutL} {k:Nat} (h:CutsAt w A l) (hk:k < l.length) :
 ∃ b off,A=some ⟨b,off,none⟩∧b < w.heap.size∧Row7 w b (off+k * 7) (nthC l k):=by
 rcases h with h | ⟨b,off,rfl,hlt,hc⟩
 ·subst h; simp at hk
 ·exact ⟨b,off,rfl,hlt,hc k hk⟩
theorem CutsAt.lay {w:World} {b off:Nat} {l:List CutL} {k:Nat} (h:CutsAt w (some ⟨b,off,none⟩) l) (hk:k < l.length):b < w.heap.size∧Row7 w b (off+k * 7) (nthC l k):=by
 obtain ⟨b',off',e,h1,h2⟩:=h.at_ hk;(injection e with e);(injection e with e1 e2 e3);subst e1; subst e2;exact ⟨h1,h2⟩
theorem CutsAt.own {w:World} {base:Nat} {v:Value} {l:List CutL} (h:w.ownsRow base 109 7 v l.length (cellsK l)) (h0:l≠[]):∃ A cap,v = .slice A l.length cap∧l.length≤cap∧CutsAt w A l:=by
 have hpos:0 < l.length:=List.length_pos_iff.2 h0;obtain ⟨g,cap,rfl,hg,hlt,hle,hc⟩:=vN h hpos;refine ⟨_,cap,rfl,hle,.inr ⟨g,0,rfl,hlt,fun i hi=>?_⟩⟩
 have e:∀ j u,j < 7→(nthC l i).cells[j]?=some u→w.cell? ⟨g,0+i * 7+j,none⟩=some u:=fun j u hj hu=>by
  rw [Nat.zero_add,hc _ (by omega),cellsK_get l i j hi hj]; exact hu
 exact ⟨e 0 _ (by omega) rfl,e 1 _ (by omega) rfl,e 2 _ (by omega) rfl,e 3 _ (by omega) rfl,e 4 _ (by omega) rfl,e 5 _ (by omega) rfl,e 6 _ (by omega) rfl⟩
theorem CutsAt.src {w:World} {b off:Nat} {l:List CutL} {k m:Nat} (h:CutsAt w (some ⟨b,off,none⟩) l) (hkm:k+m≤l.length):tw w (some ⟨b,off+k * 7,none⟩) m 7 (cellsK ((l.drop k).take m)):=by
 (have hlen:((l.drop k).take m).length=m:=by rw [List.length_take,List.length_drop]; omega);refine ⟨by rw [cellsK_len,hlen],(fun e=>by cases e),fun ad e j u hj=>?_⟩;injection e with e; subst e
 have hj7:j < m * 7:=by
  rcases Nat.lt_or_ge j (m * 7) with h' | h'
  ·exact h'
  ·rw [List.getElem?_eq_none (by rw [cellsK_len,hlen]; exact h')] at hj; cases hj
 (have ej:j / 7 * 7+j % 7=j:=by omega);(have hi:j / 7 < m:=by omega);rw [← ej,cellsK_get _ _ _ (by omega) (Nat.mod_lt _ (by omega))] at hj;(have en:nthC ((l.drop k).take m) (j / 7)=nthC l (k+j / 7):=by simp [nthC,hi]);rw [en] at hj;have:=row7_get (h.lay (k:=k+j / 7) (by omega)).2 hj;(have e2:off+(k+j / 7) * 7+j % 7=off+k * 7+j:=by omega);rw [e2] at this;unfold Addr.add;split<;>simp_all
theorem oneK (l:List CutL):∀ u∈cellsK l,u.oneCell'=true:=by
 intro u hu;simp only [cellsK,List.mem_flatMap] at hu;obtain ⟨s,_,hu⟩:=hu;simp at hu;rcases hu with rfl | rfl | rfl | rfl | rfl | rfl | rfl<;>rfl
def putL:List CutL→CutL→List CutL
 | [],c=>[c]
 | x::l,c=>if Xc x c < 0 then x::putL l c else if Xc x c=0 then x::l else c::x::l
theorem putL_low:∀ (l:List CutL) (c:CutL) (k:Nat),k≤l.length→(∀ j,j < k→Xc (nthC l j) c < 0)→putL l c=l.take k++putL (l.drop k) c
 | l,c,0,_,_=>by simp
 | [],c,k+1,h,_=>by simp at h
 | x::l,c,k+1,h,hl=>by
  have h0:Xc x c < 0:=hl 0 (by omega);have ih:=putL_low l c k (by simpa using h) (fun j hj=>hl (j+1) (by omega));rw [putL,if_pos h0,ih]; rfl
theorem putL_end {l:List CutL} {c:CutL} (h:∀ j,j < l.length→Xc (nthC l j) c < 0):putL l c=l++[c]:=by
 rw [putL_low l c l.length (Nat.le_refl _) h]; simp [putL]
theorem drop_nthC {l:List CutL} {k:Nat} (h:k < l.length):l.drop k=nthC l k::l.drop (k+1):=by
 rw [nthC_lt h]; exact List.drop_eq_getElem_cons h
theorem putL_eq {l:List CutL} {c:CutL} {k:Nat} (hk:k < l.length) (h:∀ j,j < k→Xc (nthC l j) c < 0) (h0:Xc (nthC l k) c=0):putL l c=l:=by
 rw [putL_low l c k (by omega) h,drop_nthC hk,putL,if_neg (by omega),if_pos h0,← drop_nthC hk,List.take_append_drop]
theorem putL_mid {l:List CutL} {c:CutL} {k:Nat} (hk:k < l.length) (h:∀ j,j < k→Xc (nthC l j) c < 0) (h0:0 < Xc (nthC l k) c):putL l c=l.take k++c::l.drop k:=by
 rw [putL_low l c k (by omega) h,drop_nthC hk,putL,if_neg (by omega),if_neg (by omega)]
def PutPost (w:World) (l:List CutL) (e:Ending) (w':World):Prop:=∃ A c,e = .returned (.slice A l.length c)∧l.length≤c∧CutsAt w' A l∧Below w.heap.size w w'
def fitK (l:List CutL):Prop:=∀ i,i < l.length→(nthC l i).fit
def lowTo (l:List CutL) (c:CutL) (k:Nat):Prop:=∀ j,j < k→Xc (nthC l j) c < 0
theorem lowTo_step {l:List CutL} {c:CutL} {k:Nat} (h:lowTo l c k) (h1:Xc (nthC l k) c < 0):lowTo l c (k+1):=by
 intro j hj;rcases Nat.lt_or_ge j k with h' | h'
 ·exact h j h'
 ·(obtain rfl:j=k:=by omega);exact h1
theorem below_alloc {w w':World} (h:Below w.heap.size w w') (o:Obj):Below w.heap.size w (w'.alloc o):=h.alloc h.size o
theorem oneK1 (c:CutL):∀ u∈c.cells,u.oneCell'=true:=by
 have:=oneK [c];simpa [cellsK] using this
theorem addr_add (b o j:Nat):(Addr.mk b o none).add j=⟨b,o+j,none⟩:=by
 unfold Addr.add;split<;>simp_all
theorem src_of_box {w:World} {g:Nat} {cs:List Value} {size:Nat} (h:Box w g cs) (hl:cs.length=size):tw w (some ⟨g,0,none⟩) 1 size cs:=by
 refine ⟨by omega,(fun e=>by cases e),fun ad e j u hj=>?_⟩;(injection e with e; subst e);rw [addr_add,Nat.zero_add]; exact h.2 j u hj
theorem src_box (w:World) (c:CutL):tw (w.alloc (.cells c.cells.toArray 109)) (some ⟨w.heap.size,0,none⟩) 1 7 c.cells:=src_of_box (Box.new w c.cells _) rfl
theorem put_end {w w2 w5:World} {base k m:Nat} {v3:Value} {l l':List CutL} {c:CutL} (h:w5.ownsRow base 109 7 v3 (0+k+1+m) ([]++cellsK (l.take k)++c.cells++cellsK (l.drop k)))
 (hE:l'=l.take k++c::l.drop k) (hk:k≤l.length) (hm:m=l.length - k) (hb:Below w.heap.size w w2) (hb5:Below w2.heap.size w2 w5):PutPost w l' (.returned v3) w5:=by
 subst hE
 have e:[]++cellsK (l.take k)++c.cells++cellsK (l.drop k)=cellsK (l.take k++c::l.drop k):=by simp [cellsK]
 have el:0+k+1+m=(l.take k++c::l.drop k).length:=by
  rw [List.length_append,List.length_cons,List.length_take,List.length_drop]; omega
 rw [e,el] at h
 obtain ⟨A,cap,hv,hc,hA⟩:=CutsAt.own h (by simp)
 exact ⟨A,cap,by rw [hv],hc,hA,zC hb hb5⟩
theorem src_cut {w:World} {b off n cap k:Nat} {l:List CutL} (h:CutsAt w (some ⟨b,off,none⟩) l) (hn:l.length=n) (hk:k≤n) (hc:n≤cap) :
 tw w (if cap=k then some ⟨b,off,none⟩ else some ⟨b,off+k * 7,none⟩) (n - k) 7 (cellsK (l.drop k)):=by
 have h2:=h.src (k:=k) (m:=n - k) (by omega)
 rw [List.take_of_length_le (by rw [List.length_drop]; omega)] at h2
 split
 ·have e:l.drop k=[]:=List.drop_eq_nil_of_le (by omega);rw [e];refine ⟨by simp [cellsK]; omega,(fun e=>by cases e),fun ad _ j u hj=>by simp [cellsK] at hj⟩
 ·exact h2
theorem src_cut0 {w:World} {b off n cap k:Nat} {l:List CutL} (h:CutsAt w (some ⟨b,off,none⟩) l) (hn:l.length=n) (hk:k=n) (hc:n≤cap) :
 tw w (if cap=k then some ⟨b,off,none⟩ else some ⟨b,off+k * 7,none⟩) 0 7 (cellsK (l.drop k)):=by
 subst hk
 have:=src_cut h hn (Nat.le_refl _) hc
 rwa [Nat.sub_self] at this
theorem src_box2 {w w1:World} {c:CutL} (h:Below (w.alloc (.cells c.cells.toArray 109)).heap.size (w.alloc (.cells c.cells.toArray 109)) w1):tw w1 (some ⟨w.heap.size,0,none⟩) 1 7 c.cells:=src_of_box ((Box.new w c.cells _).below h) rfl
theorem put_any (A:Option Addr) (cap:Nat) (l:List CutL) (c:CutL) (w:World) (hl:CutsAt w A l) (hne:0 < l.length) (hf:fitK l) (hcap:l.length≤cap) (hln:l.length≤100000) (hcf:c.fit):Calls Tryz.prog 148 #[.slice A l.length cap,c.val] w (PutPost w (putL l c)):=by
 obtain ⟨b,off,rfl,_⟩:=hl.at_ hne;have HF:=hid hf;have HL:=hid (hl.below (zL w (.cells c.cells.toArray 109)));have HB0:=hid (Box.new w c.cells 109);have hbn:=hid (zL w (.cells c.cells.toArray 109));have HP:=hid hl;clear hl hf;generalize hn:l.length=n at *;have HN:=hid hn;clear hn;go_enter Tryz.func148,Tryz.ntmps148;(go_wp2_with fail);go_loopw [5] (fun i wr=>∃ k:Nat,i = .int .i64 k∧k≤n∧Hid (CutsAt wr (some ⟨b,off,none⟩) l)∧Hid (Box wr w.heap.size c.cells)∧Hid (lowTo l c k)∧Below w.heap.size w wr) (fun i _=>n - (intOf i).toNat)
 case atStart=>exact ⟨0,rfl,Nat.zero_le _,HL,HB0,fun j hj=>by omega,hbn.out⟩
 case round =>
  obtain ⟨k,rfl,hk,HS,HB,HM,hbr⟩:=hrel;have hgb:=HB.out.1;(have i0:(0:Int)≤(k:Int):=by omega);by_cases hlt:k < n
  ·(have hlt':k < l.length:=by rw [HN.out]; exact hlt);obtain ⟨hbl,x0,x1,x2,x3,x4,x5,x6⟩:=HS.out.lay (k:=k) hlt';(have i1:(k:Int) < (n:Int):=by omega);have hfk:=HF.out k hlt';generalize hsk:nthC l k=s at *;have HK:=hid hsk;clear hsk;obtain ⟨f0,f1,f2,f3,f4,f5,f6⟩:=HB.out.get7;cases hd1:decide (Xc s c < 0)
   ·have hbw:=bw_cell;(go_wp2_with fail);refine wp_region_below (by kernel_rfl) (by kernel_rfl) ?_;(repeat (go_big_quiet_step ((go_at_call 96; exact bw_int (rccompare_any s c _ hfk hcf)))));refine wpQuiet_nil ?_;rintro _ ⟨z,rfl⟩;clear hbw x0 x1 x2 x3 x4 x5 x6 f0 f1 f2 f3 f4 f5 f6;(go_wp2_with fail);have HS1:=hid (HS.out.below z.ok);have HB1:=hid (HB.out.below z.ok);have hb1:=zC hbr z.ok;clear HS HB hbr HB0 HL hbn hgb;generalize z.v=w1 at *;clear z;obtain ⟨hbl,x0,x1,x2,x3,x4,x5,x6⟩:=HS1.out.lay (k:=k) hlt';simp only [HK.out] at x0 x1 x2 x3 x4 x5 x6;obtain ⟨f0,f1,f2,f3,f4,f5,f6⟩:=HB1.out.get7;have hgb:=HB1.out.1;have hbw:=bw_cell;cases hd2:(Xc s c==0)
    ·have HE:=hid (show putL l c=l.take k++c::l.drop k from putL_mid hlt' HM.out (by rw [HK.out]; simp at hd1 hd2; omega));refine wp_region_below (by kernel_rfl) (by kernel_rfl) ?_;(repeat (go_big_quiet_step ((go_at_call 96; exact bw_int (rccompare_any s c _ hfk hcf)))));refine wpQuiet_nil ?_;rintro _ ⟨z,rfl⟩;clear hbw x0 x1 x2 x3 x4 x5 x6 f0 f1 f2 f3 f4 f5 f6 hd1 hd2 hgb;(go_wp2_with fail);have HS2:=hid (HS1.out.below z.ok);have HB2:=hid (HB1.out.below z.ok);have hb2:=zC hb1 z.ok;clear HS1 HB1 hb1;generalize z.v=w2 at *;clear z;(go_wp2_with fail);obtain ⟨f0,f1,f2,f3,f4,f5,f6⟩:=HB2.out.get7;have hgb:=HB2.out.1;have hM:maxLen=9223372036854775807:=rfl;(have hcc:(k:Int)≤(cap:Int):=by omega);(have hck:(k:Int)≤(n:Int):=by omega);(have hcn:(n:Int)≤(cap:Int):=by omega);(have i00:(0:Int)≤(0:Int):=by omega);have HA1:=hid (fun w' (h:Below w2.heap.size w2 w')=>(((HS2.out.below h).src (k:=0) (m:=k) (by have:=HN.out; omega))));have HA2:=hid (fun w' (h:Below w2.heap.size w2 w')=>src_cut (cap:=cap) (HS2.out.below h) (k:=k) (n:=n) (by have:=HN.out; omega) (by omega) (by omega));have HBX:=hid (fun w' (h:Below w2.heap.size w2 w')=>(HB2.out.below h).get7);have hsz:=hid (fun w' (h:Below w2.heap.size w2 w')=>h.size);simp only [Nat.zero_mul,Nat.add_zero,List.drop_zero] at HA1
     go_region_held3 (fun w'=>w'.cell? ⟨w.heap.size,0,none⟩=some (.int .i64 c.en)∧w'.cell? ⟨w.heap.size,1,none⟩=some (.int .i64 c.v.maj)∧w'.cell? ⟨w.heap.size,2,none⟩=some (.int .i64 c.v.min)∧w'.cell? ⟨w.heap.size,3,none⟩=some (.int .i64 c.v.pat)∧w'.cell? ⟨w.heap.size,4,none⟩=some (.string c.v.pre)∧w'.cell? ⟨w.heap.size,5,none⟩=some (.string c.v.bld)∧w'.cell? ⟨w.heap.size,6,none⟩=some (.bool c.aft))
      (first | (exact HBX.out _ (by first | assumption | exact (Below.refl _ _).drew | exact below_alloc (by assumption) _ | exact below_alloc ((Below.refl _ _).drew) _)) | go_keep)
      (first
       | (refine step_appx EKcuts (by rfl) (.const (.slice none 0 0)) (.tmp 37) (by rfl) (by rfl) (World.ownsRow_nil _ _ _ _) (by rfl) (HA1.out _ (by first | assumption | exact (Below.refl _ _).drew | exact below_alloc (by assumption) _ | exact below_alloc ((Below.refl _ _).drew) _)) (oneK _) (by omega) (by omega) (Nat.le_refl _) ?_; intro v1 w3 h2 h3 h4; have hb3:Below w2.heap.size w2 w3:=zC (by first | assumption | exact (Below.refl _ _).drew | exact below_alloc (by assumption) _ | exact below_alloc ((Below.refl _ _).drew) _) h3)
       | (refine step_appx EKcuts (by rfl) (.tmp 38) (.tmp 40) (by rfl) (by rfl) (h2.alloc _) (by rfl) (src_box _ _) (oneK1 c) (by omega) (by omega) (Nat.le_trans h3.size (by simp)) ?_; intro v2 w4 h5 h6 h7; have hb4:Below w2.heap.size w2 w4:=Below.trans ((below_alloc hb3 _)) (h6.mono (hsz.out _ (by first | assumption | exact (Below.refl _ _).drew | exact below_alloc (by assumption) _ | exact below_alloc ((Below.refl _ _).drew) _))))
       | (refine step_appx EKcuts (by rfl) (.tmp 38) (.tmp 40) (by rfl) (by rfl) h2 (by rfl) (src_box2 (w:=w2.drew) (c:=c) h3) (oneK1 c) (by omega) (by omega) h3.size ?_; intro v2 w4 h5 h6 h7; have hb4:Below w2.heap.size w2 w4:=Below.trans hb3 (h6.mono (hsz.out _ (by first | assumption | exact (Below.refl _ _).drew | exact below_alloc (by assumption) _ | exact below_alloc ((Below.refl _ _).drew) _))))
       | (refine step_appx EKcuts (by rfl) (.tmp 41) (.tmp 44) (by rfl) (by rfl) h5 (by rfl) (HA2.out _ (by first | assumption | exact (Below.refl _ _).drew | exact below_alloc (by assumption) _ | exact below_alloc ((Below.refl _ _).drew) _)) (oneK _) (by omega) (by omega) (by first | exact Nat.le_trans h3.size (Nat.le_trans (by simp) h6.size) | exact Nat.le_trans h3.size h6.size) ?_; intro v3 w5 h8 h9 h10; have hb5:Below w2.heap.size w2 w5:=Below.trans hb4 (h9.mono (hsz.out _ (by first | assumption | exact (Below.refl _ _).drew | exact below_alloc (by assumption) _ | exact below_alloc ((Below.refl _ _).drew) _)))))
     all_goals
      clear f0 f1 f2 f3 f4 f5 f6;go_wp2_with fail
     all_goals
      go_ret;exact put_end h8 HE.out (by have:=HN.out; omega) (by have:=HN.out; omega) hb2 hb5
    ·have HE:=hid (show putL l c=l from putL_eq hlt' HM.out (by rw [HK.out]; simpa using hd2));refine wp_region_below (by kernel_rfl) (by kernel_rfl) ?_;(repeat (go_big_quiet_step ((go_at_call 96; exact bw_int (rccompare_any s c _ hfk hcf)))));refine wpQuiet_nil ?_;rintro _ ⟨z,rfl⟩;clear hbw x0 x1 x2 x3 x4 x5 x6 f0 f1 f2 f3 f4 f5 f6 hd1 hd2 hgb;(go_wp2_with fail);go_ret;rw [HE.out];exact ⟨some ⟨b,off,none⟩,cap,by rw [HN.out]; rfl,by rw [HN.out]; exact hcap,HS1.out.below z.ok,zC hb1 z.ok⟩
   ·have hp:=hid (show Xc s c < 0 by simpa using hd1);(go_wp2_with fail);have hbw:=bw_cell;refine wp_region_below (by kernel_rfl) (by kernel_rfl) ?_;(repeat (go_big_quiet_step ((go_at_call 96; exact bw_int (rccompare_any s c _ hfk hcf)))));refine wpQuiet_nil ?_;rintro _ ⟨z,rfl⟩;clear hbw x0 x1 x2 x3 x4 x5 x6 f0 f1 f2 f3 f4 f5 f6;(go_wp2_with fail);go_roundw
    case rel=>exact ⟨k+1,by go_num,by omega,HS.out.below z.ok,HB.out.below z.ok,lowTo_step HM.out (by rw [HK.out]; exact hp.out),zC hbr z.ok⟩
    case measure=>simp [intOf]; omega
  ·(obtain rfl:k=n:=by omega);(have i2:((k:Int) < (k:Int))=False:=by simp);have HE:=hid (show putL l c=l.take k++c::l.drop k by rw [putL_end (by rw [HN.out]; exact HM.out),← HN.out]; simp);(go_wp2_with fail);have hbw:=bw_cell;refine wp_region_below (by kernel_rfl) (by kernel_rfl) ?_;(repeat (go_big_quiet_step (fail)));refine wpQuiet_nil ?_;rintro _ ⟨z,rfl⟩;clear hbw;(go_wp2_with fail);have HS1:=hid (HS.out.below z.ok);have HB1:=hid (HB.out.below z.ok);have hb1:=zC hbr z.ok;clear HS HB hbr HB0 HL hbn hgb;generalize z.v=w1 at *;clear z;have hbw:=bw_cell;refine wp_region_below (by kernel_rfl) (by kernel_rfl) ?_;(repeat (go_big_quiet_step (fail)));refine wpQuiet_nil ?_;rintro _ ⟨z,rfl⟩;clear hbw;(go_wp2_with fail);have HS2:=hid (HS1.out.below z.ok);have HB2:=hid (HB1.out.below z.ok);have hb2:=zC hb1 z.ok;clear HS1 HB1 hb1;generalize z.v=w2 at *;clear z;obtain ⟨f0,f1,f2,f3,f4,f5,f6⟩:=HB2.out.get7;have hgb:=HB2.out.1;have hM:maxLen=9223372036854775807:=rfl;(have hcc:(k:Int)≤(cap:Int):=by omega);(have hck:(k:Int)≤(k:Int):=by omega);(have hcn:(k:Int)≤(cap:Int):=by omega);(have i00:(0:Int)≤(0:Int):=by omega);have HA1:=hid (fun w' (h:Below w2.heap.size w2 w')=>(((HS2.out.below h).src (k:=0) (m:=k) (by have:=HN.out; omega))));have HA2:=hid (fun w' (h:Below w2.heap.size w2 w')=>src_cut0 (cap:=cap) (HS2.out.below h) (k:=k) (n:=k) (by have:=HN.out; omega) (by omega) (by omega))
   have HBX:=hid (fun w' (h:Below w2.heap.size w2 w')=>(HB2.out.below h).get7);have hsz:=hid (fun w' (h:Below w2.heap.size w2 w')=>h.size);simp only [Nat.zero_mul,Nat.add_zero,List.drop_zero] at HA1
   go_region_held3 (fun w'=>w'.cell? ⟨w.heap.size,0,none⟩=some (.int .i64 c.en)∧w'.cell? ⟨w.heap.size,1,none⟩=some (.int .i64 c.v.maj)∧w'.cell? ⟨w.heap.size,2,none⟩=some (.int .i64 c.v.min)∧w'.cell? ⟨w.heap.size,3,none⟩=some (.int .i64 c.v.pat)∧w'.cell? ⟨w.heap.size,4,none⟩=some (.string c.v.pre)∧w'.cell? ⟨w.heap.size,5,none⟩=some (.string c.v.bld)∧w'.cell? ⟨w.heap.size,6,none⟩=some (.bool c.aft))
    (first | (exact HBX.out _ (by first | assumption | exact (Below.refl _ _).drew | exact below_alloc (by assumption) _ | exact below_alloc ((Below.refl _ _).drew) _)) | go_keep)
    (first
     | (refine step_appx EKcuts (by rfl) (.const (.slice none 0 0)) (.tmp 37) (by rfl) (by rfl) (World.ownsRow_nil _ _ _ _) (by rfl) (HA1.out _ (by first | assumption | exact (Below.refl _ _).drew | exact below_alloc (by assumption) _ | exact below_alloc ((Below.refl _ _).drew) _)) (oneK _) (by omega) (by omega) (Nat.le_refl _) ?_; intro v1 w3 h2 h3 h4; have hb3:Below w2.heap.size w2 w3:=zC (by first | assumption | exact (Below.refl _ _).drew | exact below_alloc (by assumption) _ | exact below_alloc ((Below.refl _ _).drew) _) h3)
     | (refine step_appx EKcuts (by rfl) (.tmp 38) (.tmp 40) (by rfl) (by rfl) (h2.alloc _) (by rfl) (src_box _ _) (oneK1 c) (by omega) (by omega) (Nat.le_trans h3.size (by simp)) ?_; intro v2 w4 h5 h6 h7; have hb4:Below w2.heap.size w2 w4:=Below.trans ((below_alloc hb3 _)) (h6.mono (hsz.out _ (by first | assumption | exact (Below.refl _ _).drew | exact below_alloc (by assumption) _ | exact below_alloc ((Below.refl _ _).drew) _))))
     | (refine step_appx EKcuts (by rfl) (.tmp 38) (.tmp 40) (by rfl) (by rfl) h2 (by rfl) (src_box2 (w:=w2.drew) (c:=c) h3) (oneK1 c) (by omega) (by omega) h3.size ?_; intro v2 w4 h5 h6 h7; have hb4:Below w2.heap.size w2 w4:=Below.trans hb3 (h6.mono (hsz.out _ (by first | assumption | exact (Below.refl _ _).drew | exact below_alloc (by assumption) _ | exact below_alloc ((Below.refl _ _).drew) _))))
     | (refine step_appx EKcuts (by rfl) (.tmp 41) (.tmp 44) (by rfl) (by rfl) h5 (by rfl) (HA2.out _ (by first | assumption | exact (Below.refl _ _).drew | exact below_alloc (by assumption) _ | exact below_alloc ((Below.refl _ _).drew) _)) (oneK _) (by omega) (by omega) (by first | exact Nat.le_trans h3.size (Nat.le_trans (by simp) h6.size) | exact Nat.le_trans h3.size h6.size) ?_; intro v3 w5 h8 h9 h10; have hb5:Below w2.heap.size w2 w5:=Below.trans hb4 (h9.mono (hsz.out _ (by first | assumption | exact (Below.refl _ _).drew | exact below_alloc (by assumption) _ | exact below_alloc ((Below.refl _ _).drew) _)))))
   all_goals
    clear f0 f1 f2 f3 f4 f5 f6;go_wp2_with fail
   all_goals
    go_ret;exact put_end h8 HE.out (by have:=HN.out; omega) (by have:=HN.out; omega) hb2 hb5
theorem putL_mem:∀ (l:List CutL) (c x:CutL),x∈putL l c→x=c∨x∈l
 | [],c,x,h=>by simp [putL] at h; exact .inl h
 | y::l,c,x,h=>by
  unfold putL at h;split at h
  ·rcases List.mem_cons.1 h with rfl | h
   ·exact .inr (List.mem_cons_self ..)
   ·rcases putL_mem l c x h with rfl | h
    ·exact .inl rfl
    ·exact .inr (List.mem_cons_of_mem _ h)
  ·split at h
   ·exact .inr h
   ·rcases List.mem_cons.1 h with rfl | h
    ·exact .inl rfl
    ·exact .inr h
theorem putL_len:∀ (l:List CutL) (c:CutL),l.length≤(putL l c).length∧(putL l c).length≤l.length+1∧0 < (putL l c).length
 | [],c=>by simp [putL]
 | y::l,c=>by
  have ih:=putL_len l c;unfold putL;split
  ·simp only [List.length_cons]; omega
  ·split<;>simp only [List.length_cons]<;>omega
def allFit (l:List CutL):Prop:=∀ c,c∈l→c.fit
theorem allFit.at_ {l:List CutL} (h:allFit l):fitK l:=fun i hi=>by rw [nthC_lt hi]; exact h _ (List.getElem_mem _)
theorem allFit.put {l:List CutL} {c:CutL} (h:allFit l) (hc:c.fit):allFit (putL l c):=fun x hx=>by
 rcases putL_mem l c x hx with rfl | hx
 ·exact hc
 ·exact h x hx
def cutStep (o:List CutL) (s:SpanL):List CutL:=putL (putL o s.fr) s.til
def cutsL (l:List SpanL):List CutL:=l.foldl cutStep [rR,ig]
def cutsTo (l:List SpanL) (k:Nat):List CutL:=(l.take k).foldl cutStep [rR,ig]
theorem cutsTo_succ {l:List SpanL} {k:Nat} (h:k < l.length):cutsTo l (k+1)=cutStep (cutsTo l k) (nth l k):=by
 rw [cutsTo,cutsTo,List.take_succ_eq_append_getElem h,List.foldl_append,nth_lt h]; rfl
theorem cutsTo_all (l:List SpanL):cutsTo l l.length=cutsL l:=by rw [cutsTo,List.take_length]; rfl
theorem ee:rR.fit:=by simp [CutL.fit,Ver.fit,rR,xD]; decide
theorem cZ:ig.fit:=by simp [CutL.fit,Ver.fit,ig,xD]; decide
theorem cutsTo_good {l:List SpanL} (hf:fitL l):∀ (k:Nat),k≤l.length→allFit (cutsTo l k)∧(cutsTo l k).length≤2+2 * k∧0 < (cutsTo l k).length
 | 0,_=>by
  refine ⟨fun c hc=>?_,by simp [cutsTo],by simp [cutsTo]⟩;simp [cutsTo] at hc;rcases hc with rfl | rfl
  ·exact ee
  ·exact cZ
 | k+1,h=>by
  obtain ⟨h1,h2,h3⟩:=cutsTo_good hf k (by omega);rw [cutsTo_succ (by omega),cutStep];have hk:=hf k (by omega);have l1:=putL_len (cutsTo l k) (nth l k).fr;have l2:=putL_len (putL (cutsTo l k) (nth l k).fr) (nth l k).til;exact ⟨(h1.put hk.1).put hk.2,by omega,by omega⟩
theorem cuts_new {w:World}:CutsAt (w.alloc (.cells (rR.cells++ig.cells).toArray 109)) (some ⟨w.heap.size,0,none⟩) [rR,ig]:=by
 have h:=Box.new w (rR.cells++ig.cells) 109;refine .inr ⟨w.heap.size,0,rfl,h.1,fun i hi=>?_⟩
 match i,hi with
 | 0,_=>exact ⟨h.2 0 _ rfl,h.2 1 _ rfl,h.2 2 _ rfl,h.2 3 _ rfl,h.2 4 _ rfl,h.2 5 _ rfl,h.2 6 _ rfl⟩
 | 1,_=>exact ⟨h.2 7 _ rfl,h.2 8 _ rfl,h.2 9 _ rfl,h.2 10 _ rfl,h.2 11 _ rfl,h.2 12 _ rfl,h.2 13 _ rfl⟩
 | i+2,hi=>simp at hi; omega
theorem cuts_any (A:Option Addr) (cap:Nat) (l:List SpanL) (w:World) (hl:Spans w A l) (hf:fitL l) (hln:l.length≤40000):Calls Tryz.prog 103 #[.slice A l.length cap] w (PutPost w (cutsL l)):=by
 have HF:=hid hf;have HL:=hid hl;have HG:=hid (fun k hk=>cutsTo_good hf k hk);clear hl hf;generalize hn:l.length=n at *;have HN:=hid hn;clear hn;go_enter Tryz.func103,Tryz.ntmps103;(go_wp2_with (first | (go_at_call 61; refine (first_any _).mono ?_; rintro _ w1 ⟨rfl,hb1⟩) | (go_at_call 62; refine (last_any _).mono ?_; rintro _ w2 ⟨rfl,hb2⟩)));have hb12:=zC hb1 hb2;have hb0:=hid (zC hb12 (zL w2 (.cells (rR.cells++ig.cells).toArray 109)));have HL0:=hid (HL.out.below hb0.out);have HC0:=hid (cuts_new (w:=w2));clear HL;go_loopw [4,3] (fun i o wr=>∃ (k:Nat) (A1:Option Addr) (c1:Nat),i = .int .i64 k∧k≤n∧o = .slice A1 (cutsTo l k).length c1∧(cutsTo l k).length≤c1∧Hid (Spans wr A l)∧Hid (CutsAt wr A1 (cutsTo l k))∧Below w.heap.size w wr) (fun i _ _=>n - (intOf i).toNat)
 case atStart=>exact ⟨0,_,_,rfl,Nat.zero_le _,rfl,Nat.le_refl _,HL0,HC0,hb0.out⟩
 case round =>
  obtain ⟨k,A1,c1,rfl,hk,rfl,hc1,HS,HC,hbr⟩:=hrel;by_cases hlt:k < n
  ·(have hlt':k < l.length:=by rw [HN.out]; exact hlt);obtain ⟨g1,g2,g3⟩:=HG.out k hk;obtain ⟨b,off,rfl,hbl,hx,hz⟩:=HS.out.at_ (k:=k) hlt';(have i0:(0:Int)≤(k:Int):=by omega);(have i1:(k:Int) < (n:Int):=by omega);have hfk:=HF.out k hlt';have HNX:=hid (cutsTo_succ hlt');generalize nth l k=s at *;generalize cutsTo l k=o at *;have HGF:=hid g1;have HFR:=hid hfk.1;have HTI:=hid hfk.2;have HPL:=hid (putL_len o s.fr)
   have HSB:Hid (∀ w',Below wr.heap.size wr w'→w'.cell? ⟨b,off+k * 14,none⟩=some (.int .i64 s.fr.en)∧w'.cell? ⟨b,off+k * 14+1,none⟩=some (.int .i64 s.fr.v.maj)∧w'.cell? ⟨b,off+k * 14+2,none⟩=some (.int .i64 s.fr.v.min)∧w'.cell? ⟨b,off+k * 14+3,none⟩=some (.int .i64 s.fr.v.pat)∧w'.cell? ⟨b,off+k * 14+4,none⟩=some (.string s.fr.v.pre)∧w'.cell? ⟨b,off+k * 14+5,none⟩=some (.string s.fr.v.bld)∧w'.cell? ⟨b,off+k * 14+6,none⟩=some (.bool s.fr.aft)∧w'.cell? ⟨b,off+k * 14+7,none⟩=some (.int .i64 s.til.en)∧w'.cell? ⟨b,off+k * 14+7+1,none⟩=some (.int .i64 s.til.v.maj)∧w'.cell? ⟨b,off+k * 14+7+2,none⟩=some (.int .i64 s.til.v.min)∧w'.cell? ⟨b,off+k * 14+7+3,none⟩=some (.int .i64 s.til.v.pat)∧w'.cell? ⟨b,off+k * 14+7+4,none⟩=some (.string s.til.v.pre)∧w'.cell? ⟨b,off+k * 14+7+5,none⟩=some (.string s.til.v.bld)∧w'.cell? ⟨b,off+k * 14+7+6,none⟩=some (.bool s.til.aft)):=hid (fun w' h=>by
    obtain ⟨a0,a1,a2,a3,a4,a5,a6⟩:=hx.below hbl h;obtain ⟨c0,c1,c2,c3,c4,c5,c6⟩:=hz.below hbl h
    exact ⟨a0,a1,a2,a3,a4,a5,a6,c0,c1,c2,c3,c4,c5,c6⟩)
   clear hx hz g1 hfk;go_wp2_with fail
   go_region_held3 (fun w'=>w'.cell? ⟨b,off+k * 14,none⟩=some (.int .i64 s.fr.en)∧w'.cell? ⟨b,off+k * 14+1,none⟩=some (.int .i64 s.fr.v.maj)∧w'.cell? ⟨b,off+k * 14+2,none⟩=some (.int .i64 s.fr.v.min)∧w'.cell? ⟨b,off+k * 14+3,none⟩=some (.int .i64 s.fr.v.pat)∧w'.cell? ⟨b,off+k * 14+4,none⟩=some (.string s.fr.v.pre)∧w'.cell? ⟨b,off+k * 14+5,none⟩=some (.string s.fr.v.bld)∧w'.cell? ⟨b,off+k * 14+6,none⟩=some (.bool s.fr.aft)∧w'.cell? ⟨b,off+k * 14+7,none⟩=some (.int .i64 s.til.en)∧w'.cell? ⟨b,off+k * 14+7+1,none⟩=some (.int .i64 s.til.v.maj)∧w'.cell? ⟨b,off+k * 14+7+2,none⟩=some (.int .i64 s.til.v.min)∧w'.cell? ⟨b,off+k * 14+7+3,none⟩=some (.int .i64 s.til.v.pat)∧w'.cell? ⟨b,off+k * 14+7+4,none⟩=some (.string s.til.v.pre)∧w'.cell? ⟨b,off+k * 14+7+5,none⟩=some (.string s.til.v.bld)∧w'.cell? ⟨b,off+k * 14+7+6,none⟩=some (.bool s.til.aft))
    (first | (exact HSB.out _ (by first | assumption | exact (Below.refl _ _).drew)) | go_keep)
    (first
     | (go_at_call_of 148 s.fr.en; refine (put_any A1 c1 o s.fr _ (HC.out.below (by first | assumption | exact (Below.refl _ _).drew)) g3 HGF.out.at_ hc1 (by omega) HFR.out).mono ?_; rintro _ w3 ⟨A2,c2,rfl,e2,h2,h3⟩; have hb3:Below wr.heap.size wr w3:=zC (by first | assumption | exact (Below.refl _ _).drew) h3)
     | (go_at_call_of 148 s.til.en; refine (put_any A2 c2 (putL o s.fr) s.til _ h2 (HPL.out.2.2) (HGF.out.put HFR.out).at_ e2 (by have:=HPL.out; omega) HTI.out).mono ?_; rintro _ w4 ⟨A3,c3,rfl,e3,h4,h5⟩; have hb4:Below wr.heap.size wr w4:=zC hb3 h5))
   (go_wp2_with fail);go_roundw
   case rel=>exact ⟨k+1,A3,c3,by go_num,by omega,by rw [HNX.out]; rfl,by rw [HNX.out]; exact e3,HS.out.below hb4,by rw [HNX.out]; exact h4,zC hbr hb4⟩
   case measure=>simp [intOf]; omega
  ·(obtain rfl:k=n:=by omega);(have e:cutsL l=cutsTo l k:=by rw [← cutsTo_all,HN.out]);have HE:=hid e;clear e;(go_wp2_with fail);go_ret;rw [HE.out];exact ⟨A1,c1,rfl,hc1,HC.out,hbr⟩
def growTo (c:List CutL) (p:CutL→CutL→Bool):Nat→List SpanL
 | 0=>[]
 | k+1=>if p (nthC c k) (nthC c (k+1)) then growR (growTo c p k) (nthC c k) (nthC c (k+1)) else growTo c p k
def growAll (c:List CutL) (p:CutL→CutL→Bool):List SpanL:=growTo c p (c.length - 1)
def rmakeL (l:List SpanL):List SpanL × Bool:=if l.all iJ then (growAll (cutsL l) (inR l),true) else ([],false)
theorem growR_len (l:List SpanL) (f t:CutL):(growR l f t).length≤l.length+1:=by
 unfold growR;split
 ·split
  ·simp
  ·simp
 ·simp
theorem growTo_len (c:List CutL) (p:CutL→CutL→Bool):∀ k,(growTo c p k).length≤k
 | 0=>by simp [growTo]
 | k+1=>by
  have ih:=growTo_len c p k;unfold growTo;split
  ·have:=growR_len (growTo c p k) (nthC c k) (nthC c (k+1)); omega
  ·omega
theorem growR_fit {l:List SpanL} {f t:CutL} (hl:∀ s,s∈l→s.fit) (hf:f.fit) (ht:t.fit):∀ s,s∈growR l f t→s.fit:=by
 intro s hs;rcases List.eq_nil_or_concat l with rfl | ⟨m,q,rfl⟩
 ·simp [growR] at hs; subst hs; exact ⟨hf,ht⟩
 ·simp only [List.concat_eq_append] at hl hs;by_cases hc:Xc q.til f=0
  ·rw [growR_eq hc] at hs;rcases List.mem_append.1 hs with hs | hs
   ·exact hl s (List.mem_append_left _ hs)
   ·rw [List.mem_singleton] at hs; subst hs; exact ⟨(hl q (by simp)).1,ht⟩
  ·rw [growR_ne hc] at hs;rcases List.mem_append.1 hs with hs | hs
   ·exact hl s hs
   ·rw [List.mem_singleton] at hs; subst hs; exact ⟨hf,ht⟩
theorem growTo_fit {c:List CutL} {p:CutL→CutL→Bool} (hc:allFit c):∀ k,k < c.length→∀ s,s∈growTo c p k→s.fit
 | 0,_=>by simp [growTo]
 | k+1,h=>by
  have ih:=growTo_fit (p:=p) hc k (by omega);unfold growTo;split
  ·exact growR_fit ih (hc.at_ k (by omega)) (hc.at_ (k+1) h)
  ·exact ih
theorem cutsL_good {l:List SpanL} (hf:fitL l):allFit (cutsL l)∧(cutsL l).length≤2+2 * l.length∧0 < (cutsL l).length:=by
 rw [← cutsTo_all]; exact cutsTo_good hf _ (Nat.le_refl _)
def RowOk (w:World) (base:Nat) (r:List SpanL × Bool) (e:Ending) (w':World):Prop:=∃ v,e = .returned (.tuple #[v,.bool r.2])∧OwnS w' base v r.1∧Below base w w'∧w.heap.size≤w'.heap.size
theorem OwnS.low {w:World} {base b1:Nat} {v:Value} {l:List SpanL} (h:OwnS w b1 v l) (hb:base≤b1):OwnS w base v l:=by
 obtain ⟨h1,h2⟩:=h;refine ⟨h1,?_⟩;rcases h2 with h2 | ⟨g,cap,cur,hv,hg,r⟩
 ·exact .inl h2
 ·exact .inr ⟨g,cap,cur,hv,Nat.le_trans hb hg,r⟩
def okTo (l:List SpanL) (k:Nat):Prop:=∀ j,j < k→iJ (nth l j)=true
theorem okTo_step {l:List SpanL} {k:Nat} (h:okTo l k) (h1:iJ (nth l k)=true):okTo l (k+1):=by
 intro j hj;rcases Nat.lt_or_ge j k with h' | h'
 ·exact h j h'
 ·(obtain rfl:j=k:=by omega);exact h1
theorem okTo_end {l:List SpanL} (h:okTo l l.length):rmakeL l=(growAll (cutsL l) (inR l),true):=by
 rw [rmakeL,if_pos];rw [List.all_eq_true];intro s hs;obtain ⟨i,hi,rfl⟩:=List.getElem_of_mem hs;have:=h i hi
 rwa [nth_lt hi] at this
theorem okTo_no {l:List SpanL} {k:Nat} (hk:k < l.length) (h:iJ (nth l k)=false):rmakeL l=([],false):=by
 rw [rmakeL,if_neg];rw [List.all_eq_true];intro e;have:=e _ (List.getElem_mem hk);rw [nth_lt hk] at h;rw [h] at this; cases this
def notIn (l:List SpanL) (f t:CutL):Bool:=!inR l f t
def rnotL (l:List SpanL):List SpanL:=if mayR l then growAll (cutsL l) (notIn l) else []
def bothIn (a b:List SpanL) (f t:CutL):Bool:=inR a f t&&inR b f t
def randL (a b:List SpanL):List SpanL:=if mayR a&&mayR b then growAll (cutsL (a++b)) (bothIn a b) else []
def rorL (a b:List SpanL):List SpanL:=if mayR a&&mayR b then (rmakeL (a++b)).1 else []
def withinR (a b:List SpanL):Bool:=mayR a&&mayR b&&sameR (randL a b) a
theorem mayC_cases {c:CutL} (h:fB c=true):(c.en=0∧yF c.v=true∧bts c.v.bld=[])∨((c.en=-1∨c.en=1)∧c.v=xD∧c.aft=false):=by
 unfold fB at h;split at h
 ·rename_i h0
  rw [Bool.and_eq_true,List.isEmpty_iff] at h;exact .inl ⟨h0,h.1,h.2⟩
 ·simp only [Bool.and_eq_true,Bool.or_eq_true,decide_eq_true_eq,rC,Bool.not_eq_true'] at h;exact .inr ⟨h.1.1,h.1.2,h.2⟩
theorem ver_ext {a b:Ver} (h1:a.maj=b.maj) (h2:a.min=b.min) (h3:a.pat=b.pat) (h4:bts a.pre=bts b.pre) (h5:bts a.bld=bts b.bld):a=b:=by
 have k4:=xE h4;have k5:=xE h5;clear h4 h5;cases a; cases b;simp only at h1 h2 h3 k4 k5;subst h1; subst h2; subst h3; subst k4; subst k5; rfl
theorem mi:bts ⟨#[]⟩=[]:=by rw [bts,yX]
theorem cut_ext {a b:CutL} (h1:a.en=b.en) (h2:a.v=b.v) (h3:a.aft=b.aft):a=b:=by
 cases a; cases b; simp only at h1 h2 h3; subst h1; subst h2; subst h3; rfl
theorem pD {a:Ver} (h:yF a=true):xX a a=0:=(oh h h).2 ⟨rfl,rfl,rfl,rfl⟩
theorem cmpV_zero' {a b:Ver} (ha:yF a=true) (hb:yF b=true):xX a b=0↔xX b a=0:=by
 rw [oh ha hb,oh hb ha];constructor<;>(rintro ⟨h1,h2,h3,h4⟩; exact ⟨h1.symm,h2.symm,h3.symm,h4.symm⟩)
theorem Xu {a b:CutL} (h1:fB a=true) (h2:fB b=true) (h:a.en≠0∨b.en≠0):Xc a b=xT a.en b.en:=by rw [WB h1 h2,if_pos h]
def cmpA (a b:CutL):Int:=if xX a.v b.v≠0 then xX a.v b.v else if a.aft=b.aft then 0 else if b.aft then -1 else 1
theorem cmpC_in {a b:CutL} (h1:fB a=true) (h2:fB b=true) (ha:a.en=0) (hb:b.en=0):Xc a b=cmpA a b:=by rw [WB h1 h2,if_neg (by omega)]; rfl
theorem cmpA_lt {a b:CutL}:cmpA a b < 0↔xX a.v b.v < 0∨(xX a.v b.v=0∧a.aft=false∧b.aft=true):=by
 unfold cmpA;split
 ·constructor
  ·exact .inl
  ·rintro (h | h)
   ·exact h
   ·omega
 ·rename_i h
  (have h0:xX a.v b.v=0:=by omega);rw [h0];cases a.aft<;>cases b.aft<;>simp
theorem cmpA_gt {a b:CutL}:0 < cmpA a b↔0 < xX a.v b.v∨(xX a.v b.v=0∧a.aft=true∧b.aft=false):=by
 unfold cmpA;split
 ·constructor
  ·exact .inl
  ·rintro (h | h)
   ·exact h
   ·omega
 ·rename_i h
  (have h0:xX a.v b.v=0:=by omega);rw [h0];cases a.aft<;>cases b.aft<;>simp
theorem cmpA_zero {a b:CutL}:cmpA a b=0↔xX a.v b.v=0∧a.aft=b.aft:=by
 unfold cmpA;split
 ·constructor
  ·intro h; omega
  ·rintro ⟨h,_⟩; omega
 ·rename_i h
  (have h0:xX a.v b.v=0:=by omega);rw [h0];cases a.aft<;>cases b.aft<;>simp
theorem cmpC_self (a:CutL) (h:fB a=true):Xc a a=0:=by
 rcases mayC_cases h with ⟨h0,h1,h2⟩ | ⟨h0,h1,h2⟩
 ·rw [cmpC_in h h h0 h0,cmpA_zero]; exact ⟨pD h1,rfl⟩
 ·rw [Xu h h (by omega)]; exact kg _
theorem cmpC_eq (a b:CutL) (h:fB a=true) (k:fB b=true) (e:Xc a b=0):a=b:=by
 rcases mayC_cases h with ⟨h0,h1,h2⟩ | ⟨h0,h1,h2⟩
 ·rcases mayC_cases k with ⟨k0,k1,k2⟩ | ⟨k0,k1,k2⟩
  ·rw [cmpC_in h k h0 k0,cmpA_zero,oh h1 k1] at e;exact cut_ext (by omega) (ver_ext e.1.1 e.1.2.1 e.1.2.2.1 e.1.2.2.2 (by rw [h2,k2])) e.2
  ·rw [Xu h k (by omega),wO] at e; omega
 ·rw [Xu h k (by omega),wO] at e;rcases mayC_cases k with ⟨k0,k1,k2⟩ | ⟨k0,k1,k2⟩
  ·omega
  ·exact cut_ext e (by rw [h1,k1]) (by rw [h2,k2])
theorem cmpC_flip {a b:CutL} (h:fB a=true) (k:fB b=true):Xc a b < 0↔0 < Xc b a:=by
 by_cases e:a.en≠0∨b.en≠0
 ·rw [Xu h k e,Xu k h (by omega),tO,mZ]
 ·(have ha:a.en=0:=by omega);(have hb:b.en=0:=by omega);rcases mayC_cases h with ⟨h0,h1,h2⟩ | ⟨h0,h1,h2⟩
  ·rcases mayC_cases k with ⟨k0,k1,k2⟩ | ⟨k0,k1,k2⟩
   ·rw [cmpC_in h k ha hb,cmpC_in k h hb ha,cmpA_lt,cmpA_gt,pU h1 k1,cmpV_zero' h1 k1];constructor
    ·rintro (q | ⟨q1,q2,q3⟩)
     ·exact .inl q
     ·exact .inr ⟨q1,q3,q2⟩
    ·rintro (q | ⟨q1,q2,q3⟩)
     ·exact .inl q
     ·exact .inr ⟨q1,q3,q2⟩
   ·omega
  ·omega
theorem cmpC_anti' (a b:CutL) (h:fB a=true) (k:fB b=true) (e:0 < Xc a b):Xc b a < 0:=(cmpC_flip k h).2 e
theorem Ze {a b:Ver} (ha:yF a=true) (hb:yF b=true):xX a b=if zu a b≠0 then zu a b else xS (bts a.pre) (bts b.pre):=by unfold xX; rw [if_neg (by simp [ha,hb])]
theorem jn {a b c:Ver} (ha:yF a=true) (hb:yF b=true) (hc:yF c=true) (h:xX a b=0):xX a c=xX b c:=by
 obtain ⟨h1,h2,h3,h4⟩:=(oh ha hb).1 h;rw [Ze ha hc,Ze hb hc,h4,show zu a c=zu b c by simp only [zu,h1,h2,h3]]
theorem cmpV_eq_right {a b c:Ver} (ha:yF a=true) (hb:yF b=true) (hc:yF c=true) (h:xX a b=0):xX c a=xX c b:=by
 obtain ⟨h1,h2,h3,h4⟩:=(oh ha hb).1 h;rw [Ze hc ha,Ze hc hb,h4,show zu c a=zu c b by simp only [zu,h1,h2,h3]]
theorem cmpC_tran (a b c:CutL) (h:fB a=true) (k:fB b=true) (m:fB c=true) (e:Xc a b < 0) (f:Xc b c < 0):Xc a c < 0:=by
 by_cases z:a.en=0∧b.en=0∧c.en=0
 ·obtain ⟨za,zb,zc⟩:=z;rcases mayC_cases h with ⟨_,h1,_⟩ | ⟨h0,_,_⟩
  ·rcases mayC_cases k with ⟨_,k1,_⟩ | ⟨k0,_,_⟩
   ·rcases mayC_cases m with ⟨_,m1,_⟩ | ⟨m0,_,_⟩
    ·rw [cmpC_in h k za zb,cmpA_lt] at e;rw [cmpC_in k m zb zc,cmpA_lt] at f;rw [cmpC_in h m za zc,cmpA_lt];rcases e with e | ⟨e1,e2,e3⟩
     ·rcases f with f | ⟨f1,f2,f3⟩
      ·exact .inl (pt h1 k1 m1 e f)
      ·exact .inl (by rw [← cmpV_eq_right k1 m1 h1 f1]; exact e)
     ·rcases f with f | ⟨f1,f2,f3⟩
      ·exact .inl (by rw [jn h1 k1 m1 e1]; exact f)
      ·exact .inr ⟨by rw [jn h1 k1 m1 e1]; exact f1,e2,f3⟩
    ·omega
   ·omega
  ·omega
 ·have bd:∀ {x:CutL},fB x=true→x.en=0∨x.en=-1∨x.en=1:=fun hx=>by
   rcases mayC_cases hx with ⟨q,_⟩ | ⟨q,_⟩
   ·exact .inl q
   ·exact .inr q
  have ba:=bd h;have bb:=bd k;have bc:=bd m;by_cases z1:a.en=0∧b.en=0
  ·rw [Xu k m (by omega),tO] at f;rw [Xu h m (by omega),tO]; omega
  ·rw [Xu h k (by omega),tO] at e;by_cases z2:b.en=0∧c.en=0
   ·rw [Xu h m (by omega),tO]; omega
   ·rw [Xu k m (by omega),tO] at f;rw [Xu h m (by omega),tO]; omega
theorem kt:fB rR=true:=by rw [fK (.inl rfl),show rR.v=xD from rfl,rC.2 rfl]; rfl
theorem fp:fB ig=true:=by rw [fK (.inr rfl),show ig.v=xD from rfl,rC.2 rfl]; rfl
theorem cmpC_first (a:CutL) (h:fB a=true):Xc rR a≤0:=by
 rw [Xu kt h (by simp [rR])];have h1:=@mZ rR.en a.en;have:rR.en=-1:=rfl;rcases mayC_cases h with ⟨q,_⟩ | ⟨q,_⟩<;>omega
theorem cmpC_last (a:CutL) (h:fB a=true):Xc a ig≤0:=by
 rw [Xu h fp (by simp [ig])];have h1:=@mZ a.en ig.en;have:ig.en=1:=rfl;rcases mayC_cases h with ⟨q,_⟩ | ⟨q,_⟩<;>omega
theorem aT:Xc rR ig < 0:=by
 rw [Xu kt fp (by simp [rR]),tO]; decide
def bareV (v:Ver):Ver:=⟨v.maj,v.min,v.pat,v.pre,⟨#[]⟩⟩
def befC (v:Ver):CutL:=⟨0,bareV v,false⟩
theorem bare_may {v:Ver} (h:yF v=true):yF (bareV v)=true:=by
 simp only [yF,Bool.and_eq_true] at h;obtain ⟨⟨⟨⟨h1,h2⟩,h3⟩,h4⟩,_⟩:=h;have:oz (bts (bareV v).bld)=true:=jj mi;simp only [yF,bareV,h1,h2,h3,h4,Bool.true_and];exact this
theorem befC_may {v:Ver} (h:yF v=true):fB (befC v)=true:=by
 rw [mayC_zero rfl,show (befC v).v=bareV v from rfl,bare_may h,show bts (bareV v).bld=[] from mi]; rfl
theorem cmpV_bare {a v:Ver} (hv:yF v=true):xX a (bareV v)=xX a v:=by
 simp only [xX,hv,bare_may hv];rfl
theorem ahead_cmp {c:CutL} {v:Ver} (hc:fB c=true) (hv:yF v=true):aheadC c v=true↔Xc c (befC v)≤0:=by
 by_cases h0:c.en=0
 ·rw [aheadC_in hc hv h0,cmpC_in hc (befC_may hv) h0 rfl];have h1:=@cmpA_gt c (befC v);rw [show (befC v).v=bareV v from rfl,show (befC v).aft=false from rfl,cmpV_bare hv] at h1;simp only [Bool.or_eq_true,Bool.and_eq_true,decide_eq_true_eq,Bool.not_eq_true'];constructor
  ·intro h;apply Int.not_lt.1;rw [h1];rintro (k | ⟨k1,k2,_⟩)
   ·omega
   ·rcases h with h | ⟨_,h⟩
    ·omega
    ·rw [k2] at h; cases h
  ·intro h;have h2:=mt h1.2 (Int.not_lt.2 h);by_cases h3:xX c.v v=0
   ·refine .inr ⟨h3,?_⟩;cases ha:c.aft
    ·rfl
    ·exact (h2 (.inr ⟨h3,ha,rfl⟩)).elim
   ·refine .inl ?_;(have:¬ 0 < xX c.v v:=fun q=>h2 (.inl q));omega
 ·rw [aheadC_end hc hv h0,decide_eq_true_eq,Xu hc (befC_may hv) (.inl h0)];have h1:=@mZ c.en (befC v).en;have:(befC v).en=0:=rfl;omega
namespace Rw
def lt (a b:CutL):Prop:=fB a=true∧fB b=true∧Xc a b < 0
def le (a b:CutL):Prop:=fB a=true∧fB b=true∧Xc a b≤0
section
variable {a b c d:CutL}
theorem lt.okl (h:lt a b):fB a=true:=h.1
theorem lt.okr (h:lt a b):fB b=true:=h.2.1
theorem le.okl (h:le a b):fB a=true:=h.1
theorem le.okr (h:le a b):fB b=true:=h.2.1
theorem le.rfl' (h:fB a=true):le a a:=⟨h,h,by rw [cmpC_self a h]; omega⟩
theorem lt.le' (h:lt a b):le a b:=⟨h.1,h.2.1,by have:=h.2.2; omega⟩
theorem lt.tr (h:lt a b) (k:lt b c):lt a c:=⟨h.1,k.2.1,cmpC_tran a b c h.1 h.2.1 k.2.1 h.2.2 k.2.2⟩
theorem le.cases (h:le a b):lt a b∨a=b:=by
 by_cases e:Xc a b=0
 ·exact .inr (cmpC_eq a b h.1 h.2.1 e)
 ·exact .inl ⟨h.1,h.2.1,by have:=h.2.2; omega⟩
theorem le.tr_lt (h:le a b) (k:lt b c):lt a c:=by
 rcases h.cases with h | rfl
 ·exact h.tr k
 ·exact k
theorem lt.tr_le (h:lt a b) (k:le b c):lt a c:=by
 rcases k.cases with k | rfl
 ·exact h.tr k
 ·exact h
theorem le.tr (h:le a b) (k:le b c):le a c:=by
 rcases h.cases with h | rfl
 ·exact (h.tr_le k).le'
 ·exact k
theorem lt.irr (h:lt a a):False:=by have:=cmpC_self a h.1; have:=h.2.2; omega
theorem lt.not_le (h:lt a b) (k:le b a):False:=(h.tr_le k).irr
theorem le.anti (h:le a b) (k:le b a):a=b:=by
 rcases h.cases with h | h
 ·exact (h.not_le k).elim
 ·exact h
theorem total (ha:fB a=true) (hb:fB b=true):lt a b∨le b a:=by
 by_cases h:Xc a b < 0
 ·exact .inl ⟨ha,hb,h⟩
 ·refine .inr ⟨hb,ha,?_⟩;by_cases e:Xc a b=0
  ·have:=cmpC_eq a b ha hb e; subst this; rw [cmpC_self a ha]; omega
  ·have:=cmpC_anti' a b ha hb (by omega); omega
theorem lt_of_not_le (ha:fB a=true) (hb:fB b=true) (h:¬ le b a):lt a b:=(total ha hb).resolve_right h
theorem le_of_not_lt (ha:fB a=true) (hb:fB b=true) (h:¬ lt a b):le b a:=(total ha hb).resolve_left h
theorem ge_iff (ha:fB a=true) (hb:fB b=true):0≤Xc a b↔le b a:=by
 constructor
 ·intro h;exact le_of_not_lt ha hb (fun k=>by have:=k.2.2; omega)
 ·intro h;apply Decidable.byContradiction;intro k;exact lt.not_le ⟨ha,hb,by omega⟩ h
theorem eq_iff (ha:fB a=true) (hb:fB b=true):Xc a b=0↔a=b:=⟨cmpC_eq a b ha hb,fun h=>h▸cmpC_self a ha⟩
end
section
def mayB:CutL→List (SpanL)→Bool
 | _,[]=>true
 | p,s::l=>iJ s&&decide (Xc p s.fr < 0)&&mayB s.til l
def may:List (SpanL)→Bool
 | []=>true
 | s::l=>iJ s&&mayB s.til l
def mem (l:List (SpanL)) (c:CutL):Prop:=∃ s,s∈l∧le s.fr c∧lt c s.til
def Val:List (SpanL)→Prop
 | []=>True
 | s::l=>lt s.fr s.til∧(∀ t,t∈l→lt s.til t.fr)∧Val l
end
section
theorem spanMay_iff {s:SpanL}:iJ s=true↔lt s.fr s.til:=by
 simp [iJ,lt,and_assoc]
theorem mayB_val:∀ (l:List (SpanL)) (p:CutL),fB p=true→(mayB p l=true↔(∀ t,t∈l→lt p t.fr)∧Val l)
 | [],p,_=>by simp [mayB,Val]
 | s::l,p,hp=>by
  simp only [mayB,Bool.and_eq_true,decide_eq_true_eq,spanMay_iff,Val,List.mem_cons];constructor
  ·rintro ⟨⟨hs,hps⟩,h⟩;obtain ⟨h1,h2⟩:=(mayB_val l s.til hs.okr).1 h;have h0:lt p s.fr:=⟨hp,hs.okl,hps⟩;refine ⟨fun t ht=>?_,hs,h1,h2⟩;rcases ht with rfl | ht
   ·exact h0
   ·exact (h0.tr hs).tr (h1 t ht)
  ·rintro ⟨h0,hs,h1,h2⟩;exact ⟨⟨hs,(h0 s (.inl rfl)).2.2⟩,(mayB_val l s.til hs.okr).2 ⟨h1,h2⟩⟩
theorem may_val:∀ (l:List (SpanL)),may l=true↔Val l
 | []=>by simp [may,Val]
 | s::l=>by
  simp only [may,Val,Bool.and_eq_true,spanMay_iff];constructor
  ·rintro ⟨hs,h⟩;exact ⟨hs,(mayB_val l s.til hs.okr).1 h⟩
  ·rintro ⟨hs,h⟩;exact ⟨hs,(mayB_val l s.til hs.okr).2 h⟩
theorem mem_nil {c:CutL}:¬ mem [] c:=by rintro ⟨s,h,_⟩; cases h
theorem mem_cons {s:SpanL} {l:List (SpanL)} {c:CutL}:mem (s::l) c↔(le s.fr c∧lt c s.til)∨mem l c:=by
 constructor
 ·rintro ⟨t,ht,h⟩;rcases List.mem_cons.1 ht with rfl | ht
  ·exact .inl h
  ·exact .inr ⟨t,ht,h⟩
 ·rintro (h | ⟨t,ht,h⟩)
  ·exact ⟨s,List.mem_cons_self ..,h⟩
  ·exact ⟨t,List.mem_cons_of_mem _ ht,h⟩
theorem mem_append {l m:List (SpanL)} {c:CutL}:mem (l++m) c↔mem l c∨mem m c:=by
 induction l with
 | nil=>simp [mem_nil]
 | cons s l ih=>rw [List.cons_append,mem_cons,mem_cons,ih,or_assoc]
theorem mem_congr {l m:List (SpanL)} {c:CutL} (h:∀ s,s∈l↔s∈m):mem l c↔mem m c :=
 ⟨fun ⟨s,hs,k⟩=>⟨s,(h s).1 hs,k⟩,fun ⟨s,hs,k⟩=>⟨s,(h s).2 hs,k⟩⟩
theorem Val.ext:∀ (l m:List (SpanL)),Val l→Val m→(∀ c,mem l c↔mem m c)→l=m
 | [],[],_,_,_=>rfl
 | [],y::m,_,hm,h=>(mem_nil ((h y.fr).2 (mem_cons.2 (.inl ⟨le.rfl' hm.1.okl,hm.1⟩)))).elim
 | x::l,[],hl,_,h=>(mem_nil ((h x.fr).1 (mem_cons.2 (.inl ⟨le.rfl' hl.1.okl,hl.1⟩)))).elim
 | x::l,y::m,hl,hm,h=>by
  have low:∀ (z:SpanL) (k:List (SpanL)),Val (z::k)→∀ c,mem (z::k) c→le z.fr c:=by
   intro z k hv c hc;rcases mem_cons.1 hc with hc | ⟨t,ht,hc,_⟩
   ·exact hc.1
   ·exact (hv.1.tr (hv.2.1 t ht)).le'.tr hc
  have off:∀ (z:SpanL) (k:List (SpanL)),Val (z::k)→¬ mem (z::k) z.til:=by
   intro z k hv hc;rcases mem_cons.1 hc with hc | ⟨t,ht,hc,_⟩
   ·exact hc.2.irr
   ·exact (hv.2.1 t ht).not_le hc
  have e1:x.fr=y.fr:=by
   refine le.anti ?_ ?_
   ·exact low x l hl _ ((h y.fr).2 (mem_cons.2 (.inl ⟨le.rfl' hm.1.okl,hm.1⟩)))
   ·exact low y m hm _ ((h x.fr).1 (mem_cons.2 (.inl ⟨le.rfl' hl.1.okl,hl.1⟩)))
  have e2:x.til=y.til:=by
   refine le.anti ?_ ?_
   ·refine le_of_not_lt hm.1.okr hl.1.okr (fun k=>?_);exact off y m hm ((h y.til).1 (mem_cons.2 (.inl ⟨by rw [e1]; exact hm.1.le',k⟩)))
   ·refine le_of_not_lt hl.1.okr hm.1.okr (fun k=>?_);exact off x l hl ((h x.til).2 (mem_cons.2 (.inl ⟨by rw [← e1]; exact hl.1.le',k⟩)))
  obtain ⟨xf,xt⟩:=x;obtain ⟨yf,yt⟩:=y;cases e1;cases e2;refine congrArg _ (Val.ext l m hl.2.2 hm.2.2 fun c=>?_);constructor
  ·rintro ⟨t,ht,h1,h2⟩;rcases mem_cons.1 ((h c).1 (mem_cons.2 (.inr ⟨t,ht,h1,h2⟩))) with k | k
   ·exact (((hl.2.1 t ht).tr_le h1).not_le k.2.le').elim
   ·exact k
  ·rintro ⟨t,ht,h1,h2⟩;rcases mem_cons.1 ((h c).2 (mem_cons.2 (.inr ⟨t,ht,h1,h2⟩))) with k | k
   ·exact (((hm.2.1 t ht).tr_le h1).not_le k.2.le').elim
   ·exact k
theorem Val.snoc:∀ (l:List (SpanL)) (s:SpanL),Val l→lt s.fr s.til→(∀ t,t∈l→lt t.til s.fr)→Val (l++[s])
 | [],s,_,hs,_=>⟨hs,fun _ h=>(List.not_mem_nil h).elim,True.intro⟩
 | t::l,s,hl,hs,h=>by
  refine ⟨hl.1,fun u hu=>?_,Val.snoc l s hl.2.2 hs fun u hu=>h u (List.mem_cons_of_mem _ hu)⟩;rcases List.mem_append.1 hu with hu | hu
  ·exact hl.2.1 u hu
  ·rw [List.mem_singleton] at hu; subst hu; exact h t (List.mem_cons_self ..)
theorem Val.of_snoc:∀ (l:List (SpanL)) (s:SpanL),Val (l++[s])→Val l∧lt s.fr s.til∧∀ t,t∈l→lt t.til s.fr
 | [],s,h=>⟨True.intro,h.1,fun _ h=>(List.not_mem_nil h).elim⟩
 | t::l,s,h=>by
  obtain ⟨h1,h2,h3⟩:=Val.of_snoc l s h.2.2;refine ⟨⟨h.1,fun u hu=>h.2.1 u (List.mem_append_left _ hu),h1⟩,h2,fun u hu=>?_⟩;rcases List.mem_cons.1 hu with rfl | hu
  ·exact h.2.1 s (by simp)
  ·exact h3 u hu
section
def mergeStep (out:List (SpanL)) (s:SpanL):List (SpanL) :=
 match out with
 | []=>[s]
 | k::r=>if Xc k.til s.fr < 0 then s::k::r else if Xc k.til s.til < 0 then ⟨k.fr,s.til⟩::r else k::r
def merge (l:List (SpanL)):List (SpanL):=(l.foldl (mergeStep) []).reverse
end
theorem mergeStep_good {out:List (SpanL)} {s:SpanL} (hv:Val out.reverse) (hs:lt s.fr s.til) (hlo:∀ t,t∈out→le t.fr s.fr) :
 Val (mergeStep out s).reverse∧(∀ c,mem (mergeStep out s) c↔mem out c∨(le s.fr c∧lt c s.til))∧(∀ t,t∈mergeStep out s→le t.fr s.fr):=by
 cases out with
 | nil =>
  refine ⟨by simp [mergeStep,Val,hs],fun c=>?_,fun t ht=>?_⟩
  ·simp [mergeStep,mem_cons,mem_nil]
  ·simp [mergeStep] at ht; subst ht; exact le.rfl' hs.okl
 | cons k r =>
  have hv':=hv
  rw [List.reverse_cons] at hv'
  obtain ⟨hr,hk,hrk⟩:=Val.of_snoc _ _ hv'
  have hks:=hlo k (List.mem_cons_self ..)
  unfold mergeStep
  by_cases h1:Xc k.til s.fr < 0
  ·simp only [h1,if_true];have h1':lt k.til s.fr:=⟨hk.okr,hs.okl,h1⟩;refine ⟨?_,fun c=>?_,fun t ht=>?_⟩
   ·rw [List.reverse_cons];(refine Val.snoc _ _ hv hs fun t ht=>?_);rw [List.mem_reverse] at ht;rcases List.mem_cons.1 ht with rfl | ht
    ·exact h1'
    ·exact ((hrk t (List.mem_reverse.2 ht)).tr hk).tr h1'
   ·rw [mem_cons,or_comm]
   ·rcases List.mem_cons.1 ht with rfl | ht
    ·exact le.rfl' hs.okl
    ·exact hlo t ht
  ·simp only [h1,if_false];have h1':le s.fr k.til:=le_of_not_lt hk.okr hs.okl (fun h=>h1 h.2.2);by_cases h2:Xc k.til s.til < 0
   ·simp only [h2,if_true];have h2':lt k.til s.til:=⟨hk.okr,hs.okr,h2⟩;refine ⟨?_,fun c=>?_,fun t ht=>?_⟩
    ·rw [List.reverse_cons];exact Val.snoc _ _ hr (hk.tr h2') hrk
    ·rw [mem_cons,mem_cons];constructor
     ·rintro (⟨ha,hb⟩ | h)
      ·rcases total ha.okr hk.okr with hc | hc
       ·exact .inl (.inl ⟨ha,hc⟩)
       ·exact .inr ⟨h1'.tr hc,hb⟩
      ·exact .inl (.inr h)
     ·rintro ((⟨ha,hb⟩ | h) | ⟨ha,hb⟩)
      ·exact .inl ⟨ha,hb.tr h2'⟩
      ·exact .inr h
      ·exact .inl ⟨hks.tr ha,hb⟩
    ·rcases List.mem_cons.1 ht with rfl | ht
     ·exact hks
     ·exact hlo t (List.mem_cons_of_mem _ ht)
   ·simp only [h2,if_false];have h2':le s.til k.til:=le_of_not_lt hk.okr hs.okr (fun h=>h2 h.2.2);refine ⟨hv,fun c=>?_,hlo⟩;rw [mem_cons];constructor
    ·exact fun h => .inl h
    ·rintro (h | ⟨ha,hb⟩)
     ·exact h
     ·exact .inl ⟨hks.tr ha,hb.tr_le h2'⟩
theorem merge_fold:∀ (l:List (SpanL)) (out:List (SpanL)),Val out.reverse→(∀ s,s∈l→lt s.fr s.til) →
 (∀ t,t∈out→∀ s,s∈l→le t.fr s.fr)→l.Pairwise (fun a b=>le a.fr b.fr) →
 Val (l.foldl (mergeStep) out).reverse∧∀ c,mem (l.foldl (mergeStep) out) c↔mem out c∨mem l c
 | [],out,hv,_,_,_=>⟨hv,fun c=>by simp [mem_nil]⟩
 | s::l,out,hv,hs,hlo,hp=>by
  obtain ⟨g1,g2,g3⟩:=mergeStep_good hv (hs s (List.mem_cons_self ..)) (fun t ht=>hlo t ht s (List.mem_cons_self ..));rw [List.pairwise_cons] at hp;obtain ⟨k1,k2⟩:=merge_fold l (mergeStep out s) g1 (fun t ht=>hs t (List.mem_cons_of_mem _ ht)) (fun t ht u hu=>(g3 t ht).tr (hp.1 u hu)) hp.2;refine ⟨k1,fun c=>?_⟩;rw [List.foldl_cons,k2,g2,mem_cons,or_assoc]
theorem merge_good {l:List (SpanL)} (hs:∀ s,s∈l→lt s.fr s.til) (hp:l.Pairwise (fun a b=>le a.fr b.fr)) :
 Val (merge l)∧∀ c,mem (merge l) c↔mem l c:=by
 obtain ⟨h1,h2⟩:=merge_fold l [] (by simp [Val]) hs (fun _ h=>(List.not_mem_nil h).elim) hp
 refine ⟨h1,fun c=>?_⟩
 unfold merge
 rw [mem_congr (m:=l.foldl (mergeStep) []) (fun s=>List.mem_reverse),h2]
 simp [mem_nil]
end
theorem may_cons {s:SpanL} {l:List SpanL}:may (s::l)=true↔iJ s=true∧may l=true∧(0 < l.length→Xc s.til (nth l 0).fr < 0):=by
 cases l with
 | nil=>simp [may,mayB]
 | cons t l =>
  simp only [may,mayB,Bool.and_eq_true,decide_eq_true_eq,List.length_cons];constructor
  ·rintro ⟨h1,⟨h2,h3⟩,h4⟩;exact ⟨h1,⟨h2,h4⟩,fun _=>h3⟩
  ·rintro ⟨h1,⟨h2,h4⟩,h3⟩;exact ⟨h1,⟨h2,h3 (by omega)⟩,h4⟩
theorem nth_succ {s:SpanL} {l:List SpanL} {j:Nat}:nth (s::l) (j+1)=nth l j:=by simp [nth]
theorem may_to:∀ l:List SpanL,mayTo l l.length↔may l=true
 | []=>by simp [mayTo,may]
 | s::l=>by
  rw [may_cons,← may_to l];constructor
  ·intro h;refine ⟨(h 0 (by simp)).1,fun j hj=>?_,fun h0=>?_⟩
   ·have:=h (j+1) (by simpa using hj);rw [nth_succ] at this;refine ⟨this.1,fun h0=>?_⟩;obtain ⟨i,rfl⟩:∃ i,j=i+1:=⟨j - 1,by omega⟩;have h2:=this.2 (by omega)
    rwa [Nat.add_sub_cancel,nth_succ] at h2
   ·have h2:=(h 1 (by simpa using h0)).2 (by omega)
    rwa [nth_succ] at h2
  ·rintro ⟨h1,h2,h3⟩ j hj;cases j with
   | zero=>exact ⟨h1,fun h=>by omega⟩
   | succ j =>
    (have hj':j < l.length:=by simpa using hj);rw [nth_succ];refine ⟨(h2 j hj').1,fun _=>?_⟩;rw [Nat.add_sub_cancel];cases j with
    | zero=>exact h3 hj'
    | succ i=>rw [nth_succ]; exact (h2 (i+1) hj').2 (by omega)
theorem mayR_val {l:List SpanL}:mayR l=true↔Val l:=by rw [mayR_iff,may_to,may_val]
theorem Val.span:∀ {l:List SpanL},Val l→∀ s,s∈l→lt s.fr s.til
 | s::l,h,t,ht=>by
  rcases List.mem_cons.1 ht with rfl | ht
  ·exact h.1
  ·exact Val.span h.2.2 t ht
theorem holds_iff {s:SpanL} {v:Ver} (hs:lt s.fr s.til) (hv:yF v=true):holdsS s v=true↔le s.fr (befC v)∧lt (befC v) s.til:=by
 have hb:=befC_may hv;have h1:=ahead_cmp hs.okl hv;have h2:=ahead_cmp hs.okr hv;simp only [holdsS,spanMay_iff.2 hs,hv,Bool.true_and,Bool.and_eq_true,Bool.not_eq_true',h1];constructor
 ·rintro ⟨k1,k2⟩;refine ⟨⟨hs.okl,hb,k1⟩,lt_of_not_le hb hs.okr fun h=>?_⟩;rw [h2.2 h.2.2] at k2; cases k2
 ·rintro ⟨k1,k2⟩;refine ⟨k1.2.2,?_⟩;rw [Bool.eq_false_iff];intro h;exact k2.not_le ⟨hs.okr,hb,h2.1 h⟩
theorem any_holds {l:List SpanL} {v:Ver} (hl:∀ s,s∈l→lt s.fr s.til) (hv:yF v=true):(l.any fun s=>holdsS s v)=true↔mem l (befC v):=by
 rw [List.any_eq_true];constructor
 ·rintro ⟨s,hs,h⟩;exact ⟨s,hs,(holds_iff (hl s hs) hv).1 h⟩
 ·rintro ⟨s,hs,h⟩;exact ⟨s,hs,(holds_iff (hl s hs) hv).2 h⟩
theorem has_iff {l:List SpanL} {v:Ver} (hl:Val l) (hv:yF v=true):hasR l v=true↔mem l (befC v):=by
 rw [hasR,mayR_val.2 hl,Bool.true_and];exact any_holds hl.span hv
def inU (x:CutL):Prop:=le rR x∧lt x ig
theorem first_le {x:CutL} (h:fB x=true):le rR x:=⟨kt,h,cmpC_first x h⟩
theorem le_last {x:CutL} (h:fB x=true):le x ig:=⟨h,fp,cmpC_last x h⟩
theorem mem.inU {l:List SpanL} {x:CutL} (h:mem l x):inU x:=by
 obtain ⟨s,_,h1,h2⟩:=h;exact ⟨first_le h1.okr,h2.tr_le (le_last h2.okr)⟩
theorem bef_inU {v:Ver} (hv:yF v=true) (h:befC v≠ig):inU (befC v):=by
 refine ⟨first_le (befC_may hv),?_⟩;rcases (le_last (befC_may hv)).cases with k | k
 ·exact k
 ·exact (h k).elim
theorem bef_ne (v:Ver):befC v≠ig:=by
 intro h;have:=congrArg CutL.en h
 revert this; simp [befC,ig]
def VF (l:List SpanL) (P:CutL→Prop):Prop:=Val l∧∀ x,mem l x↔P x
theorem VF.ext {l m:List SpanL} {P:CutL→Prop} (h:VF l P) (k:VF m P):l=m:=Val.ext l m h.1 k.1 fun x=>(h.2 x).trans (k.2 x).symm
theorem VF.congr {l:List SpanL} {P Q:CutL→Prop} (h:VF l P) (k:∀ x,P x↔Q x):VF l Q:=⟨h.1,fun x=>(h.2 x).trans (k x)⟩
theorem VF.self {l:List SpanL} (h:Val l):VF l (mem l):=⟨h,fun _=>Iff.rfl⟩
def Rise (l:List CutL):Prop:=l.Pairwise lt∧∀ c,c∈l→fB c=true
theorem putL_rise:∀ (l:List CutL) (c:CutL),Rise l→fB c=true→Rise (putL l c)∧∀ x,x∈putL l c↔x=c∨x∈l
 | [],c,_,hc=>by
  refine ⟨⟨by simp [putL],fun x hx=>?_⟩,fun x=>by simp [putL]⟩;simp [putL] at hx; rw [hx]; exact hc
 | y::l,c,h,hc=>by
  obtain ⟨hp,hm⟩:=h;rw [List.pairwise_cons] at hp;have hy:=hm y (List.mem_cons_self ..);obtain ⟨⟨g1,g2⟩,g3⟩:=putL_rise l c ⟨hp.2,fun x hx=>hm x (List.mem_cons_of_mem _ hx)⟩ hc;unfold putL;split
  ·rename_i h1
   have h1':lt y c:=⟨hy,hc,h1⟩;refine ⟨⟨List.pairwise_cons.2 ⟨fun x hx=>?_,g1⟩,fun x hx=>?_⟩,fun x=>?_⟩
   ·rcases (g3 x).1 hx with rfl | hx
    ·exact h1'
    ·exact hp.1 x hx
   ·rcases List.mem_cons.1 hx with rfl | hx
    ·exact hy
    ·exact g2 x hx
   ·rw [List.mem_cons,g3,List.mem_cons];constructor
    ·rintro (h | h | h)
     ·exact .inr (.inl h)
     ·exact .inl h
     ·exact .inr (.inr h)
    ·rintro (h | h | h)
     ·exact .inr (.inl h)
     ·exact .inl h
     ·exact .inr (.inr h)
  ·rename_i h1
   split
   ·rename_i h2
    obtain rfl:=(eq_iff hy hc).1 h2;refine ⟨⟨List.pairwise_cons.2 hp,hm⟩,fun x=>⟨fun h => .inr h,?_⟩⟩;rintro (rfl | h)
    ·exact List.mem_cons_self ..
    ·exact h
   ·rename_i h2
    have h3:lt c y:=by
     rcases total hc hy with k | k
     ·exact k
     ·rcases k.cases with k | k
      ·exact (h1 k.2.2).elim
      ·subst k; exact (h2 (cmpC_self y hy)).elim
    refine ⟨⟨List.pairwise_cons.2 ⟨fun x hx=>?_,List.pairwise_cons.2 hp⟩,fun x hx=>?_⟩,fun x=>List.mem_cons⟩
    ·rcases List.mem_cons.1 hx with rfl | hx
     ·exact h3
     ·exact h3.tr (hp.1 x hx)
    ·rcases List.mem_cons.1 hx with rfl | hx
     ·exact hc
     ·exact hm x hx
theorem cuts_rise:∀ (l:List SpanL) (o:List CutL),(∀ s,s∈l→lt s.fr s.til)→Rise o→Rise (l.foldl cutStep o)∧∀ x,x∈l.foldl cutStep o↔x∈o∨∃ s,s∈l∧(x=s.fr∨x=s.til)
 | [],o,_,h=>⟨h,fun x=>by simp⟩
 | s::l,o,hl,h=>by
  have hs:=hl s (List.mem_cons_self ..);obtain ⟨a1,a2⟩:=putL_rise o s.fr h hs.okl;obtain ⟨b1,b2⟩:=putL_rise _ s.til a1 hs.okr;obtain ⟨c1,c2⟩:=cuts_rise l (cutStep o s) (fun t ht=>hl t (List.mem_cons_of_mem _ ht)) b1;refine ⟨c1,fun x=>?_⟩;rw [List.foldl_cons,c2,cutStep,b2,a2];constructor
  ·rintro ((h | h | h) | ⟨t,ht,h⟩)
   ·exact .inr ⟨s,List.mem_cons_self ..,.inr h⟩
   ·exact .inr ⟨s,List.mem_cons_self ..,.inl h⟩
   ·exact .inl h
   ·exact .inr ⟨t,List.mem_cons_of_mem _ ht,h⟩
  ·rintro (h | ⟨t,ht,h⟩)
   ·exact .inl (.inr (.inr h))
   ·rcases List.mem_cons.1 ht with rfl | ht
    ·rcases h with h | h
     ·exact .inl (.inr (.inl h))
     ·exact .inl (.inl h)
    ·exact .inr ⟨t,ht,h⟩
theorem ends_rise:Rise [rR,ig]:=by
 refine ⟨by simpa using ⟨kt,fp,aT⟩,fun c hc=>?_⟩;simp at hc;rcases hc with rfl | rfl
 ·exact kt
 ·exact fp
theorem cutsL_rise {l:List SpanL} (hl:∀ s,s∈l→lt s.fr s.til):Rise (cutsL l)∧∀ x,x∈cutsL l↔(x=rR∨x=ig)∨∃ s,s∈l∧(x=s.fr∨x=s.til):=by
 obtain ⟨h1,h2⟩:=cuts_rise l _ hl ends_rise;exact ⟨h1,fun x=>by rw [cutsL,h2]; simp⟩
theorem Rise.at_ {c:List CutL} (h:Rise c) {i:Nat} (hi:i < c.length):fB (nthC c i)=true:=by rw [nthC_lt hi]; exact h.2 _ (List.getElem_mem _)
theorem Rise.lt_ {c:List CutL} (h:Rise c) {i j:Nat} (hij:i < j) (hj:j < c.length):lt (nthC c i) (nthC c j):=by
 rw [nthC_lt hj,nthC_lt (by omega:i < c.length)];exact List.pairwise_iff_getElem.1 h.1 i j (by omega) hj hij
theorem Rise.le_ {c:List CutL} (h:Rise c) {i j:Nat} (hij:i≤j) (hj:j < c.length):le (nthC c i) (nthC c j):=by
 rcases Nat.lt_or_ge i j with k | k
 ·exact (h.lt_ k hj).le'
 ·(obtain rfl:i=j:=by omega);exact le.rfl' (h.at_ hj)
theorem Rise.idx {c:List CutL} (h:Rise c) {i j:Nat} (hi:i < c.length) (k:lt (nthC c i) (nthC c j)):i < j:=by
 rcases Nat.lt_or_ge i j with k' | k'
 ·exact k'
 ·exact (k.not_le (h.le_ k' hi)).elim
theorem mem_idx {c:List CutL} {x:CutL} (h:x∈c):∃ i,i < c.length∧nthC c i=x:=by
 obtain ⟨i,hi,rfl⟩:=List.getElem_of_mem h;exact ⟨i,hi,nthC_lt hi⟩
theorem Rise.stretch {c:List CutL} (h:Rise c) {x:CutL}:∀ (n:Nat),n < c.length→le (nthC c 0) x→lt x (nthC c n)→∃ i,i+1 < c.length∧le (nthC c i) x∧lt x (nthC c (i+1))
 | 0,_,h0,h1=>(h1.not_le h0).elim
 | n+1,hn,h0,h1=>by
  rcases total h1.okl (h.at_ (by omega:n < c.length)) with k | k
  ·exact Rise.stretch h n (by omega) h0 k
  ·exact ⟨n,hn,k,h1⟩
theorem Rise.span {c:List CutL} (h:Rise c) (hf:rR∈c) (hl:ig∈c) {x:CutL} (hx:inU x):∃ i,i+1 < c.length∧le (nthC c i) x∧lt x (nthC c (i+1)):=by
 obtain ⟨i,hi,e⟩:=mem_idx hf;obtain ⟨j,hj,e2⟩:=mem_idx hl;refine h.stretch j hj ?_ (by rw [e2]; exact hx.2);exact ((h.le_ (Nat.zero_le i) hi).tr (by rw [e]; exact hx.1))
theorem growR_good {l:List SpanL} {f t:CutL} (hv:Val l) (hft:lt f t) (hl:∀ s,s∈l→le s.til f) :
 Val (growR l f t)∧(∀ s,s∈growR l f t→le s.til t)∧∀ x,mem (growR l f t) x↔mem l x∨(le f x∧lt x t):=by
 rcases List.eq_nil_or_concat l with rfl | ⟨m,q,rfl⟩
 ·refine ⟨by simp [growR_nil,Val,hft],fun s hs=>?_,fun x=>?_⟩
  ·simp [growR_nil] at hs; subst hs; exact le.rfl' hft.okr
  ·simp [growR_nil,mem_cons,mem_nil]
 ·simp only [List.concat_eq_append] at hv hl ⊢;obtain ⟨v1,v2,v3⟩:=Val.of_snoc m q hv;have hq:=hl q (by simp);by_cases hc:Xc q.til f=0
  ·rw [growR_eq hc];have e:=(eq_iff v2.okr hft.okl).1 hc;(have hqt:lt q.fr t:=by rw [← e] at hft; exact v2.tr hft);refine ⟨Val.snoc m _ v1 hqt v3,fun s hs=>?_,fun x=>?_⟩
   ·rcases List.mem_append.1 hs with hs | hs
    ·exact (hl s (List.mem_append_left _ hs)).tr hft.le'
    ·rw [List.mem_singleton] at hs; subst hs; exact le.rfl' hft.okr
   ·rw [mem_append,mem_append,mem_cons,mem_cons];simp only [mem_nil,or_false];constructor
    ·rintro (h | ⟨h1,h2⟩)
     ·exact .inl (.inl h)
     ·rcases total h1.okr hft.okl with k | k
      ·exact .inl (.inr ⟨h1,by rw [e]; exact k⟩)
      ·exact .inr ⟨k,h2⟩
    ·rintro ((h | ⟨h1,h2⟩) | ⟨h1,h2⟩)
     ·exact .inl h
     ·exact .inr ⟨h1,(by rw [e] at h2; exact h2.tr hft)⟩
     ·exact .inr ⟨by rw [← e] at h1; exact v2.le'.tr h1,h2⟩
  ·rw [growR_ne hc]
   have hq':lt q.til f:=by
    rcases hq.cases with k | k
    ·exact k
    ·exact (hc ((eq_iff v2.okr hft.okl).2 k)).elim
   refine ⟨Val.snoc _ _ hv hft fun s hs=>?_,fun s hs=>?_,fun x=>?_⟩
   ·rcases List.mem_append.1 hs with hs | hs
    ·exact (v3 s hs).tr_le (v2.le'.tr hq)
    ·rw [List.mem_singleton] at hs; subst hs; exact hq'
   ·rcases List.mem_append.1 hs with hs | hs
    ·exact (hl s hs).tr hft.le'
    ·rw [List.mem_singleton] at hs; subst hs; exact le.rfl' hft.okr
   ·rw [mem_append,mem_cons];simp only [mem_nil,or_false]
theorem growTo_good {c:List CutL} (hc:Rise c) (p:CutL→CutL→Bool):∀ k,k < c.length →
 Val (growTo c p k)∧(∀ s,s∈growTo c p k→le s.til (nthC c k))∧∀ x,mem (growTo c p k) x↔∃ i,i < k∧le (nthC c i) x∧lt x (nthC c (i+1))∧p (nthC c i) (nthC c (i+1))=true
 | 0,_=>⟨True.intro,(fun s hs=>(List.not_mem_nil hs).elim),fun x=>⟨fun h=>(mem_nil h).elim,fun ⟨i,h,_⟩=>by omega⟩⟩
 | k+1,hk=>by
  obtain ⟨h1,h2,h3⟩:=growTo_good hc p k (by omega);have hft:=hc.lt_ (Nat.lt_succ_self k) hk;unfold growTo;split
  ·rename_i hp
   obtain ⟨g1,g2,g3⟩:=growR_good h1 hft h2;refine ⟨g1,g2,fun x=>?_⟩;rw [g3,h3];constructor
   ·rintro (⟨i,hi,h⟩ | ⟨ha,hb⟩)
    ·exact ⟨i,by omega,h⟩
    ·exact ⟨k,by omega,ha,hb,hp⟩
   ·rintro ⟨i,hi,h⟩;rcases Nat.lt_or_ge i k with hik | hik
    ·exact .inl ⟨i,hik,h⟩
    ·(obtain rfl:i=k:=by omega);exact .inr ⟨h.1,h.2.1⟩
  ·rename_i hp
   refine ⟨h1,fun s hs=>(h2 s hs).tr hft.le',fun x=>?_⟩;rw [h3];constructor
   ·rintro ⟨i,hi,h⟩;exact ⟨i,by omega,h⟩
   ·rintro ⟨i,hi,h⟩;rcases Nat.lt_or_ge i k with hik | hik
    ·exact ⟨i,hik,h⟩
    ·(obtain rfl:i=k:=by omega);exact (hp h.2.2).elim
theorem growAll_good {c:List CutL} (hc:Rise c) (h0:0 < c.length) (p:CutL→CutL→Bool):VF (growAll c p) (fun x=>∃ i,i+1 < c.length∧le (nthC c i) x∧lt x (nthC c (i+1))∧p (nthC c i) (nthC c (i+1))=true):=by
 obtain ⟨h1,_,h3⟩:=growTo_good hc p (c.length - 1) (by omega);refine ⟨h1,fun x=>(h3 x).trans ?_⟩;constructor
 ·rintro ⟨i,hi,h⟩; exact ⟨i,by omega,h⟩
 ·rintro ⟨i,hi,h⟩; exact ⟨i,by omega,h⟩
theorem inR_iff {l:List SpanL} {c:List CutL} (hc:Rise c) (hl:∀ s,s∈l→lt s.fr s.til∧s.fr∈c∧s.til∈c) {i:Nat} {x:CutL} (hi:i+1 < c.length) (h1:le (nthC c i) x) (h2:lt x (nthC c (i+1))) :
 inR l (nthC c i) (nthC c (i+1))=true↔mem l x:=by
 rw [inR,List.any_eq_true]
 constructor
 ·rintro ⟨s,hs,h⟩;rw [inB,Bool.and_eq_true,decide_eq_true_eq,decide_eq_true_eq] at h;obtain ⟨hls,_,_⟩:=hl s hs;have k1:le s.fr (nthC c i):=⟨hls.okl,h1.okl,h.1⟩;have k2:le (nthC c (i+1)) s.til:=⟨h2.okr,hls.okr,h.2⟩;exact ⟨s,hs,k1.tr h1,h2.tr_le k2⟩
 ·rintro ⟨s,hs,h3,h4⟩;obtain ⟨_,hf,ht⟩:=hl s hs;refine ⟨s,hs,?_⟩;rw [inB,Bool.and_eq_true,decide_eq_true_eq,decide_eq_true_eq];obtain ⟨j,hj,ej⟩:=mem_idx hf;obtain ⟨k,hk,ek⟩:=mem_idx ht;rw [← ej] at h3 ⊢;rw [← ek] at h4 ⊢;have a1:=hc.idx hj (h3.tr_lt h2);have a2:=hc.idx (by omega:i < c.length) (h1.tr_lt h4);exact ⟨(hc.le_ (by omega:j≤i) (by omega)).2.2,(hc.le_ (by omega:i+1≤k) hk).2.2⟩
theorem cuts_pos {c:List CutL} (h:rR∈c):0 < c.length:=List.length_pos_of_mem h
theorem make_all {l:List SpanL} (hl:∀ s,s∈l→lt s.fr s.til):VF (growAll (cutsL l) (inR l)) (mem l):=by
 obtain ⟨h1,h2⟩:=cutsL_rise hl;have hf:rR∈cutsL l:=(h2 _).2 (.inl (.inl rfl));have ht:ig∈cutsL l:=(h2 _).2 (.inl (.inr rfl));(have hm:∀ s,s∈l→lt s.fr s.til∧s.fr∈cutsL l∧s.til∈cutsL l:=fun s hs=>⟨hl s hs,(h2 _).2 (.inr ⟨s,hs,.inl rfl⟩),(h2 _).2 (.inr ⟨s,hs,.inr rfl⟩)⟩);(refine (growAll_good h1 (cuts_pos hf) _).congr fun x=>?_);constructor
 ·rintro ⟨i,hi,ha,hb,hc⟩;exact (inR_iff h1 hm hi ha hb).1 hc
 ·intro h;obtain ⟨i,hi,ha,hb⟩:=h1.span hf ht h.inU;exact ⟨i,hi,ha,hb,(inR_iff h1 hm hi ha hb).2 h⟩
theorem all_may {l:List SpanL}:l.all iJ=true↔∀ s,s∈l→lt s.fr s.til:=by
 rw [List.all_eq_true];exact ⟨fun h s hs=>spanMay_iff.1 (h s hs),fun h s hs=>spanMay_iff.2 (h s hs)⟩
theorem make_spec {l:List SpanL} (hl:∀ s,s∈l→lt s.fr s.til):(rmakeL l).2=true∧VF (rmakeL l).1 (mem l):=by
 rw [rmakeL,if_pos (all_may.2 hl)];exact ⟨rfl,make_all hl⟩
theorem app_span {a b:List SpanL} (ha:Val a) (hb:Val b):∀ s,s∈a++b→lt s.fr s.til:=fun s hs=>by
 rcases List.mem_append.1 hs with hs | hs
 ·exact ha.span s hs
 ·exact hb.span s hs
theorem or_spec {a b:List SpanL} (ha:Val a) (hb:Val b):VF (rorL a b) (fun x=>mem a x∨mem b x):=by
 rw [rorL,mayR_val.2 ha,mayR_val.2 hb,Bool.and_self,if_pos rfl];exact (make_spec (app_span ha hb)).2.congr fun x=>mem_append
theorem not_spec {l:List SpanL} (h:Val l):VF (rnotL l) (fun x=>inU x∧¬ mem l x):=by
 rw [rnotL,mayR_val.2 h,if_pos rfl];have hl:=h.span;obtain ⟨h1,h2⟩:=cutsL_rise hl;have hf:rR∈cutsL l:=(h2 _).2 (.inl (.inl rfl));have ht:ig∈cutsL l:=(h2 _).2 (.inl (.inr rfl));(have hm:∀ s,s∈l→lt s.fr s.til∧s.fr∈cutsL l∧s.til∈cutsL l:=fun s hs=>⟨hl s hs,(h2 _).2 (.inr ⟨s,hs,.inl rfl⟩),(h2 _).2 (.inr ⟨s,hs,.inr rfl⟩)⟩);(refine (growAll_good h1 (cuts_pos hf) _).congr fun x=>?_);constructor
 ·rintro ⟨i,hi,ha,hb,hc⟩;refine ⟨⟨first_le ha.okr,hb.tr_le (le_last hb.okr)⟩,fun hm'=>?_⟩;rw [notIn,(inR_iff h1 hm hi ha hb).2 hm'] at hc; cases hc
 ·rintro ⟨hu,hn⟩;obtain ⟨i,hi,ha,hb⟩:=h1.span hf ht hu;refine ⟨i,hi,ha,hb,?_⟩;rw [notIn,Bool.not_eq_true',Bool.eq_false_iff];exact fun k=>hn ((inR_iff h1 hm hi ha hb).1 k)
theorem and_spec {a b:List SpanL} (ha:Val a) (hb:Val b):VF (randL a b) (fun x=>mem a x∧mem b x):=by
 rw [randL,mayR_val.2 ha,mayR_val.2 hb,Bool.and_self,if_pos rfl];obtain ⟨h1,h2⟩:=cutsL_rise (app_span ha hb);have hf:rR∈cutsL (a++b):=(h2 _).2 (.inl (.inl rfl));have ht:ig∈cutsL (a++b):=(h2 _).2 (.inl (.inr rfl));(have hma:∀ s,s∈a→lt s.fr s.til∧s.fr∈cutsL (a++b)∧s.til∈cutsL (a++b):=fun s hs=>⟨ha.span s hs,(h2 _).2 (.inr ⟨s,List.mem_append_left _ hs,.inl rfl⟩),(h2 _).2 (.inr ⟨s,List.mem_append_left _ hs,.inr rfl⟩)⟩);(have hmb:∀ s,s∈b→lt s.fr s.til∧s.fr∈cutsL (a++b)∧s.til∈cutsL (a++b):=fun s hs=>⟨hb.span s hs,(h2 _).2 (.inr ⟨s,List.mem_append_right _ hs,.inl rfl⟩),(h2 _).2 (.inr ⟨s,List.mem_append_right _ hs,.inr rfl⟩)⟩);(refine (growAll_good h1 (cuts_pos hf) _).congr fun x=>?_);constructor
 ·rintro ⟨i,hi,hx,hy,hc⟩;rw [bothIn,Bool.and_eq_true] at hc;exact ⟨(inR_iff h1 hma hi hx hy).1 hc.1,(inR_iff h1 hmb hi hx hy).1 hc.2⟩
 ·rintro ⟨k1,k2⟩;obtain ⟨i,hi,hx,hy⟩:=h1.span hf ht k1.inU;refine ⟨i,hi,hx,hy,?_⟩;rw [bothIn,(inR_iff h1 hma hi hx hy).2 k1,(inR_iff h1 hmb hi hx hy).2 k2]; rfl
theorem within_iff {a b:List SpanL} (ha:Val a) (hb:Val b):withinR a b=true↔∀ x,mem a x→mem b x:=by
 rw [withinR,mayR_val.2 ha,mayR_val.2 hb,Bool.and_self,Bool.true_and,sameR_iff];have h:=and_spec ha hb;constructor
 ·intro e x hx;rw [e] at h;exact ((h.2 x).1 hx).2
 ·intro k;exact h.ext ((VF.self ha).congr fun x=>⟨fun hx=>⟨hx,k x hx⟩,fun hx=>hx.1⟩)
structure AndInv (a b o:List SpanL) (i k:Nat):Prop where
 val:Val o
 cov:∀ x,mem a x∧mem b x↔mem o x∨(mem (a.drop i) x∧mem (b.drop k) x)
 low:∀ s,s∈o→(∀ t,t∈a.drop i→lt s.til t.fr)∨(∀ t,t∈b.drop k→lt s.til t.fr)
theorem AndInv.start (a b:List SpanL):AndInv a b [] 0 0:=⟨True.intro,fun x=>by simp [mem_nil],fun s hs=>(List.not_mem_nil hs).elim⟩
theorem Val.drop:∀ {l:List SpanL} (i:Nat),Val l→Val (l.drop i)
 | [],i,_=>by simp [Val]
 | s::l,0,h=>h
 | s::l,i+1,h=>Val.drop i h.2.2
theorem drop_nth {l:List SpanL} {i:Nat} (h:i < l.length):l.drop i=nth l i::l.drop (i+1):=by
 rw [nth_lt h]; exact List.drop_eq_getElem_cons h
theorem AndInv.done {a b o:List SpanL} {i k:Nat} (h:AndInv a b o i k) (ha:Val a) (hb:Val b) (hi:a.length≤i∨b.length≤k):o=randL a b:=by
 refine VF.ext (P:=fun x=>mem a x∧mem b x) ⟨h.val,fun x=>?_⟩ (and_spec ha hb);show mem o x↔mem a x∧mem b x;rw [h.cov]
 have:¬ (mem (a.drop i) x∧mem (b.drop k) x):=by
  rintro ⟨h1,h2⟩;rcases hi with hi | hi
  ·rw [List.drop_eq_nil_of_le hi] at h1; exact mem_nil h1
  ·rw [List.drop_eq_nil_of_le hi] at h2; exact mem_nil h2
 exact ⟨.inl,fun h=>h.resolve_right this⟩
def maxC (a b:CutL):CutL:=if Xc a b < 0 then b else a
theorem max_le {a b x:CutL} (ha:fB a=true) (hb:fB b=true):le (maxC a b) x↔le a x∧le b x:=by
 unfold maxC;split
 ·rename_i h
  have h':lt a b:=⟨ha,hb,h⟩;exact ⟨fun k=>⟨h'.le'.tr k,k⟩,fun k=>k.2⟩
 ·rename_i h
  have h':le b a:=le_of_not_lt ha hb (fun k=>h k.2.2);exact ⟨fun k=>⟨k,h'.tr k⟩,fun k=>k.1⟩
theorem max_may {a b:CutL} (ha:fB a=true) (hb:fB b=true):fB (maxC a b)=true:=by unfold maxC; split<;>assumption
def addIf (o:List SpanL) (f t:CutL):List SpanL:=if Xc f t < 0 then o++[⟨f,t⟩] else o
theorem addIf_mem {o:List SpanL} {f t x:CutL}:mem (addIf o f t) x↔mem o x∨(le f x∧lt x t):=by
 unfold addIf;split
 ·rw [mem_append,mem_cons]; simp [mem_nil]
 ·rename_i h
  refine ⟨.inl,fun k=>k.resolve_right ?_⟩;rintro ⟨k1,k2⟩;exact h (k1.tr_lt k2).2.2
theorem addIf_val {o:List SpanL} {f t:CutL} (hv:Val o) (hf:fB f=true) (ht:fB t=true) (hl:∀ s,s∈o→lt s.til f):Val (addIf o f t):=by
 unfold addIf;split
 ·rename_i h
  exact Val.snoc _ _ hv ⟨hf,ht,h⟩ hl
 ·exact hv
theorem addIf_low {o:List SpanL} {f t:CutL} {Q:SpanL→Prop} (h:∀ s,s∈o→Q s) (k:Q ⟨f,t⟩):∀ s,s∈addIf o f t→Q s:=by
 unfold addIf;split
 ·intro s hs;rcases List.mem_append.1 hs with hs | hs
  ·exact h s hs
  ·rw [List.mem_singleton] at hs; subst hs; exact k
 ·exact h
theorem AndInv.stepA {a b o:List SpanL} {i k:Nat} (h:AndInv a b o i k) (ha:Val a) (hb:Val b) (hi:i < a.length) (hk:k < b.length) (hle:Xc (nth a i).til (nth b k).til≤0) :
 AndInv a b (addIf o (maxC (nth a i).fr (nth b k).fr) (nth a i).til) (i+1) k:=by
 have va:=ha.drop i
 have vb:=hb.drop k
 rw [drop_nth hi] at va
 rw [drop_nth hk] at vb
 have hle':le (nth a i).til (nth b k).til:=⟨va.1.okr,vb.1.okr,hle⟩
 have hmx:=max_may va.1.okl vb.1.okl
 refine ⟨addIf_val h.val hmx va.1.okr fun s hs=>?_,fun x=>?_,addIf_low (fun s hs=>?_) (.inl fun t ht=>va.2.1 t ht)⟩
 ·rcases h.low s hs with l | l
  ·have:=l (nth a i) (by rw [drop_nth hi]; exact List.mem_cons_self ..);exact this.tr_le ((max_le va.1.okl vb.1.okl).1 (le.rfl' hmx)).1
  ·have:=l (nth b k) (by rw [drop_nth hk]; exact List.mem_cons_self ..);exact this.tr_le ((max_le va.1.okl vb.1.okl).1 (le.rfl' hmx)).2
 ·rw [h.cov,addIf_mem,max_le va.1.okl vb.1.okl,drop_nth hi,drop_nth hk,mem_cons,mem_cons];constructor
  ·rintro (k1 | ⟨⟨a1,a2⟩ | a1,⟨b1,b2⟩ | b1⟩)
   ·exact .inl (.inl k1)
   ·exact .inl (.inr ⟨⟨a1,b1⟩,a2⟩)
   ·obtain ⟨t,ht,t1,_⟩:=b1;exact ((hle'.tr_lt (vb.2.1 t ht)).not_le (t1.tr a2.le')).elim
   ·exact .inr ⟨a1,.inl ⟨b1,b2⟩⟩
   ·exact .inr ⟨a1,.inr b1⟩
  ·rintro ((k1 | ⟨⟨a1,b1⟩,a2⟩) | ⟨a1,b1⟩)
   ·exact .inl k1
   ·exact .inr ⟨.inl ⟨a1,a2⟩,.inl ⟨b1,a2.tr_le hle'⟩⟩
   ·exact .inr ⟨.inr a1,b1⟩
 ·rcases h.low s hs with l | l
  ·exact .inl fun t ht=>l t (by rw [drop_nth hi]; exact List.mem_cons_of_mem _ ht)
  ·exact .inr l
theorem AndInv.swap {a b o:List SpanL} {i k:Nat} (h:AndInv a b o i k):AndInv b a o k i:=⟨h.val,fun x=>by rw [and_comm,h.cov,and_comm (a:=mem (a.drop i) x)],fun s hs=>(h.low s hs).symm⟩
theorem max_comm {a b:CutL} (ha:fB a=true) (hb:fB b=true):maxC a b=maxC b a:=by
 have h1:=(max_le (x:=maxC a b) ha hb).1 (le.rfl' (max_may ha hb));have h2:=(max_le (x:=maxC b a) hb ha).1 (le.rfl' (max_may hb ha));exact le.anti ((max_le ha hb).2 ⟨h2.2,h2.1⟩) ((max_le hb ha).2 ⟨h1.2,h1.1⟩)
theorem AndInv.stepB {a b o:List SpanL} {i k:Nat} (h:AndInv a b o i k) (ha:Val a) (hb:Val b) (hi:i < a.length) (hk:k < b.length) (hgt:0 < Xc (nth a i).til (nth b k).til) :
 AndInv a b (addIf o (maxC (nth a i).fr (nth b k).fr) (nth b k).til) i (k+1):=by
 have va:=ha.span (nth a i) (by rw [nth_lt hi]; exact List.getElem_mem _)
 have vb:=hb.span (nth b k) (by rw [nth_lt hk]; exact List.getElem_mem _)
 have:=h.swap.stepA hb ha hk hi (by have:=cmpC_anti' _ _ va.okr vb.okr hgt; omega)
 rw [max_comm vb.okl va.okl] at this
 exact this.swap
structure NotInv (a o:List SpanL) (k:Nat) (fr:CutL):Prop where
 val:Val o
 ok:fB fr=true
 cov:∀ x,mem o x↔(inU x∧lt x fr∧¬ mem (a.take k) x)
 low:∀ s,s∈o→lt s.til fr
 nxt:∀ t,t∈a.drop k→le fr t.fr
 prv:∀ x,mem (a.take k) x→lt x fr
theorem NotInv.start {a:List SpanL} (ha:Val a):NotInv a [] 0 rR:=by
 refine ⟨True.intro,kt,fun x=>⟨fun h=>(mem_nil h).elim,?_⟩,fun s hs=>(List.not_mem_nil hs).elim,fun t ht=>first_le (ha.span t ht).okl,fun x h=>(mem_nil (by simpa using h)).elim⟩;rintro ⟨h1,h2,_⟩;exact (h2.not_le h1.1).elim
theorem take_nth {l:List SpanL} {i:Nat} (h:i < l.length):l.take (i+1)=l.take i++[nth l i]:=by
 rw [nth_lt h]; exact List.take_succ_eq_append_getElem h
theorem NotInv.step {a o:List SpanL} {k:Nat} {fr:CutL} (h:NotInv a o k fr) (ha:Val a) (hk:k < a.length) :
 NotInv a (addIf o fr (nth a k).fr) (k+1) (nth a k).til:=by
 have va:=ha.drop k
 rw [drop_nth hk] at va
 have hn:=h.nxt (nth a k) (by rw [drop_nth hk]; exact List.mem_cons_self ..)
 refine ⟨addIf_val h.val h.ok va.1.okl h.low,va.1.okr,fun x=>?_,addIf_low (fun s hs=>?_) va.1,fun t ht=>(va.2.1 t ht).le',fun x hx=>?_⟩
 ·rw [addIf_mem,h.cov,take_nth hk,mem_append,mem_cons];simp only [mem_nil,or_false,not_or];constructor
  ·rintro (⟨h1,h2,h3⟩ | ⟨h1,h2⟩)
   ·have:lt x (nth a k).fr:=h2.tr_le hn;exact ⟨h1,this.tr va.1,h3,fun k=>this.not_le k.1⟩
   ·refine ⟨⟨first_le h1.okr,h2.tr_le (le_last h2.okr)⟩,h2.tr va.1,fun k=>(h.prv x k).not_le h1,fun k=>h2.not_le k.1⟩
  ·rintro ⟨h1,h2,h3,h4⟩;rcases total h2.okl h.ok with l | l
   ·exact .inl ⟨h1,l,h3⟩
   ·exact .inr ⟨l,lt_of_not_le h2.okl va.1.okl fun m=>h4 ⟨m,h2⟩⟩
 ·exact (h.low s hs).tr_le (hn.tr va.1.le')
 ·rw [take_nth hk,mem_append,mem_cons] at hx;simp only [mem_nil,or_false] at hx;rcases hx with hx | hx
  ·exact (h.prv x hx).tr_le (hn.tr va.1.le')
  ·exact hx.2
theorem NotInv.done {a o:List SpanL} {fr:CutL} (h:NotInv a o a.length fr) (ha:Val a):addIf o fr ig=rnotL a:=by
 refine VF.ext (P:=fun x=>inU x∧¬ mem a x) ⟨addIf_val h.val h.ok fp h.low,fun x=>?_⟩ (not_spec ha);rw [addIf_mem,h.cov,List.take_length];constructor
 ·rintro (⟨h1,_,h3⟩ | ⟨h1,h2⟩)
  ·exact ⟨h1,h3⟩
  ·refine ⟨⟨first_le h1.okr,h2⟩,fun k=>?_⟩;exact (h.prv x (by rw [List.take_length]; exact k)).not_le h1
 ·rintro ⟨h1,h2⟩;rcases total h1.1.okr h.ok with l | l
  ·exact .inl ⟨h1,l,h2⟩
  ·exact .inr ⟨l,h1.2⟩
theorem merge_is {l m:List SpanL} (hp:∀ s,s∈m↔s∈l) (hl:∀ s,s∈l→lt s.fr s.til) (hs:m.Pairwise (fun a b=>Xc a.fr b.fr≤0)):merge m=(rmakeL l).1:=by
 have hm:∀ s,s∈m→lt s.fr s.til:=fun s h=>hl s ((hp s).1 h)
 have hs':m.Pairwise (fun a b=>le a.fr b.fr):=by
  refine List.Pairwise.imp_of_mem (fun {a b} ha hb h=>?_) hs;exact ⟨(hm a ha).okl,(hm b hb).okl,h⟩
 obtain ⟨h1,h2⟩:=merge_good hm hs';exact VF.ext (P:=mem m) ⟨h1,h2⟩ ((make_spec hl).2.congr fun x=>mem_congr fun s=>(hp s).symm)
end Rw
namespace Rw
variable {a b c:List SpanL}
theorem v_not (ha:Val a):Val (rnotL a):=(not_spec ha).1
theorem v_and (ha:Val a) (hb:Val b):Val (randL a b):=(and_spec ha hb).1
theorem v_or (ha:Val a) (hb:Val b):Val (rorL a b):=(or_spec ha hb).1
theorem m_and (ha:Val a) (hb:Val b) (x:CutL):mem (randL a b) x↔mem a x∧mem b x:=(and_spec ha hb).2 x
variable {v:Ver}
end Rw
theorem oneS (l:List SpanL):∀ u∈cellsL l,u.oneCell'=true:=by
 intro u hu;simp only [cellsL,List.mem_flatMap] at hu;obtain ⟨s,_,hu⟩:=hu;simp at hu;rcases hu with rfl | rfl | rfl | rfl | rfl | rfl | rfl | rfl | rfl | rfl | rfl | rfl | rfl | rfl<;>rfl
theorem Spans.src {w:World} {A:Option Addr} {l:List SpanL} (h:Spans w A l):tw w A l.length 14 (cellsL l):=by
 refine ⟨cellsL_len l,?_,?_⟩
 ·rintro rfl;rcases h with rfl | ⟨b,off,e,_⟩
  ·rfl
  ·cases e
 ·rintro ad rfl j u hj
  have hjl:j < l.length * 14:=by
   rcases Nat.lt_or_ge j (l.length * 14) with h' | h'
   ·exact h'
   ·rw [List.getElem?_eq_none (by rw [cellsL_len]; exact h')] at hj; cases hj
  rcases h with rfl | ⟨b,off,e,hlt,hc⟩
  ·simp at hjl
  ·(injection e with e; subst e);(have ej:j / 14 * 14+j % 14=j:=by omega);rw [← ej,cellsL_get _ _ _ (by omega) (Nat.mod_lt _ (by omega))] at hj;have:=hc (j / 14) (by omega) (j % 14) u hj;rw [addr_add,← ej];rw [← this];congr 2;omega
theorem OwnS.cat {w:World} {base:Nat} {v:Value} {l m:List SpanL} (h:w.ownsRow base 111 14 v (l.length+m.length) (cellsL l++cellsL m)):OwnS w base v (l++m):=by
 rw [OwnS,List.length_append,cellsL_append]; exact h
theorem nth_app {a b:List SpanL} {i:Nat} (h:i < (a++b).length):nth (a++b) i=if i < a.length then nth a i else nth b (i - a.length):=by
 simp only [nth,List.getD_eq_getElem?_getD];split
 ·rw [List.getElem?_append_left (by assumption)]
 ·rw [List.getElem?_append_right (by omega)]
theorem fitL.app {a b:List SpanL} (ha:fitL a) (hb:fitL b):fitL (a++b):=by
 intro i hi;rw [nth_app hi];rw [List.length_append] at hi;split
 ·exact ha i (by assumption)
 ·exact hb _ (by omega)
theorem fitL_app {a b:List SpanL} (ha:fitL a) (hb:fitL b):fitL (a++b):=ha.app hb
theorem rrand_no (base:Nat) (A B:Option Addr) (cap cap2:Nat) (a b:List SpanL) (w:World) (ha:Spans w A a) (hb:Spans w B b) (hfa:fitL a) (hfb:fitL b) (hln:a.length+b.length≤40000) (hbase:base≤w.heap.size) (hno:(mayR a&&mayR b)=false):Calls Tryz.prog 60 #[.slice A a.length cap,.slice B b.length cap2] w (RowPost w base []):=by
 have hma:=hid (rrowmay_any A cap a w ha hfa (by omega));have HB:=hid hb;have hmb:=hid (fun w' (h:Spans w' B b)=>rrowmay_any B cap2 b w' h hfb (by omega));clear ha hb hfa hfb;cases hmay:mayR a
 ·rw [hmay] at hma;generalize a.length=n at *;generalize b.length=p at *;clear hno;go_enter Tryz.func60,Tryz.ntmps60;(go_wp2_with fail);refine hma.out.mono ?_;rintro _ w1 ⟨rfl,hb1⟩;(go_wp2_with fail);go_ret;exact ⟨_,rfl,OwnS.nil _ _,hb1.mono hbase,hb1.size⟩
 ·rw [hmay] at hma hno;(have hbm:mayR b=false:=by simpa using hno);rw [hbm] at hmb;generalize a.length=n at *;generalize b.length=p at *;clear hno hbm;go_enter Tryz.func60,Tryz.ntmps60;(go_wp2_with fail);refine hma.out.mono ?_;rintro _ w1 ⟨rfl,hb1⟩;(go_wp2_with fail);refine (hmb.out _ (HB.out.below hb1)).mono ?_;rintro _ w2 ⟨rfl,hb2⟩;have hb02:=zC hb1 hb2;(go_wp2_with fail);go_ret;exact ⟨_,rfl,OwnS.nil _ _,hb02.mono hbase,hb02.size⟩
theorem rand_yes (base:Nat) (A B:Option Addr) (cap cap2:Nat) (a b:List SpanL) (w:World) (ha:Spans w A a) (hb:Spans w B b) (hfa:fitL a) (hfb:fitL b) (hln:a.length+b.length≤40000) (hbase:base≤w.heap.size) (hmay:mayR a=true∧mayR b=true):Calls Tryz.prog 60 #[.slice A a.length cap,.slice B b.length cap2] w (RowPost w base (growAll (cutsL (a++b)) (bothIn a b))):=by
 have HA:=hid ha;have HB:=hid hb;have HFA:=hid hfa;have HFB:=hid hfb;have hma:=hid (rrowmay_any A cap a w ha hfa (by omega));have hmb:=hid (fun w' (h:Spans w' B b)=>rrowmay_any B cap2 b w' h hfb (by omega));rw [hmay.1] at hma;rw [hmay.2] at hmb;have HSA:=hid (fun w' (h:Spans w' A a)=>h.src);have HSB2:=hid (fun w' (h:Spans w' B b)=>h.src);have HCAT:=hid (fun (w':World) (base:Nat) (v:Value) (h:w'.ownsRow base 111 14 v (a.length+b.length) (cellsL a++cellsL b))=>(OwnS.cat h).spans);have hcu:=hid (fun w' A' c' (h:Spans w' A' (a++b))=>cuts_any A' c' (a++b) w' h (fitL_app hfa hfb) (by rw [List.length_append]; exact hln));have HG:=hid (cutsL_good (fitL_app hfa hfb));rw [List.length_append] at HG;generalize cutsL (a++b)=c at *;clear ha hb hfa hfb hmay;generalize hn:a.length=n at *;generalize hp:b.length=p at *;have HN:=hid hn;have HP:=hid hp;clear hn hp;have hM:maxLen=9223372036854775807:=rfl;go_enter Tryz.func60,Tryz.ntmps60;(go_wp2_with fail);refine hma.out.mono ?_;rintro _ w1 ⟨rfl,hb1⟩;(go_wp2_with fail);refine (hmb.out _ (HB.out.below hb1)).mono ?_;rintro _ w2 ⟨rfl,hb2⟩;have hb02:=zC hb1 hb2;clear hma hmb hb1 hb2
 go_wp2_with (first
  | (at_builtin; refine zW EKspans rfl (.const (.slice none 0 0)) (.tmp 16) rfl rfl (World.ownsRow_nil w2 w2.heap.size _ _) rfl (HSA.out _ (HA.out.below hb02)) (oneS a) (by omega) (by omega) (Nat.le_refl _) ?_; intro v3 w3 h3 hb3 _; have hb03:=zC hb02 hb3; have hz3:=hb3.size; simp only [Nat.zero_add,List.nil_append] at h3)
  | (at_builtin; refine zW EKspans rfl (.tmp 17) (.tmp 18) rfl rfl h3 rfl (HSB2.out _ (HB.out.below hb03)) (oneS b) (by omega) (by omega) hz3 ?_; intro v4 w4 h4 hb4 _))
 have hb24:=hb3.trans hb4;obtain ⟨A4,c4,rfl,h5⟩:=HCAT.out _ _ _ h4;have hb04:=zC hb02 hb24;clear h3 h4 hb3 hb4 hb24 hb03 hb02 hz3 HCAT HSA HSB2;(go_wp2_with fail);refine (hcu.out _ _ _ h5).mono ?_;rintro _ w1 ⟨Ac,cc,rfl,hcc,hc,hb5⟩;have hb01:=zC hb04 hb5;have HA1:=hid (HA.out.below hb01);have HB1:=hid (HB.out.below hb01);have HC1:=hid hc;clear hc hcu HA HB hb04 hb5 h5;obtain ⟨g1,g2,g3⟩:=HG.out;have HGF:=hid g1;clear g1 HG;generalize hm:c.length=m at *;have HMM:=hid hm;clear hm;(go_wp2_with fail);go_loopw [7,5] (fun i o wr=>∃ (q:Nat) (v:Value),i = .int .i64 q∧v=o∧q+1≤m∧OwnS wr w1.heap.size v (growTo c (bothIn a b) q)∧Below w1.heap.size w1 wr) (fun i _ _=>m - (intOf i).toNat)
 case atStart=>exact ⟨0,_,rfl,rfl,by omega,OwnS.nil _ _,Below.refl _ _⟩
 case round =>
  obtain ⟨q,v,rfl,rfl,hq,HO,hbr⟩:=hrel;have HQ:=hid hbr;by_cases hlt2:q+1 < m
  ·obtain ⟨bl,off,rfl,hbl,x0,x1,x2,x3,x4,x5,x6⟩:=(HC1.out.below hbr).at_ (k:=q) (by rw [HMM.out]; omega);obtain ⟨_,z0,z1,z2,z3,z4,z5,z6⟩:=(HC1.out.below hbr).lay (k:=q+1) (by rw [HMM.out]; omega);(have i0:(0:Int)≤(q:Int):=by omega);(have i1:(q:Int) < (m:Int):=by omega);(have i2:(q:Int)+1 < (m:Int):=by omega);have HCX:=hid (fun w' (h:Below w1.heap.size w1 w')=>And.intro ((HC1.out.below h).lay (k:=q) (by rw [HMM.out]; omega)).2 ((HC1.out.below h).lay (k:=q+1) (by rw [HMM.out]; omega)).2);have HRL:=hid (growTo_len c (bothIn a b) q);have HRF:=hid (growTo_fit (p:=bothIn a b) HGF.out q (by rw [HMM.out]; omega));have HX:=hid (show growTo c (bothIn a b) (q+1)=if bothIn a b (nthC c q) (nthC c (q+1)) then growR (growTo c (bothIn a b) q) (nthC c q) (nthC c (q+1)) else growTo c (bothIn a b) q from rfl);have HFF:=hid (HGF.out.at_ q (by rw [HMM.out]; omega));have HFT:=hid (HGF.out.at_ (q+1) (by rw [HMM.out]; omega));generalize nthC c q=f at *;generalize nthC c (q+1)=t at *;(have hinA:=fun z:BW wr=>(HN.out▸in_any A cap a f t z.v ((HA1.out.below HQ.out).below z.ok) HFA.out (by rw [HN.out]; omega) HFF.out HFT.out:Calls Tryz.prog 104 #[.slice A n cap,f.val,t.val] z.v (yc z.v (inR a f t))));have hinB:=fun z:BW wr=>(HP.out▸in_any B cap2 b f t z.v ((HB1.out.below HQ.out).below z.ok) HFB.out (by rw [HP.out]; omega) HFF.out HFT.out:Calls Tryz.prog 104 #[.slice B p cap2,f.val,t.val] z.v (yc z.v (inR b f t)))
   generalize growTo c (bothIn a b) q=r at *;have HNI:=hid (show bothIn a b f t=(inR a f t&&inR b f t) from rfl);cases hpa:inR a f t
   ·rw [hpa] at hinA;have hbw:=bw_cell;(go_wp2_with fail);refine wp_region_below (by kernel_rfl) (by kernel_rfl) ?_;(repeat (go_big_quiet_step (first | (go_at_call_of 104 A; exact bw_bool (hinA _)) | (go_at_call_of 104 B; exact bw_bool (hinB _)))));refine wpQuiet_nil ?_;rintro _ ⟨z,rfl⟩;clear hbw hinA hinB x0 x1 x2 x3 x4 x5 x6 z0 z1 z2 z3 z4 z5 z6;(go_wp2_with fail);go_roundw
    case rel=>exact ⟨q+1,v,by go_num,rfl,by omega,by rw [HX.out,HNI.out,hpa,Bool.false_and]; exact HO.below z.ok,zC hbr z.ok⟩
    case measure=>simp [intOf]; omega
   ·rw [hpa] at hinA;cases hpb:inR b f t
    ·rw [hpb] at hinB;have hbw:=bw_cell;(go_wp2_with fail);refine wp_region_below (by kernel_rfl) (by kernel_rfl) ?_;(repeat (go_big_quiet_step (first | (go_at_call_of 104 A; exact bw_bool (hinA _)) | (go_at_call_of 104 B; exact bw_bool (hinB _)))));refine wpQuiet_nil ?_;rintro _ ⟨z,rfl⟩;clear hbw hinA hinB x0 x1 x2 x3 x4 x5 x6 z0 z1 z2 z3 z4 z5 z6;(go_wp2_with fail);go_roundw
     case rel=>exact ⟨q+1,v,by go_num,rfl,by omega,by rw [HX.out,HNI.out,hpa,hpb]; exact HO.below z.ok,zC hbr z.ok⟩
     case measure=>simp [intOf]; omega
    ·rw [hpb] at hinB;have hbw:=bw_cell;(go_wp2_with fail);refine wp_region_below (by kernel_rfl) (by kernel_rfl) ?_;(repeat (go_big_quiet_step (first | (go_at_call_of 104 A; exact bw_bool (hinA _)) | (go_at_call_of 104 B; exact bw_bool (hinB _)))));refine wpQuiet_nil ?_;rintro _ ⟨z,rfl⟩;have hbz:=zC HQ.out z.ok;have HOz:=hid (HO.below z.ok);clear hbw hinA hinB x0 x1 x2 x3 x4 x5 x6 z0 z1 z2 z3 z4 z5 z6 HO hbr;generalize z.v=w5 at hbz HOz ⊢;clear z
     have HSB:Hid (∀ w',Below w1.heap.size w1 w'→w'.cell? ⟨bl,off+q * 7,none⟩=some (.int .i64 f.en)∧w'.cell? ⟨bl,off+q * 7+1,none⟩=some (.int .i64 f.v.maj)∧w'.cell? ⟨bl,off+q * 7+2,none⟩=some (.int .i64 f.v.min)∧w'.cell? ⟨bl,off+q * 7+3,none⟩=some (.int .i64 f.v.pat)∧w'.cell? ⟨bl,off+q * 7+4,none⟩=some (.string f.v.pre)∧w'.cell? ⟨bl,off+q * 7+5,none⟩=some (.string f.v.bld)∧w'.cell? ⟨bl,off+q * 7+6,none⟩=some (.bool f.aft)∧w'.cell? ⟨bl,off+(q+1) * 7,none⟩=some (.int .i64 t.en)∧w'.cell? ⟨bl,off+(q+1) * 7+1,none⟩=some (.int .i64 t.v.maj)∧w'.cell? ⟨bl,off+(q+1) * 7+2,none⟩=some (.int .i64 t.v.min)∧w'.cell? ⟨bl,off+(q+1) * 7+3,none⟩=some (.int .i64 t.v.pat)∧w'.cell? ⟨bl,off+(q+1) * 7+4,none⟩=some (.string t.v.pre)∧w'.cell? ⟨bl,off+(q+1) * 7+5,none⟩=some (.string t.v.bld)∧w'.cell? ⟨bl,off+(q+1) * 7+6,none⟩=some (.bool t.aft)):=hid (fun w' h=>by
      obtain ⟨⟨a0,a1,a2,a3,a4,a5,a6⟩,c0,c1,c2,c3,c4,c5,c6⟩:=HCX.out w' h
      exact ⟨a0,a1,a2,a3,a4,a5,a6,c0,c1,c2,c3,c4,c5,c6⟩)
     (go_wp2_with fail);have y1:IntKind.i64.wrap ((q:Int)+1)=(q:Int)+1:=IntWalk.i64_in _ (by omega);(have y2:(0:Int)≤(q:Int)+1:=by omega);have y3:((q:Int)+1).toNat=q+1:=by omega
     go_region_held3 (fun w'=>w'.cell? ⟨bl,off+q * 7,none⟩=some (.int .i64 f.en)∧w'.cell? ⟨bl,off+q * 7+1,none⟩=some (.int .i64 f.v.maj)∧w'.cell? ⟨bl,off+q * 7+2,none⟩=some (.int .i64 f.v.min)∧w'.cell? ⟨bl,off+q * 7+3,none⟩=some (.int .i64 f.v.pat)∧w'.cell? ⟨bl,off+q * 7+4,none⟩=some (.string f.v.pre)∧w'.cell? ⟨bl,off+q * 7+5,none⟩=some (.string f.v.bld)∧w'.cell? ⟨bl,off+q * 7+6,none⟩=some (.bool f.aft)∧w'.cell? ⟨bl,off+(q+1) * 7,none⟩=some (.int .i64 t.en)∧w'.cell? ⟨bl,off+(q+1) * 7+1,none⟩=some (.int .i64 t.v.maj)∧w'.cell? ⟨bl,off+(q+1) * 7+2,none⟩=some (.int .i64 t.v.min)∧w'.cell? ⟨bl,off+(q+1) * 7+3,none⟩=some (.int .i64 t.v.pat)∧w'.cell? ⟨bl,off+(q+1) * 7+4,none⟩=some (.string t.v.pre)∧w'.cell? ⟨bl,off+(q+1) * 7+5,none⟩=some (.string t.v.bld)∧w'.cell? ⟨bl,off+(q+1) * 7+6,none⟩=some (.bool t.aft))
      (exact HSB.out _ (by first | assumption | exact hbz.drew))
      (first
       | (go_at_call 105; refine (grow_any w1.heap.size v r f t _ (HOz.out.below ((Below.refl _ _).drew)) hbz.size (by have:=HRL.out; omega) HFF.out HFT.out HRF.out).mono ?_; rintro _ w6 ⟨v2,rfl,h2,h3,h4⟩; have hb6:Below w1.heap.size w1 w6:=hbz.drew.trans h3))
     clear y1 y2 y3;(go_wp2_with fail);go_roundw
     case rel=>exact ⟨q+1,v2,by go_num,rfl,by omega,by rw [HX.out,HNI.out,hpa,hpb]; exact h2,hb6⟩
     case measure=>simp [intOf]; omega
  ·(obtain rfl:q=m - 1:=by omega);(have e:growAll c (bothIn a b)=growTo c (bothIn a b) (m - 1):=by rw [growAll,HMM.out]);(have i2:((m - 1:Nat):Int)+1=(m:Int):=by omega);generalize hq1:m - 1=q at *;have HE2:=hid e;clear e;(have i3:¬ ((q:Int)+1 < (m:Int)):=by omega);(go_wp2_with fail);go_ret;rw [HE2.out];exact ⟨v,rfl,OwnS.low HO (Nat.le_trans hbase hb01.size),(hb01.mono hbase).trans (hbr.mono (Nat.le_trans hbase hb01.size)),Nat.le_trans hb01.size hbr.size⟩
theorem oneS1 (s:SpanL):∀ u∈s.cells,u.oneCell'=true:=by
 have:=oneS [s];simpa [cellsL] using this
theorem Below.setCells {B g:Nat} {a:World} (hg:B≤g):∀ (vs:List Value) (o:Nat) {w:World},Below B a w→Below B a (w.setCells g o vs)
 | [],_,_,h=>h
 | v::vs,o,_,h=>Below.setCells hg vs (o+1) (h.setCell (p:=⟨g,o,none⟩) hg v)
theorem uc (g:Nat):∀ (vs:List Value) (o:Nat) (w:World),(w.setCells g o vs).heap.size=w.heap.size
 | [],_,_=>rfl
 | v::vs,o,w=>by rw [World.setCells,uc g vs (o+1)]; simp [World.setCell]
theorem uG (g k:Nat) (hk:k≠g):∀ (vs:List Value) (o:Nat) (w:World),(w.setCells g o vs).heap[k]?=w.heap[k]?
 | [],_,_=>rfl
 | v::vs,o,w=>by rw [World.setCells,uG g k hk vs (o+1)]; exact Go.RowKit.Below.heap_setCell w ⟨g,o,none⟩ v k hk
theorem own_block {w w':World} {base size n:Nat} {e:TypeId} {v:Value} {xs:List Value} (h:w.ownsRow base e size v n xs) (hb:∀ k,base≤k→k < w.heap.size→w'.heap[k]?=w.heap[k]?):w'.ownsRow base e size v n xs:=by
 obtain ⟨h1,h2⟩:=h;refine ⟨h1,?_⟩;rcases h2 with h2 | ⟨g,cap,cur,hv,hg,hh,r⟩
 ·exact .inl h2
 ·refine .inr ⟨g,cap,cur,hv,hg,?_,r⟩
  have hlt:g < w.heap.size:=by
   rcases Nat.lt_or_ge g w.heap.size with h | h
   ·exact h
   ·rw [Array.getElem?_eq_none h] at hh; cases hh
  rw [hb g hg hlt]; exact hh
theorem own_setCells {w:World} {base size n g o:Nat} {e:TypeId} {v:Value} {xs vs:List Value} (h:w.ownsRow base e size v n xs) (hg:g < base):(w.setCells g o vs).ownsRow base e size v n xs :=
 own_block h fun k hk _=>uG g k (by omega) vs o w
theorem own_bound {w:World} {base size n:Nat} {e:TypeId} {v:Value} {xs:List Value} (h:w.ownsRow base e size v n xs):∀ k,v.ownBlock=some k→base≤k∧k < w.heap.size:=fun k hk=>by
 have h1:=h.lt k hk;exact h1
theorem lD {a b c:World} {row:Option Nat} (h:a.grownBy b row) (k:b.grownBy c row):a.grownBy c row :=
 ⟨k.os.trans h.os,k.tape.trans h.tape,k.output.trans h.output,Nat.le_trans h.size k.size,fun i hi hr=>(k.block i (Nat.lt_of_lt_of_le hi h.size) hr).trans (h.block i hi hr)⟩
theorem Box.set {w:World} {g o:Nat} {cs vs:List Value} (h:Box w g cs) (ho:o+vs.length≤cs.length):Box (w.setCells g o vs) g (cs.take o++vs++cs.drop (o+vs.length)):=by
 refine ⟨by rw [uc]; exact h.1,fun j u hj=>?_⟩;(have hcell:∀ j,j < cs.length→∃ u,w.cell? ⟨g,j,none⟩=some u:=fun j hj=>⟨cs[j],h.2 j _ (List.getElem?_eq_getElem hj)⟩);rcases Nat.lt_or_ge j o with h1 | h1
 ·rw [World.cell?_setCells_out g vs o w ⟨g,j,none⟩ (fun _ _ => .inl h1)];rw [List.append_assoc,List.getElem?_append_left (by rw [List.length_take]; omega),List.getElem?_take_of_lt h1] at hj;exact h.2 j u hj
 ·(have hl:(cs.take o).length=o:=by rw [List.length_take]; omega);rcases Nat.lt_or_ge j (o+vs.length) with h2 | h2
  ·rw [List.getElem?_append_left (by rw [List.length_append]; omega),List.getElem?_append_right (by omega),hl] at hj;obtain ⟨i,rfl⟩:∃ i,j=o+i:=⟨j - o,by omega⟩;rw [Nat.add_sub_cancel_left] at hj;(have hi:i < vs.length:=by omega);rw [List.getElem?_eq_getElem hi] at hj;(injection hj with hj);rw [← hj];exact World.cell?_setCells_in g vs o w (fun q hq=>by obtain ⟨u,hu⟩:=hcell (o+q) (by omega); rw [hu]; rfl) i hi
  ·rw [World.cell?_setCells_out g vs o w ⟨g,j,none⟩ (fun _ _ => .inr h2)];rw [List.getElem?_append_right (by rw [List.length_append]; omega),List.length_append,hl,List.getElem?_drop] at hj;(have:o+vs.length+(j - (o+vs.length))=j:=by omega);rw [this] at hj;exact h.2 j u hj
theorem Box.set7 {w:World} {g:Nat} {c:CutL} (d:CutL) (h:Box w g c.cells):Box (w.setCells g 0 d.cells) g d.cells:=h.set (o:=0) (vs:=d.cells) (by simp)
theorem Box.setFr {w:World} {g:Nat} {s:SpanL} (d:CutL) (h:Box w g s.cells):Box (w.setCells g 0 d.cells) g (SpanL.cells ⟨d,s.til⟩):=h.set (o:=0) (vs:=d.cells) (by simp)
theorem Box.setTil {w:World} {g:Nat} {s:SpanL} (d:CutL) (h:Box w g s.cells):Box (w.setCells g 7 d.cells) g (SpanL.cells ⟨s.fr,d⟩):=h.set (o:=7) (vs:=d.cells) (by simp)
theorem Box.block {w w':World} {g:Nat} {cs:List Value} (h:Box w g cs) (hs:w.heap.size≤w'.heap.size) (hb:w'.heap[g]?=w.heap[g]?):Box w' g cs :=
 ⟨Nat.lt_of_lt_of_le h.1 hs,fun j u hj=>(World.cell?_of_block (a:=⟨g,j,none⟩) hb).trans (h.2 j u hj)⟩
theorem Box.setOther {w:World} {g k o:Nat} {cs vs:List Value} (h:Box w g cs) (hk:g≠k):Box (w.setCells k o vs) g cs:=h.block (Nat.le_of_eq (uc k vs o w).symm) (uG k g hk vs o w)
theorem Box.grown {w w':World} {g:Nat} {cs:List Value} {row:Option Nat} (h:Box w g cs) (hg:w.grownBy w' row) (hne:some g≠row):Box w' g cs:=h.block hg.size (hg.block g h.1 hne)
def Soft (w:World) (g:Nat):Prop:=∀ j,w.frozen? ⟨g,j,none⟩=false
theorem Soft.new (w:World) (cs:Array Value) (t:TypeId):Soft (w.alloc (.cells cs t)) w.heap.size:=fun j=>by
 have h:(w.alloc (.cells cs t)).heap[w.heap.size]?=some (.cells cs t):=by
  show (w.heap.push _)[w.heap.size]?=_;simp
 simp only [World.frozen?,h];simp
theorem Soft.below {w w':World} {g:Nat} (h:Soft w g) (hg:g < w.heap.size) (hb:Below w.heap.size w w'):Soft w' g:=fun j=>(hb.frozen (p:=⟨g,j,none⟩) hg).trans (h j)
theorem Soft.set {w:World} {g k o:Nat} {vs:List Value} (h:Soft w g):Soft (w.setCells k o vs) g:=fun j=>(World.frozen?_setCells k vs o w _).trans (h j)
theorem Soft.grown {w w':World} {g:Nat} {row:Option Nat} (h:Soft w g) (hg:w.grownBy w' row) (hlt:g < w.heap.size) (hne:some g≠row):Soft w' g:=fun j=>(World.frozen?_of_block (a:=⟨g,j,none⟩) (hg.block g hlt hne)).trans (h j)
section
variable {P:Program} {w:World} {base size n bytes:Nat} {t e:TypeId} {v:Value} {xs:List Value}
theorem vu (E:EK P t e size bytes) {ops:Array Oper} {rest:List Oper} {o:Oper} {a:Act} {Q:Exit→Act→World→Prop} (hgd:o.guard=none) (s x:Operand)
 (ho:o.op = .call { callee := .builtin .append,args:=#[s,x],argTypes:=#[t,t] }) (news:List Value)
 (hown:w.ownsRow base e size v n xs) (hs:a.eval s=v) (hx:a.eval x = .slice (some ⟨w.heap.size,0,none⟩) 1 1) (hl:news.length=size) (h1:∀ u∈news,u.oneCell'=true)
 (hm:n+1≤maxLen) (hn:(n+1) * bytes≤140737488355328) (hbase:base≤w.heap.size)
 (h:∀ v' w',w'.ownsRow base e size v' (n+1) (xs++news)→Below base w w'→w.grownBy w' v.ownBlock→wpList P ops Q rest (a.put o.dst v') w') :
 wpList P ops Q (o::rest) a (w.alloc (.cells news.toArray e)):=by
 refine zW E hgd s x ho hs (hown.alloc _) hx ⟨by omega,(fun k=>by cases k),fun ad k j u hj=>?_⟩ h1 hm hn (by simp; omega) ?_
 ·(injection k with k);subst k
  have hz:∀ q:Nat,(Addr.mk w.heap.size 0 none).add q=⟨w.heap.size,q,none⟩:=by
   intro q;unfold Addr.add;split<;>simp_all
  rw [hz,World.cell?_alloc_at _ _ _ _ rfl];simpa using hj
 ·intro v' w' h2 h3 h4;exact h v' w' h2 (((Below.refl _ _).alloc hbase _).trans h3) (lD (World.grownBy_alloc w _ _) h4)
end
end Go.Proofs.YtiffijoenkcpjaaGreatDoor
