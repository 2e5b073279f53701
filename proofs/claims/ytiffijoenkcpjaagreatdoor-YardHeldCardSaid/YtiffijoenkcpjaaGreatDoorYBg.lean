import Derived.ChangeOld
import Derived.ChangeSame
import Derived.Deep.Fields
import Derived.Deep.Slices
import Derived.Ground.SlsfProg
import Derived.Lib.SmallJoins
import Derived.OpenShut
import Derived.ProofKit
import Derived.Shelf.SlGeneric
import Derived.Shelf.SlLaysF0
import Derived.Shelf.SlSortCmp.NoneTotal
import Derived.Shelf.SlSortCmp.WholeK
import Derived.ShutString
import Derived.Test.YtiffijoenkcpjaaGreatDoorSort
import Derived.Test.YtiffijoenkcpjaaGreatDoorYBc
set_option linter.unusedVariables false
set_option linter.unusedSimpArgs false
set_option maxRecDepth 100000
set_option maxHeartbeats 16000000
namespace Go.Proofs.YtiffijoenkcpjaaGreatDoor
open Go.RowKit Go.Lib
def fitAll (l:List SpanL):Prop:=∀ s,s∈l→s.fit
theorem fitAll.addIf {o:List SpanL} {f t:CutL} (h:fitAll o) (hf:f.fit) (ht:t.fit):fitAll (Rw.addIf o f t):=Rw.addIf_low (Q:=SpanL.fit) h ⟨hf,ht⟩
theorem addIf_yes {o:List SpanL} {f t:CutL} (h:Xc f t < 0):Rw.addIf o f t=o++[⟨f,t⟩]:=by rw [Rw.addIf,if_pos h]
theorem addIf_no {o:List SpanL} {f t:CutL} (h:¬ Xc f t < 0):Rw.addIf o f t=o:=by rw [Rw.addIf,if_neg h]
structure HasRow (w:World) (base:Nat) (v:Value) (o:List SpanL) (k:Nat):Prop where
 own:OwnS w base v o
 fit:fitAll o
 len:o.length≤k
theorem en_last {c:CutL} (h:fB c=true):c.en < 1↔Xc c ig < 0:=by
 rw [Xu h fp (by simp [ig]),tO]; rfl
theorem not_no (base:Nat) (A:Option Addr) (cap:Nat) (a:List SpanL) (w:World) (ha:Spans w A a) (hf:fitL a) (hln:a.length≤40000) (hb:base≤w.heap.size) (hmay:mayR a=false):Calls Tryz.prog 180 #[.slice A a.length cap] w (RowPost w base []):=by
 have hma:=hid (rowmay_any A cap a w ha hf (by omega));rw [hmay] at hma;clear ha hf hmay;generalize a.length=n at *;go_enter Tryz.func180,Tryz.ntmps180;(go_wp2_with fail);refine hma.out.mono ?_;rintro _ w1 ⟨rfl,hb1⟩;(go_wp2_with fail);go_ret;exact ⟨_,rfl,OwnS.nil _ _,hb1.mono hb,hb1.size⟩
theorem not_yes (base:Nat) (A:Option Addr) (cap:Nat) (a:List SpanL) (w:World) (ha:Spans w A a) (hf:fitL a) (hln:a.length≤40000) (hb:base≤w.heap.size) (hmay:mayR a=true):Calls Tryz.prog 180 #[.slice A a.length cap] w (RowPost w base (rnotL a)):=by
 have hma:=hid (rowmay_any A cap a w ha hf (by omega));rw [hmay] at hma;have HV:=hid (Rw.mayR_val.1 hmay);have HA:=hid ha;have HF:=hid hf;have hM:maxLen=9223372036854775807:=rfl;clear ha hf hmay;generalize hn:a.length=n at *;have HN:=hid hn;clear hn;go_enter Tryz.func180,Tryz.ntmps180;(go_wp2_with fail);refine hma.out.mono ?_;rintro _ w1 ⟨rfl,hb1⟩;have HA1:=hid (HA.out.below hb1);have HB0:=hid (Box.new w1 rR.cells 109);have HS0:=hid (Soft.new w1 rR.cells.toArray 109);have HBL:=hid (zL w1 (.cells rR.cells.toArray 109));clear HA hma;(go_wp2_with fail);go_loopw [6,13,3] (fun _ i o wr=>∃ (k:Nat) (v:Value) (out:List SpanL) (fr:CutL),i = .int .i64 k∧v=o∧k≤n∧Hid (Box wr w1.heap.size fr.cells)∧Hid (Soft wr w1.heap.size)∧Hid (HasRow wr (w1.heap.size+1) v out k)∧Hid (Rw.NotInv a out k fr)∧Hid fr.fit∧Below w1.heap.size w1 wr) (fun _ i _ _=>n - (intOf i).toNat)
 case atStart=>exact ⟨0,_,[],rR,rfl,rfl,Nat.zero_le _,HB0,HS0,⟨OwnS.nil _ _,(fun s h=>by cases h),by simp⟩,Rw.NotInv.start HV.out,ee,HBL.out⟩
 case round =>
  obtain ⟨k,v,out,fr,rfl,rfl,hk,HB,HS,HR,HI,HFR,hbr⟩:=hrel;have hgb:=HB.out.1;by_cases hlt:k < n
  ·(have hlt':k < a.length:=by rw [HN.out]; exact hlt);obtain ⟨b,off,rfl,hbl,⟨x0,x1,x2,x3,x4,x5,x6⟩,z0,z1,z2,z3,z4,z5,z6⟩:=(HA1.out.below hbr).at_ (k:=k) hlt';(have i0:(0:Int)≤(k:Int):=by omega);(have i1:(k:Int) < (n:Int):=by omega);have hfk:=hid (HF.out k hlt');have HST:=hid (HI.out.step HV.out hlt');generalize nth a k=s at *;obtain ⟨y0,y1,y2,y3,y4,y5,y6⟩:=HB.out.get7;have hcmp:=hid (fun w'=>ccompare_any fr s.fr w' HFR.out hfk.out.1);have HBN:=hid (zL wr (.cells s.cells.toArray 111));cases hlt2:decide (Xc fr s.fr < 0)
   ·have HX:=hid (addIf_no (o:=out) (f:=fr) (t:=s.fr) (by simpa using hlt2));(go_wp2_with fail);refine (hcmp.out _).mono ?_;rintro _ w2 ⟨rfl,hb2⟩;clear x0 x1 x2 x3 x4 x5 x6 z0 z1 z2 z3 z4 z5 z6 y0 y1 y2 y3 y4 y5 y6;obtain ⟨hx,hbw⟩:=box_1 (cs:=s.cells) hb2;have HB2:=hid (HB.out.below hbw);have HS2:=hid (HS.out.below hgb hbw);obtain ⟨⟨x0,x1,x2,x3,x4,x5,x6⟩,z0,z1,z2,z3,z4,z5,z6⟩:=hx.get14;obtain ⟨y0,y1,y2,y3,y4,y5,y6⟩:=HB2.out.get7;have hf2:∀ j,w2.frozen? ⟨w1.heap.size,j,none⟩=false:=HS2.out;have HO2:=hid (pC HR.out.own hbw);have HBR:=hid (zC hbr hbw);clear hx hb2 hbw;(go_wp2_with fail);go_roundw
    case rel=>exact ⟨k+1,v,out,s.til,by go_num,rfl,by omega,HB2.out.set7 s.til,HS2.out.set (vs:=s.til.cells),⟨own_setCells (o:=0) (vs:=s.til.cells) HO2.out (by omega),HR.out.fit,Nat.le_succ_of_le HR.out.len⟩,(by have:=HST.out; rwa [HX.out] at this),hfk.out.2,HBR.out.setCells (Nat.le_refl _) s.til.cells 0⟩
    case measure=>simp [intOf]; omega
   ·have HX:=hid (addIf_yes (o:=out) (f:=fr) (t:=s.fr) (by simpa using hlt2));have HLN:=HR.out.len;(go_wp2_with fail);refine (hcmp.out _).mono ?_;rintro _ w2 ⟨rfl,hb2⟩;clear x0 x1 x2 x3 x4 x5 x6 z0 z1 z2 z3 z4 z5 z6 y0 y1 y2 y3 y4 y5 y6;obtain ⟨hx,hbw⟩:=box_1 (cs:=s.cells) hb2;have HB2:=hid (HB.out.below hbw);have HS2:=hid (HS.out.below hgb hbw);have HX2:=hid hx;obtain ⟨⟨x0,x1,x2,x3,x4,x5,x6⟩,z0,z1,z2,z3,z4,z5,z6⟩:=hx.get14;obtain ⟨y0,y1,y2,y3,y4,y5,y6⟩:=HB2.out.get7;have hgb2:=HB2.out.1;have HO2:=hid (pC HR.out.own hbw);have HOB:=hid (own_bound HR.out.own);have HBR:=hid (zC hbr hbw);have hz2:=hid hbw.size;clear hx hb2 hbw;go_wp2_with (first | (at_builtin; refine vu EKspans rfl (.tmp 22) (.tmp 27) rfl (SpanL.cells ⟨fr,s.fr⟩) HO2.out rfl rfl rfl (oneS1 _) (by omega) (by omega) (by have:=hz2.out; omega) ?_; intro v' w' h2 h3 h4; clear x0 x1 x2 x3 x4 x5 x6 z0 z1 z2 z3 z4 z5 z6 y0 y1 y2 y3 y4 y5 y6; have hne:some w1.heap.size≠v.ownBlock:=fun e=>by { have:=(HOB.out _ e.symm).1; omega }; have hne2:some wr.heap.size≠v.ownBlock:=fun e=>by { have:=(HOB.out _ e.symm).2; omega }; have HB3:=hid (HB2.out.grown h4 hne); have HS3:=hid (HS2.out.grown h4 hgb2 hne); have hx:=HX2.out.grown h4 hne2; have HO3:=hid h2; have HBR3:=hid (HBR.out.trans (h3.mono (Nat.le_succ _))); obtain ⟨⟨x0,x1,x2,x3,x4,x5,x6⟩,z0,z1,z2,z3,z4,z5,z6⟩:=hx.get14; obtain ⟨y0,y1,y2,y3,y4,y5,y6⟩:=HB3.out.get7; have hf2:∀ j,w'.frozen? ⟨w1.heap.size,j,none⟩=false:=HS3.out; clear hx h2 h3 h4 hne hne2))
    go_roundw
    case rel=>exact ⟨k+1,v',out++[⟨fr,s.fr⟩],s.til,by go_num,rfl,by omega,HB3.out.set7 s.til,HS3.out.set (vs:=s.til.cells),⟨own_setCells (o:=0) (vs:=s.til.cells) (OwnS.app HO3.out) (by omega),(by rw [← HX.out]; exact HR.out.fit.addIf HFR.out hfk.out.1),by simp; omega⟩,(by have:=HST.out; rwa [HX.out] at this),hfk.out.2,HBR3.out.setCells (Nat.le_refl _) s.til.cells 0⟩
    case measure=>simp [intOf]; omega
  ·(obtain rfl:k=n:=by omega);have HDN:=hid (Rw.NotInv.done (by have:=HI.out; rwa [← HN.out] at this) HV.out);have HEN:=hid (en_last HI.out.ok);obtain ⟨y0,y1,y2,y3,y4,y5,y6⟩:=HB.out.get7;(have hd:decide ((k:Int) < (k:Int))=false:=by simp);have HOW:=hid HR.out.own;have HLN:=HR.out.len;have hbs:=hid (Nat.le_trans hb1.size hbr.size);have hbw1:=hid ((hb1.mono hb).trans (hbr.mono (Nat.le_trans hb hb1.size)));cases hlt2:decide (fr.en < 1)
   ·have HX:=hid (addIf_no (o:=out) (f:=fr) (t:=ig) (fun h=>by have:=HEN.out.2 h; simp at hlt2; omega));(go_wp2_with fail);go_ret;rw [← HDN.out,HX.out];exact ⟨v,rfl,OwnS.low HOW.out (by have:=hb1.size; omega),hbw1.out,hbs.out⟩
   ·have HX:=hid (addIf_yes (o:=out) (f:=fr) (t:=ig) (HEN.out.1 (by simpa using hlt2)));(go_wp2_with (first | (at_builtin; refine vu EKspans rfl (.tmp 35) (.tmp 39) rfl (SpanL.cells ⟨fr,ig⟩) HOW.out rfl rfl rfl (oneS1 _) (by omega) (by omega) (by omega) ?_; intro v' w' h2 h3 h4)));clear y0 y1 y2 y3 y4 y5 y6;(go_wp2_with fail);go_ret;rw [← HDN.out,HX.out];exact ⟨v',rfl,OwnS.low (OwnS.app h2) (by have:=hb1.size; omega),hbw1.out.trans (h3.mono (by have:=hb1.size; omega)),Nat.le_trans hbs.out h3.size⟩
theorem not_any (base:Nat) (A:Option Addr) (cap:Nat) (a:List SpanL) (w:World) (ha:Spans w A a) (hf:fitL a) (hln:a.length≤40000) (hb:base≤w.heap.size):Calls Tryz.prog 180 #[.slice A a.length cap] w (RowPost w base (rnotL a)):=by
 cases hmay:mayR a
 ·rw [show rnotL a=[] by rw [rnotL,hmay]; rfl]; exact not_no base A cap a w ha hf hln hb hmay
 ·exact not_yes base A cap a w ha hf hln hb hmay
theorem own_keep {w w':World} {base size n:Nat} {e:TypeId} {v:Value} {xs:List Value} (h:w.ownsRow base e size v n xs) (hb:∀ k,v.ownBlock=some k→w'.heap[k]?=w.heap[k]?):w'.ownsRow base e size v n xs:=by
 obtain ⟨h1,h2⟩:=h;refine ⟨h1,?_⟩;rcases h2 with h2 | ⟨g,cap,cur,hv,hg,hh,r⟩
 ·exact .inl h2
 ·refine .inr ⟨g,cap,cur,hv,hg,?_,r⟩;rw [hb g (by rw [hv]; rfl)]; exact hh
theorem own_set {w:World} {base size n g o:Nat} {e:TypeId} {v:Value} {xs vs:List Value} (h:w.ownsRow base e size v n xs) (hg:∀ k,v.ownBlock=some k→k < g):(w.setCells g o vs).ownsRow base e size v n xs :=
 own_keep h fun k hk=>uG g k (by have:=hg k hk; omega) vs o w
theorem maxC_yes {a b:CutL} (h:Xc a b < 0):Rw.maxC a b=b:=by rw [Rw.maxC,if_pos h]
theorem maxC_no {a b:CutL} (h:¬ Xc a b < 0):Rw.maxC a b=a:=by rw [Rw.maxC,if_neg h]
theorem below_setNew {w w':World} {g o:Nat} {vs:List Value} (h:Below g w w'):Below g w (w'.setCells g o vs):=h.setCells (Nat.le_refl g) vs o
theorem and_no (base:Nat) (A B:Option Addr) (cap cap2:Nat) (a b:List SpanL) (w:World) (ha:Spans w A a) (hb:Spans w B b) (hfa:fitL a) (hfb:fitL b) (hln:a.length+b.length≤40000) (hbase:base≤w.heap.size) (hno:(mayR a&&mayR b)=false):Calls Tryz.prog 54 #[.slice A a.length cap,.slice B b.length cap2] w (RowPost w base []):=by
 have hma:=hid (rowmay_any A cap a w ha hfa (by omega));have HB:=hid hb;have hmb:=hid (fun w' (h:Spans w' B b)=>rowmay_any B cap2 b w' h hfb (by omega));clear ha hb hfa hfb;cases hmay:mayR a
 ·rw [hmay] at hma;generalize a.length=n at *;generalize b.length=p at *;clear hno;go_enter Tryz.func54,Tryz.ntmps54;(go_wp2_with fail);refine hma.out.mono ?_;rintro _ w1 ⟨rfl,hb1⟩;(go_wp2_with fail);go_ret;exact ⟨_,rfl,OwnS.nil _ _,hb1.mono hbase,hb1.size⟩
 ·rw [hmay] at hma hno;(have hbm:mayR b=false:=by simpa using hno);rw [hbm] at hmb;generalize a.length=n at *;generalize b.length=p at *;clear hno hbm;go_enter Tryz.func54,Tryz.ntmps54;(go_wp2_with fail);refine hma.out.mono ?_;rintro _ w1 ⟨rfl,hb1⟩;(go_wp2_with fail);refine (hmb.out _ (HB.out.below hb1)).mono ?_;rintro _ w2 ⟨rfl,hb2⟩;have hb02:=zC hb1 hb2;(go_wp2_with fail);go_ret;exact ⟨_,rfl,OwnS.nil _ _,hb02.mono hbase,hb02.size⟩
theorem and_yes (base:Nat) (A B:Option Addr) (cap cap2:Nat) (a b:List SpanL) (w:World) (ha:Spans w A a) (hb:Spans w B b) (hfa:fitL a) (hfb:fitL b) (hln:a.length+b.length≤40000) (hbase:base≤w.heap.size) (hmay:mayR a=true∧mayR b=true):Calls Tryz.prog 54 #[.slice A a.length cap,.slice B b.length cap2] w (RowPost w base (randL a b)):=by
 have HA:=hid ha;have HB:=hid hb;have HFA:=hid hfa;have HFB:=hid hfb;have hma:=hid (rowmay_any A cap a w ha hfa (by omega));have hmb:=hid (fun w' (h:Spans w' B b)=>rowmay_any B cap2 b w' h hfb (by omega));rw [hmay.1] at hma;rw [hmay.2] at hmb;have HVA:=hid (Rw.mayR_val.1 hmay.1);have HVB:=hid (Rw.mayR_val.1 hmay.2);have hM:maxLen=9223372036854775807:=rfl;clear ha hb hfa hfb hmay;generalize hn:a.length=n at *;generalize hp:b.length=p at *;have HN:=hid hn;have HP:=hid hp;clear hn hp;go_enter Tryz.func54,Tryz.ntmps54;(go_wp2_with fail);refine hma.out.mono ?_;rintro _ w0 ⟨rfl,hb0⟩;(go_wp2_with fail);refine (hmb.out _ (HB.out.below hb0)).mono ?_;rintro _ w1 ⟨rfl,hb1'⟩;have hb1:=zC hb0 hb1';have HA1:=hid (HA.out.below hb1);have HB1:=hid (HB.out.below hb1);clear hma hmb HA HB hb0 hb1';(go_wp2_with fail);go_loopw [8,9,6,7,5] (fun _ _ i j o wr=>∃ (k q:Nat) (v:Value) (out:List SpanL),i = .int .i64 k∧j = .int .i64 q∧v=o∧k≤n∧q≤p∧Hid (HasRow wr w1.heap.size v out (k+q))∧Hid (Rw.AndInv a b out k q)∧Below w1.heap.size w1 wr) (fun _ _ i j _ _=>n+p - (intOf i).toNat - (intOf j).toNat)
 case atStart=>exact ⟨0,0,_,[],rfl,rfl,rfl,Nat.zero_le _,Nat.zero_le _,⟨OwnS.nil _ _,(fun s h=>by cases h),by simp⟩,Rw.AndInv.start a b,Below.refl _ _⟩
 case round =>
  obtain ⟨k,q,v,out,rfl,rfl,rfl,hk,hq,HR,HI,hbr⟩:=hrel;have HBR:=hid hbr;by_cases hlt:k < n
  ·by_cases hlq:q < p
   ·(have hlt':k < a.length:=by rw [HN.out]; exact hlt);(have hlq':q < b.length:=by rw [HP.out]; exact hlq);have hgw:=HBR.out.size;obtain ⟨bl,off,rfl,hbl,⟨x0,x1,x2,x3,x4,x5,x6⟩,z0,z1,z2,z3,z4,z5,z6⟩:=(HA1.out.below hbr).at_ (k:=k) hlt';obtain ⟨bl2,off2,rfl,hbl2,⟨u0,u1,u2,u3,u4,u5,u6⟩,y0,y1,y2,y3,y4,y5,y6⟩:=(HB1.out.below hbr).at_ (k:=q) hlq';(have i0:(0:Int)≤(k:Int):=by omega);(have i1:(k:Int) < (n:Int):=by omega);(have j0:(0:Int)≤(q:Int):=by omega);(have j1:(q:Int) < (p:Int):=by omega);have hfk:=hid (HFA.out k hlt');have hfq:=hid (HFB.out q hlq');have HST:=hid (HI.out.stepA HVA.out HVB.out hlt' hlq');have HSU:=hid (HI.out.stepB HVA.out HVB.out hlt' hlq');have HCA:=hid (fun w' (h:Below wr.heap.size wr w')=>((HA1.out.below hbr).below h).lay (k:=k) hlt');have HCB:=hid (fun w' (h:Below wr.heap.size wr w')=>((HB1.out.below hbr).below h).lay (k:=q) hlq');generalize nth a k=s at *;generalize nth b q=t at *;have HBN:=hid (zL wr (.cells s.cells.toArray 111));have HX0:=hid (Box.new wr s.cells 111);have HS0:=hid (Soft.new wr s.cells.toArray 111);have HOB:=hid (own_bound HR.out.own);have HOW:=hid HR.out.own;have HLN:=HR.out.len;have hc1:=hid (fun w'=>ccompare_any s.fr t.fr w' hfk.out.1 hfq.out.1);have hc2:=hid (fun w'=>ccompare_any s.til t.til w' hfk.out.2 hfq.out.2);clear hbr;(go_wp2_with fail);have hbw:=bw_cell;refine wp_region_below (by kernel_rfl) (by kernel_rfl) ?_
    (repeat (go_big_quiet_step ((go_at_call 94; exact bw_int (hc1.out _)))));refine wpQuiet_nil ?_;rintro _ ⟨z,rfl⟩;have hbz:=z.ok;generalize z.v=w2 at hbz ⊢;clear z hbw;clear x0 x1 x2 x3 x4 x5 x6 z0 z1 z2 z3 z4 z5 z6 u0 u1 u2 u3 u4 u5 u6 y0 y1 y2 y3 y4 y5 y6;have HBW:=hid (zC HBN.out hbz);have HX:=hid (HX0.out.below hbz);have HS:=hid (HS0.out.below HX0.out.1 hbz);have HO:=hid (pC HOW.out HBW.out);clear hbz hc1 HX0 HS0 HBN;cases hd1:decide (Xc s.fr t.fr < 0)
    ·have HM:=hid (maxC_no (a:=s.fr) (b:=t.fr) (by simpa using hd1));obtain ⟨hgx,hX⟩:=HX.out;obtain ⟨hbl,⟨x0,x1,x2,x3,x4,x5,x6⟩,z0,z1,z2,z3,z4,z5,z6⟩:=HCA.out _ HBW.out;obtain ⟨hbl2,⟨u0,u1,u2,u3,u4,u5,u6⟩,y0,y1,y2,y3,y4,y5,y6⟩:=HCB.out _ HBW.out;clear hX;(go_wp2_with fail);have hbw:=bw_cell;refine wp_region_below (by kernel_rfl) (by kernel_rfl) ?_;(repeat (go_big_quiet_step ((go_at_call 94; exact bw_int (hc2.out _)))));refine wpQuiet_nil ?_;rintro _ ⟨z,rfl⟩;have hbz:=z.ok;generalize z.v=w4 at hbz ⊢;clear z hbw hgx;clear x0 x1 x2 x3 x4 x5 x6 z0 z1 z2 z3 z4 z5 z6 u0 u1 u2 u3 u4 u5 u6 y0 y1 y2 y3 y4 y5 y6;have HX4:=hid (HX.out.below hbz);have HS4:=hid (HS.out.below HX.out.1 hbz);have HO4:=hid (pC HO.out hbz);have HBW4:=hid (HBW.out.trans (hbz.mono (Nat.le_trans (Nat.le_of_lt HX.out.1) (Nat.le_refl _))));clear hbz HX HS HO HBW;cases hd2:decide (Xc s.til t.til≤0)
     ·have HT:=hid (HSU.out (by simpa using hd2));rw [HM.out] at HT;obtain ⟨hgx,hX⟩:=HX4.out;obtain ⟨hbl,⟨x0,x1,x2,x3,x4,x5,x6⟩,z0,z1,z2,z3,z4,z5,z6⟩:=HCA.out _ HBW4.out;obtain ⟨hbl2,⟨u0,u1,u2,u3,u4,u5,u6⟩,y0,y1,y2,y3,y4,y5,y6⟩:=HCB.out _ HBW4.out;obtain ⟨⟨p0,p1,p2,p3,p4,p5,p6⟩,q0,q1,q2,q3,q4,q5,q6⟩:=HX4.out.get14;have hf:∀ j,w4.frozen? ⟨wr.heap.size,j,none⟩=false:=HS4.out;clear hX;(go_wp2_with fail);rw [show (((((((w4.setCell ⟨wr.heap.size,7,none⟩ (.int .i64 t.til.en)).setCell ⟨wr.heap.size,8,none⟩ (.int .i64 t.til.v.maj)).setCell ⟨wr.heap.size,9,none⟩ (.int .i64 t.til.v.min)).setCell ⟨wr.heap.size,10,none⟩ (.int .i64 t.til.v.pat)).setCell ⟨wr.heap.size,11,none⟩ (.string t.til.v.pre)).setCell ⟨wr.heap.size,12,none⟩ (.string t.til.v.bld)).setCell ⟨wr.heap.size,13,none⟩ (.bool t.til.aft))=w4.setCells wr.heap.size 7 t.til.cells from rfl];clear x0 x1 x2 x3 x4 x5 x6 z0 z1 z2 z3 z4 z5 z6 u0 u1 u2 u3 u4 u5 u6 y0 y1 y2 y3 y4 y5 y6 p0 p1 p2 p3 p4 p5 p6 q0 q1 q2 q3 q4 q5 q6 hf hgx;have HX5:=hid (HX4.out.setTil t.til);have HBW5:=hid (below_setNew (o:=7) (vs:=t.til.cells) HBW4.out);have HO5:=hid (own_set (g:=wr.heap.size) (o:=7) (vs:=t.til.cells) HO4.out fun r hr=>(HOB.out r hr).2);clear HX4 HS4 HBW4 HO4;generalize w4.setCells wr.heap.size 7 t.til.cells=w5 at *;have hgx:=HX5.out.1;obtain ⟨⟨p0,p1,p2,p3,p4,p5,p6⟩,q0,q1,q2,q3,q4,q5,q6⟩:=HX5.out.get14;have hc3:=hid (fun w'=>ccompare_any s.fr t.til w' hfk.out.1 hfq.out.2)
      (go_wp2_with fail);refine (hc3.out _).mono ?_;rintro _ w6 ⟨rfl,hb6⟩;clear p0 p1 p2 p3 p4 p5 p6 q0 q1 q2 q3 q4 q5 q6 hgx hc3;have HX6:=hid (HX5.out.below hb6);have HO6:=hid (pC HO5.out hb6);have HBW6:=hid (HBW5.out.trans (hb6.mono (Nat.le_of_lt HX5.out.1)));clear hb6 HX5 HO5 HBW5;cases hd3:decide (Xc s.fr t.til < 0)
      ·have HAD:=hid (addIf_no (o:=out) (f:=s.fr) (t:=t.til) (by simpa using hd3));rw [HAD.out] at HT;(go_wp2_with fail);go_roundw
       case rel=>exact ⟨k,q+1,v,out,by go_num,by go_num,rfl,by omega,by omega,⟨HO6.out,HR.out.fit,by omega⟩,HT.out,HBR.out.trans (HBW6.out.mono hgw)⟩
       case measure=>simp [intOf]; omega
      ·have HAD:=hid (addIf_yes (o:=out) (f:=s.fr) (t:=t.til) (by simpa using hd3));rw [HAD.out] at HT;have hgx:=HX6.out.1;have hbw6:=hid HBW6.out.size;obtain ⟨⟨p0,p1,p2,p3,p4,p5,p6⟩,q0,q1,q2,q3,q4,q5,q6⟩:=HX6.out.get14;(go_wp2_with (first | (at_builtin; refine vu EKspans rfl (.tmp 73) (.tmp 75) rfl (SpanL.cells ⟨s.fr,t.til⟩) HO6.out rfl rfl rfl (oneS1 _) (by omega) (by omega) (by have:=hbw6.out; omega) ?_; intro v' w7 h2 h3 h4)));clear p0 p1 p2 p3 p4 p5 p6 q0 q1 q2 q3 q4 q5 q6 hgx;have HO7:=hid (OwnS.app h2);have HBR7:=hid ((HBR.out.trans (HBW6.out.mono hgw)).trans h3);clear h2 h3 h4;(go_wp2_with fail);go_roundw
       case rel=>exact ⟨k,q+1,v',out++[(⟨s.fr,t.til⟩:SpanL)],by go_num,by go_num,rfl,by omega,by omega,⟨HO7.out,(by rw [← HAD.out]; exact HR.out.fit.addIf hfk.out.1 hfq.out.2),by simp; omega⟩,HT.out,HBR7.out⟩
       case measure=>simp [intOf]; omega
     ·have HT:=hid (HST.out (by simpa using hd2));rw [HM.out] at HT;have HX5:=HX4;have HBW5:=HBW4;have HO5:=HO4;clear HX4 HS4 HBW4 HO4;have hgx:=HX5.out.1;obtain ⟨⟨p0,p1,p2,p3,p4,p5,p6⟩,q0,q1,q2,q3,q4,q5,q6⟩:=HX5.out.get14;have hc3:=hid (fun w'=>ccompare_any s.fr s.til w' hfk.out.1 hfk.out.2);(go_wp2_with fail);refine (hc3.out _).mono ?_;rintro _ w6 ⟨rfl,hb6⟩;clear p0 p1 p2 p3 p4 p5 p6 q0 q1 q2 q3 q4 q5 q6 hgx hc3;have HX6:=hid (HX5.out.below hb6);have HO6:=hid (pC HO5.out hb6);have HBW6:=hid (HBW5.out.trans (hb6.mono (Nat.le_of_lt HX5.out.1)));clear hb6 HX5 HO5 HBW5;cases hd3:decide (Xc s.fr s.til < 0)
      ·have HAD:=hid (addIf_no (o:=out) (f:=s.fr) (t:=s.til) (by simpa using hd3));rw [HAD.out] at HT;(go_wp2_with fail);go_roundw
       case rel=>exact ⟨k+1,q,v,out,by go_num,by go_num,rfl,by omega,by omega,⟨HO6.out,HR.out.fit,by omega⟩,HT.out,HBR.out.trans (HBW6.out.mono hgw)⟩
       case measure=>simp [intOf]; omega
      ·have HAD:=hid (addIf_yes (o:=out) (f:=s.fr) (t:=s.til) (by simpa using hd3));rw [HAD.out] at HT;have hgx:=HX6.out.1;have hbw6:=hid HBW6.out.size;obtain ⟨⟨p0,p1,p2,p3,p4,p5,p6⟩,q0,q1,q2,q3,q4,q5,q6⟩:=HX6.out.get14;(go_wp2_with (first | (at_builtin; refine vu EKspans rfl (.tmp 73) (.tmp 75) rfl (SpanL.cells ⟨s.fr,s.til⟩) HO6.out rfl rfl rfl (oneS1 _) (by omega) (by omega) (by have:=hbw6.out; omega) ?_; intro v' w7 h2 h3 h4)));clear p0 p1 p2 p3 p4 p5 p6 q0 q1 q2 q3 q4 q5 q6 hgx;have HO7:=hid (OwnS.app h2);have HBR7:=hid ((HBR.out.trans (HBW6.out.mono hgw)).trans h3);clear h2 h3 h4;(go_wp2_with fail);go_roundw
       case rel=>exact ⟨k+1,q,v',out++[(⟨s.fr,s.til⟩:SpanL)],by go_num,by go_num,rfl,by omega,by omega,⟨HO7.out,(by rw [← HAD.out]; exact HR.out.fit.addIf hfk.out.1 hfk.out.2),by simp; omega⟩,HT.out,HBR7.out⟩
       case measure=>simp [intOf]; omega
    ·have HM:=hid (maxC_yes (a:=s.fr) (b:=t.fr) (by simpa using hd1));obtain ⟨hgx,hX⟩:=HX.out;obtain ⟨hbl,⟨x0,x1,x2,x3,x4,x5,x6⟩,z0,z1,z2,z3,z4,z5,z6⟩:=HCA.out _ HBW.out;obtain ⟨hbl2,⟨u0,u1,u2,u3,u4,u5,u6⟩,y0,y1,y2,y3,y4,y5,y6⟩:=HCB.out _ HBW.out;obtain ⟨⟨p0,p1,p2,p3,p4,p5,p6⟩,q0,q1,q2,q3,q4,q5,q6⟩:=HX.out.get14;have hf:∀ j,w2.frozen? ⟨wr.heap.size,j,none⟩=false:=HS.out;clear hX;(go_wp2_with fail);rw [show (((((((w2.setCell ⟨wr.heap.size,0,none⟩ (.int .i64 t.fr.en)).setCell ⟨wr.heap.size,1,none⟩ (.int .i64 t.fr.v.maj)).setCell ⟨wr.heap.size,2,none⟩ (.int .i64 t.fr.v.min)).setCell ⟨wr.heap.size,3,none⟩ (.int .i64 t.fr.v.pat)).setCell ⟨wr.heap.size,4,none⟩ (.string t.fr.v.pre)).setCell ⟨wr.heap.size,5,none⟩ (.string t.fr.v.bld)).setCell ⟨wr.heap.size,6,none⟩ (.bool t.fr.aft))=w2.setCells wr.heap.size 0 t.fr.cells from rfl];clear x0 x1 x2 x3 x4 x5 x6 z0 z1 z2 z3 z4 z5 z6 u0 u1 u2 u3 u4 u5 u6 y0 y1 y2 y3 y4 y5 y6 p0 p1 p2 p3 p4 p5 p6 q0 q1 q2 q3 q4 q5 q6 hf hgx;have HX1:=hid (HX.out.setFr t.fr);have HS1:=hid (HS.out.set (k:=wr.heap.size) (o:=0) (vs:=t.fr.cells));have HBW1:=hid (below_setNew (o:=0) (vs:=t.fr.cells) HBW.out);have HO1:=hid (own_set (g:=wr.heap.size) (o:=0) (vs:=t.fr.cells) HO.out fun r hr=>(HOB.out r hr).2);clear HX HS HBW HO;generalize w2.setCells wr.heap.size 0 t.fr.cells=w3 at *;(rename Hid (Box w3 _ _)=>HX);(rename Hid (Soft w3 _)=>HS);rename Hid (Below _ _ w3)=>HBW
     (rename Hid (World.ownsRow w3 _ _ _ _ _ _)=>HO);obtain ⟨hgx,hX⟩:=HX.out;obtain ⟨hbl,⟨x0,x1,x2,x3,x4,x5,x6⟩,z0,z1,z2,z3,z4,z5,z6⟩:=HCA.out _ HBW.out;obtain ⟨hbl2,⟨u0,u1,u2,u3,u4,u5,u6⟩,y0,y1,y2,y3,y4,y5,y6⟩:=HCB.out _ HBW.out;clear hX;(go_wp2_with fail);have hbw:=bw_cell;refine wp_region_below (by kernel_rfl) (by kernel_rfl) ?_;(repeat (go_big_quiet_step ((go_at_call 94; exact bw_int (hc2.out _)))));refine wpQuiet_nil ?_;rintro _ ⟨z,rfl⟩;have hbz:=z.ok;generalize z.v=w4 at hbz ⊢;clear z hbw hgx;clear x0 x1 x2 x3 x4 x5 x6 z0 z1 z2 z3 z4 z5 z6 u0 u1 u2 u3 u4 u5 u6 y0 y1 y2 y3 y4 y5 y6;have HX4:=hid (HX.out.below hbz);have HS4:=hid (HS.out.below HX.out.1 hbz);have HO4:=hid (pC HO.out hbz);have HBW4:=hid (HBW.out.trans (hbz.mono (Nat.le_trans (Nat.le_of_lt HX.out.1) (Nat.le_refl _))));clear hbz HX HS HO HBW;cases hd2:decide (Xc s.til t.til≤0)
     ·have HT:=hid (HSU.out (by simpa using hd2));rw [HM.out] at HT;obtain ⟨hgx,hX⟩:=HX4.out;obtain ⟨hbl,⟨x0,x1,x2,x3,x4,x5,x6⟩,z0,z1,z2,z3,z4,z5,z6⟩:=HCA.out _ HBW4.out;obtain ⟨hbl2,⟨u0,u1,u2,u3,u4,u5,u6⟩,y0,y1,y2,y3,y4,y5,y6⟩:=HCB.out _ HBW4.out;obtain ⟨⟨p0,p1,p2,p3,p4,p5,p6⟩,q0,q1,q2,q3,q4,q5,q6⟩:=HX4.out.get14;have hf:∀ j,w4.frozen? ⟨wr.heap.size,j,none⟩=false:=HS4.out;clear hX;(go_wp2_with fail);rw [show (((((((w4.setCell ⟨wr.heap.size,7,none⟩ (.int .i64 t.til.en)).setCell ⟨wr.heap.size,8,none⟩ (.int .i64 t.til.v.maj)).setCell ⟨wr.heap.size,9,none⟩ (.int .i64 t.til.v.min)).setCell ⟨wr.heap.size,10,none⟩ (.int .i64 t.til.v.pat)).setCell ⟨wr.heap.size,11,none⟩ (.string t.til.v.pre)).setCell ⟨wr.heap.size,12,none⟩ (.string t.til.v.bld)).setCell ⟨wr.heap.size,13,none⟩ (.bool t.til.aft))=w4.setCells wr.heap.size 7 t.til.cells from rfl];clear x0 x1 x2 x3 x4 x5 x6 z0 z1 z2 z3 z4 z5 z6 u0 u1 u2 u3 u4 u5 u6 y0 y1 y2 y3 y4 y5 y6 p0 p1 p2 p3 p4 p5 p6 q0 q1 q2 q3 q4 q5 q6 hf hgx;have HX5:=hid (HX4.out.setTil t.til);have HBW5:=hid (below_setNew (o:=7) (vs:=t.til.cells) HBW4.out);have HO5:=hid (own_set (g:=wr.heap.size) (o:=7) (vs:=t.til.cells) HO4.out fun r hr=>(HOB.out r hr).2);clear HX4 HS4 HBW4 HO4;generalize w4.setCells wr.heap.size 7 t.til.cells=w5 at *;have hgx:=HX5.out.1;obtain ⟨⟨p0,p1,p2,p3,p4,p5,p6⟩,q0,q1,q2,q3,q4,q5,q6⟩:=HX5.out.get14;have hc3:=hid (fun w'=>ccompare_any t.fr t.til w' hfq.out.1 hfq.out.2)
      (go_wp2_with fail);refine (hc3.out _).mono ?_;rintro _ w6 ⟨rfl,hb6⟩;clear p0 p1 p2 p3 p4 p5 p6 q0 q1 q2 q3 q4 q5 q6 hgx hc3;have HX6:=hid (HX5.out.below hb6);have HO6:=hid (pC HO5.out hb6);have HBW6:=hid (HBW5.out.trans (hb6.mono (Nat.le_of_lt HX5.out.1)));clear hb6 HX5 HO5 HBW5;cases hd3:decide (Xc t.fr t.til < 0)
      ·have HAD:=hid (addIf_no (o:=out) (f:=t.fr) (t:=t.til) (by simpa using hd3));rw [HAD.out] at HT;(go_wp2_with fail);go_roundw
       case rel=>exact ⟨k,q+1,v,out,by go_num,by go_num,rfl,by omega,by omega,⟨HO6.out,HR.out.fit,by omega⟩,HT.out,HBR.out.trans (HBW6.out.mono hgw)⟩
       case measure=>simp [intOf]; omega
      ·have HAD:=hid (addIf_yes (o:=out) (f:=t.fr) (t:=t.til) (by simpa using hd3));rw [HAD.out] at HT;have hgx:=HX6.out.1;have hbw6:=hid HBW6.out.size;obtain ⟨⟨p0,p1,p2,p3,p4,p5,p6⟩,q0,q1,q2,q3,q4,q5,q6⟩:=HX6.out.get14;(go_wp2_with (first | (at_builtin; refine vu EKspans rfl (.tmp 73) (.tmp 75) rfl (SpanL.cells ⟨t.fr,t.til⟩) HO6.out rfl rfl rfl (oneS1 _) (by omega) (by omega) (by have:=hbw6.out; omega) ?_; intro v' w7 h2 h3 h4)));clear p0 p1 p2 p3 p4 p5 p6 q0 q1 q2 q3 q4 q5 q6 hgx;have HO7:=hid (OwnS.app h2);have HBR7:=hid ((HBR.out.trans (HBW6.out.mono hgw)).trans h3);clear h2 h3 h4;(go_wp2_with fail);go_roundw
       case rel=>exact ⟨k,q+1,v',out++[(⟨t.fr,t.til⟩:SpanL)],by go_num,by go_num,rfl,by omega,by omega,⟨HO7.out,(by rw [← HAD.out]; exact HR.out.fit.addIf hfq.out.1 hfq.out.2),by simp; omega⟩,HT.out,HBR7.out⟩
       case measure=>simp [intOf]; omega
     ·have HT:=hid (HST.out (by simpa using hd2));rw [HM.out] at HT;have HX5:=HX4;have HBW5:=HBW4;have HO5:=HO4;clear HX4 HS4 HBW4 HO4;have hgx:=HX5.out.1;obtain ⟨⟨p0,p1,p2,p3,p4,p5,p6⟩,q0,q1,q2,q3,q4,q5,q6⟩:=HX5.out.get14;have hc3:=hid (fun w'=>ccompare_any t.fr s.til w' hfq.out.1 hfk.out.2);(go_wp2_with fail);refine (hc3.out _).mono ?_;rintro _ w6 ⟨rfl,hb6⟩;clear p0 p1 p2 p3 p4 p5 p6 q0 q1 q2 q3 q4 q5 q6 hgx hc3;have HX6:=hid (HX5.out.below hb6);have HO6:=hid (pC HO5.out hb6);have HBW6:=hid (HBW5.out.trans (hb6.mono (Nat.le_of_lt HX5.out.1)));clear hb6 HX5 HO5 HBW5;cases hd3:decide (Xc t.fr s.til < 0)
      ·have HAD:=hid (addIf_no (o:=out) (f:=t.fr) (t:=s.til) (by simpa using hd3));rw [HAD.out] at HT;(go_wp2_with fail);go_roundw
       case rel=>exact ⟨k+1,q,v,out,by go_num,by go_num,rfl,by omega,by omega,⟨HO6.out,HR.out.fit,by omega⟩,HT.out,HBR.out.trans (HBW6.out.mono hgw)⟩
       case measure=>simp [intOf]; omega
      ·have HAD:=hid (addIf_yes (o:=out) (f:=t.fr) (t:=s.til) (by simpa using hd3));rw [HAD.out] at HT;have hgx:=HX6.out.1;have hbw6:=hid HBW6.out.size;obtain ⟨⟨p0,p1,p2,p3,p4,p5,p6⟩,q0,q1,q2,q3,q4,q5,q6⟩:=HX6.out.get14;(go_wp2_with (first | (at_builtin; refine vu EKspans rfl (.tmp 73) (.tmp 75) rfl (SpanL.cells ⟨t.fr,s.til⟩) HO6.out rfl rfl rfl (oneS1 _) (by omega) (by omega) (by have:=hbw6.out; omega) ?_; intro v' w7 h2 h3 h4)));clear p0 p1 p2 p3 p4 p5 p6 q0 q1 q2 q3 q4 q5 q6 hgx;have HO7:=hid (OwnS.app h2);have HBR7:=hid ((HBR.out.trans (HBW6.out.mono hgw)).trans h3);clear h2 h3 h4;(go_wp2_with fail);go_roundw
       case rel=>exact ⟨k+1,q,v',out++[(⟨t.fr,s.til⟩:SpanL)],by go_num,by go_num,rfl,by omega,by omega,⟨HO7.out,(by rw [← HAD.out]; exact HR.out.fit.addIf hfq.out.1 hfk.out.2),by simp; omega⟩,HT.out,HBR7.out⟩
       case measure=>simp [intOf]; omega
   ·(obtain rfl:q=p:=by omega);have HDN:=hid (HI.out.done HVA.out HVB.out (.inr (by rw [HP.out]; exact Nat.le_refl _)));(go_wp2_with fail);go_ret;rw [← HDN.out];exact ⟨v,rfl,OwnS.low HR.out.own (Nat.le_trans hbase hb1.size),(hb1.mono hbase).trans (hbr.mono (Nat.le_trans hbase hb1.size)),Nat.le_trans hb1.size hbr.size⟩
  ·(obtain rfl:k=n:=by omega);have HDN:=hid (HI.out.done HVA.out HVB.out (.inl (by rw [HN.out]; exact Nat.le_refl _)));(have hd:decide ((k:Int) < (k:Int))=false:=by simp);(go_wp2_with fail);go_ret;rw [← HDN.out];exact ⟨v,rfl,OwnS.low HR.out.own (Nat.le_trans hbase hb1.size),(hb1.mono hbase).trans (hbr.mono (Nat.le_trans hbase hb1.size)),Nat.le_trans hb1.size hbr.size⟩
theorem and_any (base:Nat) (A B:Option Addr) (cap cap2:Nat) (a b:List SpanL) (w:World) (ha:Spans w A a) (hb:Spans w B b) (hfa:fitL a) (hfb:fitL b) (hln:a.length+b.length≤40000) (hbase:base≤w.heap.size):Calls Tryz.prog 54 #[.slice A a.length cap,.slice B b.length cap2] w (RowPost w base (randL a b)):=by
 cases hmay:(mayR a&&mayR b)
 ·rw [show randL a b=[] by rw [randL,hmay]; rfl]; exact and_no base A B cap cap2 a b w ha hb hfa hfb hln hbase hmay
 ·rw [Bool.and_eq_true] at hmay; exact and_yes base A B cap cap2 a b w ha hb hfa hfb hln hbase hmay
end Go.Proofs.YtiffijoenkcpjaaGreatDoor
namespace Go.Proofs.YtiffijoenkcpjaaGreatDoor
open Go.RowKit Go.Lib Go.Shelf Go.Sort
abbrev Vq:={s:SpanL // s.fit∧iJ s=true}
instance:Inhabited Vq:=⟨⟨⟨rR,ig⟩,⟨ee,cZ⟩,Rw.spanMay_iff.2 ⟨kt,fp,aT⟩⟩⟩
def encS (x:Vq):List Value:=x.1.cells
theorem clos_any (s t:SpanL) (w:World) (hs:s.fit) (ht:t.fit):Calls Tryz.prog 210 #[s.val,t.val] w (sB w (Xc s.fr t.fr)):=by
 have hc:=hid (fun w'=>ccompare_any s.fr t.fr w' hs.1 ht.1);have HBN:=hid (zC (zL w (.cells s.cells.toArray 111)) (zL _ (.cells t.cells.toArray 111)));go_enter Tryz.func210,Tryz.ntmps210;(go_wp2_with fail);refine (hc.out _).mono ?_;rintro _ w1 ⟨rfl,hb1⟩;(go_wp2_with fail);go_ret;exact ⟨rfl,zC HBN.out hb1⟩
theorem below_grow {w w':World} (h:Below w.heap.size w w'):∃ q os',w'=grow (w.drewN q) os':=by
 refine ⟨w'.drawn - w.drawn,w'.heap.extract w.heap.size w'.heap.size,?_⟩;have h1:=h.drawn
 have h2:w'.heap=w.heap++w'.heap.extract w.heap.size w'.heap.size:=by
  apply Array.ext_getElem?;intro k;have hs:=h.size;rw [Array.getElem?_append];by_cases hk:k < w.heap.size
  ·rw [if_pos hk]; exact h.block k hk
  ·rw [if_neg hk,Array.getElem?_extract];by_cases hk2:k < w'.heap.size
   ·rw [if_pos (by omega)]; congr 1; omega
   ·rw [if_neg (by omega),Array.getElem?_eq_none (by omega)]
 have h3:=h.os;have h4:=h.tape;have h5:=h.output;cases w;cases w';simp only [grow,World.drewN] at h1 h2 h3 h4 h5 ⊢;subst h3; subst h4; subst h5;congr 1;omega
theorem cmpLays (blk off size:Nat) (w:World):CmpLays Tryz.prog 210 #[] encS 14 (fun x y:Vq=>Xc x.1.fr y.1.fr) blk off size w :=
 fun _ _ _ _ x y=>(clos_any x.1 y.1 _ x.2.1 y.2.1).mono fun _ _ ⟨he,hb⟩=>⟨he,below_grow hb⟩
theorem good_may (x:Vq):fB x.1.fr=true:=(Rw.spanMay_iff.1 x.2.2).okl
theorem swoS:SWO (ltOf fun x y:Vq=>Xc x.1.fr y.1.fr) where
 irrefl x:=by simp [ltOf,cmpC_self _ (good_may x)]
 trans x y z h1 h2:=by
  simp only [ltOf,decide_eq_true_eq] at *;exact cmpC_tran _ _ _ (good_may x) (good_may y) (good_may z) h1 h2
 ntrans x y z h1 h2:=by
  simp only [ltOf,decide_eq_false_iff_not] at *;have a:=(Rw.ge_iff (good_may x) (good_may y)).1 (by omega);have b:=(Rw.ge_iff (good_may y) (good_may z)).1 (by omega);have:=(Rw.ge_iff (good_may x) (good_may z)).2 (b.tr a);omega
theorem isAggS:∀ w,(isAgg (Tryz.sortSpan_ren.t 24)).run Tryz.prog w = .ok true w:=Tryz.isAgg111
theorem sizeOfS:∀ w,(Go.sizeOf (Tryz.sortSpan_ren.t 24)).run Tryz.prog w = .ok 14 w:=Tryz.sizeOf111
def SortPost (w:World) (g:Nat) (l:List SpanL) (e:Ending) (w':World):Prop :=
 e = .returned (.tuple #[])∧∃ m:List SpanL,(∀ s,s∈m↔s∈l)∧m.length=l.length∧m.Pairwise (fun a b=>Xc a.fr b.fr≤0)∧Spans w' (some ⟨g,0,none⟩) m∧Below g w w'
theorem pmap_val (l:List SpanL) (hl:∀ s,s∈l→s.fit∧iJ s=true):(l.pmap Subtype.mk hl).map (fun x:Vq=>x.1)=l:=by
 rw [List.map_pmap]; simp
theorem cells_at (s:SpanL) (j:Nat) (h:j < 14):∃ u,s.cells[j]?=some u∧s.cells[j]! =u:=by
 (have hl:j < s.cells.length:=by simpa using h);exact ⟨s.cells[j],List.getElem?_eq_getElem hl,getElem!_pos s.cells j hl⟩
theorem spansK {w:World} {g:Nat} {d:Array Vq} (h:HoldsK encS 14 w g 0 d) (hg:g < w.heap.size):Spans w (some ⟨g,0,none⟩) (d.toList.map (fun x=>x.1)):=by
 refine .inr ⟨g,0,rfl,hg,fun i hi j u hj=>?_⟩;have hi':i < d.size:=by simpa using hi
 have hj14:j < 14:=by
  rcases Nat.lt_or_ge j 14 with h' | h'
  ·exact h'
  ·rw [List.getElem?_eq_none (by simp; omega)] at hj; cases hj
 have hk:=(h (i * 14+j) (by rw [size_flatK]; omega)).1;rw [get_flatK encS 14 d (i * 14+j) (by omega)] at hk;(have e1:(i * 14+j) / 14=i:=by omega);(have e2:(i * 14+j) % 14=j:=by omega);rw [e1,e2] at hk
 have e3:nth (d.toList.map (fun x=>x.1)) i=d[i]!.1:=by
  rw [nth_lt hi]; simp [hi']
 rw [e3] at hj;obtain ⟨u',hu1,hu2⟩:=cells_at d[i]!.1 j hj14;rw [hu1] at hj;(injection hj with hj);subst hj;(have e4:0+i * 14+j=0+(i * 14+j):=by omega);rw [e4,hk];show some (encS d[i]!)[j]! =_;rw [encS,hu2]
theorem holdsS_of {w:World} {g:Nat} {l:List SpanL} (hl:∀ s,s∈l→s.fit∧iJ s=true) (h:Spans w (some ⟨g,0,none⟩) l) (hs:Soft w g):HoldsK encS 14 w g 0 (l.pmap Subtype.mk hl).toArray:=by
 intro t ht;rw [size_flatK] at ht;(have hlen:(l.pmap Subtype.mk hl).toArray.size=l.length:=by simp);rw [hlen] at ht;refine ⟨?_,hs _⟩;rw [get_flatK encS 14 _ t (by rw [hlen]; exact ht)];(have hi:t / 14 < l.length:=by omega);rcases h with rfl | ⟨b,off,e,hlt,hc⟩
 ·simp at hi
 ·(injection e with e; injection e with e1 e2 e3; subst e1; subst e2);obtain ⟨u,hu1,hu2⟩:=cells_at (nth l (t / 14)) (t % 14) (Nat.mod_lt _ (by omega));have:=hc (t / 14) hi (t % 14) u hu1;(have e4:0+t / 14 * 14+t % 14=0+t:=by omega);rw [e4] at this;rw [this]
  have e5:((l.pmap Subtype.mk hl).toArray[t / 14]!)=⟨nth l (t / 14),hl _ (by rw [nth_lt hi]; exact List.getElem_mem _)⟩:=by
   rw [getElem!_pos _ _ (by rw [hlen]; exact hi)];apply Subtype.ext;simp [nth_lt hi]
  rw [e5];show some u=some (encS _)[t % 14]!;rw [encS,hu2]
theorem below_sort {w:World} {g n:Nat} {d:Array Vq} {os:Array Obj} (hg:g < w.heap.size):Below g w (sortWorldK encS 14 w g 0 n d os):=by
 refine ⟨⟨rfl,rfl,rfl,?_,fun k hk=>?_⟩,Nat.le_add_right _ _⟩
 ·exact size_sortWorldK_c encS 14 w g 0 n d os
 ·show ((w.heap.modify g _)++os)[k]?=_;rw [Array.getElem?_append_left (by simp; omega),Array.getElem?_modify,if_neg (by omega)]
theorem sort_some (g cap:Nat) (l:List SpanL) (w:World) (hl:∀ s,s∈l→s.fit∧iJ s=true) (h:Spans w (some ⟨g,0,none⟩) l) (hs:Soft w g) (hg:g < w.heap.size) (hln:l.length≤4398046511104) :
 Calls Tryz.prog 209 #[.slice (some ⟨g,0,none⟩) l.length cap,.func (.func 210) #[] #[]] w (SortPost w g l):=by
 have eg:∀ args w,(callFunc 210 args).run Tryz.prog w = .ok (.enter 210 args) w:=enters_of Tryz.func210 (by kernel_rfl) rfl
 have hd:(l.pmap Subtype.mk hl).toArray.size=l.length:=by simp
 have hH:=holdsS_of hl h hs
 have hv:(l.pmap Subtype.mk hl).toArray.toList.map (fun x:Vq=>x.1)=l:=by rw [List.toList_toArray]; exact pmap_val l hl
 generalize (l.pmap Subtype.mk hl).toArray=d at hd hH hv
 have hcon:=AnyQ.slices_SortFunc Tryz.sortSpan 14 isAggS sizeOfS encS (fun _=>rfl) (fun x v hv=>oneS1 x.1 v hv) (fun x y=>Xc x.1.fr y.1.fr) swoS 210 #[] g 0 cap d w eg (cmpLays g 0 d.size w) hH hg (by omega)
 change Calls Tryz.prog 209 _ _ _ at hcon
 rw [hd] at hcon
 refine hcon.mono ?_
 rintro e w' ⟨rfl,d',n,os,hp,hso,rfl⟩
 obtain ⟨p1,_,p3⟩:=hp
 have q1:d'.extract 0 l.length=d':=by rw [← hd,← p1]; exact Array.extract_size
 have q2:d.extract 0 l.length=d:=by rw [← hd]; exact Array.extract_size
 rw [q1,q2] at p3
 have hp:=p3.map (fun x:Vq=>x.1)
 rw [hv] at hp
 have hH':=holdsK_sortWorldK encS 14 w g 0 n d d' os hg hH p1
 refine ⟨rfl,d'.toList.map (fun x=>x.1),fun s=>hp.mem_iff,hp.length_eq,?_,spansK hH' (Nat.lt_of_lt_of_le hg (size_sortWorldK_c encS 14 w g 0 n d' os)),below_sort hg⟩
 rw [List.pairwise_iff_getElem]
 intro i j hi hj hij
 have hi':i < d'.size:=by simpa using hi
 have hj':j < d'.size:=by simpa using hj
 have:=hso i j (Nat.zero_le _) hij (by rw [← hd,← p1]; exact hj')
 rw [getElem!_pos d' i hi',getElem!_pos d' j hj'] at this
 simp only [ltOf,decide_eq_false_iff_not] at this
 simp only [List.getElem_map,Array.getElem_toList]
 exact ((Rw.ge_iff (good_may _) (good_may _)).1 (by omega)).2.2
theorem sort_none (A:Option Addr) (cap:Nat) (w:World):Calls Tryz.prog 209 #[.slice A 0 cap,.func (.func 210) #[] #[]] w fun e w'=>e = .returned (.tuple #[])∧w'=w:=by
 have:=AnyF.slices_SortFunc_none (P:=Tryz.prog) (ρ:=Tryz.sortSpan_ren) { Tryz.sortSpan with } A cap (.func (.func 210) #[] #[]) w;exact this
end Go.Proofs.YtiffijoenkcpjaaGreatDoor
namespace Go.Proofs.YtiffijoenkcpjaaGreatDoor
open Go.RowKit Go.Lib
theorem own_empty (w:World) (base:Nat) (hb:base≤w.heap.size):(w.alloc (.cells #[] 111)).ownsRow base 111 14 (.slice (some ⟨w.heap.size,0,none⟩) 0 0) 0 []:=by
 refine ⟨rfl,.inr ⟨w.heap.size,0,#[],rfl,hb,?_,Nat.le_refl _,Nat.zero_le _,rfl,rfl⟩⟩;show (w.heap.push _)[w.heap.size]?=_;simp
theorem clone_nil (cap:Nat) (w:World):Calls Tryz.prog 185 #[.slice none 0 cap] w fun e w'=>e = .returned (.slice none 0 0)∧w=w':=by
 (have hq:∀ w',(binOp .eql 40 (.slice none 0 cap) (.slice none 0 0)).run Tryz.prog w' = .ok (.bool true) w':=fun w'=>Lib.run_eql_slice_nil w' _ _ _ _ _ _ _ Tryz.underlying40);go_enter Tryz.func185,Tryz.ntmps185;(go_wp2_with fail);go_ret;exact ⟨rfl,rfl⟩
theorem clone_some (base:Nat) (ad:Addr) (cap:Nat) (l:List SpanL) (w:World) (h:Spans w (some ad) l) (hln:l.length≤400000) (hb:base≤w.heap.size):Calls Tryz.prog 185 #[.slice (some ad) l.length cap] w (RowPost w base l):=by
 (have hq:∀ w',(binOp .eql 40 (.slice (some ad) l.length cap) (.slice none 0 0)).run Tryz.prog w' = .ok (.bool false) w':=fun w'=>Lib.run_eql_slice_nil w' _ _ _ _ _ _ _ Tryz.underlying40);have HBN:=hid (zL w (.cells #[] 111));have HSR:=hid (h.below HBN.out).src;have HOE:=hid (own_empty w base hb);have hM:maxLen=9223372036854775807:=rfl;clear h;generalize hn:l.length=n at *;have HN:=hid hn;clear hn;go_enter Tryz.func185,Tryz.ntmps185;(go_wp2_with (first | (at_builtin; refine zW EKspans rfl (.tmp 5) (.tmp 6) rfl rfl HOE.out rfl HSR.out (oneS l) (by omega) (by omega) (by simp; omega) ?_; intro v' w' h2 h3 _; clear hq)));go_ret;have h4:=(HBN.out.mono hb).trans h3;refine ⟨v',rfl,?_,h4,h4.size⟩;rw [OwnS,HN.out];simpa using h2
theorem clone_any (base:Nat) (A:Option Addr) (cap:Nat) (l:List SpanL) (w:World) (h:Spans w A l) (hln:l.length≤400000) (hb:base≤w.heap.size):Calls Tryz.prog 185 #[.slice A l.length cap] w (RowPost w base l):=by
 cases A with
 | none =>
  have h0:l=[]:=by
   rcases h with h | ⟨b,off,e,_⟩
   ·exact h
   ·cases e
  subst h0;exact (clone_nil cap w).mono fun e w' ⟨he,hw⟩=>by subst hw; exact ⟨_,he,OwnS.nil _ _,Below.refl _ _,Nat.le_refl _⟩
 | some ad=>exact clone_some base ad cap l w h hln hb
def SortedPost (w:World) (base:Nat) (v:Value) (l:List SpanL) (e:Ending) (w':World):Prop :=
 e = .returned (.tuple #[])∧∃ (m:List SpanL) (A:Option Addr) (c:Nat),v = .slice A m.length c∧(∀ s,s∈m↔s∈l)∧m.length=l.length∧m.Pairwise (fun a b=>Xc a.fr b.fr≤0)∧Spans w' A m∧Below base w w'
theorem sort_any (base:Nat) (v:Value) (l:List SpanL) (w:World) (hl:∀ s,s∈l→s.fit∧iJ s=true) (h:OwnS w base v l) (hln:l.length≤400000) :
 Calls Tryz.prog 209 #[v,.func (.func 210) #[] #[]] w (SortedPost w base v l):=by
 rcases h.form with ⟨rfl,rfl⟩ | ⟨g,cap,rfl,hg,hlt,hle⟩
 ·exact (sort_none none 0 w).mono fun e w' ⟨he,hw⟩=>by subst hw; exact ⟨he,[],none,0,rfl,fun s=>Iff.rfl,rfl,List.Pairwise.nil,Spans.nil,Below.refl _ _⟩
 ·(have hs:Soft w g:=fun j=>World.ownsRow.frozenAt h j);obtain ⟨A,c,e,hsp⟩:=h.spans;(injection e with e1 e2 e3);subst e1;exact (sort_some g cap l w hl hsp hs hlt (by omega)).mono fun e w' ⟨he,m,h1,h2,h3,h4,h5⟩=>⟨he,m,_,_,by rw [h2],h1,h2,h3,h4,h5.mono hg⟩
theorem mergeTo_succ {m:List SpanL} {k:Nat} (h:k < m.length):(m.take (k+1)).foldl Rw.mergeStep []=Rw.mergeStep ((m.take k).foldl Rw.mergeStep []) (nth m k):=by
 rw [Rw.take_nth h,List.foldl_append]; rfl
theorem merge_nil (s:SpanL):Rw.mergeStep [] s=[s]:=rfl
theorem merge_app {q s:SpanL} {r:List SpanL} (h:Xc q.til s.fr < 0):Rw.mergeStep (q::r) s=s::q::r:=by simp [Rw.mergeStep,h]
theorem merge_set {q s:SpanL} {r:List SpanL} (h:¬ Xc q.til s.fr < 0) (k:Xc q.til s.til < 0):Rw.mergeStep (q::r) s=⟨q.fr,s.til⟩::r:=by simp [Rw.mergeStep,h,k]
theorem merge_keep {q s:SpanL} {r:List SpanL} (h:¬ Xc q.til s.fr < 0) (k:¬ Xc q.til s.til < 0):Rw.mergeStep (q::r) s=q::r:=by simp [Rw.mergeStep,h,k]
theorem make_any (base:Nat) (A:Option Addr) (cap:Nat) (l:List SpanL) (w:World) (hl:Spans w A l) (hf:fitL l) (hln:l.length≤40000) (hb:base≤w.heap.size):Calls Tryz.prog 183 #[.slice A l.length cap] w (RowOk w base (rmakeL l)):=by
 have HF:=hid hf;have HL:=hid hl;have hM:maxLen=9223372036854775807:=rfl;clear hl hf;generalize hn:l.length=n at *;have HN:=hid hn;clear hn;go_enter Tryz.func183,Tryz.ntmps183;(go_wp2_with fail);go_loopw [6,13] (fun _ i wr=>∃ k:Nat,i = .int .i64 k∧k≤n∧Hid (Spans wr A l)∧Hid (okTo l k)∧Below w.heap.size w wr) (fun _ i _=>n - (intOf i).toNat)
 case atStart=>exact ⟨0,rfl,Nat.zero_le _,HL,fun j hj=>by omega,Below.refl _ _⟩
 case round =>
  obtain ⟨k,rfl,hk,HS,HM,hbr⟩:=hrel;by_cases hlt:k < n
  ·(have hlt':k < l.length:=by rw [HN.out]; exact hlt);obtain ⟨b,off,rfl,hbl,⟨x0,x1,x2,x3,x4,x5,x6⟩,z0,z1,z2,z3,z4,z5,z6⟩:=HS.out.at_ (k:=k) hlt';(have i0:(0:Int)≤(k:Int):=by omega);(have i1:(k:Int) < (n:Int):=by omega);have hfk:=HF.out k hlt';generalize hsk:nth l k=s at *;have HK:=hid hsk;clear hsk;have hbn:=hid (zL wr (.cells s.cells.toArray 111));cases hsm:iJ s
   ·have HE:=hid (okTo_no hlt' (by rw [HK.out]; exact hsm));(go_wp2_with (go_at_call 140; refine (spanmay_any s _ hfk).mono ?_; rintro _ w1 ⟨rfl,hb1⟩; rw [hsm]));refine bodyPost_ret (v := .tuple #[.slice none 0 0,.bool false]) (by simp [results,Tryz.results183,go_sem]) rfl ?_;rw [HE.out];have hbb:=zC hbr (zC hbn.out hb1);exact ⟨_,rfl,OwnS.nil _ _,hbb.mono hb,hbb.size⟩
   ·(go_wp2_with (go_at_call 140; refine (spanmay_any s _ hfk).mono ?_; rintro _ w1 ⟨rfl,hb1⟩; rw [hsm]));go_roundw
    case rel=>exact ⟨k+1,by go_num,by omega,HS.out.below (zC hbn.out hb1),okTo_step HM.out (by rw [HK.out]; exact hsm),zC hbr (zC hbn.out hb1)⟩
    case measure=>simp [intOf]; omega
  ·obtain rfl:k=n:=by omega
   have HOK:Hid (∀ s,s∈l→s.fit∧iJ s=true):=hid fun s hs=>by
    obtain ⟨i,hi,rfl⟩:=List.getElem_of_mem hs;have h1:=HM.out i (by rw [← HN.out]; exact hi);have h2:=HF.out i hi;rw [nth_lt hi] at h1 h2;exact ⟨h2,h1⟩
   have hcl:=hid (HN.out▸clone_any wr.heap.size A cap l wr HS.out (by rw [HN.out]; omega) (Nat.le_refl _):Calls Tryz.prog 185 #[.slice A k cap] wr (RowPost wr wr.heap.size l));(go_wp2_with fail);refine hcl.out.mono ?_;rintro _ w1 ⟨v1,rfl,ho1,hb1,hz1⟩;have HSO:=hid (sort_any wr.heap.size v1 l w1 HOK.out ho1 (by rw [HN.out]; omega));clear ho1;(go_wp2_with fail);refine HSO.out.mono ?_;rintro _ w2 ⟨rfl,m,A2,c2,rfl,hm1,hm2,hm3,hm4,hm5⟩;have HRM:=hid (Rw.merge_is hm1 (fun s hs=>Rw.spanMay_iff.1 (HOK.out s hs).2) hm3);have HRE:=hid (okTo_end (by rw [HN.out]; exact HM.out))
   have HMF:Hid (fitL m):=hid fun i hi=>by
    have:=hm1 (nth m i);rw [nth_lt hi] at this ⊢;exact (HOK.out _ (this.1 (List.getElem_mem _))).1
   rw [HN.out] at hm2;have HS2:=hid hm4;have HB2:=hid (zC hbr (hb1.trans hm5));clear hm1 hm3 hm4 hm5 hb1 hz1 hcl HSO HS HM hbr;generalize hmn:m.length=n2 at *;subst hm2;have HMN:=hid hmn;clear hmn;(go_wp2_with fail);go_loopw [9,10,27,4] (fun _ _ i o wr=>∃ (q:Nat) (v:Value) (acc:List SpanL),i = .int .i64 q∧v=o∧q≤n2∧Hid ((m.take q).foldl Rw.mergeStep []=acc)∧Hid (HasRow wr w2.heap.size v acc.reverse q)∧Below w2.heap.size w2 wr) (fun _ _ i _ _=>n2 - (intOf i).toNat)
   case atStart=>exact ⟨0,_,[],rfl,rfl,Nat.zero_le _,rfl,⟨OwnS.nil _ _,(fun s h=>by cases h),by simp⟩,Below.refl _ _⟩
   case round =>
    obtain ⟨q,v,acc,rfl,rfl,hq,HACC,HR,hbr⟩:=hrel;have HBR:=hid hbr;have HLN:=HR.out.len;by_cases hlt:q < n2
    ·(have hlt':q < m.length:=by rw [HMN.out]; exact hlt);obtain ⟨b,off,rfl,hbl,⟨x0,x1,x2,x3,x4,x5,x6⟩,z0,z1,z2,z3,z4,z5,z6⟩:=(HS2.out.below hbr).at_ (k:=q) hlt';(have i0:(0:Int)≤(q:Int):=by omega);(have i1:(q:Int) < (n2:Int):=by omega);have hfk:=hid (HMF.out q hlt');have HST:=hid (mergeTo_succ hlt');rw [HACC.out] at HST;generalize nth m q=s at *;have HBN:=hid (zL wr (.cells s.cells.toArray 111));have HX0:=hid (Box.new wr s.cells 111);have HOW:=hid HR.out.own;have HOB:=hid (own_bound HR.out.own);have hgw:=hid hbr.size;cases acc with
     | nil =>
      rw [merge_nil] at HST
      obtain ⟨A3,c3,rfl⟩:∃ A3 c3,v = .slice A3 0 c3:=by
       rcases HOW.out.form with ⟨rfl,_⟩ | ⟨g,c,rfl,_⟩
       ·exact ⟨_,_,rfl⟩
       ·exact ⟨_,_,rfl⟩
      clear hbr;(go_wp2_with fail);have hbw:=bw_cell;refine wp_region_below (by kernel_rfl) (by kernel_rfl) ?_;(repeat (go_big_quiet_step (fail)));refine wpQuiet_nil ?_;rintro _ ⟨z,rfl⟩;have hbz:=z.ok;generalize z.v=w5 at hbz ⊢;clear z hbw x0 x1 x2 x3 x4 x5 x6 z0 z1 z2 z3 z4 z5 z6;have HX:=hid (HX0.out.below hbz);have HBW:=hid (zC HBN.out hbz);have HO5:Hid (w5.ownsRow w2.heap.size 111 14 (.slice A3 0 c3) 0 []):=hid (pC HOW.out HBW.out);have hz5:=hid HBW.out.size;obtain ⟨⟨x0,x1,x2,x3,x4,x5,x6⟩,z0,z1,z2,z3,z4,z5,z6⟩:=HX.out.get14;have hgx:=HX.out.1;(go_wp2_with (first | (at_builtin; refine vu EKspans rfl (.tmp 47) (.tmp 49) rfl s.cells HO5.out rfl rfl rfl (oneS1 _) (by omega) (by omega) (by have:=hz5.out; have:=hgw.out; omega) ?_; intro v' w7 h2 h3 h4; clear x0 x1 x2 x3 x4 x5 x6 z0 z1 z2 z3 z4 z5 z6 hgx)));go_roundw
      case rel=>exact ⟨q+1,v',[s],by go_num,rfl,by omega,HST.out,⟨OwnS.app (l:=[]) h2,(fun t ht=>by rw [List.reverse_singleton,List.mem_singleton] at ht; subst ht; exact hfk.out),by simp⟩,(HBR.out.trans (HBW.out.mono hgw.out)).trans h3⟩
      case measure=>simp [intOf]; omega
     | cons p r =>
      have HFP:Hid p.fit:=hid (HR.out.fit p (by simp));have HRF:=hid HR.out.fit;rw [List.reverse_cons] at HRF;have HOW':=HOW.out;rw [List.reverse_cons] at HOW' HLN;generalize hrv:r.reverse=o at *;have HRV:=hid hrv;clear hrv
      obtain ⟨g,cap3,rfl,hgb,hgl⟩:∃ g cap3,v = .slice (some ⟨g,0,none⟩) (o.length+1) cap3∧w2.heap.size≤g∧g < wr.heap.size:=by
       rcases HOW'.form with ⟨_,h0⟩ | ⟨g,c,h1,h2,h3,h4⟩
       ·simp at h0
       ·exact ⟨g,c,by rw [h1]; simp,h2,h3⟩
      have HZ:Hid (Row7 wr g (o.length * 14+7) p.til):=hid (by
       obtain ⟨A,c,e,hS⟩:=HOW'.spans;(injection e with e1 e2 e3);subst e1;have:=(hS.lay (k:=o.length) (by simp)).2.2
       simpa [nth] using this)
      have HFR:Hid (Soft wr g):=hid (fun j=>by
       have h':=HOW';simp only [OwnS,List.length_append,List.length_singleton] at h'
       exact h'.frozenAt j)
      rw [List.length_append,List.length_singleton] at HLN;have HO0:=hid HOW';clear HOW';generalize hN:o.length=N at *;have HNN:=hid hN;clear hN;obtain ⟨t0,t1,t2,t3,t4,t5,t6⟩:=HZ.out;(have j0:(0:Int)≤(N:Int):=by omega);(have j1:(N:Int) < ((N+1:Nat):Int):=by omega);(have j2:(N:Int) < (N:Int)+1:=by omega);(have hgl1:g < wr.heap.size+1:=by omega);(have hdn:decide ((N:Int) < 0)=false:=by rw [decide_eq_false_iff_not]; omega);have hc1:=hid (fun w'=>ccompare_any p.til s.fr w' HFP.out.2 hfk.out.1);have hc2:=hid (fun w'=>ccompare_any p.til s.til w' HFP.out.2 hfk.out.2);have HSZ:=hid hgl;have HGB:=hid hgb;clear hbr;cases hd1:decide (Xc p.til s.fr < 0)
      ·(go_wp2_with fail);have hbw:=bw_cell;refine wp_region_below (by kernel_rfl) (by kernel_rfl) ?_;(repeat (go_big_quiet_step ((go_at_call 94; exact bw_int (hc1.out _)))));refine wpQuiet_nil ?_;rintro _ ⟨z,rfl⟩;have hbz:=z.ok;generalize z.v=w5 at hbz ⊢;clear z hbw x0 x1 x2 x3 x4 x5 x6 z0 z1 z2 z3 z4 z5 z6 t0 t1 t2 t3 t4 t5 t6;have HX:=hid (HX0.out.below hbz);have HBW:=hid (zC HBN.out hbz);have HO5:=hid (HO0.out.below HBW.out);have HZ5:=hid (HZ.out.below HSZ.out HBW.out);have HF5:=hid (HFR.out.below HSZ.out HBW.out);have HSZ5:=hid (Nat.lt_of_lt_of_le HSZ.out HBW.out.size);obtain ⟨⟨x0,x1,x2,x3,x4,x5,x6⟩,z0,z1,z2,z3,z4,z5,z6⟩:=HX.out.get14;obtain ⟨t0,t1,t2,t3,t4,t5,t6⟩:=HZ5.out;have hgx:=HX.out.1;have hgx2:=HSZ5.out;clear hbz HX0 HBN HO0 HZ HFR hgl1 hgl;cases hd2:decide (Xc p.til s.til < 0)
       ·rw [merge_keep (by simpa using hd1) (by simpa using hd2)] at HST;(go_wp2_with fail);have hbw:=bw_cell;refine wp_region_below (by kernel_rfl) (by kernel_rfl) ?_;(repeat (go_big_quiet_step ((go_at_call 94; exact bw_int (hc2.out _)))));refine wpQuiet_nil ?_;rintro _ ⟨z,rfl⟩;have hbz:=z.ok;generalize z.v=w6 at hbz ⊢;clear z hbw x0 x1 x2 x3 x4 x5 x6 z0 z1 z2 z3 z4 z5 z6 t0 t1 t2 t3 t4 t5 t6;have HB6:=hid (HBW.out.trans (hbz.mono (by have:=HBW.out.size; omega)));have HO6:=hid (HO5.out.below hbz);clear hbz hgx hgx2;(go_wp2_with fail);go_roundw
        case rel=>exact ⟨q+1,_,p::r,by go_num,rfl,by omega,HST.out,⟨by rw [List.reverse_cons,HRV.out]; exact HO6.out,(by rw [List.reverse_cons,HRV.out]; exact HRF.out),by rw [List.reverse_cons,HRV.out,List.length_append,HNN.out]; simp; omega⟩,HBR.out.trans (HB6.out.mono hgw.out)⟩
        case measure=>simp [intOf]; omega
       ·rw [merge_set (by simpa using hd1) (by simpa using hd2)] at HST;(go_wp2_with fail);have hbw:=bw_cell;refine wp_region_below (by kernel_rfl) (by kernel_rfl) ?_;(repeat (go_big_quiet_step ((go_at_call 94; exact bw_int (hc2.out _)))));refine wpQuiet_nil ?_;rintro _ ⟨z,rfl⟩;have hbz:=z.ok;generalize z.v=w6 at hbz ⊢;clear z hbw x0 x1 x2 x3 x4 x5 x6 z0 z1 z2 z3 z4 z5 z6 t0 t1 t2 t3 t4 t5 t6;have HB6:=hid (HBW.out.trans (hbz.mono (by have:=HBW.out.size; omega)));have HO6:=hid (HO5.out.below hbz);have HX6:=hid (HX.out.below hbz);have HZ6:=hid (HZ5.out.below HSZ5.out hbz);have HF6:=hid (HF5.out.below HSZ5.out hbz);have HSZ6:=hid (Nat.lt_of_lt_of_le HSZ5.out hbz.size);obtain ⟨⟨x0,x1,x2,x3,x4,x5,x6⟩,z0,z1,z2,z3,z4,z5,z6⟩:=HX6.out.get14;obtain ⟨t0,t1,t2,t3,t4,t5,t6⟩:=HZ6.out;have hf6:∀ j,w6.frozen? ⟨g,j,none⟩=false:=HF6.out;clear hbz hgx hgx2;(go_wp2_with fail);go_roundw
        case rel =>
         obtain ⟨q1,q2,q3⟩:=OwnS.set7 s.til HNN.out HO6.out HGB.out HSZ6.out;exact ⟨q+1,_,⟨p.fr,s.til⟩::r,by go_num,rfl,by omega,HST.out,⟨by rw [List.reverse_cons,HRV.out]; exact q1,(fun t ht=>by rw [List.reverse_cons,HRV.out,List.mem_append,List.mem_singleton] at ht; rcases ht with ht | rfl; exact HRF.out t (List.mem_append_left _ ht); exact ⟨HFP.out.1,hfk.out.2⟩),by rw [List.reverse_cons,HRV.out,List.length_append,HNN.out]; simp; omega⟩,(HBR.out.trans (HB6.out.mono hgw.out)).trans q2⟩
        case measure=>simp [intOf]; omega
      ·rw [merge_app (by simpa using hd1)] at HST;(go_wp2_with fail);have hbw:=bw_cell;refine wp_region_below (by kernel_rfl) (by kernel_rfl) ?_;(repeat (go_big_quiet_step ((go_at_call 94; exact bw_int (hc1.out _)))));refine wpQuiet_nil ?_;rintro _ ⟨z,rfl⟩;have hbz:=z.ok;generalize z.v=w5 at hbz ⊢;clear z hbw x0 x1 x2 x3 x4 x5 x6 z0 z1 z2 z3 z4 z5 z6 t0 t1 t2 t3 t4 t5 t6;have HX:=hid (HX0.out.below hbz);have HBW:=hid (zC HBN.out hbz)
       have HO5:Hid (w5.ownsRow w2.heap.size 111 14 (.slice (some ⟨g,0,none⟩) (N+1) cap3) (N+1) (cellsL (o++[p]))):=hid (by
        have h:=HO0.out.below HBW.out;rw [OwnS,List.length_append,List.length_singleton,HNN.out] at h
        exact h)
       have hz5:=hid HBW.out.size;obtain ⟨⟨x0,x1,x2,x3,x4,x5,x6⟩,z0,z1,z2,z3,z4,z5,z6⟩:=HX.out.get14;have hgx:=HX.out.1;clear hbz HX0 HBN HO0 HZ HFR hgl1 hgl;(go_wp2_with (first | (at_builtin; refine vu EKspans rfl (.tmp 47) (.tmp 49) rfl s.cells HO5.out rfl rfl rfl (oneS1 _) (by omega) (by omega) (by have:=hz5.out; have:=hgw.out; omega) ?_; intro v' w7 h2 h3 h4; clear x0 x1 x2 x3 x4 x5 x6 z0 z1 z2 z3 z4 z5 z6 hgx)));go_roundw
       case rel =>
        have e:(s::p::r).reverse=o++[p]++[s]:=by rw [List.reverse_cons,List.reverse_cons,HRV.out]
        have h2':OwnS w7 w2.heap.size v' (o++[p]++[s]):=by
         refine OwnS.app ?_;rw [List.length_append,List.length_singleton,HNN.out];exact h2
        exact ⟨q+1,v',s::p::r,by go_num,rfl,by omega,HST.out,⟨by rw [e]; exact h2',(fun t ht=>by rw [e,List.mem_append,List.mem_singleton] at ht; rcases ht with ht | rfl; exact HRF.out t ht; exact hfk.out),by rw [e,List.length_append,List.length_append,HNN.out]; simp; omega⟩,(HBR.out.trans (HBW.out.mono hgw.out)).trans h3⟩
       case measure=>simp [intOf]; omega
    ·obtain rfl:q=n2:=by omega
     have HE:Hid (acc.reverse=(rmakeL l).1):=hid (by
      have:=HRM.out
      rw [← this,Rw.merge,← HACC.out,← HMN.out,List.take_length])
     have HRE2:Hid ((rmakeL l).2=true):=hid (by rw [HRE.out]);have HOW:=hid HR.out.own;have HBB:=hid ((HB2.out.mono hb).trans (hbr.mono (Nat.le_trans hb HB2.out.size)));(go_wp2_with fail);refine bodyPost_ret (v := .tuple #[v,.bool true]) (by simp [results,Tryz.results183,go_sem]) rfl ?_;exact ⟨v,by rw [HRE2.out],by rw [← HE.out]; exact OwnS.low HOW.out (Nat.le_trans hb HB2.out.size),HBB.out,HBB.out.size⟩
theorem or_no (base:Nat) (A B:Option Addr) (cap cap2:Nat) (a b:List SpanL) (w:World) (ha:Spans w A a) (hb:Spans w B b) (hfa:fitL a) (hfb:fitL b) (hln:a.length+b.length≤40000) (hbase:base≤w.heap.size) (hno:(mayR a&&mayR b)=false):Calls Tryz.prog 135 #[.slice A a.length cap,.slice B b.length cap2] w (RowPost w base []):=by
 have hma:=hid (rowmay_any A cap a w ha hfa (by omega));have HB:=hid hb;have hmb:=hid (fun w' (h:Spans w' B b)=>rowmay_any B cap2 b w' h hfb (by omega));clear ha hb hfa hfb;cases hmay:mayR a
 ·rw [hmay] at hma;generalize a.length=n at *;generalize b.length=p at *;clear hno;go_enter Tryz.func135,Tryz.ntmps135;(go_wp2_with fail);refine hma.out.mono ?_;rintro _ w1 ⟨rfl,hb1⟩;(go_wp2_with fail);go_ret;exact ⟨_,rfl,OwnS.nil _ _,hb1.mono hbase,hb1.size⟩
 ·rw [hmay] at hma hno;(have hbm:mayR b=false:=by simpa using hno);rw [hbm] at hmb;generalize a.length=n at *;generalize b.length=p at *;clear hno hbm;go_enter Tryz.func135,Tryz.ntmps135;(go_wp2_with fail);refine hma.out.mono ?_;rintro _ w1 ⟨rfl,hb1⟩;(go_wp2_with fail);refine (hmb.out _ (HB.out.below hb1)).mono ?_;rintro _ w2 ⟨rfl,hb2⟩;have hb02:=zC hb1 hb2;(go_wp2_with fail);go_ret;exact ⟨_,rfl,OwnS.nil _ _,hb02.mono hbase,hb02.size⟩
theorem or_yes (base:Nat) (A B:Option Addr) (cap cap2:Nat) (a b:List SpanL) (w:World) (ha:Spans w A a) (hb:Spans w B b) (hfa:fitL a) (hfb:fitL b) (hln:a.length+b.length≤40000) (hbase:base≤w.heap.size) (hmay:mayR a=true∧mayR b=true):Calls Tryz.prog 135 #[.slice A a.length cap,.slice B b.length cap2] w (RowPost w base (rmakeL (a++b)).1):=by
 have HA:=hid ha;have HB:=hid hb;have HFA:=hid hfa;have HFB:=hid hfb;have hma:=hid (rowmay_any A cap a w ha hfa (by omega));have hmb:=hid (fun w' (h:Spans w' B b)=>rowmay_any B cap2 b w' h hfb (by omega));rw [hmay.1] at hma;rw [hmay.2] at hmb;have HSA:=hid (fun w' (h:Spans w' A a)=>h.src);have HSB2:=hid (fun w' (h:Spans w' B b)=>h.src);have HCAT:=hid (fun (w':World) (base:Nat) (v:Value) (h:w'.ownsRow base 111 14 v (a.length+b.length) (cellsL a++cellsL b))=>(OwnS.cat h).spans);have hmk:=hid (fun w' A' c' (h:Spans w' A' (a++b)) (hw:base≤w'.heap.size)=>make_any base A' c' (a++b) w' h (fitL_app hfa hfb) (by rw [List.length_append]; exact hln) hw);generalize rmakeL (a++b)=r at *;clear ha hb hfa hfb hmay;generalize hn:a.length=n at *;generalize hp:b.length=p at *;have HN:=hid hn;have HP:=hid hp;clear hn hp;have hM:maxLen=9223372036854775807:=rfl;go_enter Tryz.func135,Tryz.ntmps135;(go_wp2_with fail);refine hma.out.mono ?_;rintro _ w1 ⟨rfl,hb1⟩;(go_wp2_with fail);refine (hmb.out _ (HB.out.below hb1)).mono ?_;rintro _ w2 ⟨rfl,hb2⟩;have hb02:=zC hb1 hb2;clear hma hmb hb1 hb2
 go_wp2_with (first
  | (at_builtin; refine zW EKspans rfl (.tmp 16) (.tmp 17) rfl rfl (World.ownsRow_nil w2 w2.heap.size _ _) rfl (HSA.out _ (HA.out.below hb02)) (oneS a) (by omega) (by omega) (Nat.le_refl _) ?_; intro v3 w3 h3 hb3 _; have hb03:=zC hb02 hb3; have hz3:=hb3.size; simp only [Nat.zero_add,List.nil_append] at h3)
  | (at_builtin; refine zW EKspans rfl (.tmp 19) (.tmp 20) rfl rfl h3 rfl (HSB2.out _ (HB.out.below hb03)) (oneS b) (by omega) (by omega) hz3 ?_; intro v4 w4 h4 hb4 _))
 have hb24:=hb3.trans hb4;obtain ⟨A4,c4,rfl,h5⟩:=HCAT.out _ _ _ h4;have hb04:=zC hb02 hb24;clear h3 h4 hb3 hb4 hb24 hb03 hb02 hz3 HCAT HSA HSB2;(go_wp2_with fail);refine (hmk.out _ _ _ h5 (Nat.le_trans hbase hb04.size)).mono ?_;rintro _ w5 ⟨v5,rfl,h6,h7,h8⟩;have hb05:=(hb04.mono hbase).trans h7;(go_wp2_with fail);go_ret;exact ⟨_,rfl,h6,hb05,hb05.size⟩
theorem por_any (base:Nat) (A B:Option Addr) (cap cap2:Nat) (a b:List SpanL) (w:World) (ha:Spans w A a) (hb:Spans w B b) (hfa:fitL a) (hfb:fitL b) (hln:a.length+b.length≤40000) (hbase:base≤w.heap.size):Calls Tryz.prog 135 #[.slice A a.length cap,.slice B b.length cap2] w (RowPost w base (rorL a b)):=by
 cases hmay:(mayR a&&mayR b)
 ·rw [show rorL a b=[] by rw [rorL,hmay]; rfl]; exact or_no base A B cap cap2 a b w ha hb hfa hfb hln hbase hmay
 ·rw [show rorL a b=(rmakeL (a++b)).1 by rw [rorL,hmay]; rfl];rw [Bool.and_eq_true] at hmay; exact or_yes base A B cap cap2 a b w ha hb hfa hfb hln hbase hmay
theorem rand_any (base:Nat) (A B:Option Addr) (cap cap2:Nat) (a b:List SpanL) (w:World) (ha:Spans w A a) (hb:Spans w B b) (hfa:fitL a) (hfb:fitL b) (hln:a.length+b.length≤40000) (hbase:base≤w.heap.size):Calls Tryz.prog 60 #[.slice A a.length cap,.slice B b.length cap2] w (RowPost w base (randL a b)):=by
 cases hmay:(mayR a&&mayR b)
 ·rw [show randL a b=[] by rw [randL,hmay]; rfl]; exact rrand_no base A B cap cap2 a b w ha hb hfa hfb hln hbase hmay
 ·rw [show randL a b=growAll (cutsL (a++b)) (bothIn a b) by rw [randL,hmay]; rfl];rw [Bool.and_eq_true] at hmay; exact rand_yes base A B cap cap2 a b w ha hb hfa hfb hln hbase hmay
theorem growAll_len {l:List SpanL} (p:CutL→CutL→Bool) (hf:fitL l):(growAll (cutsL l) p).length≤1+2 * l.length:=by
 have h1:=growTo_len (cutsL l) p ((cutsL l).length - 1);have h2:=(cutsL_good hf).2;rw [growAll]; omega
theorem growAll_fit {l:List SpanL} (p:CutL→CutL→Bool) (hf:fitL l):fitAll (growAll (cutsL l) p):=by
 have h2:=cutsL_good hf;exact growTo_fit h2.1 _ (by omega)
theorem fitAll.toL {l:List SpanL} (h:fitAll l):fitL l:=fun i hi=>by rw [nth_lt hi]; exact h _ (List.getElem_mem _)
theorem randL_good {a b:List SpanL} (ha:fitL a) (hb:fitL b):fitL (randL a b)∧(randL a b).length≤1+2 * (a.length+b.length):=by
 rw [randL];split
 ·have:=growAll_len (bothIn a b) (fitL_app ha hb);rw [List.length_append] at this;exact ⟨(growAll_fit _ (fitL_app ha hb)).toL,this⟩
 ·exact ⟨fun i hi=>by simp at hi,by simp⟩
theorem rmakeL_good {a:List SpanL} (ha:fitL a):fitL (rmakeL a).1∧(rmakeL a).1.length≤1+2 * a.length:=by
 rw [rmakeL];split
 ·exact ⟨(growAll_fit _ ha).toL,growAll_len _ ha⟩
 ·exact ⟨fun i hi=>by simp at hi,by simp⟩
theorem rorL_good {a b:List SpanL} (ha:fitL a) (hb:fitL b):fitL (rorL a b)∧(rorL a b).length≤1+2 * (a.length+b.length):=by
 rw [rorL];split
 ·have:=rmakeL_good (fitL_app ha hb);rw [List.length_append] at this;exact this
 ·exact ⟨fun i hi=>by simp at hi,by simp⟩
theorem rnotL_good {a:List SpanL} (ha:fitL a):fitL (rnotL a)∧(rnotL a).length≤1+2 * a.length:=by
 rw [rnotL];split
 ·exact ⟨(growAll_fit _ ha).toL,growAll_len _ ha⟩
 ·exact ⟨fun i hi=>by simp at hi,by simp⟩
theorem rwithin_any (A B:Option Addr) (cap cap2:Nat) (a b:List SpanL) (w:World) (ha:Spans w A a) (hb:Spans w B b) (hfa:fitL a) (hfb:fitL b) (hln:a.length+b.length≤40000):Calls Tryz.prog 38 #[.slice A a.length cap,.slice B b.length cap2] w (yc w (withinR a b)):=by
 have HA:=hid ha;have HB:=hid hb;have hma:=hid (rrowmay_any A cap a w ha hfa (by omega));have hmb:=hid (fun w' (h:Spans w' B b)=>rrowmay_any B cap2 b w' h hfb (by omega));have han:=hid (fun (w':World) (h1:Spans w' A a) (h2:Spans w' B b)=>rand_any w'.heap.size A B cap cap2 a b w' h1 h2 hfa hfb hln (Nat.le_refl _));have hsz:=hid (randL_good hfa hfb).2;have hsa:=hid (fun (w':World) (C:Option Addr) (c:Nat) (h1:Spans w' C (randL a b)) (h2:Spans w' A a)=>same_any C A c cap (randL a b) a w' h1 h2 (by have:=hsz.out; omega) (by omega));cases h1:mayR a
 ·have HE:=hid (show withinR a b=false by rw [withinR,h1]; rfl);rw [h1] at hma;clear ha hb;generalize a.length=n at *;generalize b.length=p at *;go_enter Tryz.func38,Tryz.ntmps38;(go_wp2_with fail);refine hma.out.mono ?_;rintro _ w1 ⟨rfl,hb1⟩;(go_wp2_with fail);go_ret;exact ⟨by rw [HE.out]; rfl,hb1⟩
 ·rw [h1] at hma;cases h2:mayR b
  ·have HE:=hid (show withinR a b=false by rw [withinR,h1,h2]; rfl);rw [h2] at hmb;clear ha hb;generalize a.length=n at *;generalize b.length=p at *;go_enter Tryz.func38,Tryz.ntmps38;(go_wp2_with fail);refine hma.out.mono ?_;rintro _ w1 ⟨rfl,hb1⟩;(go_wp2_with fail);refine (hmb.out _ (HB.out.below hb1)).mono ?_;rintro _ w2 ⟨rfl,hb2⟩;(go_wp2_with fail);go_ret;exact ⟨by rw [HE.out]; rfl,zC hb1 hb2⟩
  ·have HE:=hid (show withinR a b=sameR (randL a b) a by rw [withinR,h1,h2]; rfl);rw [h2] at hmb;clear ha hb;generalize randL a b=r at *;generalize a.length=n at *;generalize b.length=p at *;go_enter Tryz.func38,Tryz.ntmps38;(go_wp2_with fail);refine hma.out.mono ?_;rintro _ w1 ⟨rfl,hb1⟩;(go_wp2_with fail);refine (hmb.out _ (HB.out.below hb1)).mono ?_;rintro _ w2 ⟨rfl,hb2⟩;have hb02:=zC hb1 hb2;clear hb1 hb2;(go_wp2_with fail);refine (han.out _ (HA.out.below hb02) (HB.out.below hb02)).mono ?_;rintro _ w3 ⟨v3,rfl,h3,h4,_⟩;have hb03:=zC hb02 h4;obtain ⟨C,c,rfl,h5⟩:=h3.spans;clear h3 h4 hb02;(go_wp2_with fail);refine (hsa.out _ C c h5 (HA.out.below hb03)).mono ?_;rintro _ w4 ⟨rfl,hb4⟩;(go_wp2_with fail);go_ret;exact ⟨by rw [HE.out]; rfl,zC hb03 hb4⟩
theorem Spans.one {w:World} {g:Nat} {s:SpanL} (h:Box w g s.cells):Spans w (some ⟨g,0,none⟩) [s]:=by
 refine .inr ⟨g,0,rfl,h.1,fun i hi j u hj=>?_⟩;(have:i=0:=by simpa using hi);subst this;have:=h.2 j u hj;simpa using this
def numA:List Int:=[0,1,2,3,0,1,10,9999]
def preA:List (List UInt8):=[[],[],[],[],[48],[49],[50],[49,49],[97],[97,46,49],[97,46,98],[98],[48,46,48],[114,99,46,49]]
def bldA:List (List UInt8):=[[],[],[],[],[48,48,55],[120,46,49]]
def versionL (zs:List Int) (i:Int):Ver:=⟨numA.getD (xh zs i 8).toNat 0,numA.getD (xh zs (i+1) 8).toNat 0,numA.getD (xh zs (i+2) 8).toNat 0,⟨(preA.getD (xh zs (i+3) 14).toNat []).toArray⟩,⟨(bldA.getD (xh zs (i+4) 6).toNat []).toArray⟩⟩
def arrN:List Value:=numA.map (Value.int .i64)
def arrP:List Value:=preA.map jX
def arrB:List Value:=bldA.map jX
theorem arr_get {α:Type} (f:α→Value) (l:List α) (d:α) (r:Int) (h0:0≤r) (h1:r < l.length):(l.map f)[r.toNat]?=some (f (l.getD r.toNat d)):=by
 (have:r.toNat < l.length:=by omega);simp [this]
theorem zI {P:Program} {c:Code} {Q:Exit→Act→World→Prop} {a:Act} {w:World} (h:∀ w',w'=w→c.wp P Q a w'):c.wp P Q a w:=h w rfl
theorem version_any (A:Option Addr) (cap:Nat) (zs:List Int) (i:Int) (w:World) (h:IntsAt w A zs) (hi:0≤i) (hi2:i≤100000000) (hln:zs.length≤9223372036854775807):Calls Tryz.prog 14 #[.slice A zs.length cap,.int .i64 i] w (WD w (versionL zs i)):=by
 (have hf:∀ (j n:Int) (w':World),Below w.heap.size w w'→0≤j→j≤1000000000→0 < n→n≤1000000→Calls Tryz.prog 21 #[.slice A zs.length cap,.int .i64 j,.int .i64 n] w' fun e w''=>e = .returned (.int .i64 (xh zs j n))∧w''=w':=fun j n w' hb h1 h2 h3 h4=>(un A cap zs j n w' (h.below hb) h1 h2 hln h3 h4).mono fun _ _ ⟨h1,h2⟩=>⟨h1,h2.symm⟩);have HF:=hid hf;have HV:=hid (show versionL zs i=⟨numA.getD (xh zs i 8).toNat 0,numA.getD (xh zs (i+1) 8).toNat 0,numA.getD (xh zs (i+2) 8).toNat 0,⟨(preA.getD (xh zs (i+3) 14).toNat []).toArray⟩,⟨(bldA.getD (xh zs (i+4) 6).toNat []).toArray⟩⟩ from rfl);have b1:=vO zs i 8 (by omega);have b2:=vO zs (i+1) 8 (by omega);have b3:=vO zs (i+2) 8 (by omega);have b4:=vO zs (i+3) 14 (by omega);have b5:=vO zs (i+4) 6 (by omega);have C1:=hid (fun w' hb=>hf i 8 w' hb hi (by omega) (by omega) (by omega));have C2:=hid (fun w' hb=>hf (i+1) 8 w' hb (by omega) (by omega) (by omega) (by omega));have C3:=hid (fun w' hb=>hf (i+2) 8 w' hb (by omega) (by omega) (by omega) (by omega));have C4:=hid (fun w' hb=>hf (i+3) 14 w' hb (by omega) (by omega) (by omega) (by omega));have C5:=hid (fun w' hb=>hf (i+4) 6 w' hb (by omega) (by omega) (by omega) (by omega));clear h hf HF;generalize xh zs i 8=r1 at *;generalize xh zs (i+1) 8=r2 at *;generalize xh zs (i+2) 8=r3 at *;generalize xh zs (i+3) 14=r4 at *
 generalize xh zs (i+4) 6=r5 at *;obtain ⟨b1,d1⟩:=b1;obtain ⟨b2,d2⟩:=b2;obtain ⟨b3,d3⟩:=b3;obtain ⟨b4,d4⟩:=b4;obtain ⟨b5,d5⟩:=b5;generalize zs.length=n at *;go_enter Tryz.func14,Tryz.ntmps14;(go_wp2_with fail);refine zI ?_;intro w4 hw4
 have HB4:Hid (Below w.heap.size w w4):=hid (by
  rw [hw4]; exact zC (zC (zC (zL _ _) (zL _ _)) (zL _ _)) (zL _ _))
 have X0:Hid (Box w4 w.heap.size xD.cells):=hid (by
  rw [hw4]; exact (((Box.new w xD.cells _).below (zL _ _)).below (zL _ _)).below (zL _ _))
 have X1:Hid (Box w4 (w.heap.size+1) arrN):=hid (by
  rw [hw4];have:=(Box.new (w.alloc (.cells xD.cells.toArray 27)) arrN 74);simp only [World.size_alloc] at this
  exact (this.below (zL _ _)).below (zL _ _))
 have X2:Hid (Box w4 (w.heap.size+1+1) arrP):=hid (by
  rw [hw4];have:=(Box.new ((w.alloc (.cells xD.cells.toArray 27)).alloc (.cells arrN.toArray 74)) arrP 75);simp only [World.size_alloc] at this
  exact this.below (zL _ _))
 have X3:Hid (Box w4 (w.heap.size+1+1+1) arrB):=hid (by
  rw [hw4];have:=(Box.new (((w.alloc (.cells xD.cells.toArray 27)).alloc (.cells arrN.toArray 74)).alloc (.cells arrP.toArray 75)) arrB 76);simp only [World.size_alloc] at this
  exact this)
 have S0:Hid (Soft w4 w.heap.size):=hid (by
  rw [hw4]
  exact (((Soft.new w xD.cells.toArray 27).below (by simp) (zL _ _)).below (by simp; omega) (zL _ _)).below (by simp; omega) (zL _ _))
 clear hw4;have HB5:=hid HB4.out.drew;have X0:=hid (X0.out.below (Below.refl _ _).drew);have X1:=hid (X1.out.below (Below.refl _ _).drew);have X2:=hid (X2.out.below (Below.refl _ _).drew);have X3:=hid (X3.out.below (Below.refl _ _).drew);have S0:=hid (show Soft w4.drew w.heap.size from S0.out);have q1:=X1.out.2 _ _ (arr_get (Value.int .i64) numA 0 r1 b1 d1);have q2:=X1.out.2 _ _ (arr_get (Value.int .i64) numA 0 r2 b2 d2);have q3:=X1.out.2 _ _ (arr_get (Value.int .i64) numA 0 r3 b3 d3);have q4:w4.drew.cell? ⟨w.heap.size+1+1,r4.toNat,none⟩=some (.string ⟨(preA.getD r4.toNat []).toArray⟩):=X2.out.2 _ _ (arr_get jX preA [] r4 b4 d4);have q5:w4.drew.cell? ⟨w.heap.size+1+1+1,r5.toNat,none⟩=some (.string ⟨(bldA.getD r5.toNat []).toArray⟩):=X3.out.2 _ _ (arr_get jX bldA [] r5 b5 d5);have C1:=hid (C1.out _ HB5.out);have C2:=hid (C2.out _ HB5.out);have C3:=hid (C3.out _ HB5.out);have C4:=hid (C4.out _ HB5.out);have C5:=hid (C5.out _ HB5.out);generalize numA.getD r1.toNat 0=v1 at *;generalize numA.getD r2.toNat 0=v2 at *;generalize numA.getD r3.toNat 0=v3 at *;generalize (⟨(preA.getD r4.toNat []).toArray⟩:ByteArray)=v4 at *;generalize (⟨(bldA.getD r5.toNat []).toArray⟩:ByteArray)=v5 at *;refine wp_region_still_tail 30 (by kernel_rfl) (by kernel_rfl) ?_;change wpStill _ _ w4.drew (fun a'=>wpList _ _ _ _ a' w4.drew) _ _;generalize w4.drew=w5 at *;simp only [List.take_succ_cons,List.take_zero,List.drop_succ_cons,List.drop_zero]
 have y1:IntKind.i64.wrap (i+1)=i+1:=IntWalk.i64_in _ (by omega);have y2:IntKind.i64.wrap (i+2)=i+2:=IntWalk.i64_in _ (by omega);have y3:IntKind.i64.wrap (i+3)=i+3:=IntWalk.i64_in _ (by omega);have y4:IntKind.i64.wrap (i+4)=i+4:=IntWalk.i64_in _ (by omega);repeat still_step
 still_call C1.out
 repeat still_step
 still_call C2.out
 repeat still_step
 still_call C3.out
 repeat still_step
 still_call C4.out
 repeat still_step
 still_call C5.out
 (repeat still_step);refine wpStill_nil ?_;clear y1 y2 y3 y4 q1 q2 q3 q4 q5;obtain ⟨hg0,hx0⟩:=X0.out;obtain ⟨t0,t1,t2,t3,t4⟩:=X0.out.get5;have hfz:∀ j,w5.frozen? ⟨w.heap.size,j,none⟩=false:=S0.out;clear hx0;(go_wp2_with fail);rw [show (((((w5.setCell ⟨w.heap.size,0,none⟩ (.int .i64 v1)).setCell ⟨w.heap.size,1,none⟩ (.int .i64 v2)).setCell ⟨w.heap.size,2,none⟩ (.int .i64 v3)).setCell ⟨w.heap.size,3,none⟩ (.string v4)).setCell ⟨w.heap.size,4,none⟩ (.string v5))=w5.setCells w.heap.size 0 (Ver.cells ⟨v1,v2,v3,v4,v5⟩) from rfl];have HEND:Hid (Box (w5.setCells w.heap.size 0 (Ver.cells ⟨v1,v2,v3,v4,v5⟩)) w.heap.size (Ver.cells ⟨v1,v2,v3,v4,v5⟩)):=hid (X0.out.set (o:=0) (vs:=Ver.cells ⟨v1,v2,v3,v4,v5⟩) (by simp));have HB6:=hid (HB5.out.setCells (Nat.le_refl _) (Ver.cells ⟨v1,v2,v3,v4,v5⟩) 0);clear hg0 t0 t1 t2 t3 t4 hfz;generalize w5.setCells w.heap.size 0 (Ver.cells ⟨v1,v2,v3,v4,v5⟩)=w6 at *;obtain ⟨k0,k1,k2,k3,k4⟩:=HEND.out.get5;refine bodyPost_ret (v:=(Ver.val ⟨v1,v2,v3,v4,v5⟩)) (by simp [results,Tryz.results14,go_sem,k0,k1,k2,k3,k4]) rfl ⟨?_,HB6.out⟩;rw [HV.out]
theorem getD_mem {α:Type} {l:List α} {r:Int} {d:α} (h0:0≤r) (h1:r < l.length):l.getD r.toNat d∈l:=by
 (have:r.toNat < l.length:=by omega);simp [this]
theorem numA_ok:∀ x,x∈numA→wV x=true:=by decide
theorem preA_ok:∀ x,x∈preA→tI x=true∧x.length≤8:=by decide +kernel
theorem bldA_ok:∀ x,x∈bldA→oz x=true∧x.length≤8:=by decide +kernel
theorem bts_mk (l:List UInt8):bts ⟨l.toArray⟩=l:=by rw [bts,yX]
theorem versionL_ok (zs:List Int) (i:Int):yF (versionL zs i)=true∧(versionL zs i).fit:=by
 have b1:=vO zs i 8 (by omega);have b2:=vO zs (i+1) 8 (by omega);have b3:=vO zs (i+2) 8 (by omega);have b4:=vO zs (i+3) 14 (by omega);have b5:=vO zs (i+4) 6 (by omega);have p1:=preA_ok _ (getD_mem (d:=[]) b4.1 b4.2);have p2:=bldA_ok _ (getD_mem (d:=[]) b5.1 b5.2);constructor
 ·simp only [yF,versionL,bts_mk,p1.1,p2.1,numA_ok _ (getD_mem b1.1 b1.2),numA_ok _ (getD_mem b2.1 b2.2),numA_ok _ (getD_mem b3.1 b3.2),Bool.and_self]
 ·(have e:∀ l:List UInt8,(⟨l.toArray⟩:ByteArray).size=l.length:=fun l=>by rw [← zF,bts_mk]);simp only [Ver.fit,versionL,e];omega
def zeroC:CutL:=⟨0,xD,false⟩
end Go.Proofs.YtiffijoenkcpjaaGreatDoor
namespace Go.Proofs.YtiffijoenkcpjaaGreatDoor
open Go.ChangeShapes Go.WideShapes Go.ChangeAt Go.RowKit
open Go.ChangeMaps (open_string shut_string)
theorem V3:ownKnob Tryz.prog.godebug=none:=by kernel_rfl
theorem X2:laidOutB Tryz.prog=true:=by kernel_rfl
theorem cd {W:World} {x:Addr} {zs:List Int} {len:Nat} (hl:len≤zs.length) (hcell:∀ i,i < zs.length→W.cell? (x.add i)=some (.int .i64 (zs.getD i 0))):IntsAt W (some x) (zs.take len)∧(zs.take len).length=len:=by
 (have hlen:(zs.take len).length=len:=by rw [List.length_take]; omega);refine ⟨?_,hlen⟩;rcases Nat.eq_zero_or_pos len with rfl | hpos
 ·exact .inl (by simp)
 ·obtain ⟨b,off,spot⟩:=x;have hc:=hcell 0 (by omega);(have hspot:spot=none:=by simpa [Addr.add] using World.cell?_spot hc);subst hspot;refine .inr ⟨b,off,rfl,World.block_lt_of_cell? W _ (by simpa [Addr.add] using hc),fun i hi=>?_⟩;have:=hcell i (by omega)
  have e:(zs.take len).getD i 0=zs.getD i 0:=by
   rw [hlen] at hi;simp [List.getD_eq_getElem?_getD,List.getElem?_take_of_lt hi]
  rw [e,← uR]; exact this
section
variable {H:Type} {enc:TypeId × Value→H} {W:World} {base:Nat} {held:Bool}
theorem oW {a:Option Addr} {len cap:Nat} {d:DataW H} {p:List MemPlace} (h:DataW.Trod enc Tryz.prog W base (fun _=>true) held 22 (.slice a len cap) d p):∃ z:List Int,z.length=len∧IntsAt W a z∧z.length≤9223372036854775807:=by
 obtain ⟨fuel,hf⟩:=h;rcases open_ints Tryz.underlying22 Tryz.underlying3 (by kernel_rfl) hf with ⟨hcs,_⟩ | ⟨x,l,c,zs,hcs,_,hl,hm,hz,_,hcell,_⟩
 ·simp [Value.cells] at hcs;obtain ⟨rfl,rfl,rfl⟩:=hcs;exact ⟨[],rfl,.inl rfl,by simp⟩
 ·simp [Value.cells] at hcs;obtain ⟨rfl,rfl,rfl⟩:=hcs;(have hz':zs.length=cap:=by simpa using hz);obtain ⟨h1,h2⟩:=cd (x:=x) (len:=len) (by omega) hcell;unfold maxLen at hm;exact ⟨_,h2,h1,by omega⟩
end
end Go.Proofs.YtiffijoenkcpjaaGreatDoor
namespace Go.Proofs.YtiffijoenkcpjaaGreatDoor
open Go.ChangeShapes Go.WideShapes Go.ChangeAt Go.RowKit Go.Deep Go.Joins
open Go.ChangeMaps (open_string shut_string)
section
variable {H:Type} {enc:TypeId × Value→H} {W:World} {base n:Nat} {spare:Nat→Bool} {held:Bool} {cs:List Value} {x:DataW H × List MemPlace}
end
section
variable {H:Type} {enc:TypeId × Value→H} {W:World} {base:Nat} {held:Bool}
end
end Go.Proofs.YtiffijoenkcpjaaGreatDoor
namespace Go.Proofs.YtiffijoenkcpjaaGreatDoor
open Go.RowKit Go.Lib
def relV (v:Ver):Ver:=⟨v.maj,v.min,v.pat,⟨#[]⟩,⟨#[]⟩⟩
def leastV (v:Ver):Bool:=v.maj==0&&v.min==0&&v.pat==0
def bumpV (v:Ver) (p:Int):Ver:=if p=0 then ⟨v.maj+1,0,0,⟨#[]⟩,⟨#[]⟩⟩ else if p=1 then ⟨v.maj,v.min+1,0,⟨#[]⟩,⟨#[]⟩⟩ else ⟨v.maj,v.min,v.pat+1,⟨#[]⟩,⟨#[]⟩⟩
def bumpL (v:Ver) (p:Int):Ver × Bool:=if yF v&&yF (bumpV v p) then (bumpV v p,true) else (xD,false)
def nextL (v:Ver):Ver × Bool:=if yF v=false then (xD,false) else if bts v.pre≠[] then (relV v,true) else
 if (bumpL v 2).2 then bumpL v 2 else if (bumpL v 1).2 then bumpL v 1 else if (bumpL v 0).2 then bumpL v 0 else (xD,false)
theorem nums {v:Ver} (h:yF v=true):(0≤v.maj∧v.maj≤9999)∧(0≤v.min∧v.min≤9999)∧(0≤v.pat∧v.pat≤9999):=by
 simp only [yF,wV,Bool.and_eq_true,decide_eq_true_eq] at h;exact ⟨h.1.1.1.1,h.1.1.1.2,h.1.1.2⟩
theorem rel_ok {a b c:Int} (h:(0≤a∧a≤9999)∧(0≤b∧b≤9999)∧(0≤c∧c≤9999)):yF ⟨a,b,c,⟨#[]⟩,⟨#[]⟩⟩=true:=by
 simp only [yF,wV,mi,tI,oz,Bool.and_eq_true,decide_eq_true_eq];exact ⟨⟨⟨⟨h.1,h.2.1⟩,h.2.2⟩,rfl⟩,rfl⟩
theorem rel_ok_iff {a b c:Int}:yF ⟨a,b,c,⟨#[]⟩,⟨#[]⟩⟩=true↔(0≤a∧a≤9999)∧(0≤b∧b≤9999)∧(0≤c∧c≤9999):=⟨fun h=>nums h,rel_ok⟩
theorem relV_may {v:Ver} (h:yF v=true):yF (relV v)=true:=rel_ok (nums h)
theorem relV_pre (v:Ver):bts (relV v).pre=[]:=mi
theorem relV_bld (v:Ver):bts (relV v).bld=[]:=mi
theorem relV_self {v:Ver} (h1:bts v.pre=[]) (h2:bts v.bld=[]):relV v=v:=ver_ext rfl rfl rfl (by rw [relV_pre,h1]) (by rw [relV_bld,h2])
inductive NextIs (v:Ver):Ver × Bool→Prop
 | pat:v.pat < 9999→NextIs v (⟨v.maj,v.min,v.pat+1,⟨#[]⟩,⟨#[]⟩⟩,true)
 | min:v.pat=9999→v.min < 9999→NextIs v (⟨v.maj,v.min+1,0,⟨#[]⟩,⟨#[]⟩⟩,true)
 | maj:v.pat=9999→v.min=9999→v.maj < 9999→NextIs v (⟨v.maj+1,0,0,⟨#[]⟩,⟨#[]⟩⟩,true)
 | no:v.pat=9999→v.min=9999→v.maj=9999→NextIs v (xD,false)
theorem bumpL_yes {v:Ver} {p:Int} (h:yF v=true) (k:yF (bumpV v p)=true):bumpL v p=(bumpV v p,true):=by rw [bumpL,h,k]; rfl
theorem bumpL_no {v:Ver} {p:Int} (k:yF (bumpV v p)=false):bumpL v p=(xD,false):=by rw [bumpL,k,Bool.and_false]; rfl
theorem next_is {v:Ver} (h:yF v=true) (hp:bts v.pre=[]):NextIs v (nextL v):=by
 have hn:=nums h;rw [nextL,if_neg (by simp [h]),if_neg (by simp [hp])];by_cases h1:v.pat < 9999
 ·have e:bumpL v 2=(⟨v.maj,v.min,v.pat+1,⟨#[]⟩,⟨#[]⟩⟩,true):=bumpL_yes h (rel_ok ⟨hn.1,hn.2.1,by omega⟩);rw [e]; exact .pat h1
 ·have e2:bumpL v 2=(xD,false):=bumpL_no (by
   rw [Bool.eq_false_iff]; intro k
   have:=(rel_ok_iff.1 k).2.2; omega)
  rw [e2,if_neg (by simp)];by_cases h2:v.min < 9999
  ·have e:bumpL v 1=(⟨v.maj,v.min+1,0,⟨#[]⟩,⟨#[]⟩⟩,true):=bumpL_yes h (rel_ok ⟨hn.1,by omega,by omega⟩);rw [e]; exact .min (by omega) h2
  ·have e1:bumpL v 1=(xD,false):=bumpL_no (by
    rw [Bool.eq_false_iff]; intro k
    have:=(rel_ok_iff.1 k).2.1; omega)
   rw [e1,if_neg (by simp)];by_cases h3:v.maj < 9999
   ·have e:bumpL v 0=(⟨v.maj+1,0,0,⟨#[]⟩,⟨#[]⟩⟩,true):=bumpL_yes h (rel_ok ⟨by omega,by omega,by omega⟩);rw [e]; exact .maj (by omega) (by omega) h3
   ·have e0:bumpL v 0=(xD,false):=bumpL_no (by
     rw [Bool.eq_false_iff]; intro k
     have:=(rel_ok_iff.1 k).1; omega)
    rw [e0,if_neg (by simp)];exact .no (by omega) (by omega) (by omega)
def uptoL (v:Ver):CutL:=if (nextL v).2 then ⟨0,(nextL v).1,false⟩ else ig
def aheadR (v:Ver):CutL:=if leastV v then rR else ⟨0,relV v,false⟩
def aheadP (v:Ver):CutL:=if mj v xD then rR else ⟨0,v,false⟩
def turnedL (c:CutL):CutL:=if c.en≠0 then c else if c.aft&&(bts c.v.pre).isEmpty then uptoL (relV c.v) else aheadR c.v
def rightC (c:CutL):Bool:=decide (c.en≠0) || (!c.aft&&(bts c.v.pre).isEmpty&&!leastV c.v)
def settledC (c:CutL):Bool:=decide (c.en≠0) || (!c.aft&&(bts c.v.pre).isEmpty&&!mj c.v xD)
theorem least_iff {v:Ver}:leastV v=true↔v.maj=0∧v.min=0∧v.pat=0:=by simp [leastV,and_assoc]
theorem eqVer_rel {v:Ver} (h1:bts v.pre=[]) (h2:bts v.bld=[]):mj v xD=leastV v:=by
 rw [Bool.eq_iff_iff,rC,least_iff];constructor
 ·rintro rfl; exact ⟨rfl,rfl,rfl⟩
 ·rintro ⟨a,b,c⟩;rw [← relV_self h1 h2,relV,a,b,c]; rfl
theorem settled_right {c:CutL} (h:fB c=true):settledC c=rightC c:=by
 by_cases h0:c.en≠0
 ·simp [settledC,rightC,h0]
 ·rcases mayC_cases h with ⟨_,_,hb⟩ | ⟨h1,_⟩
  ·by_cases hp:bts c.v.pre=[]
   ·simp only [settledC,rightC,eqVer_rel hp hb]
   ·(have:(bts c.v.pre).isEmpty=false:=by simp [hp]);simp [settledC,rightC,this]
  ·omega
theorem ahead_same {v:Ver}:aheadP (relV v)=aheadR v:=by
 rw [aheadP,aheadR,eqVer_rel (relV_pre v) (relV_bld v)];rfl
theorem iB {v:Ver} {r:Ver × Bool} (hn:NextIs v r) (h:r.2=false):v.pat=9999∧v.min=9999∧v.maj=9999:=by
 cases hn with
 | pat a=>cases h
 | min a b=>cases h
 | maj a b c=>cases h
 | no a b c=>exact ⟨a,b,c⟩
theorem upto_cases (v:Ver) (h:yF v=true) (hp:bts v.pre=[]):(∃ n,uptoL v=⟨0,n,false⟩∧NextIs v (n,true))∨(uptoL v=ig∧NextIs v (xD,false)):=by
 have hn:=next_is h hp;rw [uptoL];generalize nextL v=r at hn ⊢;obtain ⟨n,b⟩:=r;cases b with
 | true=>exact .inl ⟨n,rfl,hn⟩
 | false =>
  refine .inr ⟨rfl,?_⟩;have:=iB hn rfl;exact .no this.1 this.2.1 this.2.2
theorem next_may {v n:Ver} (h:yF v=true) (hn:NextIs v (n,true)):yF n=true∧bts n.pre=[]∧bts n.bld=[]∧leastV n=false:=by
 have hb:=nums h;cases hn with
 | pat a=>exact ⟨rel_ok ⟨hb.1,hb.2.1,by omega⟩,mi,mi,by rw [Bool.eq_false_iff,Ne,least_iff]; simp only; omega⟩
 | min a b=>exact ⟨rel_ok ⟨hb.1,by omega,by omega⟩,mi,mi,by rw [Bool.eq_false_iff,Ne,least_iff]; simp only; omega⟩
 | maj a b c=>exact ⟨rel_ok ⟨by omega,by omega,by omega⟩,mi,mi,by rw [Bool.eq_false_iff,Ne,least_iff]; simp only; omega⟩
theorem cut_rel_may {n:Ver} (h:yF n=true) (hb:bts n.bld=[]) (b:Bool):fB ⟨0,n,b⟩=true:=by rw [mayC_zero rfl,h,hb]; rfl
theorem upto_may {v:Ver} (h:yF v=true) (hp:bts v.pre=[]):fB (uptoL v)=true∧rightC (uptoL v)=true:=by
 rcases upto_cases v h hp with ⟨n,e,hn⟩ | ⟨e,_⟩
 ·obtain ⟨a,b,c,d⟩:=next_may h hn;rw [e];exact ⟨cut_rel_may a c _,by simp [rightC,b,d]⟩
 ·rw [e]; exact ⟨fp,rfl⟩
theorem aheadR_may {v:Ver} (h:yF v=true):fB (aheadR v)=true∧rightC (aheadR v)=true:=by
 unfold aheadR;split
 ·exact ⟨kt,rfl⟩
 ·rename_i h0
  refine ⟨cut_rel_may (relV_may h) (relV_bld v) _,?_⟩;(have:leastV (relV v)=false:=by simpa [leastV,relV] using h0);simp only [rightC,relV_pre,this]; rfl
theorem turned_may {c:CutL} (h:fB c=true):fB (turnedL c)=true∧rightC (turnedL c)=true:=by
 unfold turnedL;split
 ·rename_i h0; exact ⟨h,by simp [rightC,h0]⟩
 ·rename_i h0
  rcases mayC_cases h with ⟨_,hv,_⟩ | ⟨h1,_⟩
  ·split
   ·exact upto_may (relV_may hv) (relV_pre _)
   ·exact aheadR_may hv
  ·omega
def isRel (w:Ver):Prop:=yF w=true∧bts w.pre=[]
theorem cmpV_pre_rel {v w:Ver} (hv:yF v=true) (hw:isRel w) (hp:bts v.pre≠[]):xX v w < 0↔zu v w≤0:=by
 rw [Ze hv hw.1];split
 ·omega
 ·rename_i h
  rw [hw.2];(have:xS (bts v.pre) []=-1:=by simp [xS,hp]);omega
theorem le_bef {c:CutL} {w:Ver} (hc:fB c=true) (h0:c.en=0) (hw:yF w=true):Rw.le c (befC w)↔xX c.v w < 0∨(xX c.v w=0∧c.aft=false):=by
 have h1:=ahead_cmp hc hw;rw [aheadC_in hc hw h0] at h1;simp only [Bool.or_eq_true,Bool.and_eq_true,decide_eq_true_eq,Bool.not_eq_true'] at h1;exact ⟨fun h=>h1.2 h.2.2,fun h=>⟨hc,befC_may hw,h1.1 h⟩⟩
theorem soft_2 {w w1:World} {cs ds:List Value} {t s:TypeId} (hb:Below ((w.alloc (.cells cs.toArray t)).alloc (.cells ds.toArray s)).heap.size ((w.alloc (.cells cs.toArray t)).alloc (.cells ds.toArray s)) w1):Soft w1 w.heap.size∧Soft w1 (w.heap.size+1):=by
 constructor
 ·exact ((Soft.new w cs.toArray t).below (by simp) (zL _ _)).below (by simp; omega) hb
 ·have:=(Soft.new (w.alloc (.cells cs.toArray t)) ds.toArray s).below (by simp) hb;simpa using this
theorem box_3 {w w1:World} {cs ds es:List Value} {t s u:TypeId} (hb:Below (((w.alloc (.cells cs.toArray t)).alloc (.cells ds.toArray s)).alloc (.cells es.toArray u)).heap.size (((w.alloc (.cells cs.toArray t)).alloc (.cells ds.toArray s)).alloc (.cells es.toArray u)) w1) :
 Box w1 w.heap.size cs∧Box w1 (w.heap.size+1) ds∧Box w1 (w.heap.size+1+1) es∧Soft w1 (w.heap.size+1+1)∧Below w.heap.size w w1:=by
 refine ⟨(((Box.new w cs t).below (zL _ _)).below (zL _ _)).below hb,?_,?_,?_,zC (zC (zC (zL _ _) (zL _ _)) (zL _ _)) hb⟩
 ·have:=((Box.new (w.alloc (.cells cs.toArray t)) ds s).below (zL _ _)).below hb;simpa using this
 ·have:=(Box.new ((w.alloc (.cells cs.toArray t)).alloc (.cells ds.toArray s)) es u).below hb;simpa using this
 ·have:=(Soft.new ((w.alloc (.cells cs.toArray t)).alloc (.cells ds.toArray s)) es.toArray u).below (by simp) hb;simpa using this
theorem Box.next {w w2:World} {g:Nat} {cs:List Value} {o:Obj} (h:Box w g cs) (hb:Below (w.alloc o).heap.size (w.alloc o) w2):Box w2 g cs:=(h.below (zL w o)).below hb
theorem Soft.next {w w2:World} {g:Nat} {o:Obj} (h:Soft w g) (hg:g < w.heap.size) (hb:Below (w.alloc o).heap.size (w.alloc o) w2):Soft w2 g:=(h.below hg (zL w o)).below (by simp; omega) hb
def SpanB (w:World) (base:Nat) (A:Option Addr) (l:List SpanL):Prop:=Spans w A l∧∀ ad,A=some ad→base≤ad.block
theorem SpanB.below {w w':World} {base:Nat} {A:Option Addr} {l:List SpanL} (h:SpanB w base A l) (hb:Below w.heap.size w w'):SpanB w' base A l:=⟨h.1.below hb,h.2⟩
theorem SpanB.low {w:World} {base b:Nat} {A:Option Addr} {l:List SpanL} (h:SpanB w base A l) (hb:b≤base):SpanB w b A l:=⟨h.1,fun ad e=>Nat.le_trans hb (h.2 ad e)⟩
theorem SpanB.nil (w:World) (base:Nat):SpanB w base none []:=⟨.inl rfl,fun _ e=>by cases e⟩
theorem SpanB.own {w:World} {base:Nat} {v:Value} {l:List SpanL} (h:OwnS w base v l):∃ A c,v = .slice A l.length c∧SpanB w base A l:=by
 obtain ⟨A,c,e,hs⟩:=h.spans;refine ⟨A,c,e,hs,fun ad ea=>?_⟩;rcases h.form with ⟨e2,_⟩ | ⟨g,c2,e2,hg,_⟩
 ·rw [e] at e2; injection e2 with e3; rw [e3] at ea; cases ea
 ·rw [e] at e2; injection e2 with e3; rw [e3] at ea; injection ea with ea; rw [← ea]; exact hg
theorem SpanB.set {w:World} {base g o:Nat} {vs:List Value} {A:Option Addr} {l:List SpanL} (h:SpanB w base A l) (hg:g < base):SpanB (w.setCells g o vs) base A l:=by
 refine ⟨?_,h.2⟩;rcases h.1 with h1 | ⟨b,off,rfl,hb,hc⟩
 ·exact .inl h1
 ·(have hne:b≠g:=by have:=h.2 _ rfl; simp only at this; omega);exact .inr ⟨b,off,rfl,by rw [uc]; exact hb,fun i hi j u hj=>(World.cell?_of_block (a:=⟨b,_,none⟩) (uG g b hne vs o w)).trans (hc i hi j u hj)⟩
section
variable {P:Program} {fn:Func} {R:Ending→World→Prop} {a:Act} {w:World} {v:Value} {g:Nat}
theorem ret5 {x0 x1 x2 x3 x4:Value} {n0 n1 n2:Int} {n3 n4:ByteArray} (hx:Box w g [x0,x1,x2,x3,x4]) (hr:∀ w3,Box w3 g (Ver.cells ⟨n0,n1,n2,n3,n4⟩)→(results fn a.tmps).run P w3 = .ok v w3) (hd:a.defers=[])
 (hR:∀ w3,Below g w w3→R (.returned v) w3):bodyPost P fn R .ret a (((((w.setCell ⟨g,0,none⟩ (.int .i64 n0)).setCell ⟨g,1,none⟩ (.int .i64 n1)).setCell ⟨g,2,none⟩ (.int .i64 n2)).setCell ⟨g,3,none⟩ (.string n3)).setCell ⟨g,4,none⟩ (.string n4)):=by
 rw [show (((((w.setCell ⟨g,0,none⟩ (.int .i64 n0)).setCell ⟨g,1,none⟩ (.int .i64 n1)).setCell ⟨g,2,none⟩ (.int .i64 n2)).setCell ⟨g,3,none⟩ (.string n3)).setCell ⟨g,4,none⟩ (.string n4))=w.setCells g 0 (Ver.cells ⟨n0,n1,n2,n3,n4⟩) from rfl]
 have hb:Box (w.setCells g 0 (Ver.cells ⟨n0,n1,n2,n3,n4⟩)) g (Ver.cells ⟨n0,n1,n2,n3,n4⟩):=hx.set (o:=0) (vs:=Ver.cells ⟨n0,n1,n2,n3,n4⟩) (by simp)
 exact bodyPost_ret (hr _ hb) hd (hR _ (Below.setCells (Nat.le_refl _) _ _ (Below.refl _ _)))
theorem ret5n {x0 x1 x2 x3 x4:Value} {n0 n1 n2:Int} {n3 n4:ByteArray} {o:Obj} (hx:Box w g [x0,x1,x2,x3,x4]) (hr:∀ w3,Box w3 g (Ver.cells ⟨n0,n1,n2,n3,n4⟩)→(results fn a.tmps).run P w3 = .ok v w3) (hd:a.defers=[])
 (hR:∀ w3,Below g w w3→R (.returned v) w3):bodyPost P fn R .ret a ((((((w.setCell ⟨g,0,none⟩ (.int .i64 n0)).setCell ⟨g,1,none⟩ (.int .i64 n1)).setCell ⟨g,2,none⟩ (.int .i64 n2)).setCell ⟨g,3,none⟩ (.string n3)).setCell ⟨g,4,none⟩ (.string n4)).alloc o):=by
 rw [show (((((w.setCell ⟨g,0,none⟩ (.int .i64 n0)).setCell ⟨g,1,none⟩ (.int .i64 n1)).setCell ⟨g,2,none⟩ (.int .i64 n2)).setCell ⟨g,3,none⟩ (.string n3)).setCell ⟨g,4,none⟩ (.string n4))=w.setCells g 0 (Ver.cells ⟨n0,n1,n2,n3,n4⟩) from rfl]
 have hb:Box (w.setCells g 0 (Ver.cells ⟨n0,n1,n2,n3,n4⟩)) g (Ver.cells ⟨n0,n1,n2,n3,n4⟩):=hx.set (o:=0) (vs:=Ver.cells ⟨n0,n1,n2,n3,n4⟩) (by simp)
 exact bodyPost_ret (hr _ (hb.below (zL _ _))) hd (hR _ ((Below.setCells (Nat.le_refl _) _ _ (Below.refl _ _)).alloc (Nat.le_of_lt hb.1) _))
theorem ret7 {x0 x1 x2 x3 x4 x5 x6:Value} {k n0 n1 n2:Int} {n3 n4:ByteArray} {b:Bool} (hx:Box w g [x0,x1,x2,x3,x4,x5,x6]) (hr:∀ w3,Box w3 g (CutL.cells ⟨k,⟨n0,n1,n2,n3,n4⟩,b⟩)→(results fn a.tmps).run P w3 = .ok v w3) (hd:a.defers=[])
 (hR:∀ w3,Below g w w3→R (.returned v) w3):bodyPost P fn R .ret a (((((((w.setCell ⟨g,0,none⟩ (.int .i64 k)).setCell ⟨g,1,none⟩ (.int .i64 n0)).setCell ⟨g,2,none⟩ (.int .i64 n1)).setCell ⟨g,3,none⟩ (.int .i64 n2)).setCell ⟨g,4,none⟩ (.string n3)).setCell ⟨g,5,none⟩ (.string n4)).setCell ⟨g,6,none⟩ (.bool b)):=by
 rw [show (((((((w.setCell ⟨g,0,none⟩ (.int .i64 k)).setCell ⟨g,1,none⟩ (.int .i64 n0)).setCell ⟨g,2,none⟩ (.int .i64 n1)).setCell ⟨g,3,none⟩ (.int .i64 n2)).setCell ⟨g,4,none⟩ (.string n3)).setCell ⟨g,5,none⟩ (.string n4)).setCell ⟨g,6,none⟩ (.bool b))=w.setCells g 0 (CutL.cells ⟨k,⟨n0,n1,n2,n3,n4⟩,b⟩) from rfl]
 have hb:Box (w.setCells g 0 (CutL.cells ⟨k,⟨n0,n1,n2,n3,n4⟩,b⟩)) g (CutL.cells ⟨k,⟨n0,n1,n2,n3,n4⟩,b⟩):=hx.set (o:=0) (vs:=(CutL.cells ⟨k,⟨n0,n1,n2,n3,n4⟩,b⟩)) (by simp)
 exact bodyPost_ret (hr _ hb) hd (hR _ (Below.setCells (Nat.le_refl _) _ _ (Below.refl _ _)))
theorem ret7n {x0 x1 x2 x3 x4 x5 x6:Value} {k n0 n1 n2:Int} {n3 n4:ByteArray} {b:Bool} {o:Obj} (hx:Box w g [x0,x1,x2,x3,x4,x5,x6]) (hr:∀ w3,Box w3 g (CutL.cells ⟨k,⟨n0,n1,n2,n3,n4⟩,b⟩)→(results fn a.tmps).run P w3 = .ok v w3) (hd:a.defers=[])
 (hR:∀ w3,Below g w w3→R (.returned v) w3):bodyPost P fn R .ret a ((((((((w.setCell ⟨g,0,none⟩ (.int .i64 k)).setCell ⟨g,1,none⟩ (.int .i64 n0)).setCell ⟨g,2,none⟩ (.int .i64 n1)).setCell ⟨g,3,none⟩ (.int .i64 n2)).setCell ⟨g,4,none⟩ (.string n3)).setCell ⟨g,5,none⟩ (.string n4)).setCell ⟨g,6,none⟩ (.bool b)).alloc o):=by
 rw [show (((((((w.setCell ⟨g,0,none⟩ (.int .i64 k)).setCell ⟨g,1,none⟩ (.int .i64 n0)).setCell ⟨g,2,none⟩ (.int .i64 n1)).setCell ⟨g,3,none⟩ (.int .i64 n2)).setCell ⟨g,4,none⟩ (.string n3)).setCell ⟨g,5,none⟩ (.string n4)).setCell ⟨g,6,none⟩ (.bool b))=w.setCells g 0 (CutL.cells ⟨k,⟨n0,n1,n2,n3,n4⟩,b⟩) from rfl]
 have hb:Box (w.setCells g 0 (CutL.cells ⟨k,⟨n0,n1,n2,n3,n4⟩,b⟩)) g (CutL.cells ⟨k,⟨n0,n1,n2,n3,n4⟩,b⟩):=hx.set (o:=0) (vs:=(CutL.cells ⟨k,⟨n0,n1,n2,n3,n4⟩,b⟩)) (by simp)
 exact bodyPost_ret (hr _ (hb.below (zL _ _))) hd (hR _ ((Below.setCells (Nat.le_refl _) _ _ (Below.refl _ _)).alloc (Nat.le_of_lt hb.1) _))
theorem ret2 {x0 x1 y0 y1:Value} (hx:Box w g [x0,x1]) (hr:∀ w3,Box w3 g [y0,y1]→(results fn a.tmps).run P w3 = .ok v w3) (hd:a.defers=[])
 (hR:Below g w (w.setCells g 0 [y0,y1])→R (.returned v) (w.setCells g 0 [y0,y1])):bodyPost P fn R .ret a ((w.setCell ⟨g,0,none⟩ y0).setCell ⟨g,1,none⟩ y1):=by
 rw [show ((w.setCell ⟨g,0,none⟩ y0).setCell ⟨g,1,none⟩ y1)=w.setCells g 0 [y0,y1] from rfl]
 have hb:Box (w.setCells g 0 [y0,y1]) g [y0,y1]:=hx.set (o:=0) (vs:=[y0,y1]) (by simp)
 exact bodyPost_ret (hr _ hb) hd (hR (Below.setCells (Nat.le_refl _) _ _ (Below.refl _ _)))
end
def VerOk (w:World) (r:Ver × Bool) (e:Ending) (w':World):Prop:=e = .returned (.tuple #[r.1.val,.bool r.2])∧Below w.heap.size w w'
theorem e_fit (a b c:Int):(⟨a,b,c,⟨#[]⟩,⟨#[]⟩⟩:Ver).fit:=by simp only [Ver.fit]; decide
theorem i64_sm {n:Int} (h:0≤n∧n≤9999):IntKind.i64.wrap (n+1)=n+1:=IntWalk.i64_in _ (by omega)
theorem VerOk.of {w:World} {r:Ver × Bool} {e:Ending} {w':World} {n:Ver} {b:Bool} (hr:r=(n,b)) (he:e = .returned (.tuple #[n.val,.bool b])) (hb:Below w.heap.size w w'):VerOk w r e w':=by subst hr; exact ⟨he,hb⟩
theorem bump0_any (v:Ver) (w:World) (hv:v.fit) (hm:yF v=true):Calls Tryz.prog 208 #[v.val,.int .i64 0] w (VerOk w (bumpL v 0)):=by
 have hn:=nums hm;have y1:=i64_sm hn.1;have y2:=i64_sm hn.2.1;have y3:=i64_sm hn.2.2;cases hk:yF (⟨v.maj+1,0,0,⟨#[]⟩,⟨#[]⟩⟩:Ver)
 ·have HB:=hid (show bumpL v 0=(xD,false) from bumpL_no hk);go_enter Tryz.func208,Tryz.ntmps208;(go_wp2_with fail);refine (vm v _ hv).mono ?_;rintro _ w1 ⟨rfl,hb1⟩;rw [hm];have hs1:=hid (soft_2 (cs:=v.cells) (ds:=xD.cells) hb1).2;obtain ⟨hx1,hy1,hbw1⟩:=box_2 (cs:=v.cells) (ds:=xD.cells) hb1;obtain ⟨t0,t1,t2,t3,t4⟩:=hx1.get5;have hl1:=hx1.1;have hl2:=hy1.1;clear hb1;(go_wp2_with fail);refine (vm ⟨v.maj+1,0,0,⟨#[]⟩,⟨#[]⟩⟩ _ (e_fit _ _ _)).mono ?_;rintro _ w2 ⟨rfl,hb2⟩;rw [hk];have hy2:=hid (hy1.next hb2);have hl3:=hy2.out.1;have hf2:∀ j,w2.frozen? ⟨w.heap.size+1,j,none⟩=false:=hs1.out.next hl2 hb2;have hbw2:=hid (zC hbw1 (zC (zL _ _) hb2));clear hx1 hy1 hb2 t0 t1 t2 t3 t4;obtain ⟨t0,t1,t2,t3,t4⟩:=hy2.out.get5;(go_wp2_with fail);refine ret5 hy2.out (v := .tuple #[xD.val,.bool false]) (fun w3 h3=>?_) rfl (fun w3 h3=>VerOk.of HB.out rfl (hbw2.out.trans (h3.mono (by omega))));obtain ⟨k0,k1,k2,k3,k4⟩:=h3.get5;simp [results,Tryz.results208,go_sem,xD,k0,k1,k2,k3,k4]
 ·have HB:=hid (show bumpL v 0=(⟨v.maj+1,0,0,⟨#[]⟩,⟨#[]⟩⟩,true) from bumpL_yes hm hk);go_enter Tryz.func208,Tryz.ntmps208;(go_wp2_with fail);refine (vm v _ hv).mono ?_;rintro _ w1 ⟨rfl,hb1⟩;rw [hm];have hs1:=hid (soft_2 (cs:=v.cells) (ds:=xD.cells) hb1).2;obtain ⟨hx1,hy1,hbw1⟩:=box_2 (cs:=v.cells) (ds:=xD.cells) hb1;obtain ⟨t0,t1,t2,t3,t4⟩:=hx1.get5;have hl1:=hx1.1;have hl2:=hy1.1;clear hb1;(go_wp2_with fail);refine (vm ⟨v.maj+1,0,0,⟨#[]⟩,⟨#[]⟩⟩ _ (e_fit _ _ _)).mono ?_;rintro _ w2 ⟨rfl,hb2⟩;rw [hk];have hy2:=hid (hy1.next hb2);obtain ⟨z0,z1,z2,z3,z4⟩:=((Box.new w1 (Ver.cells ⟨v.maj+1,0,0,⟨#[]⟩,⟨#[]⟩⟩) 27).below hb2).get5;have hl3:=hy2.out.1;have hf2:∀ j,w2.frozen? ⟨w.heap.size+1,j,none⟩=false:=hs1.out.next hl2 hb2;have hbw2:=hid (zC hbw1 (zC (zL _ _) hb2));clear hx1 hy1 hb2 t0 t1 t2 t3 t4;obtain ⟨t0,t1,t2,t3,t4⟩:=hy2.out.get5;(go_wp2_with fail);refine ret5 hy2.out (v := .tuple #[.agg #[.int .i64 (v.maj+1),.int .i64 0,.int .i64 0,.string ⟨#[]⟩,.string ⟨#[]⟩],.bool true]) (fun w3 h3=>?_) rfl (fun w3 h3=>VerOk.of HB.out rfl (hbw2.out.trans (h3.mono (by omega))));obtain ⟨k0,k1,k2,k3,k4⟩:=h3.get5;simp [results,Tryz.results208,go_sem,k0,k1,k2,k3,k4]
theorem bump1_any (v:Ver) (w:World) (hv:v.fit) (hm:yF v=true):Calls Tryz.prog 208 #[v.val,.int .i64 1] w (VerOk w (bumpL v 1)):=by
 have hn:=nums hm;have y1:=i64_sm hn.1;have y2:=i64_sm hn.2.1;have y3:=i64_sm hn.2.2;cases hk:yF (⟨v.maj,v.min+1,0,⟨#[]⟩,⟨#[]⟩⟩:Ver)
 ·have HB:=hid (show bumpL v 1=(xD,false) from bumpL_no hk);go_enter Tryz.func208,Tryz.ntmps208;(go_wp2_with fail);refine (vm v _ hv).mono ?_;rintro _ w1 ⟨rfl,hb1⟩;rw [hm];have hs1:=hid (soft_2 (cs:=v.cells) (ds:=xD.cells) hb1).2;obtain ⟨hx1,hy1,hbw1⟩:=box_2 (cs:=v.cells) (ds:=xD.cells) hb1;obtain ⟨t0,t1,t2,t3,t4⟩:=hx1.get5;have hl1:=hx1.1;have hl2:=hy1.1;clear hb1;(go_wp2_with fail);refine (vm ⟨v.maj,v.min+1,0,⟨#[]⟩,⟨#[]⟩⟩ _ (e_fit _ _ _)).mono ?_;rintro _ w2 ⟨rfl,hb2⟩;rw [hk];have hy2:=hid (hy1.next hb2);have hl3:=hy2.out.1;have hf2:∀ j,w2.frozen? ⟨w.heap.size+1,j,none⟩=false:=hs1.out.next hl2 hb2;have hbw2:=hid (zC hbw1 (zC (zL _ _) hb2));clear hx1 hy1 hb2 t0 t1 t2 t3 t4;obtain ⟨t0,t1,t2,t3,t4⟩:=hy2.out.get5;(go_wp2_with fail);refine ret5 hy2.out (v := .tuple #[xD.val,.bool false]) (fun w3 h3=>?_) rfl (fun w3 h3=>VerOk.of HB.out rfl (hbw2.out.trans (h3.mono (by omega))));obtain ⟨k0,k1,k2,k3,k4⟩:=h3.get5;simp [results,Tryz.results208,go_sem,xD,k0,k1,k2,k3,k4]
 ·have HB:=hid (show bumpL v 1=(⟨v.maj,v.min+1,0,⟨#[]⟩,⟨#[]⟩⟩,true) from bumpL_yes hm hk);go_enter Tryz.func208,Tryz.ntmps208;(go_wp2_with fail);refine (vm v _ hv).mono ?_;rintro _ w1 ⟨rfl,hb1⟩;rw [hm];have hs1:=hid (soft_2 (cs:=v.cells) (ds:=xD.cells) hb1).2;obtain ⟨hx1,hy1,hbw1⟩:=box_2 (cs:=v.cells) (ds:=xD.cells) hb1;obtain ⟨t0,t1,t2,t3,t4⟩:=hx1.get5;have hl1:=hx1.1;have hl2:=hy1.1;clear hb1;(go_wp2_with fail);refine (vm ⟨v.maj,v.min+1,0,⟨#[]⟩,⟨#[]⟩⟩ _ (e_fit _ _ _)).mono ?_;rintro _ w2 ⟨rfl,hb2⟩;rw [hk];have hy2:=hid (hy1.next hb2);obtain ⟨z0,z1,z2,z3,z4⟩:=((Box.new w1 (Ver.cells ⟨v.maj,v.min+1,0,⟨#[]⟩,⟨#[]⟩⟩) 27).below hb2).get5;have hl3:=hy2.out.1;have hf2:∀ j,w2.frozen? ⟨w.heap.size+1,j,none⟩=false:=hs1.out.next hl2 hb2;have hbw2:=hid (zC hbw1 (zC (zL _ _) hb2));clear hx1 hy1 hb2 t0 t1 t2 t3 t4;obtain ⟨t0,t1,t2,t3,t4⟩:=hy2.out.get5;(go_wp2_with fail);refine ret5 hy2.out (v := .tuple #[.agg #[.int .i64 v.maj,.int .i64 (v.min+1),.int .i64 0,.string ⟨#[]⟩,.string ⟨#[]⟩],.bool true]) (fun w3 h3=>?_) rfl (fun w3 h3=>VerOk.of HB.out rfl (hbw2.out.trans (h3.mono (by omega))));obtain ⟨k0,k1,k2,k3,k4⟩:=h3.get5;simp [results,Tryz.results208,go_sem,k0,k1,k2,k3,k4]
theorem bump2_any (v:Ver) (w:World) (hv:v.fit) (hm:yF v=true):Calls Tryz.prog 208 #[v.val,.int .i64 2] w (VerOk w (bumpL v 2)):=by
 have hn:=nums hm;have y1:=i64_sm hn.1;have y2:=i64_sm hn.2.1;have y3:=i64_sm hn.2.2;cases hk:yF (⟨v.maj,v.min,v.pat+1,⟨#[]⟩,⟨#[]⟩⟩:Ver)
 ·have HB:=hid (show bumpL v 2=(xD,false) from bumpL_no hk);go_enter Tryz.func208,Tryz.ntmps208;(go_wp2_with fail);refine (vm v _ hv).mono ?_;rintro _ w1 ⟨rfl,hb1⟩;rw [hm];have hs1:=hid (soft_2 (cs:=v.cells) (ds:=xD.cells) hb1).2;obtain ⟨hx1,hy1,hbw1⟩:=box_2 (cs:=v.cells) (ds:=xD.cells) hb1;obtain ⟨t0,t1,t2,t3,t4⟩:=hx1.get5;have hl1:=hx1.1;have hl2:=hy1.1;clear hb1;(go_wp2_with fail);refine (vm ⟨v.maj,v.min,v.pat+1,⟨#[]⟩,⟨#[]⟩⟩ _ (e_fit _ _ _)).mono ?_;rintro _ w2 ⟨rfl,hb2⟩;rw [hk];have hy2:=hid (hy1.next hb2);have hl3:=hy2.out.1;have hf2:∀ j,w2.frozen? ⟨w.heap.size+1,j,none⟩=false:=hs1.out.next hl2 hb2;have hbw2:=hid (zC hbw1 (zC (zL _ _) hb2));clear hx1 hy1 hb2 t0 t1 t2 t3 t4;obtain ⟨t0,t1,t2,t3,t4⟩:=hy2.out.get5;(go_wp2_with fail);refine ret5 hy2.out (v := .tuple #[xD.val,.bool false]) (fun w3 h3=>?_) rfl (fun w3 h3=>VerOk.of HB.out rfl (hbw2.out.trans (h3.mono (by omega))));obtain ⟨k0,k1,k2,k3,k4⟩:=h3.get5;simp [results,Tryz.results208,go_sem,xD,k0,k1,k2,k3,k4]
 ·have HB:=hid (show bumpL v 2=(⟨v.maj,v.min,v.pat+1,⟨#[]⟩,⟨#[]⟩⟩,true) from bumpL_yes hm hk);go_enter Tryz.func208,Tryz.ntmps208;(go_wp2_with fail);refine (vm v _ hv).mono ?_;rintro _ w1 ⟨rfl,hb1⟩;rw [hm];have hs1:=hid (soft_2 (cs:=v.cells) (ds:=xD.cells) hb1).2;obtain ⟨hx1,hy1,hbw1⟩:=box_2 (cs:=v.cells) (ds:=xD.cells) hb1;obtain ⟨t0,t1,t2,t3,t4⟩:=hx1.get5;have hl1:=hx1.1;have hl2:=hy1.1;clear hb1;(go_wp2_with fail);refine (vm ⟨v.maj,v.min,v.pat+1,⟨#[]⟩,⟨#[]⟩⟩ _ (e_fit _ _ _)).mono ?_;rintro _ w2 ⟨rfl,hb2⟩;rw [hk];have hy2:=hid (hy1.next hb2);obtain ⟨z0,z1,z2,z3,z4⟩:=((Box.new w1 (Ver.cells ⟨v.maj,v.min,v.pat+1,⟨#[]⟩,⟨#[]⟩⟩) 27).below hb2).get5;have hl3:=hy2.out.1;have hf2:∀ j,w2.frozen? ⟨w.heap.size+1,j,none⟩=false:=hs1.out.next hl2 hb2;have hbw2:=hid (zC hbw1 (zC (zL _ _) hb2));clear hx1 hy1 hb2 t0 t1 t2 t3 t4;obtain ⟨t0,t1,t2,t3,t4⟩:=hy2.out.get5;(go_wp2_with fail);refine ret5 hy2.out (v := .tuple #[.agg #[.int .i64 v.maj,.int .i64 v.min,.int .i64 (v.pat+1),.string ⟨#[]⟩,.string ⟨#[]⟩],.bool true]) (fun w3 h3=>?_) rfl (fun w3 h3=>VerOk.of HB.out rfl (hbw2.out.trans (h3.mono (by omega))));obtain ⟨k0,k1,k2,k3,k4⟩:=h3.get5;simp [results,Tryz.results208,go_sem,k0,k1,k2,k3,k4]
structure NextInv (v:Ver) (k:Int):Prop where
 in_:k=2∨k=1∨k=0∨k=-1
 n2:k < 2→(bumpL v 2).2=false
 n1:k < 1→(bumpL v 1).2=false
 n0:k < 0→(bumpL v 0).2=false
theorem NextInv.start (v:Ver):NextInv v 2:=⟨.inl rfl,by omega,by omega,by omega⟩
theorem NextInv.step {v:Ver} {k:Int} (h:NextInv v k) (hk:0≤k) (hb:(bumpL v k).2=false):NextInv v (k - 1):=by
 rcases h.in_ with rfl | rfl | rfl | rfl
 ·exact ⟨by omega,fun _=>hb,by omega,by omega⟩
 ·exact ⟨by omega,fun _=>h.n2 (by omega),fun _=>hb,by omega⟩
 ·exact ⟨by omega,fun _=>h.n2 (by omega),fun _=>h.n1 (by omega),fun _=>hb⟩
 ·omega
theorem NextInv.yes {v n:Ver} {k:Int} (h:NextInv v k) (hk:0≤k) (hm:yF v=true) (hp:bts v.pre=[]) (hb:bumpL v k=(n,true)):nextL v=(n,true):=by
 rw [nextL,if_neg (by simp [hm]),if_neg (by simp [hp])];rcases h.in_ with rfl | rfl | rfl | rfl
 ·rw [hb]; rfl
 ·rw [if_neg (by simp [h.n2]),hb]; rfl
 ·rw [if_neg (by simp [h.n2]),if_neg (by simp [h.n1]),hb]; rfl
 ·omega
theorem NextInv.no {v:Ver} (h:NextInv v (-1)) (hm:yF v=true) (hp:bts v.pre=[]):nextL v=(xD,false):=by
 rw [nextL,if_neg (by simp [hm]),if_neg (by simp [hp]),if_neg (by simp [h.n2]),if_neg (by simp [h.n1]),if_neg (by simp [h.n0])]
theorem next_bad {v:Ver} (hm:yF v=false):nextL v=(xD,false):=by rw [nextL,if_pos hm]
theorem next_pre {v:Ver} (hm:yF v=true) (hp:bts v.pre≠[]):nextL v=(relV v,true):=by rw [nextL,if_neg (by simp [hm]),if_pos hp]
theorem bump_any (v:Ver) (p:Int) (w:World) (hv:v.fit) (hm:yF v=true) (hp:p=2∨p=1∨p=0):Calls Tryz.prog 208 #[v.val,.int .i64 p] w (VerOk w (bumpL v p)):=by
 rcases hp with rfl | rfl | rfl
 ·exact bump2_any v w hv hm
 ·exact bump1_any v w hv hm
 ·exact bump0_any v w hv hm
theorem next_any (v:Ver) (w:World) (hv:v.fit):Calls Tryz.prog 230 #[v.val] w (VerOk w (nextL v)):=by
 cases hm:yF v
 ·have HB:=hid (next_bad hm);go_enter Tryz.func230,Tryz.ntmps230;(go_wp2_with fail);refine (vm v _ hv).mono ?_;rintro _ w1 ⟨rfl,hb1⟩;rw [hm];have hs1:=(soft_2 (cs:=v.cells) (ds:=xD.cells) hb1).2;obtain ⟨hx1,hy1,hbw1⟩:=box_2 (cs:=v.cells) (ds:=xD.cells) hb1;have HY:=hid hy1;have hf:∀ j,w1.frozen? ⟨w.heap.size+1,j,none⟩=false:=hs1;obtain ⟨t0,t1,t2,t3,t4⟩:=hy1.get5;have hl1:=hy1.1;clear hb1 hx1 hy1 hs1;(go_wp2_with fail);refine ret5 HY.out (v := .tuple #[xD.val,.bool false]) (fun w3 h3=>?_) rfl (fun w3 h3=>VerOk.of HB.out rfl (hbw1.trans (h3.mono (by omega))));obtain ⟨k0,k1,k2,k3,k4⟩:=h3.get5;simp [results,Tryz.results230,go_sem,xD,k0,k1,k2,k3,k4]
 ·by_cases h4:0 < v.pre.size
  ·obtain ⟨e4,n4⟩:=zj h4;have HB:=hid (next_pre hm (by rw [bts]; intro e; rw [e] at e4; simp at e4));go_enter Tryz.func230,Tryz.ntmps230;(go_wp2_with fail);refine (vm v _ hv).mono ?_;rintro _ w1 ⟨rfl,hb1⟩;rw [hm];have hs1:=(soft_2 (cs:=v.cells) (ds:=xD.cells) hb1).2;obtain ⟨hx1,hy1,hbw1⟩:=box_2 (cs:=v.cells) (ds:=xD.cells) hb1;have HY:=hid hy1;have hf:∀ j,w1.frozen? ⟨w.heap.size+1,j,none⟩=false:=hs1;obtain ⟨t0,t1,t2,t3,t4⟩:=hy1.get5;obtain ⟨z0,z1,z2,z3,z4⟩:=hx1.get5;have hl1:=hy1.1;clear hb1 hx1 hy1 hs1;(go_wp2_with fail);refine ret5 HY.out (v := .tuple #[(Ver.val ⟨v.maj,v.min,v.pat,⟨#[]⟩,⟨#[]⟩⟩),.bool true]) (fun w3 h3=>?_) rfl (fun w3 h3=>VerOk.of HB.out rfl (hbw1.trans (h3.mono (by omega))));obtain ⟨k0,k1,k2,k3,k4⟩:=h3.get5;simp [results,Tryz.results230,go_sem,k0,k1,k2,k3,k4]
  ·have e4:=yi h4;have HP:Hid (bts v.pre=[]):=hid (by rw [bts]; simpa using e4);have HM:=hid hm;go_enter Tryz.func230,Tryz.ntmps230;(go_wp2_with fail);refine (vm v _ hv).mono ?_;rintro _ w1 ⟨rfl,hb1⟩;rw [hm];have HS:=hid (soft_2 (cs:=v.cells) (ds:=xD.cells) hb1).2;obtain ⟨hx1,hy1,hbw1⟩:=box_2 (cs:=v.cells) (ds:=xD.cells) hb1;have HX:=hid hx1;have HY:=hid hy1;have HBW:=hid hbw1;obtain ⟨z0,z1,z2,z3,z4⟩:=hx1.get5;clear hb1 hx1 hy1 hbw1;(go_wp2_with fail);clear z0 z1 z2 z3 z4 hm;go_loopw [5,6,4] (fun _ _ i wr=>∃ k:Int,i = .int .i64 k∧Hid (NextInv v k)∧Hid (Below w1.heap.size w1 wr)) (fun _ _ i _=>(intOf i+1).toNat)
   case atStart=>exact ⟨2,rfl,.start v,Below.refl _ _⟩
   case round =>
    obtain ⟨k,rfl,HI,HR⟩:=hrel;by_cases hk:0≤k
    ·have HC:=hid (fun w'=>bump_any v k w' hv HM.out (by have:=HI.out.in_; omega));have HST:=hid (HI.out.step hk);have HYS:=hid (fun n=>HI.out.yes (n:=n) hk HM.out HP.out);have hin:=HI.out.in_;have y1:IntKind.i64.wrap (k - 1)=k - 1:=IntWalk.i64_in _ (by omega);have hX:=HX.out.below HR.out;have HYr:=hid (HY.out.below HR.out);have HSr:=hid (HS.out.below HY.out.1 HR.out);obtain ⟨z0,z1,z2,z3,z4⟩:=hX.get5;clear hX hin;generalize bumpL v k=r at *;obtain ⟨n,b⟩:=r;cases b with
     | false =>
      (go_wp2_with fail);refine (HC.out _).mono ?_;rintro _ w2 ⟨rfl,hb2⟩;clear z0 z1 z2 z3 z4;have HB2:=hid (HR.out.trans (hb2.mono HR.out.size));clear hb2;(go_wp2_with fail);go_roundw
      case rel=>exact ⟨k - 1,by go_num,HST.out (by trivial),HB2.out.trans ((zL _ _).mono HB2.out.size)⟩
      case measure=>simp [intOf]; omega
     | true =>
      (go_wp2_with fail);refine (HC.out _).mono ?_;rintro _ w2 ⟨rfl,hb2⟩;clear z0 z1 z2 z3 z4;have HB2:=hid (HBW.out.trans ((HR.out.trans (hb2.mono HR.out.size)).mono HBW.out.size));have hy2:=HYr.out.below hb2;have hs2:=HSr.out.below HYr.out.1 hb2;have hf0:∀ j,w2.frozen? ⟨w.heap.size+1,j,none⟩=false:=hs2;have HY2:=hid hy2;have hl2:=hy2.1;obtain ⟨t0,t1,t2,t3,t4⟩:=hy2.get5;clear hb2 hy2 hs2;(go_wp2_with fail);refine ret5n HY2.out (v := .tuple #[n.val,.bool true]) (fun w3 h3=>?_) rfl (fun w3 h3=>VerOk.of (HYS.out n (by trivial)) rfl (HB2.out.trans (h3.mono (by omega))));obtain ⟨k0,k1,k2,k3,k4⟩:=h3.get5;simp [results,Tryz.results230,go_sem,k0,k1,k2,k3,k4]
    ·(have hk1:k=-1:=by have:=HI.out.in_; omega);subst hk1;have HB:=hid (HI.out.no HM.out HP.out);have HYr:=hid (HY.out.below HR.out);have hf:∀ j,wr.frozen? ⟨w.heap.size+1,j,none⟩=false:=HS.out.below HY.out.1 HR.out;have HBR:=hid (HBW.out.trans (HR.out.mono HBW.out.size));obtain ⟨t0,t1,t2,t3,t4⟩:=HYr.out.get5;have hl2:=HYr.out.1;(go_wp2_with fail);refine ret5 HYr.out (v := .tuple #[xD.val,.bool false]) (fun w3 h3=>?_) rfl (fun w3 h3=>VerOk.of HB.out rfl (HBR.out.trans (h3.mono (by omega))));obtain ⟨k0,k1,k2,k3,k4⟩:=h3.get5;simp [results,Tryz.results230,go_sem,xD,k0,k1,k2,k3,k4]
theorem neqV0 (a:Ver) (w:World):(binOp .neq 27 a.val (.agg #[.int .i64 0,.int .i64 0,.int .i64 0,.string ⟨#[]⟩,.string ⟨#[]⟩])).run Tryz.prog w = .ok (.bool (!mj a xD)) w:=by
 have h:=eqV_in 9994 a xD w;rw [run_neq_struct];simp only [show (9994:Nat)+6=10000 from rfl] at h;rw [show (Op.equalIn 10000 27 (.agg #[.int .i64 a.maj,.int .i64 a.min,.int .i64 a.pat,.string a.pre,.string a.bld]) (.agg #[.int .i64 0,.int .i64 0,.int .i64 0,.string ⟨#[]⟩,.string ⟨#[]⟩])).run Tryz.prog w = .ok (mj a xD) w from h];rfl
def Vl (w:World):Prop:=Box w 0 xD.cells
theorem Vl.get {w:World} (h:Vl w):w.cell? ⟨0,0,none⟩=some (.int .i64 0)∧w.cell? ⟨0,1,none⟩=some (.int .i64 0)∧w.cell? ⟨0,2,none⟩=some (.int .i64 0)∧w.cell? ⟨0,3,none⟩=some (.string ⟨#[]⟩)∧w.cell? ⟨0,4,none⟩=some (.string ⟨#[]⟩):=Box.get5 h
theorem Vl.below {w w':World} (h:Vl w) (hb:Below w.heap.size w w'):Vl w':=Box.below h hb
theorem settled_cases (en:Int) (v:Ver) (aft:Bool):settledC ⟨en,v,aft⟩=((en != 0) || (!aft&&(bts v.pre).isEmpty&&!mj v xD)):=by
 rw [settledC];by_cases h:en=0<;>simp [h]
theorem settled_any (c:CutL) (w:World) (hg:Vl w):Calls Tryz.prog 139 #[c.val] w (yc w (settledC c)):=by
 generalize hr:settledC c=r;have HR:=hid hr;clear hr;have hq:=neqV0;have hqg:=eqgV0;obtain ⟨x0,x1,x2,x3,x4⟩:=Vl.get hg;have hl:=hg.1;clear hg;obtain ⟨en,v,aft⟩:=c;cases h3:(en != 0)
 ·cases aft
  ·by_cases h4:0 < v.pre.size
   ·obtain ⟨e4,n4⟩:=zj h4;go_enter Tryz.func139,Tryz.ntmps139;(go_wp2_with fail);go_ret;exact ⟨by rw [← HR.out,settled_cases,h3,bts,e4]; rfl,zL _ _⟩
   ·have e4:=yi h4;cases hv:mj v xD
    all_goals
     go_enter Tryz.func139,Tryz.ntmps139;(go_wp2_with fail);go_ret;exact ⟨by rw [← HR.out,settled_cases,h3,bts,e4,hv]; rfl,zL _ _⟩
  ·go_enter Tryz.func139,Tryz.ntmps139;(go_wp2_with fail);go_ret;exact ⟨by rw [← HR.out,settled_cases,h3]; rfl,zL _ _⟩
 ·go_enter Tryz.func139,Tryz.ntmps139;(go_wp2_with fail);go_ret;exact ⟨by rw [← HR.out,settled_cases,h3]; rfl,zL _ _⟩
theorem CutPost.of {w w':World} {c d:CutL} {e:Ending} (hc:c=d) (he:e = .returned d.val) (hb:Below w.heap.size w w'):CutPost w c e w':=by subst hc; exact ⟨he,hb⟩
theorem sahead_any (v:Ver) (w:World) (hg:Vl w):Calls Tryz.prog 212 #[v.val] w (CutPost w (aheadP v)):=by
 have hq:=eqlV0;have hqg:=eqgV0;obtain ⟨x0,x1,x2,x3,x4⟩:=Vl.get hg;have hl:=hg.1;clear hg;have hbb:=hid (zC (zL w (.cells v.cells.toArray 27)) (zL _ (.cells zeroC.cells.toArray 109)));cases hv:mj v xD
 ·have HC:=hid (show aheadP v=⟨0,v,false⟩ by rw [aheadP,hv]; rfl);go_enter Tryz.func212,Tryz.ntmps212;(go_wp2_with fail);refine bodyPost_ret (v:=CutL.val ⟨0,v,false⟩) (by simp [results,Tryz.results212,go_sem]) rfl (CutPost.of HC.out rfl ?_);exact zC (zL w (.cells v.cells.toArray 27)) (zL _ _)
 ·have HC:=hid (show aheadP v=rR by rw [aheadP,hv]; rfl);go_enter Tryz.func212,Tryz.ntmps212;(go_wp2_with fail);refine bodyPost_ret (v:=rR.val) (by simp [results,Tryz.results212,go_sem,rR,xD]) rfl (CutPost.of HC.out rfl ?_);exact zC (zL w (.cells v.cells.toArray 27)) (zL _ _)
theorem upto_any (v:Ver) (w:World) (hv:v.fit):Calls Tryz.prog 211 #[v.val] w (CutPost w (uptoL v)):=by
 have hn:=next_any v;have HU:=hid (show uptoL v=(if (nextL v).2 then ⟨0,(nextL v).1,false⟩ else ig:CutL) from rfl);generalize nextL v=r at *;obtain ⟨n,b⟩:=r;cases b
 all_goals
  go_enter Tryz.func211,Tryz.ntmps211;(go_wp2_with fail);refine (hn _ hv).mono ?_;rintro _ w1 ⟨rfl,hb1⟩;have HS:=hid (soft_2 (cs:=v.cells) (ds:=zeroC.cells) hb1).2;obtain ⟨_,hy1,hbw1⟩:=box_2 (cs:=v.cells) (ds:=zeroC.cells) hb1;have HY:=hid hy1;have hf:∀ j,w1.frozen? ⟨w.heap.size+1,j,none⟩=false:=HS.out;have hl1:=hy1.1;obtain ⟨t0,t1,t2,t3,t4,t5,t6⟩:=hy1.get7;have HBW:=hid hbw1;clear hb1 hy1 hbw1 hn;go_wp2_with fail
 ·refine ret7n HY.out (v:=ig.val) (fun w3 h3=>?_) rfl (fun w3 h3=>CutPost.of HU.out rfl (HBW.out.trans (h3.mono (by omega))));obtain ⟨k0,k1,k2,k3,k4,k5,k6⟩:=h3.get7;simp [results,Tryz.results211,go_sem,ig,xD,k0,k1,k2,k3,k4,k5,k6]
 ·refine ret7n HY.out (v:=CutL.val ⟨0,n,false⟩) (fun w3 h3=>?_) rfl (fun w3 h3=>CutPost.of HU.out rfl (HBW.out.trans (h3.mono (by omega))));obtain ⟨k0,k1,k2,k3,k4,k5,k6⟩:=h3.get7;simp [results,Tryz.results211,go_sem,k0,k1,k2,k3,k4,k5,k6]
theorem rleast_any (v:Ver) (w:World):Calls Tryz.prog 97 #[v.val] w (yc w (leastV v)):=by
 generalize hr:leastV v=r;have HR:=hid hr;clear hr;cases h1:(v.maj==0)
 ·go_enter Tryz.func97,Tryz.ntmps97;(go_wp2_with fail);go_ret;exact ⟨by rw [← HR.out,leastV,h1]; rfl,zL _ _⟩
 ·cases h2:(v.min==0)
  ·go_enter Tryz.func97,Tryz.ntmps97;(go_wp2_with fail);go_ret;exact ⟨by rw [← HR.out,leastV,h1,h2]; rfl,zL _ _⟩
  ·cases h3:(v.pat==0)
   all_goals
    go_enter Tryz.func97,Tryz.ntmps97;(go_wp2_with fail);go_ret;exact ⟨by rw [← HR.out,leastV,h1,h2,h3]; rfl,zL _ _⟩
theorem turned_any (c:CutL) (w:World) (hc:fB c=true) (hf:c.fit) (hg:Vl w):Calls Tryz.prog 184 #[c.val] w (CutPost w (turnedL c)):=by
 have HF:=hid (fun w'=>hg.below (w':=w'));have hf0:c.v.fit:=hf
 have HR:=hid (fun (h0:¬ c.en≠0) (e:c.v.pre.toList=[])=>show relV c.v=c.v from relV_self e (by
  rcases mayC_cases hc with ⟨_,_,hb⟩ | ⟨h1,_⟩
  ·exact hb
  ·omega))
 clear hc hf;have hsame:=@ahead_same;clear hsame hg;obtain ⟨en,v,aft⟩:=c;cases h3:(en != 0)
 ·(have h0:¬ en≠0:=by simpa using h3);cases aft
  ·skip
   have HU:=hid (show turnedL ⟨en,v,false⟩=aheadR v by rw [turnedL,if_neg h0]; rfl);go_enter Tryz.func184,Tryz.ntmps184;(go_wp2_with fail);refine (sahead_any ⟨v.maj,v.min,v.pat,⟨#[]⟩,⟨#[]⟩⟩ _ (HF.out _ (by first | exact zC (zL _ _) (zL _ _)))).mono ?_;rintro _ w1 ⟨rfl,hb1⟩;have hs1:=(soft_2 (cs:=(CutL.cells ⟨en,v,false⟩)) (ds:=zeroC.cells) hb1).2;obtain ⟨hx1,hy1,hbw1⟩:=box_2 (cs:=(CutL.cells ⟨en,v,false⟩)) (ds:=zeroC.cells) hb1;have HX:=hid hx1;have HY:=hid hy1;have HS:=hid hs1;have HBW:=hid hbw1;have hl0:=hx1.1;have hl1:=hy1.1;clear hb1 hx1 hy1 hbw1 hs1;rw [show aheadP ⟨v.maj,v.min,v.pat,⟨#[]⟩,⟨#[]⟩⟩=aheadR v from ahead_same];generalize aheadR v=u at *;have hf:∀ j,w1.frozen? ⟨w.heap.size+1,j,none⟩=false:=HS.out;obtain ⟨t0,t1,t2,t3,t4,t5,t6⟩:=HY.out.get7;have hlr:=HY.out.1;(go_wp2_with fail);refine ret7 HY.out (v:=u.val) (fun w3 h3=>?_) rfl (fun w3 h3=>CutPost.of HU.out rfl (HBW.out.trans (h3.mono (by omega))));obtain ⟨k0,k1,k2,k3,k4,k5,k6⟩:=h3.get7;simp [results,Tryz.results184,go_sem,k0,k1,k2,k3,k4,k5,k6]
  ·by_cases h4:0 < v.pre.size
   ·obtain ⟨e4,n4⟩:=zj h4;have HU:=hid (show turnedL ⟨en,v,true⟩=aheadR v by rw [turnedL,if_neg h0,bts,e4]; rfl);go_enter Tryz.func184,Tryz.ntmps184;(go_wp2_with fail);refine (sahead_any ⟨v.maj,v.min,v.pat,⟨#[]⟩,⟨#[]⟩⟩ _ (HF.out _ (by first | exact zC (zL _ _) (zL _ _)))).mono ?_;rintro _ w1 ⟨rfl,hb1⟩;have hs1:=(soft_2 (cs:=(CutL.cells ⟨en,v,true⟩)) (ds:=zeroC.cells) hb1).2;obtain ⟨hx1,hy1,hbw1⟩:=box_2 (cs:=(CutL.cells ⟨en,v,true⟩)) (ds:=zeroC.cells) hb1;have HX:=hid hx1;have HY:=hid hy1;have HS:=hid hs1;have HBW:=hid hbw1;have hl0:=hx1.1;have hl1:=hy1.1;clear hb1 hx1 hy1 hbw1 hs1;rw [show aheadP ⟨v.maj,v.min,v.pat,⟨#[]⟩,⟨#[]⟩⟩=aheadR v from ahead_same];generalize aheadR v=u at *;have hf:∀ j,w1.frozen? ⟨w.heap.size+1,j,none⟩=false:=HS.out;obtain ⟨t0,t1,t2,t3,t4,t5,t6⟩:=HY.out.get7;have hlr:=HY.out.1;(go_wp2_with fail);refine ret7 HY.out (v:=u.val) (fun w3 h3=>?_) rfl (fun w3 h3=>CutPost.of HU.out rfl (HBW.out.trans (h3.mono (by omega))));obtain ⟨k0,k1,k2,k3,k4,k5,k6⟩:=h3.get7;simp [results,Tryz.results184,go_sem,k0,k1,k2,k3,k4,k5,k6]
   ·have e4:=yi h4;have HU:=hid (show turnedL ⟨en,v,true⟩=uptoL (relV v) by rw [turnedL,if_neg h0,bts,e4]; rfl);go_enter Tryz.func184,Tryz.ntmps184;(go_wp2_with fail);refine (upto_any v _ hf0).mono ?_;rintro _ w1 ⟨rfl,hb1⟩;have hs1:=(soft_2 (cs:=(CutL.cells ⟨en,v,true⟩)) (ds:=zeroC.cells) hb1).2;obtain ⟨hx1,hy1,hbw1⟩:=box_2 (cs:=(CutL.cells ⟨en,v,true⟩)) (ds:=zeroC.cells) hb1;have HX:=hid hx1;have HY:=hid hy1;have HS:=hid hs1;have HBW:=hid hbw1;have hl0:=hx1.1;have hl1:=hy1.1;clear hb1 hx1 hy1 hbw1 hs1;rw [HR.out h0 e4] at HU;generalize uptoL v=u at *;have hf:∀ j,w1.frozen? ⟨w.heap.size+1,j,none⟩=false:=HS.out;obtain ⟨t0,t1,t2,t3,t4,t5,t6⟩:=HY.out.get7;have hlr:=HY.out.1;(go_wp2_with fail);refine ret7 HY.out (v:=u.val) (fun w3 h3=>?_) rfl (fun w3 h3=>CutPost.of HU.out rfl (HBW.out.trans (h3.mono (by omega))));obtain ⟨k0,k1,k2,k3,k4,k5,k6⟩:=h3.get7;simp [results,Tryz.results184,go_sem,k0,k1,k2,k3,k4,k5,k6]
 ·(have h0:en≠0:=by simpa using h3);have HU:=hid (show turnedL ⟨en,v,aft⟩=⟨en,v,aft⟩ by rw [turnedL,if_pos h0]);go_enter Tryz.func184,Tryz.ntmps184;(go_wp2_with fail);refine bodyPost_ret (v:=CutL.val ⟨en,v,aft⟩) (by simp [results,Tryz.results184,go_sem]) rfl (CutPost.of HU.out rfl ?_);exact zC (zL w (.cells (CutL.cells ⟨en,v,aft⟩).toArray 109)) (zL _ _)
abbrev setV (A:Option Addr) (n c:Nat) (B:Option Addr) (m d:Nat):Value := .agg #[.slice A n c,.slice B m d]
theorem Box.get2 {w:World} {g:Nat} {x0 x1:Value} (h:Box w g [x0,x1]):w.cell? ⟨g,0,none⟩=some x0∧w.cell? ⟨g,1,none⟩=some x1:=⟨h.2 0 _ rfl,h.2 1 _ rfl⟩
def settledS (s:SpanL):Bool:=settledC s.fr&&settledC s.til
def settledR (l:List SpanL):Bool:=l.all settledS
def mayS (l m:List SpanL):Bool:=settledR l&&mayR l&&mayR m
def settledTo (l:List SpanL) (k:Nat):Prop:=∀ j,j < k→settledS (nth l j)=true
theorem settledTo_step {l:List SpanL} {k:Nat} (h:settledTo l k) (h1:settledS (nth l k)=true):settledTo l (k+1):=by
 intro j hj;rcases Nat.lt_or_ge j k with h' | h'
 ·exact h j h'
 ·(obtain rfl:j=k:=by omega);exact h1
theorem settledTo_end {l:List SpanL} (h:settledTo l l.length):settledR l=true:=by
 rw [settledR,List.all_eq_true];intro s hs;obtain ⟨i,hi,rfl⟩:=List.getElem_of_mem hs;have:=h i hi
 rwa [nth_lt hi] at this
theorem settledTo_no {l:List SpanL} {k:Nat} (hk:k < l.length) (h:settledS (nth l k)=false):settledR l=false:=by
 rw [settledR,List.all_eq_false];exact ⟨_,List.getElem_mem hk,by rw [nth_lt hk] at h; simp [h]⟩
theorem smay_any (A B:Option Addr) (c d:Nat) (l m:List SpanL) (w:World) (hg:Vl w) (hl:Spans w A l) (hm:Spans w B m) (hfl:fitL l) (hfm:fitL m) (hln:l.length≤4398046511104) (hmn:m.length≤4398046511104) :
 Calls Tryz.prog 92 #[setV A l.length c B m.length d] w (yc w (mayS l m)):=by
 generalize hr:mayS l m=r
 have HR:=hid hr
 have HG:=hid hg
 have HL:=hid hl
 have HM:=hid hm
 have HC:=hid (fun w' (h:Spans w' A l)=>rowmay_any A c l w' h hfl hln)
 have HD:=hid (fun w' (h:Spans w' B m)=>rowmay_any B d m w' h hfm hmn)
 clear hr hg hl hm hfl hfm
 generalize hn:l.length=n at *
 have HN:=hid hn
 generalize m.length=n2 at *
 clear hn
 go_enter Tryz.func92,Tryz.ntmps92
 go_wp2_with fail
 refine zI ?_
 intro w0 hw0
 have HB0:Hid (Below w.heap.size w w0):=hid (by rw [hw0]; exact zL _ _)
 have HX:Hid (Box w0 w.heap.size [.slice A n c,.slice B n2 d]):=hid (by rw [hw0]; exact Box.new w [.slice A n c,.slice B n2 d] _)
 have HG0:=hid (HG.out.below HB0.out)
 have HL0:=hid (HL.out.below HB0.out)
 have HM0:=hid (HM.out.below HB0.out)
 clear hw0 HG HL HM
 go_loopw [4,8] (fun _ i wr=>∃ k:Nat,i = .int .i64 k∧k≤n∧Hid (settledTo l k)∧Hid (Below w0.heap.size w0 wr)) (fun _ i _=>n - (intOf i).toNat)
 case atStart=>exact ⟨0,rfl,Nat.zero_le _,fun j hj=>by omega,Below.refl _ _⟩
 case round =>
  obtain ⟨k,rfl,hk,HS,HBR⟩:=hrel;have HLr:=hid (HL0.out.below HBR.out);by_cases hlt:k < n
  ·(have hlt':k < l.length:=by rw [HN.out]; exact hlt);obtain ⟨b,off,rfl,hbl,⟨x0,x1,x2,x3,x4,x5,x6⟩,z0,z1,z2,z3,z4,z5,z6⟩:=HLr.out.at_ (k:=k) hlt';(have i0:(0:Int)≤(k:Int):=by omega);(have i1:(k:Int) < (n:Int):=by omega);have HNO:=hid (fun h=>settledTo_no (k:=k) hlt' h);have HST:=hid (fun h=>settledTo_step (k:=k) HS.out h);generalize nth l k=s at *;have HBN:=hid (zL wr (.cells s.cells.toArray 111));have HX0:=hid (Box.new wr s.cells 111);have HF:=hid (fun w'=>(HG0.out.below (HBR.out.trans (HBN.out.mono HBR.out.size))).below (w':=w'));have HF1:=hid ((HG0.out.below HBR.out).below HBN.out);cases h1:settledC s.fr
   ·have HE:=hid (HNO.out (by rw [settledS,h1]; rfl));(go_wp2_with fail);refine (settled_any s.fr _ HF1.out).mono ?_;rintro _ w1 ⟨rfl,hb1⟩;rw [h1];clear x0 x1 x2 x3 x4 x5 x6 z0 z1 z2 z3 z4 z5 z6;(go_wp2_with fail);go_ret;exact ⟨by rw [← HR.out,mayS,HE.out]; rfl,zC HB0.out (zC HBR.out (zC HBN.out hb1))⟩
   ·cases h2:settledC s.til
    ·have HE:=hid (HNO.out (by rw [settledS,h1,h2]; rfl));(go_wp2_with fail);refine (settled_any s.fr _ HF1.out).mono ?_;rintro _ w1 ⟨rfl,hb1⟩;rw [h1];have HB1:=hid hb1;have HF2:=hid (HF.out _ hb1);obtain ⟨⟨p0,p1,p2,p3,p4,p5,p6⟩,q0,q1,q2,q3,q4,q5,q6⟩:=(HX0.out.below hb1).get14;clear x0 x1 x2 x3 x4 x5 x6 z0 z1 z2 z3 z4 z5 z6 hb1;(go_wp2_with fail);refine (settled_any s.til _ HF2.out).mono ?_;rintro _ w2 ⟨rfl,hb2⟩;rw [h2];clear p0 p1 p2 p3 p4 p5 p6 q0 q1 q2 q3 q4 q5 q6;(go_wp2_with fail);go_ret;exact ⟨by rw [← HR.out,mayS,HE.out]; rfl,zC HB0.out (zC HBR.out (zC HBN.out (zC HB1.out hb2)))⟩
    ·have HE:=hid (HST.out (by rw [settledS,h1,h2]; rfl));(go_wp2_with fail);refine (settled_any s.fr _ HF1.out).mono ?_;rintro _ w1 ⟨rfl,hb1⟩;rw [h1];have HB1:=hid hb1;have HF2:=hid (HF.out _ hb1);obtain ⟨⟨p0,p1,p2,p3,p4,p5,p6⟩,q0,q1,q2,q3,q4,q5,q6⟩:=(HX0.out.below hb1).get14;clear x0 x1 x2 x3 x4 x5 x6 z0 z1 z2 z3 z4 z5 z6 hb1;(go_wp2_with fail);refine (settled_any s.til _ HF2.out).mono ?_;rintro _ w2 ⟨rfl,hb2⟩;rw [h2];clear p0 p1 p2 p3 p4 p5 p6 q0 q1 q2 q3 q4 q5 q6;have HB2:=hid hb2;clear hb2;(go_wp2_with fail);go_roundw
     case rel=>exact ⟨k+1,by go_num,by omega,HE.out,zC HBR.out (zC HBN.out (zC HB1.out HB2.out))⟩
     case measure=>simp [intOf]; omega
  ·(obtain rfl:k=n:=by omega);have HE:=hid (settledTo_end (l:=l) (by rw [HN.out]; exact HS.out));obtain ⟨y0,y1⟩:=(HX.out.below HBR.out).get2;cases h1:mayR l
   ·(go_wp2_with fail);refine (HC.out _ HLr.out).mono ?_;rintro _ w1 ⟨rfl,hb1⟩;rw [h1];clear y0 y1;(go_wp2_with fail);go_ret;exact ⟨by rw [← HR.out,mayS,HE.out,h1]; rfl,zC HB0.out (zC HBR.out hb1)⟩
   ·(go_wp2_with fail);refine (HC.out _ HLr.out).mono ?_;rintro _ w1 ⟨rfl,hb1⟩;rw [h1];have HB1:=hid hb1;have HM1:=hid ((HM0.out.below HBR.out).below hb1);clear y0 y1;obtain ⟨y0,y1⟩:=((HX.out.below HBR.out).below hb1).get2;clear hb1;(go_wp2_with fail);refine (HD.out _ HM1.out).mono ?_;rintro _ w2 ⟨rfl,hb2⟩;clear y0 y1;(go_wp2_with fail);go_ret;exact ⟨by rw [← HR.out,mayS,HE.out,h1]; rfl,zC HB0.out (zC HBR.out (zC HB1.out hb2))⟩
def hasS (l m:List SpanL) (v:Ver):Bool:=mayS l m&&yF v&&(if (bts v.pre).isEmpty then hasR l v else hasR m v)
def sameS (l m p q:List SpanL):Bool:=sameR l p&&sameR m q
def SetPost (w:World) (l m:List SpanL) (e:Ending) (w':World):Prop:=∃ A c B d,e = .returned (setV A l.length c B m.length d)∧SpanB w' w.heap.size A l∧SpanB w' w.heap.size B m∧Below w.heap.size w w'
def NonePost (w:World) (e:Ending) (w':World):Prop:=e = .returned (setV none 0 0 none 0 0)∧Below w.heap.size w w'
theorem NonePost.set {w:World} {e:Ending} {w':World} (h:NonePost w e w'):SetPost w [] [] e w':=⟨none,0,none,0,h.1,SpanB.nil _ _,SpanB.nil _ _,h.2⟩
theorem snone_any (w:World):Calls Tryz.prog 30 #[] w (NonePost w):=by
 go_enter Tryz.func30,Tryz.ntmps30;go_wp2;refine bodyPost_ret (v:=setV none 0 0 none 0 0) (by simp [results,Tryz.results30,go_sem]) rfl ⟨rfl,?_⟩;exact zL _ _
theorem rsnone_any (w:World):Calls Tryz.prog 18 #[] w (NonePost w):=by
 go_enter Tryz.func18,Tryz.ntmps18;go_wp2;refine bodyPost_ret (v:=setV none 0 0 none 0 0) (by simp [results,Tryz.results18,go_sem]) rfl ⟨rfl,?_⟩;exact zL _ _
def wholeL:List SpanL:=[⟨rR,ig⟩]
def WholePost (w:World) (e:Ending) (w':World):Prop:=∃ A c,e = .returned (.slice A 1 c)∧SpanB w' w.heap.size A wholeL∧Below w.heap.size w w'
theorem whole_any (w:World):Calls Tryz.prog 50 #[] w (WholePost w):=by
 go_enter Tryz.func50,Tryz.ntmps50;go_wp2;go_ret;exact ⟨_,_,rfl,⟨Spans.one (Box.new w (SpanL.cells ⟨rR,ig⟩) 111),fun ad e=>by injection e with e; rw [← e]; exact Nat.le_refl _⟩,zL _ _⟩
theorem sall_any (w:World):Calls Tryz.prog 31 #[] w (SetPost w wholeL wholeL):=by
 have HB0:=hid (zL w (.cells [Value.slice none 0 0,.slice none 0 0].toArray 42));have HX:=hid (Box.new w [Value.slice none 0 0,.slice none 0 0] 42);have HS:=hid (Soft.new w [Value.slice none 0 0,.slice none 0 0].toArray 42);go_enter Tryz.func31,Tryz.ntmps31;(go_wp2_with fail);refine (whole_any _).mono ?_;rintro _ w1 ⟨A,c,rfl,h1,hb1⟩;have HX1:=hid (HX.out.below hb1);have HS1:=hid (HS.out.below HX.out.1 hb1);have HB1:=hid (zC HB0.out hb1);have H1:=hid h1;clear h1 hb1;(go_wp2_with fail);refine (whole_any _).mono ?_;rintro _ w2 ⟨B,d,rfl,h2,hb2⟩;have HX2:=hid (HX1.out.below hb2);have hf:∀ j,w2.frozen? ⟨w.heap.size,j,none⟩=false:=HS1.out.below HX1.out.1 hb2;have HB2:=hid (zC HB1.out hb2);have HA:=hid (H1.out.below hb2);have HBB:=hid h2;obtain ⟨y0,y1⟩:=HX2.out.get2;have hlt:=HX2.out.1;clear h2 hb2;have hg1:=HB0.out.size;have hg2:=HX.out.1;have hg3:=HX1.out.1;(go_wp2_with fail);refine ret2 HX2.out (v:=setV A 1 c B 1 d) (fun w3 h3=>?_) rfl (fun h3=>⟨A,c,B,d,rfl,(HA.out.set (by omega)).low (by omega),(HBB.out.set (by omega)).low (by omega),HB2.out.trans h3⟩);obtain ⟨k0,k1⟩:=h3.get2;simp [results,Tryz.results31,go_sem,k0,k1]
def RowN (w:World) (l:List SpanL) (e:Ending) (w':World):Prop:=∃ A c,e = .returned (.slice A l.length c)∧SpanB w' w.heap.size A l∧Below w.heap.size w w'
theorem RowPost.n {w:World} {l:List SpanL} {e:Ending} {w':World} (h:RowPost w w.heap.size l e w'):RowN w l e w':=by
 obtain ⟨v,rfl,h1,h2,_⟩:=h;obtain ⟨A,c,rfl,h3⟩:=SpanB.own h1;exact ⟨A,c,rfl,h3,h2⟩
theorem callN {P:Program} {f:FuncId} {args:Array Value} {w:World} {l:List SpanL} (h:Calls P f args w (RowPost w w.heap.size l)):Calls P f args w (RowN w l):=h.mono fun _ _ h=>RowPost.n h
theorem srowsOr_do (A B:Option Addr) (c d:Nat) (l m:List SpanL) (w:World) (hl:Spans w A l) (hm:Spans w B m) (hfl:fitL l) (hfm:fitL m) (hln:l.length+2 * m.length≤39999):Calls Tryz.prog 135 #[.slice A l.length c,.slice B m.length d] w (RowN w (rorL l m)):=callN (por_any w.heap.size A B c d l m w hl hm hfl hfm (by omega) (Nat.le_refl _))
theorem srowsOr (A B C D:Option Addr) (c d c2 d2:Nat) (l m p q:List SpanL) (w:World) (hg:Vl w) (hl:Spans w A l) (hm:Spans w B m) (hp:Spans w C p) (hq:Spans w D q) (hfl:fitL l) (hfm:fitL m) (hfp:fitL p) (hfq:fitL q)
 (hln:l.length≤10000) (hmn:m.length≤10000) (hpn:p.length≤10000) (hqn:q.length≤10000) :
 Calls Tryz.prog 53 #[setV A l.length c B m.length d,setV C p.length c2 D q.length d2,.func (.func 135) #[] #[]] w (SetPost w (if mayS l m&&mayS p q then rorL l p else []) (if mayS l m&&mayS p q then rorL m q else [])):=by
 have HB0:=hid (zC (zC (zL w (.cells [.slice A l.length c,.slice B m.length d].toArray 42)) (zL _ (.cells [.slice C p.length c2,.slice D q.length d2].toArray 42))) (zL _ (.cells [Value.slice none 0 0,.slice none 0 0].toArray 42)))
 have HY:=hid (smay_any A B c d l m _ (hg.below HB0.out) (hl.below HB0.out) (hm.below HB0.out) hfl hfm (by omega) (by omega))
 have HZ:=hid (fun w' (h:Below w.heap.size w w')=>smay_any C D c2 d2 p q w' (hg.below h) (hp.below h) (hq.below h) hfp hfq (by omega) (by omega))
 have HD1:=hid (fun w' (h:Below w.heap.size w w')=>srowsOr_do A C c c2 l p w' (hl.below h) (hp.below h) hfl hfp (by omega))
 have HD2:=hid (fun w' (h:Below w.heap.size w w')=>srowsOr_do B D d d2 m q w' (hm.below h) (hq.below h) hfm hfq (by omega))
 clear hg hl hm hp hq hfl hfm hfp hfq
 generalize l.length=n at *
 generalize m.length=n2 at *
 generalize p.length=n3 at *
 generalize q.length=n4 at *
 cases h1:mayS l m
 ·go_enter Tryz.func53,Tryz.ntmps53;(go_wp2_with fail);refine HY.out.mono ?_;rintro _ w1 ⟨rfl,hb1⟩;rw [h1];obtain ⟨_,_,hy,hs,hb⟩:=box_3 (cs:=[.slice A n c,.slice B n2 d]) (ds:=[.slice C n3 c2,.slice D n4 d2]) (es:=[.slice none 0 0,.slice none 0 0]) hb1;have HX:=hid hy;have HS:=hid hs;have HB1:=hid hb;clear hb1 hy hs hb;(go_wp2_with fail);refine (snone_any _).mono ?_;rintro _ w2 ⟨rfl,hb2⟩;have HX2:=hid (HX.out.below hb2);have hf:∀ j,w2.frozen? ⟨w.heap.size+1+1,j,none⟩=false:=HS.out.below HX.out.1 hb2;have HB2:=hid (zC HB1.out hb2);obtain ⟨y0,y1⟩:=HX2.out.get2;have hlt:=HX2.out.1;clear hb2;(go_wp2_with fail);refine ret2 HX2.out (v:=setV none 0 0 none 0 0) (fun w3 h3=>?_) rfl (fun h3=>NonePost.set ⟨rfl,HB2.out.trans (h3.mono (by omega))⟩);obtain ⟨k0,k1⟩:=h3.get2;simp [results,Tryz.results53,go_sem,k0,k1]
 ·cases h2:mayS p q
  ·go_enter Tryz.func53,Tryz.ntmps53;(go_wp2_with fail);refine HY.out.mono ?_;rintro _ w1 ⟨rfl,hb1⟩;rw [h1];obtain ⟨_,hx,hy,hs,hb⟩:=box_3 (cs:=[.slice A n c,.slice B n2 d]) (ds:=[.slice C n3 c2,.slice D n4 d2]) (es:=[.slice none 0 0,.slice none 0 0]) hb1;have HX:=hid hy;have HS:=hid hs;have HB1:=hid hb;obtain ⟨z0,z1⟩:=hx.get2;clear hb1 hx hy hs hb;(go_wp2_with fail);refine (HZ.out _ HB1.out).mono ?_;rintro _ w2 ⟨rfl,hb2⟩;rw [h2];have HX2:=hid (HX.out.below hb2);have HS2:=hid (HS.out.below HX.out.1 hb2);have HB2:=hid (zC HB1.out hb2);clear hb2 z0 z1;(go_wp2_with fail);refine (snone_any _).mono ?_;rintro _ w3 ⟨rfl,hb3⟩;have HX3:=hid (HX2.out.below hb3);have hf:∀ j,w3.frozen? ⟨w.heap.size+1+1,j,none⟩=false:=HS2.out.below HX2.out.1 hb3;have HB3:=hid (zC HB2.out hb3);obtain ⟨y0,y1⟩:=HX3.out.get2;have hlt:=HX3.out.1;clear hb3;(go_wp2_with fail);refine ret2 HX3.out (v:=setV none 0 0 none 0 0) (fun w3 h3=>?_) rfl (fun h3=>NonePost.set ⟨rfl,HB3.out.trans (h3.mono (by omega))⟩);obtain ⟨k0,k1⟩:=h3.get2;simp [results,Tryz.results53,go_sem,k0,k1]
  ·go_enter Tryz.func53,Tryz.ntmps53;(go_wp2_with fail);refine HY.out.mono ?_;rintro _ w1 ⟨rfl,hb1⟩;rw [h1];obtain ⟨hw,hx,hy,hs,hb⟩:=box_3 (cs:=[.slice A n c,.slice B n2 d]) (ds:=[.slice C n3 c2,.slice D n4 d2]) (es:=[.slice none 0 0,.slice none 0 0]) hb1;have HW:=hid hw;have HV:=hid hx;have HX:=hid hy;have HS:=hid hs;have HB1:=hid hb;obtain ⟨z0,z1⟩:=hx.get2;clear hb1 hw hx hy hs hb;(go_wp2_with fail);refine (HZ.out _ HB1.out).mono ?_;rintro _ w2 ⟨rfl,hb2⟩;rw [h2];have HX2:=hid (HX.out.below hb2);have HS2:=hid (HS.out.below HX.out.1 hb2);have HB2:=hid (zC HB1.out hb2);have HK:=hid (fun w' (h:Below w2.heap.size w2 w')=>((fun (a:_∧_) (b:_∧_)=>⟨a.1,a.2,b.1,b.2⟩) ((HW.out.below hb2).below h).get2 ((HV.out.below hb2).below h).get2:w'.cell? ⟨w.heap.size,0,none⟩=some (.slice A n c)∧w'.cell? ⟨w.heap.size,1,none⟩=some (.slice B n2 d)∧w'.cell? ⟨w.heap.size+1,0,none⟩=some (.slice C n3 c2)∧w'.cell? ⟨w.heap.size+1,1,none⟩=some (.slice D n4 d2)));have HR:=hid (fun w' (h:Below w2.heap.size w2 w')=>And.intro (HX2.out.below h) (HS2.out.below HX2.out.1 h));have HC1:=hid (fun w' (h:Below w2.heap.size w2 w')=>HD1.out w' (zC HB2.out h));have HC2:=hid (fun w' (h:Below w2.heap.size w2 w')=>HD2.out w' (zC HB2.out h));clear hb2 z0 z1 HD1 HD2 HZ HY HB1 HB0 HX HS HV HW;have HG:Hid (w.heap.size+1+1 < w2.heap.size):=hid HX2.out.1;clear HX2 HS2;go_wp2_with fail
   (have q1:¬ w.heap.size+1+1=w.heap.size:=by omega);have q2:¬ w.heap.size+1+1=w.heap.size+1:=by omega
   go_region_held3 (fun w'=>w'.cell? ⟨w.heap.size,0,none⟩=some (.slice A n c)∧w'.cell? ⟨w.heap.size,1,none⟩=some (.slice B n2 d)∧w'.cell? ⟨w.heap.size+1,0,none⟩=some (.slice C n3 c2)∧w'.cell? ⟨w.heap.size+1,1,none⟩=some (.slice D n4 d2))
    (first | (exact HK.out _ (by first | assumption | exact (Below.refl _ _).drew)) | go_keep)
    (first
     | (go_at_call_of 135 A; (with_reducible refine (HC1.out _ (by first | assumption | exact (Below.refl _ _).drew)).mono ?_); rintro _ w4 ⟨A4,c4,rfl,s4,k4⟩; have hb4:Below w2.heap.size w2 w4:=zC (by first | assumption | exact (Below.refl _ _).drew) k4; obtain ⟨a0,a1⟩:=(HR.out _ hb4).1.get2; have a2:∀ j,w4.frozen? ⟨w.heap.size+1+1,j,none⟩=false:=(HR.out _ hb4).2)
     | (go_at_call_of 135 B; (with_reducible refine (HC2.out _ (by first | assumption | exact (Below.refl _ _).drew)).mono ?_); rintro _ w5 ⟨A5,c5,rfl,s5,k5⟩; have hb5:Below w2.heap.size w2 w5:=zC (by first | assumption | exact (Below.refl _ _).drew) k5; obtain ⟨b0,b1⟩:=(HR.out _ hb5).1.get2; have b2:∀ j,w5.frozen? ⟨w.heap.size+1+1,j,none⟩=false:=(HR.out _ hb5).2))
   have HA:=hid (SpanB.low (s4.below k5) (show w2.heap.size≤_ from Nat.le_refl _));have HE:=hid (SpanB.low s5 (show w2.heap.size≤_ from hb4.size));have HX5:=hid (HR.out _ hb5).1;have HB5:=hid (zC HB2.out hb5);have hg:=HG.out;have hgw:=HB2.out.size;clear s4 s5 k4 k5 hb4 hb5 a0 a1 a2 b0 b1 b2 q1 q2;(go_wp2_with fail);refine ret2 HX5.out (v:=setV A4 _ c4 A5 _ c5) (fun w3 h3=>?_) rfl (fun h3=>⟨A4,c4,A5,c5,rfl,(HA.out.set hg).low hgw,(HE.out.set hg).low hgw,HB5.out.trans (h3.mono (by omega))⟩);obtain ⟨k0,k1⟩:=h3.get2;simp [results,Tryz.results53,go_sem,k0,k1]
theorem srowsAnd_do (A B:Option Addr) (c d:Nat) (l m:List SpanL) (w:World) (hl:Spans w A l) (hm:Spans w B m) (hfl:fitL l) (hfm:fitL m) (hln:l.length+2 * m.length≤39999):Calls Tryz.prog 54 #[.slice A l.length c,.slice B m.length d] w (RowN w (randL l m)):=callN (and_any w.heap.size A B c d l m w hl hm hfl hfm (by omega) (Nat.le_refl _))
theorem srowsAnd (A B C D:Option Addr) (c d c2 d2:Nat) (l m p q:List SpanL) (w:World) (hg:Vl w) (hl:Spans w A l) (hm:Spans w B m) (hp:Spans w C p) (hq:Spans w D q) (hfl:fitL l) (hfm:fitL m) (hfp:fitL p) (hfq:fitL q)
 (hln:l.length≤10000) (hmn:m.length≤10000) (hpn:p.length≤10000) (hqn:q.length≤10000) :
 Calls Tryz.prog 53 #[setV A l.length c B m.length d,setV C p.length c2 D q.length d2,.func (.func 54) #[] #[]] w (SetPost w (if mayS l m&&mayS p q then randL l p else []) (if mayS l m&&mayS p q then randL m q else [])):=by
 have HB0:=hid (zC (zC (zL w (.cells [.slice A l.length c,.slice B m.length d].toArray 42)) (zL _ (.cells [.slice C p.length c2,.slice D q.length d2].toArray 42))) (zL _ (.cells [Value.slice none 0 0,.slice none 0 0].toArray 42)))
 have HY:=hid (smay_any A B c d l m _ (hg.below HB0.out) (hl.below HB0.out) (hm.below HB0.out) hfl hfm (by omega) (by omega))
 have HZ:=hid (fun w' (h:Below w.heap.size w w')=>smay_any C D c2 d2 p q w' (hg.below h) (hp.below h) (hq.below h) hfp hfq (by omega) (by omega))
 have HD1:=hid (fun w' (h:Below w.heap.size w w')=>srowsAnd_do A C c c2 l p w' (hl.below h) (hp.below h) hfl hfp (by omega))
 have HD2:=hid (fun w' (h:Below w.heap.size w w')=>srowsAnd_do B D d d2 m q w' (hm.below h) (hq.below h) hfm hfq (by omega))
 clear hg hl hm hp hq hfl hfm hfp hfq
 generalize l.length=n at *
 generalize m.length=n2 at *
 generalize p.length=n3 at *
 generalize q.length=n4 at *
 cases h1:mayS l m
 ·go_enter Tryz.func53,Tryz.ntmps53;(go_wp2_with fail);refine HY.out.mono ?_;rintro _ w1 ⟨rfl,hb1⟩;rw [h1];obtain ⟨_,_,hy,hs,hb⟩:=box_3 (cs:=[.slice A n c,.slice B n2 d]) (ds:=[.slice C n3 c2,.slice D n4 d2]) (es:=[.slice none 0 0,.slice none 0 0]) hb1;have HX:=hid hy;have HS:=hid hs;have HB1:=hid hb;clear hb1 hy hs hb;(go_wp2_with fail);refine (snone_any _).mono ?_;rintro _ w2 ⟨rfl,hb2⟩;have HX2:=hid (HX.out.below hb2);have hf:∀ j,w2.frozen? ⟨w.heap.size+1+1,j,none⟩=false:=HS.out.below HX.out.1 hb2;have HB2:=hid (zC HB1.out hb2);obtain ⟨y0,y1⟩:=HX2.out.get2;have hlt:=HX2.out.1;clear hb2;(go_wp2_with fail);refine ret2 HX2.out (v:=setV none 0 0 none 0 0) (fun w3 h3=>?_) rfl (fun h3=>NonePost.set ⟨rfl,HB2.out.trans (h3.mono (by omega))⟩);obtain ⟨k0,k1⟩:=h3.get2;simp [results,Tryz.results53,go_sem,k0,k1]
 ·cases h2:mayS p q
  ·go_enter Tryz.func53,Tryz.ntmps53;(go_wp2_with fail);refine HY.out.mono ?_;rintro _ w1 ⟨rfl,hb1⟩;rw [h1];obtain ⟨_,hx,hy,hs,hb⟩:=box_3 (cs:=[.slice A n c,.slice B n2 d]) (ds:=[.slice C n3 c2,.slice D n4 d2]) (es:=[.slice none 0 0,.slice none 0 0]) hb1;have HX:=hid hy;have HS:=hid hs;have HB1:=hid hb;obtain ⟨z0,z1⟩:=hx.get2;clear hb1 hx hy hs hb;(go_wp2_with fail);refine (HZ.out _ HB1.out).mono ?_;rintro _ w2 ⟨rfl,hb2⟩;rw [h2];have HX2:=hid (HX.out.below hb2);have HS2:=hid (HS.out.below HX.out.1 hb2);have HB2:=hid (zC HB1.out hb2);clear hb2 z0 z1;(go_wp2_with fail);refine (snone_any _).mono ?_;rintro _ w3 ⟨rfl,hb3⟩;have HX3:=hid (HX2.out.below hb3);have hf:∀ j,w3.frozen? ⟨w.heap.size+1+1,j,none⟩=false:=HS2.out.below HX2.out.1 hb3;have HB3:=hid (zC HB2.out hb3);obtain ⟨y0,y1⟩:=HX3.out.get2;have hlt:=HX3.out.1;clear hb3;(go_wp2_with fail);refine ret2 HX3.out (v:=setV none 0 0 none 0 0) (fun w3 h3=>?_) rfl (fun h3=>NonePost.set ⟨rfl,HB3.out.trans (h3.mono (by omega))⟩);obtain ⟨k0,k1⟩:=h3.get2;simp [results,Tryz.results53,go_sem,k0,k1]
  ·go_enter Tryz.func53,Tryz.ntmps53;(go_wp2_with fail);refine HY.out.mono ?_;rintro _ w1 ⟨rfl,hb1⟩;rw [h1];obtain ⟨hw,hx,hy,hs,hb⟩:=box_3 (cs:=[.slice A n c,.slice B n2 d]) (ds:=[.slice C n3 c2,.slice D n4 d2]) (es:=[.slice none 0 0,.slice none 0 0]) hb1;have HW:=hid hw;have HV:=hid hx;have HX:=hid hy;have HS:=hid hs;have HB1:=hid hb;obtain ⟨z0,z1⟩:=hx.get2;clear hb1 hw hx hy hs hb;(go_wp2_with fail);refine (HZ.out _ HB1.out).mono ?_;rintro _ w2 ⟨rfl,hb2⟩;rw [h2];have HX2:=hid (HX.out.below hb2);have HS2:=hid (HS.out.below HX.out.1 hb2);have HB2:=hid (zC HB1.out hb2);have HK:=hid (fun w' (h:Below w2.heap.size w2 w')=>((fun (a:_∧_) (b:_∧_)=>⟨a.1,a.2,b.1,b.2⟩) ((HW.out.below hb2).below h).get2 ((HV.out.below hb2).below h).get2:w'.cell? ⟨w.heap.size,0,none⟩=some (.slice A n c)∧w'.cell? ⟨w.heap.size,1,none⟩=some (.slice B n2 d)∧w'.cell? ⟨w.heap.size+1,0,none⟩=some (.slice C n3 c2)∧w'.cell? ⟨w.heap.size+1,1,none⟩=some (.slice D n4 d2)));have HR:=hid (fun w' (h:Below w2.heap.size w2 w')=>And.intro (HX2.out.below h) (HS2.out.below HX2.out.1 h));have HC1:=hid (fun w' (h:Below w2.heap.size w2 w')=>HD1.out w' (zC HB2.out h));have HC2:=hid (fun w' (h:Below w2.heap.size w2 w')=>HD2.out w' (zC HB2.out h));clear hb2 z0 z1 HD1 HD2 HZ HY HB1 HB0 HX HS HV HW;have HG:Hid (w.heap.size+1+1 < w2.heap.size):=hid HX2.out.1;clear HX2 HS2;go_wp2_with fail
   (have q1:¬ w.heap.size+1+1=w.heap.size:=by omega);have q2:¬ w.heap.size+1+1=w.heap.size+1:=by omega
   go_region_held3 (fun w'=>w'.cell? ⟨w.heap.size,0,none⟩=some (.slice A n c)∧w'.cell? ⟨w.heap.size,1,none⟩=some (.slice B n2 d)∧w'.cell? ⟨w.heap.size+1,0,none⟩=some (.slice C n3 c2)∧w'.cell? ⟨w.heap.size+1,1,none⟩=some (.slice D n4 d2))
    (first | (exact HK.out _ (by first | assumption | exact (Below.refl _ _).drew)) | go_keep)
    (first
     | (go_at_call_of 54 A; (with_reducible refine (HC1.out _ (by first | assumption | exact (Below.refl _ _).drew)).mono ?_); rintro _ w4 ⟨A4,c4,rfl,s4,k4⟩; have hb4:Below w2.heap.size w2 w4:=zC (by first | assumption | exact (Below.refl _ _).drew) k4; obtain ⟨a0,a1⟩:=(HR.out _ hb4).1.get2; have a2:∀ j,w4.frozen? ⟨w.heap.size+1+1,j,none⟩=false:=(HR.out _ hb4).2)
     | (go_at_call_of 54 B; (with_reducible refine (HC2.out _ (by first | assumption | exact (Below.refl _ _).drew)).mono ?_); rintro _ w5 ⟨A5,c5,rfl,s5,k5⟩; have hb5:Below w2.heap.size w2 w5:=zC (by first | assumption | exact (Below.refl _ _).drew) k5; obtain ⟨b0,b1⟩:=(HR.out _ hb5).1.get2; have b2:∀ j,w5.frozen? ⟨w.heap.size+1+1,j,none⟩=false:=(HR.out _ hb5).2))
   have HA:=hid (SpanB.low (s4.below k5) (show w2.heap.size≤_ from Nat.le_refl _));have HE:=hid (SpanB.low s5 (show w2.heap.size≤_ from hb4.size));have HX5:=hid (HR.out _ hb5).1;have HB5:=hid (zC HB2.out hb5);have hg:=HG.out;have hgw:=HB2.out.size;clear s4 s5 k4 k5 hb4 hb5 a0 a1 a2 b0 b1 b2 q1 q2;(go_wp2_with fail);refine ret2 HX5.out (v:=setV A4 _ c4 A5 _ c5) (fun w3 h3=>?_) rfl (fun h3=>⟨A4,c4,A5,c5,rfl,(HA.out.set hg).low hgw,(HE.out.set hg).low hgw,HB5.out.trans (h3.mono (by omega))⟩);obtain ⟨k0,k1⟩:=h3.get2;simp [results,Tryz.results53,go_sem,k0,k1]
theorem sor_any (A B C D:Option Addr) (c d c2 d2:Nat) (l m p q:List SpanL) (w:World) (hg:Vl w) (hl:Spans w A l) (hm:Spans w B m) (hp:Spans w C p) (hq:Spans w D q) (hfl:fitL l) (hfm:fitL m) (hfp:fitL p) (hfq:fitL q)
 (hln:l.length≤10000) (hmn:m.length≤10000) (hpn:p.length≤10000) (hqn:q.length≤10000) :
 Calls Tryz.prog 138 #[setV A l.length c B m.length d,setV C p.length c2 D q.length d2] w (SetPost w (if mayS l m&&mayS p q then rorL l p else []) (if mayS l m&&mayS p q then rorL m q else [])):=by
 have HB0:=hid (zC (zC (zL w (.cells [.slice A l.length c,.slice B m.length d].toArray 42)) (zL _ (.cells [.slice C p.length c2,.slice D q.length d2].toArray 42))) (zL _ (.cells [Value.slice none 0 0,.slice none 0 0].toArray 42)))
 have HY:=hid (srowsOr A B C D c d c2 d2 l m p q _ (hg.below HB0.out) (hl.below HB0.out) (hm.below HB0.out) (hp.below HB0.out) (hq.below HB0.out) hfl hfm hfp hfq hln hmn hpn hqn)
 clear hg hl hm hp hq hfl hfm hfp hfq
 generalize (if mayS l m&&mayS p q then rorL l p else [])=x at *
 generalize (if mayS l m&&mayS p q then rorL m q else [])=y at *
 generalize l.length=n at *
 generalize m.length=n2 at *
 generalize p.length=n3 at *
 generalize q.length=n4 at *
 go_enter Tryz.func138,Tryz.ntmps138
 go_wp2_with fail
 refine HY.out.mono ?_
 rintro _ w1 ⟨A1,c1,B1,d1,rfl,h1,h2,hb1⟩
 obtain ⟨_,_,hy,hs,hb⟩:=box_3 (cs:=[.slice A n c,.slice B n2 d]) (ds:=[.slice C n3 c2,.slice D n4 d2]) (es:=[.slice none 0 0,.slice none 0 0]) hb1
 have HX:=hid hy
 have hf:∀ j,w1.frozen? ⟨w.heap.size+1+1,j,none⟩=false:=hs
 have HB:=hid hb
 have H1:=hid h1
 have H2:=hid h2
 obtain ⟨y0,y1⟩:=hy.get2
 have hlt:=hy.1
 have hz:w.heap.size+1+1 < (((w.alloc (.cells [.slice A n c,.slice B n2 d].toArray 42)).alloc (.cells [.slice C n3 c2,.slice D n4 d2].toArray 42)).alloc (.cells [Value.slice none 0 0,.slice none 0 0].toArray 42)).heap.size:=by simp
 have HZ:=hid hz
 have HB0s:=hid HB0.out.size
 clear hb1 hy hs hb h1 h2 hz
 go_wp2_with fail
 refine ret2 HX.out (v:=setV A1 _ c1 B1 _ d1) (fun w3 h3=>?_) rfl (fun h3=>⟨A1,c1,B1,d1,rfl,(H1.out.set HZ.out).low HB0s.out,(H2.out.set HZ.out).low HB0s.out,HB.out.trans (h3.mono (by omega))⟩)
 obtain ⟨k0,k1⟩:=h3.get2
 simp [results,Tryz.results138,go_sem,k0,k1]
theorem sand_any (A B C D:Option Addr) (c d c2 d2:Nat) (l m p q:List SpanL) (w:World) (hg:Vl w) (hl:Spans w A l) (hm:Spans w B m) (hp:Spans w C p) (hq:Spans w D q) (hfl:fitL l) (hfm:fitL m) (hfp:fitL p) (hfq:fitL q)
 (hln:l.length≤10000) (hmn:m.length≤10000) (hpn:p.length≤10000) (hqn:q.length≤10000) :
 Calls Tryz.prog 33 #[setV A l.length c B m.length d,setV C p.length c2 D q.length d2] w (SetPost w (if mayS l m&&mayS p q then randL l p else []) (if mayS l m&&mayS p q then randL m q else [])):=by
 have HB0:=hid (zC (zC (zL w (.cells [.slice A l.length c,.slice B m.length d].toArray 42)) (zL _ (.cells [.slice C p.length c2,.slice D q.length d2].toArray 42))) (zL _ (.cells [Value.slice none 0 0,.slice none 0 0].toArray 42)))
 have HY:=hid (srowsAnd A B C D c d c2 d2 l m p q _ (hg.below HB0.out) (hl.below HB0.out) (hm.below HB0.out) (hp.below HB0.out) (hq.below HB0.out) hfl hfm hfp hfq hln hmn hpn hqn)
 clear hg hl hm hp hq hfl hfm hfp hfq
 generalize (if mayS l m&&mayS p q then randL l p else [])=x at *
 generalize (if mayS l m&&mayS p q then randL m q else [])=y at *
 generalize l.length=n at *
 generalize m.length=n2 at *
 generalize p.length=n3 at *
 generalize q.length=n4 at *
 go_enter Tryz.func33,Tryz.ntmps33
 go_wp2_with fail
 refine HY.out.mono ?_
 rintro _ w1 ⟨A1,c1,B1,d1,rfl,h1,h2,hb1⟩
 obtain ⟨_,_,hy,hs,hb⟩:=box_3 (cs:=[.slice A n c,.slice B n2 d]) (ds:=[.slice C n3 c2,.slice D n4 d2]) (es:=[.slice none 0 0,.slice none 0 0]) hb1
 have HX:=hid hy
 have hf:∀ j,w1.frozen? ⟨w.heap.size+1+1,j,none⟩=false:=hs
 have HB:=hid hb
 have H1:=hid h1
 have H2:=hid h2
 obtain ⟨y0,y1⟩:=hy.get2
 have hlt:=hy.1
 have hz:w.heap.size+1+1 < (((w.alloc (.cells [.slice A n c,.slice B n2 d].toArray 42)).alloc (.cells [.slice C n3 c2,.slice D n4 d2].toArray 42)).alloc (.cells [Value.slice none 0 0,.slice none 0 0].toArray 42)).heap.size:=by simp
 have HZ:=hid hz
 have HB0s:=hid HB0.out.size
 clear hb1 hy hs hb h1 h2 hz
 go_wp2_with fail
 refine ret2 HX.out (v:=setV A1 _ c1 B1 _ d1) (fun w3 h3=>?_) rfl (fun h3=>⟨A1,c1,B1,d1,rfl,(H1.out.set HZ.out).low HB0s.out,(H2.out.set HZ.out).low HB0s.out,HB.out.trans (h3.mono (by omega))⟩)
 obtain ⟨k0,k1⟩:=h3.get2
 simp [results,Tryz.results33,go_sem,k0,k1]
def andS (l m p q:List SpanL):List SpanL × List SpanL:=if mayS l m&&mayS p q then (randL l p,randL m q) else ([],[])
def orS (l m p q:List SpanL):List SpanL × List SpanL:=if mayS l m&&mayS p q then (rorL l p,rorL m q) else ([],[])
def withinS (l m p q:List SpanL):Bool:=mayS l m&&mayS p q&&withinR l p&&withinR m q
theorem SpanB.fresh (w:World) (s:SpanL) (t:TypeId):SpanB (w.alloc (.cells s.cells.toArray t)) w.heap.size (some ⟨w.heap.size,0,none⟩) [s] :=
 ⟨Spans.one (Box.new w s.cells t),fun ad e=>by injection e with e; rw [← e]; exact Nat.le_refl _⟩
end Go.Proofs.YtiffijoenkcpjaaGreatDoor
