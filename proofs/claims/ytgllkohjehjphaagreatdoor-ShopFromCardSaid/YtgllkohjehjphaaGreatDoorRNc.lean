import Derived.Test.YtgllkohjehjphaaGreatDoorRMk
import Derived.Test.YtgllkohjehjphaaGreatDoorRNa
set_option linter.unusedVariables false
set_option linter.unusedSimpArgs false
set_option maxRecDepth 100000
set_option maxHeartbeats 1000000
namespace Go.Proofs.YtgllkohjehjphaaGreatDoor
open Go.RowKit Go.Lib
open Rw
abbrev pinCells (p:PinL):List Value:=[.string p.name,.string p.shelf]
theorem pc_len (p:PinL):(pinCells p).length=2:=rfl
theorem pc_one (p:PinL):∀ u∈pinCells p,u.oneCell'=true:=by
 intro u hu;simp only [pinCells,List.mem_cons,List.not_mem_nil,or_false] at hu;rcases hu with rfl | rfl<;>rfl
theorem lies_pins {w:World} {A:Option Addr} {l:List PinL} (h:Lies 2 pinCells w A l):Z6 w A l:=by
 rcases h with h | ⟨b,off,h1,h2,h3⟩
 ·exact .inl h
 ·exact .inr ⟨b,off,h1,h2,fun i hi=>⟨h3 i hi 0 _ rfl,h3 i hi 1 _ rfl⟩⟩
theorem Tryz.info71:(Tryz.prog.info? 71).map (fun i=>(i.zero,i.size,i.bytes))=some (some (.agg #[.string ⟨#[]⟩,.string ⟨#[]⟩]),2,32):=by kernel_rfl
theorem EKpins:EK Tryz.prog 57 71 2 32 := .mk' _ Tryz.underlying57 Tryz.info71 rfl (by omega)
theorem ix_pn (n:Int) (h:0≤n) (h2:n < 3):∃ s:ByteArray,∀ w,(Instr.index 105 (.agg #[.string ⟨#[111,110,101]⟩,.string ⟨#[116,119,111]⟩,.string ⟨#[115,105,120]⟩]) (.int .i64 n)).run Tryz.prog w = .ok (.string s) w:=by
 (have h3:n=0∨n=1∨n=2:=by omega);rcases h3 with rfl | rfl | rfl
 ·exact ⟨⟨#[111,110,101]⟩,fun w=>by kernel_rfl⟩
 ·exact ⟨⟨#[116,119,111]⟩,fun w=>by kernel_rfl⟩
 ·exact ⟨⟨#[115,105,120]⟩,fun w=>by kernel_rfl⟩
def PinsK (w:World) (e:Ending) (w':World):Prop:=∃ (p:List PinL) (A:Option Addr) (c:Nat),e = .returned (.slice A p.length c)∧Z6 w' A p∧p.length≤3∧KB w.heap.size w w'
theorem lpins_any (A:Option Addr) (cap:Nat) (zs:List Int) (w:World) (h:IntsAt w A zs) (hln:zs.length≤9223372036854775807):Calls Tryz.prog 44 #[.slice A zs.length cap,.int .i64 1000] w (PinsK w):=by
 have C0:=hid (fun (k:Nat) (hk:k < 4) u (hb:KB w.heap.size w u)=>un A cap zs (1000+(k:Int)) 4 u (rq h hb) (by omega) (by omega) hln (by omega) (by omega));have CB:=hid (fun k:Nat=>vO zs (1000+(k:Int)) 4 (by omega));have CN:=hid (fun n u=>rF n u);clear h;generalize hzn:zs.length=zn at *;clear hzn;go_enter Tryz.func44,Tryz.ntmps44;(go_upto_block 0 with fail);(go_wp2_with fail);go_loopw [6,5] (fun i v ww=>∃ (k:Nat) (acc:List PinL),i = .int .i64 (k:Int)∧1≤k∧k≤4∧Hid (acc.length < k)∧Hid (OwnL 71 2 pinCells ww w.heap.size v acc)∧Hid (KB w.heap.size w ww)) (fun i _ _=>4 - (intOf i).toNat)
 case atStart=>exact ⟨1,[],rfl,Nat.le_refl _,by decide,hid (by decide),hid (World.ownsRow_nil _ _ _ _),hid (zH _)⟩
 case round =>
  (rename World=>wo);obtain ⟨k,acc,rfl,hk0,hk,HAL,HO,HB⟩:=hrel;by_cases hlt:k < 4
  ·(have k1:(k:Int) < 4:=by omega);have q1:IntKind.i64.wrap (1000+(k:Int))=1000+(k:Int):=IntWalk.i64_in _ (by omega);have hbd:=CB.out k;have HC:=hid (C0.out k hlt wo HB.out);generalize xh zs (1000+(k:Int)) 4=n at *;(go_wp2_with fail);refine HC.out.mono ?_;rintro _ _ ⟨rfl,rfl⟩;clear HC q1;by_cases hn:n < 3
   ·have d1:decide (n < 3)=true:=decide_eq_true hn;obtain ⟨shL,hsh⟩:=ix_pn n hbd.1 hn;have HSH:=hid hsh;have HN:=hid (CN.out (k:Int));clear hsh hbd;(go_upto_region 7 with fail);clear d1 hn;have hS:KB w.heap.size w wo.drew:=zA HB.out (zM (zH _));have q2:=HSH.out;(refine wpS (fun u=>KB w.heap.size w u) (.call [0,1,3,4,5] 2 (.call [6] 7 (.call [] 8 (.last [9])))) fun iS=>?_);(with_reducible refine zD ?_);simp only [zB,pka,pkb,pkc,pkd,pke,pkf];(repeat go_big_quiet_step (fail));refine wpQuiet_nil ?_;(go_wp2_with fail);refine (HN.out _).mono ?_;rintro _ _ ⟨nm,-,rfl,rfl⟩;(go_wp2_with fail);refine zE (hS) ?_;(with_reducible refine zD ?_);simp only [zB,pka,pkb,pkc,pkd,pke,pkf];(repeat go_big_quiet_step (fail));refine wpQuiet_nil ?_;(go_wp2_with fail);have HB2:=hid (show KB wo.heap.size wo ((wo.alloc (.cells #[.string nm,.string shL] 71)).drew) from zM (zG wo _));have HBX:=hid (show Box ((wo.alloc (.cells #[.string nm,.string shL] 71)).drew) wo.heap.size (pinCells ⟨nm,shL⟩) from (Box.new wo (pinCells ⟨nm,shL⟩) 71).kb (zM (zH _)));generalize ((wo.alloc (.cells #[.string nm,.string shL] 71)).drew)=w2 at *;refine zE (zA HB.out HB2.out) ?_;(with_reducible refine zD ?_);simp only [zB,pka,pkb,pkc,pkd,pke,pkf];(repeat go_big_quiet_step (fail));refine wpQuiet_nil ?_;go_wp2_with (at_builtin; refine zW EKpins rfl (.tmp 19) (.tmp 26) rfl rfl (tG HO.out HB2.out) rfl (qm HBX.out (show (pinCells ⟨nm,shL⟩).length=1 * 2 from rfl)) (pc_one _) (by have:=HAL.out; unfold maxLen; omega) (by have:=HAL.out; omega) (Nat.le_trans HB.out.size HB2.out.size) ?_; intro v3 w3 h3 hb3 _; have H3:=hid h3; have HB3:=hid hb3.kb; clear h3 hb3)
    have HS3:=hid (show KB w.heap.size w w3 from Go.RowKit.Below.trans (zA HB.out HB2.out) HB3.out);refine zE HS3.out ?_;(with_reducible refine zJ ?_);simp only [zB,pka,pkb,pkc,pkd,pke,pkf];(repeat go_big_quiet_step (fail));refine wpQuiet_nil ?_;clear iS q2;(go_wp2_with fail);go_roundw
    case rel=>exact ⟨k+1,acc++[⟨nm,shL⟩],by go_num,by omega,by omega,hid (by have:=HAL.out; simp; omega),hid (OwnL.snoc H3.out),HS3⟩
    case measure=>simp [intOf]<;>omega
   ·have d1:decide (n < 3)=false:=decide_eq_false hn;(go_wp2_with fail);go_roundw
    case rel=>exact ⟨k+1,acc,by go_num,by omega,by omega,hid (by have:=HAL.out; omega),HO,HB⟩
    case measure=>simp [intOf]<;>omega
  ·(obtain rfl:k=4:=by omega);obtain ⟨A2,cap2,hv,hli,-,-⟩:=OwnL.lies pc_len HO.out;subst hv;have HLI:=hid (lies_pins hli);generalize hal:acc.length=al at *;have HA2:=hid hal;clear hli hal;(go_wp2_with fail);(try rw [Exit.noGoto_ret]);(try go_ret);exact ⟨acc,A2,cap2,by rw [HA2.out]<;>rfl,HLI.out,by rw [HA2.out]; have:=HAL.out; omega,HB.out⟩
theorem from_zero {l:List ShelfL} {p:List PinL} {nm:ByteArray} (h:(xQ l p nm).2≠0):(xQ l p nm).1=0:=by
 have hc:∀ (q:ShelfL→Bool) (en:Int),(if zd q 0 l < 0 then ((0:Int),en) else (zd q 0 l,0)).2≠0→(if zd q 0 l < 0 then ((0:Int),en) else (zd q 0 l,0)).1=0:=fun q en h=>by
  split
  ·rfl
  ·rename_i hq
   rw [if_neg hq] at h;exact absurd rfl h
 cases h1:zw l
 ·rw [XS h1]
 ·cases h2:wG p
  ·rw [Xa h1 h2]
  ·by_cases h3:zd (fun x:PinL=>yH x.name nm) 0 p < 0
   ·rw [XV h1 h2 h3] at h ⊢;exact hc _ 9 h
   ·have:=uT (q:=fun x:PinL=>yH x.name nm) p 0;(have hk:(zd (fun x:PinL=>yH x.name nm) 0 p).toNat < p.length:=by omega);rw [Xe h1 h2 (List.getElem?_eq_getElem hk) (by omega)] at h ⊢;exact hc _ 12 h
theorem list_law {l:List ShelfL} {p:List PinL} {nm:ByteArray}:(zm l p nm).2.2=(xQ l p nm).2∧(zm l p nm).1=(xQ l p nm).1∧((xQ l p nm).2=0→∃ k s,l[k]?=some s∧(xQ l p nm).1=((k:Nat):Int)∧(zm l p nm).2.1=tP s nm):=by
 by_cases h:(xQ l p nm).2=0
 ·obtain ⟨k,hk,h2,-⟩:=X4 h;have hs:=List.getElem?_eq_getElem hk;have e:=Ya (p:=p) (nm:=nm) hs (Prod.ext h2 h);rw [e];exact ⟨h.symm,h2.symm,fun _=>⟨k,l[k],hs,h2,rfl⟩⟩
 ·rw [Yt h];exact ⟨rfl,(from_zero h).symm,fun h2=>absurd h2 h⟩
theorem walk_ShopFrom (A:Option Addr) (ca:Nat) (zs:List Int) (own:Int) (w:World) (hz:IntsAt w A zs) (hzn:zs.length≤9223372036854775807) (_:(Lit.int .i64 own).wf=true) (hL:Laid w):Calls Tryz.prog 9 #[.slice A zs.length ca,.int .i64 own] w (yT w true):=by
 have CS:=hid (l3 A ca zs w hz hzn);have CN:=hid (fun u=>rF own u);have CP:=hid (fun u (hb:KB w.heap.size w u)=>lpins_any A ca zs u (rq hz hb) hzn);have CA:=hid (fun u (hb:KB w.heap.size w u)=>pI u (hL.kb hb));have HL:=hid hL;clear hL hz;generalize zs.length=zn at *;go_enter Tryz.func9,Tryz.ntmps9;(go_wp2_with fail);refine CS.out.mono ?_;rintro _ u1 ⟨ss,A1,c1,rfl,hS,hOk,hEn,hb⟩;have HS:=hid hS;have HOK:=hid hOk;have HEN:=hid hEn;have HB1:=hid hb;clear hS hOk hEn hb CS;have hs2:=HOK.out.len;generalize hsl:ss.length=sn at *;have HSL:=hid hsl;clear hsl;(go_wp2_with fail);refine (CN.out _).mono ?_;rintro _ _ ⟨nm,-,rfl,rfl⟩;(go_wp2_with fail);refine (CP.out u1 HB1.out).mono ?_;rintro _ u2 ⟨p,B,d,rfl,hp,hpl,hb⟩;have HP:=hid hp;have HB2:=hid (zA HB1.out hb);have HS2:=hid (RowOf.kb ShelfAt.stays HS.out hb);clear hp hb CN CP HS;have HF:=hid (fun u (hb:KB u2.heap.size u2 u)=>vw A1 c1 ss B d p nm u (HL.out.kb (zA HB2.out hb)) (RowOf.kb ShelfAt.stays HS2.out hb) (rd HOK.out) HEN.out (RowOf.kb PinAt.stays HP.out hb) (by omega));have HR:=hid (fun u (hb:KB u2.heap.size u2 u)=>r15from_any A1 c1 ss B d p nm u (RowOf.kb ShelfAt.stays HS2.out hb) (rd HOK.out) HEN.out (RowOf.kb PinAt.stays HP.out hb) (by omega));have HLS:=hid (fun u (hb:KB u2.heap.size u2 u)=>qL A1 c1 ss B d p nm u (HL.out.kb (zA HB2.out hb)) (RowOf.kb ShelfAt.stays HS2.out hb) (rd HOK.out) HEN.out (RowOf.kb PinAt.stays HP.out hb) (by omega))
 have HMY:=hid (fun u (hb:KB u2.heap.size u2 u)=>sD A1 c1 ss u (HL.out.kb (zA HB2.out hb)) (RowOf.kb ShelfAt.stays HS2.out hb) (rd HOK.out) HEN.out);have HG:=hid (fun (k:Nat) (s:ShelfL) (hs:ss[k]?=some s) A' c' u (hE:yL u A' s.entries) (hc:s.entries.length≤c')=>rshlist_any s A' c' nm u hE (HEN.out _ (List.mem_of_getElem? hs)) hc kP);rw [HOK.out.may] at HMY;have HLAW:=hid (list_law (l:=ss) (p:=p) (nm:=nm));have HXL:=hid (kq ss p nm);unfold dO at HF HR;unfold sw at HLS;generalize zm ss p nm=lrL at *;generalize xQ ss p nm=fr at *;obtain ⟨fi,fe⟩:=fr;obtain ⟨liL,x,le⟩:=lrL;obtain ⟨hl1,hl2,hl3⟩:=HLAW.out;dsimp only at hl1 hl2 hl3 HF HR HLS HXL;subst hl1; subst hl2;have HL3:=hid hl3;rw [HSL.out] at HF HR HLS HMY;generalize hpl2:p.length=pn at *;clear hl3 HLAW hpl2 HP HOK;(go_wp2_with fail);refine (HF.out u2 (zH _)).mono ?_;rintro _ u3 ⟨rfl,hb⟩;have HB3:=hid hb;clear hb HF;(go_wp2_with fail);refine (HR.out u3 HB3.out).mono ?_;rintro _ u4 ⟨rfl,hb⟩;have HB4:=hid (zA HB3.out hb);clear hb HR;(go_wp2_with fail);generalize hxl:x.length=xn at *;have HXN:=hid hxl;clear hxl;refine (HLS.out u4 HB4.out).mono ?_;rintro _ u5 ⟨A2,c2,rfl,hi,hb⟩;have HI:=hid hi;have HB5:=hid (zA HB4.out hb);clear hi hb HLS;(go_wp2_with fail);refine (CA.out u5 (zA HB2.out HB5.out)).mono ?_;rintro _ u6 ⟨rfl,hb⟩;have HB6:=hid (zA HB5.out hb)
 have HI6:=hid (RowOf.kb IntAtJ.stays HI.out hb);clear hb HI;by_cases he:le=0
 ·subst he;obtain ⟨k,s,hs,rfl,rfl⟩:=HL3.out rfl;have hk:k < ss.length:=(List.getElem?_eq_some_iff.1 hs).1;have HAT:=hid (fun u (hb:KB u2.heap.size u2 u)=>qh (RowOf.kb ShelfAt.stays HS2.out hb) hk);have he2:ss[k]=s:=(List.getElem?_eq_some_iff.1 hs).2;rw [he2] at HAT;have HG2:=hid (HG.out k s hs);(have k0:(0:Int)≤(k:Int):=by omega);(have k1:(k:Int) < (sn:Int):=by rw [HSL.out] at hk; omega);clear hs hk he2 HG HL3;(go_wp2_with fail);refine (HMY.out u6 HB6.out).mono ?_;rintro _ u7 ⟨rfl,hb⟩;have HB7:=hid (zA HB6.out hb);have HI7:=hid (RowOf.kb IntAtJ.stays HI6.out hb);clear hb HMY;obtain ⟨b,off,A',c',hA1,hbl,n0,n1,hE,hc'⟩:=HAT.out u7 HB7.out;subst hA1;have HC:=hid (HG2.out A' c' u7 hE hc');clear hE hc' HG2 HAT;generalize hls:tP s nm=x at *;obtain ⟨sk,se⟩:=s;dsimp only [ShelfL.val] at n0 n1 HC;generalize se.length=sm at *;(go_wp2_with fail);refine HC.out.mono ?_;rintro _ u8 ⟨A3,c3,rfl,hi,hb⟩;have HB8:=hid (zA HB7.out hb);have HSM:=hid (pB (c:=c2) (d:=c3) (RowOf.kb IntAtJ.stays HI7.out hb) hi (by rw [HXN.out]; exact HXL.out));rw [HXN.out] at HSM;clear hi hb n0 n1 hbl HC;rw [HXN.out];(go_wp2_with fail);refine HSM.out.mono ?_;rintro _ u9 ⟨rfl,hb⟩;have HB9:=hid (zA HB2.out (zA HB8.out hb));clear hb;(go_wp2_with fail);(try rw [Exit.noGoto_ret]);(try go_ret);exact ⟨rfl,HB9.out⟩
 ·(have e0:(le != 0)=true:=by rw [bne_iff_ne]; exact he);(have e1:(le==0)=false:=by rw [beq_eq_false_iff_ne]; exact he);clear he HL3;(go_wp2_with fail);refine (HMY.out u6 HB6.out).mono ?_;rintro _ u7 ⟨rfl,hb⟩;have HB7:=hid (zA HB2.out (zA HB6.out hb));clear hb;(go_wp2_with fail);(try rw [Exit.noGoto_ret]);(try go_ret);exact ⟨rfl,HB7.out⟩
end Go.Proofs.YtgllkohjehjphaaGreatDoor
