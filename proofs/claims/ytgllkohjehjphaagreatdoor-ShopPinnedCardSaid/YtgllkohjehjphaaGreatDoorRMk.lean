import Derived.Test.YtgllkohjehjphaaGreatDoorRMh
set_option linter.unusedVariables false
set_option linter.unusedSimpArgs false
set_option maxRecDepth 100000
set_option maxHeartbeats 1000000
namespace Go.Proofs.YtgllkohjehjphaaGreatDoor
open Go.RowKit Go.Lib
open Rw
theorem nU {nm:ByteArray}:∀ {l:List EntryL} {i:Nat},(z8 nm i l).length≤l.length
 | [],_=>by rw [z8]; exact Nat.le_refl _
 | x::l,i=>by
  rw [z8];have:=nU (nm:=nm) (l:=l) (i:=i+1);split
  ·rw [List.length_cons,List.length_cons]; omega
  ·rw [List.length_cons]; omega
theorem kM (s:ShelfL) (nm:ByteArray):(tP s nm).length≤64:=by
 cases h:zQ z7 s
 ·rw [tP,h,if_neg (by simp)]; exact Nat.zero_le _
 ·rw [(gG h nm).1.length_eq];exact Nat.le_trans nU (kP h)
theorem kq (l:List ShelfL) (p:List PinL) (nm:ByteArray):(zm l p nm).2.1.length≤64:=by
 rw [zm];split
 ·split
  ·exact kM _ _
  ·decide
 ·exact Nat.zero_le _
theorem aZ:∀ s∈gL,zg (bts s)=true∧yH ⟨#[122,111,111]⟩ s=false:=by decide +kernel
theorem pB {A B:Option Addr} {c d:Nat} {x:List Nat} {w:World} (ha:pz w A (tp x)) (hb:pz w B (tp x)) (hn:x.length≤64):Calls Tryz.prog 41 #[.slice A x.length c,.slice B x.length d] w (yT w true):=by
 have hl:(tp x).length=x.length:=List.length_map ..;have h:=dD A B c d (tp x) (tp x) w ha hb (by rw [hl]; omega);rw [hl,fW (fun a=>by simp)] at h;exact h
theorem rd {ss:List ShelfL} (h:ShopOk ss):ss.length≤9223372036854775807:=Nat.le_trans h.len (by decide)
theorem walk_ShopLater (A:Option Addr) (ca:Nat) (zs:List Int) (B:Option Addr) (cb:Nat) (ms:List Int) (own:Int) (w:World) (hz:IntsAt w A zs) (hzn:zs.length≤9223372036854775807) (hm:IntsAt w B ms) (hmn:ms.length≤9223372036854775807) (_:(Lit.int .i64 own).wf=true) (hL:Laid w):Calls Tryz.prog 10 #[.slice A zs.length ca,.slice B ms.length cb,.int .i64 own] w (yT w true):=by
 have CS:=hid (l3 A ca zs w hz hzn);have CN:=hid (fun u=>rF own u);have CA:=hid (fun u (hb:KB w.heap.size w u)=>pI u (hL.kb hb));have CL:=hid (fun (A1:Option Addr) (c1:Nat) (ss:List ShelfL) (nm:ByteArray) u (hb:KB w.heap.size w u) hA hn hok=>qL A1 c1 ss none 0 [] nm u (hL.kb hb) hA hn hok (.inl rfl) (by decide));have CZ:=hid (fun u (hb:KB w.heap.size w u)=>show Calls Tryz.prog 28 #[.slice B ms.length cb,.int .i64 0,.string ⟨#[122,111,111]⟩,.int .i64 4] u (m4 u ⟨#[122,111,111]⟩) from rz B cb ms 0 Zm 4 u (rq hm hb) (by omega) (by omega) hmn (by omega) (by decide +kernel));clear hL hz hm;generalize zs.length=zn at *;generalize ms.length=mn at *;go_enter Tryz.func10,Tryz.ntmps10;(go_wp2_with fail);refine CS.out.mono ?_;rintro _ u1 ⟨ss,A1,c1,rfl,hS,hOk,hEn,hb⟩;have HS:=hid hS;have HOK:=hid hOk;have HEN:=hid hEn;have HB1:=hid hb;clear hS hOk hEn hb CS;(go_wp2_with fail);refine (CN.out _).mono ?_;rintro _ _ ⟨nm,hnm,rfl,rfl⟩;clear hnm;have HC1:=hid (CL.out A1 c1 ss nm u1 HB1.out HS.out (rd HOK.out) HEN.out);have HLW:=hid (fun z (hz:z.name=Zm) (hv:zQ z7 z=true)=>Y1 (nm:=nm) HOK.out.may (HOK.out.more hz hv));have HXL:=hid (kq ss [] nm);unfold sw at HC1;generalize zm ss [] nm=r1 at *;obtain ⟨a,x,e⟩:=r1;dsimp only at HC1 HLW HXL;dsimp only [List.length_nil] at HC1;generalize hsl:ss.length=sn at *
 have HSL:=hid hsl;clear hsl;(have hs2:sn≤2:=by rw [← HSL.out]; exact HOK.out.len);(go_wp2_with fail);refine HC1.out.mono ?_;rintro _ u2 ⟨A2,c2,rfl,hi,hb⟩;have HI:=hid hi;have HB2:=hid (zA HB1.out hb);have HS2:=hid (RowOf.kb ShelfAt.stays HS.out hb);clear hi hb HC1 HS;generalize hxl:x.length=xn at *;have HXN:=hid hxl;clear hxl;obtain ⟨ps,hps,hli,hsu⟩:=mU HS2.out;have HPS:=hid hps;have HSU:=hid hsu;(have hpl:ps.length=sn:=by rw [← HSL.out,← hps,List.length_map]);have HPL:=hid hpl;have HSRC:=hid (show tw u2 A1 sn 2 (ps.flatMap wT) from hpl▸eK ZE (by decide) hli);clear hps hsu hpl hli;(go_wp2_with (at_builtin; refine zW pE rfl (.const (.slice none 0 0)) (.tmp 27) rfl rfl (World.ownsRow_nil _ u2.heap.size _ _) rfl HSRC.out (Wp ps) (by unfold maxLen; omega) (by omega) (Nat.le_refl _) ?_; intro v3 u3 h2 h3 _; have HO3:=hid (show u3.ownsRow u2.heap.size 24 2 v3 sn (ps.flatMap wT) by simpa using h2); have HB3:=hid h3.kb; clear h2 h3));refine (CZ.out u3 (zA HB2.out HB3.out)).mono ?_;rintro _ u4 ⟨es,A4,c4,rfl,hE,hc,hmy,hok,hb⟩;have HE:=hid hE;have HC4:=hid hc;have HMY:=hid hmy;have HOK4:=hid hok;have HB4:=hid hb;have HO4:=hid (tG HO3.out hb);have HOL:=hid (HO3.out.lt);have hsz:u2.heap.size≤u4.heap.size:=Nat.le_trans HB3.out.size hb.size;clear hE hc hmy hok hb;go_wp2_with (at_builtin; refine wI pE rfl (.tmp 28) (.tmp 31) rfl (wT ((⟨⟨#[122,111,111]⟩,es⟩:ShelfL),((A4,c4):Hdr))) HO4.out rfl rfl rfl (Zr _) (by unfold maxLen; omega) (by omega) hsz ?_; intro v5 u5 h2 h3 h4 h5; have HO5:=hid h2; have HB5:=hid h3.kb; have HG5:=hid h4; clear h2 h3 h4 h5)
 have HOW:=hid (show OwnL 24 2 wT u5 u2.heap.size v5 (ps++[((⟨⟨#[122,111,111]⟩,es⟩:ShelfL),((A4,c4):Hdr))]) from OwnL.snoc (by rw [HPL.out]; exact HO5.out));obtain ⟨A5,c5,hv5,hli,-,-⟩:=OwnL.lies ZE HOW.out;(have hl5:(ps++[((⟨⟨#[122,111,111]⟩,es⟩:ShelfL),((A4,c4):Hdr))]).length=sn+1:=by rw [List.length_append,HPL.out]; rfl);rw [hl5] at hv5;subst hv5;have HKB5:=hid (show KB u2.heap.size u2 u5 from Go.RowKit.Below.trans (Go.RowKit.Below.trans HB3.out (Go.RowKit.Below.mono HB4.out HB3.out.size)) HB5.out)
 have HM5:=hid (show Mono (xH u4 u3.heap.size none) u5 from ⟨by rw [xL]; exact HG5.out.size,fun p q hp=>by
  obtain ⟨⟨m1,-⟩,m3⟩:=wQ.1 hp
  exact HG5.out.cell m3 (fun e'=>by have:=(HOL.out _ e'.symm).2; omega)⟩)
 have HSS:=hid (show xc u5 A5 (ss++[⟨⟨#[122,111,111]⟩,es⟩]) from by
  have:=rM hli (fun p hp=>show SpSub u5 p from by
   rcases List.mem_append.1 hp with hp | hp
   ·exact ⟨(HSU.out p hp).1.kb EntryAt.stays HKB5.out,(HSU.out p hp).2⟩
   ·rcases List.mem_singleton.1 hp with rfl
    exact ⟨RowOf.mono EntryAt.mono HE.out HM5.out,HC4.out⟩)
  rw [List.map_append,HPS.out] at this
  exact this)
 clear hli hl5 HSRC HO3 HO4 HO5 HOW HOL;have HB6:=hid (zA HB2.out HKB5.out)
 have HEN6:=hid (show ∀ s∈ss++[(⟨⟨#[122,111,111]⟩,es⟩:ShelfL)],EntsOk s.entries from fun s hs=>by
  rcases List.mem_append.1 hs with hs | hs
  ·exact HEN.out s hs
  ·rcases List.mem_singleton.1 hs with rfl
   exact HOK4.out)
 (have hl6:(ss++[(⟨⟨#[122,111,111]⟩,es⟩:ShelfL)]).length=sn+1:=by rw [List.length_append,HSL.out]; rfl);have HC2:=hid (CL.out A5 c5 (ss++[⟨⟨#[122,111,111]⟩,es⟩]) nm u5 HB6.out HSS.out (by rw [hl6]; omega) HEN6.out);rw [hl6] at HC2;have HLAW:=hid (HLW.out ⟨⟨#[122,111,111]⟩,es⟩ rfl HMY.out);have HI5:=hid (RowOf.kb IntAtJ.stays HI.out HKB5.out);clear hl6 HLW;unfold sw at HC2;generalize zm (ss++[⟨⟨#[122,111,111]⟩,es⟩]) [] nm=r2 at *;obtain ⟨b,y,f⟩:=r2;dsimp only at HC2 HLAW;dsimp only [List.length_nil] at HC2;by_cases he:e=0
 ·subst he;obtain ⟨hf,hab,hxy⟩:=(if_neg (by simp)).mp HLAW.out;subst hf; subst hab; subst hxy;(go_wp2_with fail);refine HC2.out.mono ?_;rintro _ u6 ⟨A6,c6,rfl,hj,hb⟩;have HJ:=hid hj;have HB7:=hid (zA HB6.out hb);have HI6:=hid (RowOf.kb IntAtJ.stays HI5.out hb);clear hj hb HC2;rw [HXN.out];(go_wp2_with fail);refine (CA.out u6 HB7.out).mono ?_;rintro _ u7 ⟨rfl,hb⟩;have HB8:=hid (zA HB7.out hb);have HSM:=hid (pB (c:=c2) (d:=c6) (RowOf.kb IntAtJ.stays HI6.out hb) (RowOf.kb IntAtJ.stays HJ.out hb) (by rw [HXN.out]; exact HXL.out));rw [HXN.out] at HSM;clear hb;(go_wp2_with fail);refine HSM.out.mono ?_;rintro _ u8 ⟨rfl,hb⟩;have HB9:=hid (zA HB8.out hb);clear hb;(go_wp2_with fail);(try rw [Exit.noGoto_ret]);(try go_ret);exact ⟨rfl,HB9.out⟩
 ·obtain ⟨h9,hff⟩:=(if_pos he).mp HLAW.out;subst h9;generalize hyl:y.length=yn at *;(go_wp2_with fail);refine HC2.out.mono ?_;rintro _ u6 ⟨A6,c6,rfl,hj,hb⟩;have HB7:=hid (zA HB6.out hb);clear hj hb HC2 he;(go_wp2_with fail);refine (CA.out u6 HB7.out).mono ?_;rintro _ u7 ⟨rfl,hb⟩;have HB8:=hid (zA HB7.out hb);clear hb;rcases hff with rfl | ⟨rfl,hbl⟩
  ·(go_wp2_with fail);(try rw [Exit.noGoto_ret]);(try go_ret);exact ⟨rfl,HB8.out⟩
  ·subst hbl;(go_wp2_with fail);(try rw [Exit.noGoto_ret]);(try go_ret);exact ⟨rfl,HB8.out⟩
end Go.Proofs.YtgllkohjehjphaaGreatDoor
