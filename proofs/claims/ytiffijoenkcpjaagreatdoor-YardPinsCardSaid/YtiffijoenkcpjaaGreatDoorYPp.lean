import Derived.Test.YtiffijoenkcpjaaGreatDoorYPn
set_option linter.unusedVariables false
set_option linter.unusedSimpArgs false
set_option maxRecDepth 100000
set_option maxHeartbeats 4000000
namespace Go.Proofs.YtiffijoenkcpjaaGreatDoor
open Go.RowKit Go.Lib
open Rw
theorem addP_len {out q:List PinL} {p:PinL} (h:addP out p=some q):q.length≤out.length+1:=by
 unfold addP at h;split at h
 ·(injection h with h);subst h;simp
 ·split at h
  ·(injection h with h);subst h;omega
  ·cases h
 ·cases h
theorem addAll_len:∀ (l out o:List PinL),addAll out l=some o→o.length≤out.length+l.length
 | [],out,o,h=>by
  rw [addAll] at h;(injection h with h);subst h;simp
 | p::l,out,o,h=>by
  rw [addAll] at h;cases hp:addP out p with
  | none=>rw [hp] at h; cases h
  | some q =>
   rw [hp] at h;have h1:=addAll_len l q o h;have h2:=addP_len hp;rw [List.length_cons];omega
theorem sortP_len2:∀ (l o:List PinL),(l.foldl (fun o p=>insP p o) o).length=o.length+l.length
 | [],o=>by simp
 | p::l,o=>by
  rw [List.foldl_cons,sortP_len2 l (insP p o),(insP_perm p o).length_eq,List.length_cons,List.length_cons];omega
theorem pins_len3 {a b c:ManL} (h:Three a b c):(pinsY [a,b,c]).1.length≤3:=by
 have h1:=h.a.plen;have h2:=h.b.plen;have h3:=h.c.plen;rw [pinsY];split
 ·simp
 ·split
  ·rename_i o ho
   have:=addAll_len _ _ _ ho;(have e:(allPins [a,b,c]).length=a.pins.length+(b.pins.length+c.pins.length):=by simp [allPins]);rw [e,List.length_nil] at this;show (sortP o).length≤3;rw [sortP,sortP_len2,List.length_nil];omega
  ·simp
theorem holds_len {a b c:ManL} (h:Three a b c) (nm:ByteArray):(holdsOf [a,b,c] nm).length≤3:=by
 have h1:=h.a.hlen;have h2:=h.b.hlen;have h3:=h.c.hlen;(have f:∀ l:List HoldL,(l.filter fun h=>yH h.name nm).length≤l.length:=fun l=>List.length_filter_le _ _);have k1:=f a.holds;have k2:=f b.holds;have k3:=f c.holds;simp only [holdsOf,List.flatMap_cons,List.flatMap_nil,List.append_nil,List.length_append];omega
theorem samepins_any (A B:Option Addr) (c d:Nat) (l:List PinL) (w:World) (ha:Z6 w A l) (hb:Z6 w B l) (hn:l.length≤9223372036854775807):Calls Tryz.prog 12 #[.slice A l.length c,.slice B l.length d] w (yT w true):=by
 have HA:=hid ha;have HB:=hid hb;clear ha hb;generalize hna:l.length=n at *;have HN:=hid hna;clear hna;(have e1:((n:Int) != (n:Int))=false:=by simp);go_enter Tryz.func12,Tryz.ntmps12;(go_upto_block 0 with fail);(go_wp2_with fail);go_loopw [5] (fun i ww=>∃ k:Nat,i = .int .i64 (k:Int)∧k≤n∧Hid (KB w.heap.size w ww)) (fun i _=>n - (intOf i).toNat)
 case atStart=>exact ⟨0,rfl,Nat.zero_le _,hid (zH _)⟩
 case round =>
  (rename World=>wr);obtain ⟨k,rfl,hk,HK⟩:=hrel;by_cases hlt:k < n
  ·(have h1:k < l.length:=by rw [HN.out]; exact hlt);obtain ⟨p,off,hA,hpl,cx,cy⟩:=aJ (HA.out.kb PinAt.stays HK.out) h1;obtain ⟨q,of2,hB,hql,dx,dy⟩:=aJ (HB.out.kb PinAt.stays HK.out) h1;subst hA;subst hB;(have k0:(0:Int)≤(k:Int):=by omega);(have k1:(k:Int) < (n:Int):=by omega);generalize l[k]=x at *;have HX:=hid cx;have HY:=hid cy;have HZ:=hid dx;have HW:=hid dy;have HPL:=hid hpl;have HQL:=hid hql;clear cx cy dx dy hpl hql;(go_upto_region 6 with fail);have hS:KB wr.heap.size wr wr.drew:=zM (zH _);(refine wpS (fun u=>KB wr.heap.size wr u) (.last [0,1,2,3,4,5,6,7,8]) fun iS=>?_);(have cx:=fun (z:SW fun u=>KB wr.heap.size wr u)=>zU HPL.out z.ok HX.out);(have cy:=fun (z:SW fun u=>KB wr.heap.size wr u)=>zU HPL.out z.ok HY.out);(have dx:=fun (z:SW fun u=>KB wr.heap.size wr u)=>zU HQL.out z.ok HZ.out);(have dy:=fun (z:SW fun u=>KB wr.heap.size wr u)=>zU HQL.out z.ok HW.out);(have pl:=fun (z:SW fun u=>KB wr.heap.size wr u)=>Nat.lt_of_lt_of_le HPL.out z.ok.size);(have ql:=fun (z:SW fun u=>KB wr.heap.size wr u)=>Nat.lt_of_lt_of_le HQL.out z.ok.size);(with_reducible refine zJ ?_);simp only [zB,pka,pkb,pkc,pkd,pke,pkf];(repeat go_big_quiet_step (fail));refine wpQuiet_nil ?_;clear cx cy dx dy pl ql iS;(go_wp2_with fail);go_roundw
   case rel=>exact ⟨k+1,by go_num,by omega,hid (zA HK.out hS)⟩
   case measure=>simp [intOf]<;>omega
  ·(obtain rfl:k=n:=by omega);(have k1:¬ (k:Int) < (k:Int):=by omega);(go_wp2_with fail);(try rw [Exit.noGoto_ret]);(try go_ret);exact ⟨rfl,HK.out⟩
theorem walk_YardOrder (A:Option Addr) (ca:Nat) (zs:List Int) (own:Int) (w:World) (hz:IntsAt w A zs) (hzn:zs.length≤9223372036854775807) (_:(Lit.int .i64 own).wf=true) (hL:Laid w):Calls Tryz.prog 3 #[.slice A zs.length ca,.int .i64 own] w (yT w true):=by
 have CB:=hid (members_any A ca zs w hz hzn);have CNA:=hid (fun u=>rF own u);have CA:=hid (fun u (hb:KB w.heap.size w u)=>awake17_any u (hL.kb hb));have HL:=hid hL;clear hL hz;generalize zs.length=zn at *;go_enter Tryz.func3,Tryz.ntmps3;(go_wp2_with fail);refine CB.out.mono ?_;rintro _ w1 ⟨a,b,c,M,mc,rfl,hmc,hm,ht,fa,fb,fc,hb⟩;have HM1:=hid hm;have HT:=hid ht
 have HF:=hid (show ∀ m∈[a,b,c],ManFit m from fun m hm=>by
  simp only [List.mem_cons,List.not_mem_nil,or_false] at hm;rcases hm with rfl | rfl | rfl
  ·exact fa
  ·exact fb
  ·exact fc)
 have HG:=hid (show ∀ m∈[c,a,b],ManFit m from fun m hm=>by
  simp only [List.mem_cons,List.not_mem_nil,or_false] at hm;rcases hm with rfl | rfl | rfl
  ·exact fc
  ·exact fa
  ·exact fb)
 have HC:=hid hmc;have HB1:=hid hb;clear hmc hm ht fa fb fc hb CB;(go_wp2_with fail);refine (CNA.out _).mono ?_;rintro _ _ ⟨nm,-,rfl,rfl⟩;have CP:=hid (fun u (hb:KB w1.heap.size w1 u)=>show Calls Tryz.prog 9 #[.slice M 3 mc] u (YPinsK u (pinsY [a,b,c])) from ypins_any M mc [a,b,c] u (HL.out.kb (zA HB1.out hb)) (HM1.out.kb ManAt.stays hb) (by simp) HC.out HF.out);have CH:=hid (fun u (hb:KB w1.heap.size w1 u)=>show Calls Tryz.prog 10 #[.slice M 3 mc,.string nm] u (HeldK u (heldY [a,b,c] nm)) from yheld_any M mc [a,b,c] nm u (HL.out.kb (zA HB1.out hb)) (HM1.out.kb ManAt.stays hb) (by simp) HC.out HF.out)
 have DP:=hid (fun g u (hb:KB w1.heap.size w1 u) (hm:Mans u (some ⟨g,0,none⟩) [c,a,b])=>show Calls Tryz.prog 9 #[.slice (some ⟨g,0,none⟩) 3 3] u (YPinsK u (pinsY [a,b,c])) from by
  rw [order_pins HT.out]
  exact ypins_any (some ⟨g,0,none⟩) 3 [c,a,b] u (HL.out.kb (zA HB1.out hb)) hm (by simp) (by simp) HG.out)
 have DH:=hid (fun g u (hb:KB w1.heap.size w1 u) (hm:Mans u (some ⟨g,0,none⟩) [c,a,b])=>show Calls Tryz.prog 10 #[.slice (some ⟨g,0,none⟩) 3 3,.string nm] u (HeldK u (heldY [a,b,c] nm)) from by
  rw [order_held HT.out]
  exact yheld_any (some ⟨g,0,none⟩) 3 [c,a,b] nm u (HL.out.kb (zA HB1.out hb)) hm (by simp) (by simp) HG.out)
 obtain ⟨s1,s2,hss,hsg⟩:∃ s1 s2:List SpanL,heldY [a,b,c] nm=((s1,s2),0)∧SGood 2000 (s1,s2):=by
  refine ⟨_,_,held_ok HT.out.all,?_⟩;have hl:(holdsOf [a,b,c] nm).length≤3:=holds_len HT.out nm;exact (held_good (holdsOf [a,b,c] nm) whole_good).mono (by omega)
 have HSG:=hid hsg;rw [hss] at CH DH;clear hss hsg;obtain ⟨q1,hq1⟩:∃ n,s1.length=n:=⟨_,rfl⟩;obtain ⟨q2,hq2⟩:∃ n,s2.length=n:=⟨_,rfl⟩;have hp3:=pins_len3 HT.out;obtain ⟨pl,pe,hpp⟩:∃ pl pe,pinsY [a,b,c]=(pl,pe):=⟨_,_,rfl⟩;rw [hpp] at CP DP hp3;have HP3L:=hid (show pl.length≤3 from hp3);clear hpp hp3;obtain ⟨pn,hpn⟩:∃ n,pl.length=n:=⟨_,rfl⟩;unfold HeldK at CH DH;unfold YPinsK at CP DP;dsimp only at CH DH CP DP;rw [hpn] at CP DP;rw [hq1,hq2] at CH DH;have HPN:=hid hpn;have HQ1:=hid hq1;have HQ2:=hid hq2;clear hpn hq1 hq2;obtain ⟨mb,mo,hA,hM,hLA,kA⟩:=man_at HM1.out (k:=0) (by simp);obtain ⟨mb',mo',hB,hM',hLB,kB⟩:=man_at HM1.out (k:=1) (by simp);obtain ⟨mb2,mo2,hC,hM2,hLC,kC⟩:=man_at HM1.out (k:=2) (by simp);subst hM;(injection hM' with e1);(injection e1 with e1 e2 e3);subst e1; subst e2;(injection hM2 with e1);(injection e1 with e1 e2 e4);subst e1; subst e2;have HKA:=hid (show CellsM w1 mb mo a hA from kA);have HKB:=hid (show CellsM w1 mb (mo+11) b hB from kB);have HKC:=hid (show CellsM w1 mb (mo+22) c hC from kC);have HLA:=hid (show ManLies w1 hA a from hLA);have HLB:=hid (show ManLies w1 hB b from hLB);have HLC:=hid (show ManLies w1 hC c from hLC);clear kA kB kC hLA hLB hLC e3 e4;(go_upto_region 2 with fail);have hS:KB w1.heap.size w1 w1.drew:=zM (zH _);refine wpS (fun u=>KB w1.heap.size w1 u) (.call [0,1,2,3,4,5,6,7,8] 9 (.last [10])) fun iS=>?_
 (have a0:=fun (z:SW fun u=>KB w1.heap.size w1 u)=>(HKA.out.kb z.ok).c0);(have a1:=fun (z:SW fun u=>KB w1.heap.size w1 u)=>(HKA.out.kb z.ok).c1);(have a2:=fun (z:SW fun u=>KB w1.heap.size w1 u)=>(HKA.out.kb z.ok).c2);(have a3:=fun (z:SW fun u=>KB w1.heap.size w1 u)=>(HKA.out.kb z.ok).c3);(have a4:=fun (z:SW fun u=>KB w1.heap.size w1 u)=>(HKA.out.kb z.ok).c4);(have a5:=fun (z:SW fun u=>KB w1.heap.size w1 u)=>(HKA.out.kb z.ok).c5);(have a6:=fun (z:SW fun u=>KB w1.heap.size w1 u)=>(HKA.out.kb z.ok).c6);(have a7:=fun (z:SW fun u=>KB w1.heap.size w1 u)=>(HKA.out.kb z.ok).c7);(have a8:=fun (z:SW fun u=>KB w1.heap.size w1 u)=>(HKA.out.kb z.ok).c8);(have a9:=fun (z:SW fun u=>KB w1.heap.size w1 u)=>(HKA.out.kb z.ok).c9);(have a10:=fun (z:SW fun u=>KB w1.heap.size w1 u)=>(HKA.out.kb z.ok).c10);(have b0:=fun (z:SW fun u=>KB w1.heap.size w1 u)=>(HKB.out.kb z.ok).c0);(have b1:=fun (z:SW fun u=>KB w1.heap.size w1 u)=>(HKB.out.kb z.ok).c1);(have b2:=fun (z:SW fun u=>KB w1.heap.size w1 u)=>(HKB.out.kb z.ok).c2);(have b3:=fun (z:SW fun u=>KB w1.heap.size w1 u)=>(HKB.out.kb z.ok).c3);(have b4:=fun (z:SW fun u=>KB w1.heap.size w1 u)=>(HKB.out.kb z.ok).c4);(have b5:=fun (z:SW fun u=>KB w1.heap.size w1 u)=>(HKB.out.kb z.ok).c5);(have b6:=fun (z:SW fun u=>KB w1.heap.size w1 u)=>(HKB.out.kb z.ok).c6);have b7:=fun (z:SW fun u=>KB w1.heap.size w1 u)=>(HKB.out.kb z.ok).c7
 (have b8:=fun (z:SW fun u=>KB w1.heap.size w1 u)=>(HKB.out.kb z.ok).c8);(have b9:=fun (z:SW fun u=>KB w1.heap.size w1 u)=>(HKB.out.kb z.ok).c9);(have b10:=fun (z:SW fun u=>KB w1.heap.size w1 u)=>(HKB.out.kb z.ok).c10);(have g0:=fun (z:SW fun u=>KB w1.heap.size w1 u)=>(HKC.out.kb z.ok).c0);(have g1:=fun (z:SW fun u=>KB w1.heap.size w1 u)=>(HKC.out.kb z.ok).c1);(have g2:=fun (z:SW fun u=>KB w1.heap.size w1 u)=>(HKC.out.kb z.ok).c2);(have g3:=fun (z:SW fun u=>KB w1.heap.size w1 u)=>(HKC.out.kb z.ok).c3);(have g4:=fun (z:SW fun u=>KB w1.heap.size w1 u)=>(HKC.out.kb z.ok).c4);(have g5:=fun (z:SW fun u=>KB w1.heap.size w1 u)=>(HKC.out.kb z.ok).c5);(have g6:=fun (z:SW fun u=>KB w1.heap.size w1 u)=>(HKC.out.kb z.ok).c6);(have g7:=fun (z:SW fun u=>KB w1.heap.size w1 u)=>(HKC.out.kb z.ok).c7);(have g8:=fun (z:SW fun u=>KB w1.heap.size w1 u)=>(HKC.out.kb z.ok).c8);(have g9:=fun (z:SW fun u=>KB w1.heap.size w1 u)=>(HKC.out.kb z.ok).c9);(have g10:=fun (z:SW fun u=>KB w1.heap.size w1 u)=>(HKC.out.kb z.ok).c10);(have ml:=fun (z:SW fun u=>KB w1.heap.size w1 u)=>(HKC.out.kb z.ok).lt);(with_reducible refine zD ?_);simp only [zB,pka,pkb,pkc,pkd,pke,pkf];(repeat go_big_quiet_step (fail));refine wpQuiet_nil ?_;clear a0 a1 a2 a3 a4 a5 a6 a7 a8 a9 a10 b0 b1 b2 b3 b4 b5 b6 b7 b8 b9 b10 g0 g1 g2 g3 g4 g5 g6 g7 g8 g9 g10 ml;(go_wp2_with fail);refine zE (zA hS (zG _ _)) ?_
 (with_reducible refine zJ ?_);simp only [zB,pka,pkb,pkc,pkd,pke,pkf];(repeat go_big_quiet_step (fail));refine wpQuiet_nil ?_;clear iS;refine nV ?_;intro w2 hw2;have HR:=hid (show Box w2 w1.heap.size ([(c,hC),(a,hA),(b,hB)].flatMap mpCells) by rw [hw2]; exact box_atY (W:=w1.drew) (cs:=[(c,hC),(a,hA),(b,hB)].flatMap mpCells) rfl);(have hb:KB w1.heap.size w1 w2:=by rw [hw2]; exact zA hS (zG _ _));clear hw2 hS
 have HN2:=hid (show Mans w2 (some ⟨w1.heap.size,0,none⟩) [c,a,b] from mans_box HR.out (fun p hp=>by
  simp only [List.mem_cons,List.not_mem_nil,or_false] at hp;rcases hp with rfl | rfl | rfl
  ·exact HLC.out.kb hb
  ·exact HLA.out.kb hb
  ·exact HLB.out.kb hb))
 have HB2:=hid hb;clear hb HR HKA HKB HKC HLA HLB HLC;(go_wp2_with fail);refine (CP.out _ HB2.out).mono ?_;rintro _ w3 ⟨P1,p1,rfl,hp,hb⟩;have HP3:=hid hp;have HN3:=hid (HN2.out.kb ManAt.stays hb);have HB3:=hid (zA HB2.out hb);clear hp hb HN2 HB2 CP;(go_wp2_with fail);refine (DP.out _ _ HB3.out HN3.out).mono ?_;rintro _ w4 ⟨P2,p2,rfl,hp,hb⟩;have HQ4:=hid hp;have HP4:=hid (HP3.out.kb PinAt.stays hb);have HN4:=hid (HN3.out.kb ManAt.stays hb);have HB4:=hid (zA HB3.out hb);clear hp hb HN3 HB3 HP3 DP;(go_wp2_with fail);refine (CH.out _ HB4.out).mono ?_;rintro _ w5 ⟨A1,c1,A2,c2,rfl,h1,h2,hb⟩;have HS1:=hid h1.1;have HS2:=hid h2.1;have HQ5:=hid (HQ4.out.kb PinAt.stays hb);have HP5:=hid (HP4.out.kb PinAt.stays hb);have HN5:=hid (HN4.out.kb ManAt.stays hb);have HB5:=hid (zA HB4.out hb);clear h1 h2 hb HN4 HB4 HP4 HQ4 CH;(go_upto_region 6 with fail);refine zI ?_;intro w6 hw6;have HX:=hid (show Box w6 w5.heap.size [.slice A1 q1 c1,.slice A2 q2 c2] by rw [hw6]; exact Box.new w5 [.slice A1 q1 c1,.slice A2 q2 c2] 42);(have hb:KB w5.heap.size w5 w6:=by rw [hw6]; exact zG _ _);clear hw6;have HS16:=hid (HS1.out.kb hb);have HS26:=hid (HS2.out.kb hb);have HQ6:=hid (HQ5.out.kb PinAt.stays hb);have HP6:=hid (HP5.out.kb PinAt.stays hb);have HN6:=hid (HN5.out.kb ManAt.stays hb);have HB6:=hid (zA HB5.out hb);clear hb HS1 HS2 HQ5 HP5 HN5 HB5;generalize w5.heap.size=g12 at *;go_wp2_with fail
 refine (DH.out _ _ HB6.out HN6.out).mono ?_;rintro _ w7 ⟨B1,d1,B2,d2,rfl,h1,h2,hb⟩;have HT1:=hid h1.1;have HT2:=hid h2.1;have HX7:=hid (HX.out.kb hb);have HS17:=hid (HS16.out.kb hb);have HS27:=hid (HS26.out.kb hb);have HQ7:=hid (HQ6.out.kb PinAt.stays hb);have HP7:=hid (HP6.out.kb PinAt.stays hb);have HB7:=hid (zA HB6.out hb);clear h1 h2 hb HX HS16 HS26 HQ6 HP6 HN6 HB6 DH;(go_upto_region 7 with fail);refine zI ?_;intro w8 hw8;have HY:=hid (show Box w8 w7.heap.size [.slice B1 q1 d1,.slice B2 q2 d2] by rw [hw8]; exact Box.new w7 [.slice B1 q1 d1,.slice B2 q2 d2] 42);(have hb:KB w7.heap.size w7 w8:=by rw [hw8]; exact zG _ _);clear hw8;have HX8:=hid (HX7.out.kb hb);have HT18:=hid (HT1.out.kb hb);have HT28:=hid (HT2.out.kb hb);have HS18:=hid (HS17.out.kb hb);have HS28:=hid (HS27.out.kb hb);have HQ8:=hid (HQ7.out.kb PinAt.stays hb);have HP8:=hid (HP7.out.kb PinAt.stays hb);have HB8:=hid (zA HB1.out (zA HB7.out hb));clear hb HX7 HT1 HT2 HS17 HS27 HQ7 HP7 HB7;generalize w7.heap.size=g14 at *;(go_wp2_with fail);refine (CA.out _ HB8.out).mono ?_;rintro _ w9 ⟨rfl,hb⟩;have HB9:=hid hb;clear hb;(have e5:(pe==pe)=true:=by simp);have HSP:=hid (samepins_any P1 P2 p1 p2 pl w9 (HP8.out.kb PinAt.stays HB9.out) (HQ8.out.kb PinAt.stays HB9.out) (by have:=HP3L.out; omega));rw [HPN.out] at HSP;(go_wp2_with fail);refine HSP.out.mono ?_;rintro _ w10 ⟨rfl,hb⟩;have HB10:=hid (zA HB9.out hb)
 clear hb HSP
 have HSS:=hid (show Calls Tryz.prog 13 #[setV A1 q1 c1 A2 q2 c2,setV B1 q1 d1 B2 q2 d2] w10 (yc w10 true) from by
  have h:=law_sameR c1 c2 d1 d2 (HSG.out.at_ (HS18.out.kb HB10.out) (HS28.out.kb HB10.out)) (HSG.out.at_ (HT18.out.kb HB10.out) (HT28.out.kb HB10.out)) (by omega);rw [HQ1.out,HQ2.out] at h
  rwa [show sameS s1 s2 s1 s2=true from sameS_self] at h)
 obtain ⟨x0,x1⟩:=(HX8.out.kb HB10.out).get2;have xl:=(HX8.out.kb HB10.out).1;obtain ⟨y0,y1⟩:=(HY.out.kb HB10.out).get2;have yl:=(HY.out.kb HB10.out).1;(go_wp2_with fail);refine HSS.out.mono ?_;rintro _ w11 ⟨rfl,hb⟩;have HBX:=hid (zA HB8.out (zA HB10.out hb.kb));clear hb HSS x0 x1 xl y0 y1 yl;(go_wp2_with fail);(try rw [Exit.noGoto_ret]);(try (first | go_ret | go_ret2));exact ⟨rfl,HBX.out⟩
end Go.Proofs.YtiffijoenkcpjaaGreatDoor
