import Derived.Test.YtgllkohjehjphaaGreatDoorVLt
import Derived.Test.YtgllkohjehjphaaGreatDoorVMf
set_option linter.unusedVariables false
set_option linter.unusedSimpArgs false
set_option maxRecDepth 100000
set_option maxHeartbeats 2000000
namespace Go.Proofs.YtgllkohjehjphaaGreatDoor
open Go.RowKit Go.Lib
open Rw
theorem rq {w w':World} {A:Option Addr} {zs:List Int} (h:IntsAt w A zs) (hb:KB w.heap.size w w'):IntsAt w' A zs:=IntsAt.below (w:=und w) h (uf hb)
def m4 (w:World) (nm:ByteArray) (e:Ending) (w':World):Prop:=∃ (es:List EntryL) (A:Option Addr) (c:Nat),e = .returned (.agg #[.string nm,.slice A es.length c])∧yL (xH w' w.heap.size none) A es∧es.length≤c∧zQ z7 ⟨nm,es⟩=true∧EntsOk es∧KB w.heap.size w w'
structure ShSt (w:World) (g B:Nat) (nm:ByteArray) (u:World) (A:Option Addr) (c:Nat) (es:List EntryL):Prop where
 own:Own w.heap.size u g [.string nm,.slice A es.length c]
 ents:yL (xH u B none) A es
 cap:es.length≤c
 may:zQ z7 ⟨nm,es⟩=true
 ok:EntsOk es
 res:Own w.heap.size u w.heap.size [.string ⟨#[]⟩,.slice none 0 0]
 kb:KB w.heap.size w u
 base:B≤u.heap.size
theorem ShSt.on {w u u':World} {g B:Nat} {nm:ByteArray} {A:Option Addr} {c:Nat} {es:List EntryL} (h:ShSt w g B nm u A c es) (hb:KB u.heap.size u u'):ShSt w g B nm u' A c es :=
 ⟨h.own.kb hb,RowOf.mono EntryAt.mono h.ents (rm hb),h.cap,h.may,h.ok,h.res.kb hb,zA h.kb hb,Nat.le_trans h.base hb.size⟩
theorem cg {es:List EntryL} {x:EntryL} (h:EntsOk es) (hf:x.rc.v.fit) (hs:∀ f∈x.rc.feats,yP f) (hl:es.length≤1000):EntsOk (es++[x]) :=
 ⟨fun y hy=>by
  rcases List.mem_append.1 hy with hy | hy
  ·exact h.fit y hy
  ·(rcases List.mem_singleton.1 hy with rfl);exact hf,fun y hy=>by
  rcases List.mem_append.1 hy with hy | hy
  ·exact h.small y hy
  ·rcases List.mem_singleton.1 hy with rfl
   exact hs,by rw [List.length_append,List.length_singleton]; omega⟩
theorem bZ {ps:List EP} {es:List EntryL} {x:EntryL} {n:Nat} (h:ps.map (·.1)=es++[x]) (hn:es.length=n) (hk:n < ps.length) (b:Bool):(ps.set n (({ ps[n].1 with yanked:=b }:EntryL),ps[n].2)).map (·.1)=es++[{ x with yanked:=b }]:=by
 have e:ps[n].1=x:=by
  (have:(ps.map (·.1))[n]?=some x:=by rw [h,← hn,List.getElem?_append_right (Nat.le_refl _)]; simp);rw [List.getElem?_map,List.getElem?_eq_getElem hk] at this;injection this
 rw [List.map_set,h,e,List.set_append_right _ _ (by omega),hn,Nat.sub_self];rfl
theorem Zk {α:Type} {n B g:Nat} {f:α→List Value} {w:World} {l:List α} (h:Lies n f w (some ⟨g,0,none⟩) l) (hB:B≤g):Lies n f (xH w B none) (some ⟨g,0,none⟩) l:=by
 rcases h with h | ⟨b,off,e,hlt,hc⟩
 ·exact .inl h
 ·(injection e with e);(injection e with e1 e2 e3);subst e1; subst e2;exact .inr ⟨g,0,rfl,by rw [xL]; exact hlt,fun i hi j u hj=>wQ.2 ⟨⟨hB,fun e=>by cases e⟩,hc i hi j u hj⟩⟩
theorem rz (A:Option Addr) (cap:Nat) (zs:List Int) (i:Int) (nm:ByteArray) (mo:Nat) (w:World) (h:IntsAt w A zs) (hi:0≤i) (hi2:i≤1000000) (hln:zs.length≤9223372036854775807) (hmo:mo≤100) (hnm:zg (bts nm)=true):Calls Tryz.prog 28 #[.slice A zs.length cap,.int .i64 i,.string nm,.int .i64 (mo:Int)] w (m4 w nm):=by
 (have hf:∀ (j n:Int) (w':World),KB w.heap.size w w'→0≤j→j≤1000000000→0 < n→n≤1000000→Calls Tryz.prog 23 #[.slice A zs.length cap,.int .i64 j,.int .i64 n] w' fun e w''=>e = .returned (.int .i64 (xh zs j n))∧w'=w'':=fun j n w' hb h1 h2 h3 h4=>un A cap zs j n w' (rq h hb) h1 h2 hln h3 h4);have CF:=hid hf;have CR:=hid (fun (j own:Int) u (hb:KB w.heap.size w u) (h1:0≤j) (h2:j≤7000000) (h3:0≤own) (h4:own≤100)=>jz A cap zs j own u (rq h hb) h1 h2 hln h3 h4);have HM0:=hid (show zQ z7 ⟨nm,[]⟩=true by rw [zQ,hnm]; rfl);have HBD:=hid (fun j n (h:0 < n)=>vO zs j n h);clear h hf hnm;generalize zs.length=zn at *;go_enter Tryz.func28,Tryz.ntmps28;(go_upto_region 2 with fail);refine zI ?_;intro w1 hw1;have HO:=hid (show Own w.heap.size w1 w.heap.size [.string ⟨#[]⟩,.slice none 0 0] by rw [hw1]; exact (Own.new w [.string ⟨#[]⟩,.slice none 0 0] 24 (Nat.le_refl _)).alloc _);have HX:=hid (show Own w.heap.size w1 (w.heap.size+1) [.string nm,.slice none 0 0] by rw [hw1]; exact Own.new2 w _ [.string nm,.slice none 0 0] 24 (Nat.le_refl _));have HB1:=hid (show KB w.heap.size w w1 by rw [hw1]; exact zA (zG _ _) (zG _ _));clear hw1;have hg1:w.heap.size < w.heap.size+1:=Nat.lt_succ_self _;generalize w.heap.size+1=g1 at *;obtain ⟨B,hB⟩:∃ B,B=w1.heap.size:=⟨_,rfl⟩;(have hgB:g1 < B:=by rw [hB]; exact HX.out.box.1);have HST:=hid (show ShSt w g1 B nm w1 none 0 [] from ⟨HX.out,.inl rfl,Nat.le_refl _,HM0.out,fU,HO.out,HB1.out,Nat.le_of_eq hB⟩)
 clear hB HX HO HB1;(go_upto_block 0 with fail);(go_wp2_with fail);go_loopw [10] (fun kv ww=>∃ (k:Nat) (A':Option Addr) (c':Nat) (es:List EntryL),kv = .int .i64 (k:Int)∧k≤mo∧Hid (es.length≤k)∧Hid (ShSt w g1 B nm ww A' c' es)) (fun kv _=>mo - (intOf kv).toNat)
 case atStart=>exact ⟨0,none,0,[],rfl,Nat.zero_le _,hid (Nat.le_refl _),HST⟩
 case round =>
  (rename World=>wr);obtain ⟨k,A',c',es,rfl,hk,HEK,HS⟩:=hrel;(have k0:(0:Int)≤(k:Int):=by omega);by_cases hlt:k < mo
  ·(have k1:(k:Int) < (mo:Int):=by omega);(go_wp2_with fail);refine (CF.out _ _ _ HS.out.kb (by omega) (by omega) (by omega) (by omega)).mono ?_;rintro _ _ ⟨rfl,rfl⟩;generalize xh zs i ((mo:Int)+1)=t0 at *;by_cases ht:(k:Int) < t0
   ·have d1:decide ((k:Int) < t0)=true:=decide_eq_true ht;clear ht;(go_wp2_with fail);refine (CF.out _ _ _ HS.out.kb (by omega) (by omega) (by omega) (by omega)).mono ?_;rintro _ _ ⟨rfl,rfl⟩;have hq:=HBD.out (i+1+82 * (k:Int)+80) 4 (by omega);generalize xh zs (i+1+82 * (k:Int)+80) 4=q at *;(go_wp2_with fail);refine (CR.out _ _ _ HS.out.kb (by omega) (by omega) (by omega) (by omega)).mono ?_;rintro _ u1 ⟨r,hd,rfl,hrl,hfit,hsm,hb⟩;have HFI:=hid hfit;have HSM:=hid hsm;have hBw:B≤wr.heap.size:=HS.out.base;have HRL:=hid (hrl.mono (yK hBw (o:=none) fun q e=>by cases e));have HS1:=hid (HS.out.on hb.kb);clear hrl hfit hsm hb HS hq;(go_upto_region 6 with fail);refine zI ?_;intro u2 hu;(have hb:KB u1.heap.size u1 u2:=by rw [hu]; exact zG _ _);have HY:=hid (show Box u2 u1.heap.size (r.cells hd) by rw [hu]; exact Box.new u1 (r.cells hd) 31);have HS2:=hid (HS1.out.on hb);have HRL2:=hid (HRL.out.mono (rm hb));clear hu hb HS1 HRL;have HPV:=hid (fun h=>kj (s:=⟨nm,es⟩) (r:=r) h);have HPT:=hid (gt ⟨nm,es⟩ A' c' r hd (xH u2 B none) u2 (Mono.of_mask _ _ _) HS2.out.ents HS2.out.ok HS2.out.cap HRL2.out HFI.out HSM.out);unfold ShelfKO at HPT;generalize kS z7 ⟨nm,es⟩ r=res at *;obtain ⟨⟨n2,es2⟩,en⟩:=res;dsimp only [ShelfL.val,RecL.val] at HPT HPV;obtain ⟨y0,y1,y2,y3,y4,y5,y6,y7,y8,yl⟩:=wK HY.out;have x0:=HS2.out.own.box.2 0 _ rfl;have x1:=HS2.out.own.box.2 1 _ rfl
    have xl:=HS2.out.own.box.1;generalize hn:es.length=n at *;have HN:=hid hn;clear hn;(go_wp2_with fail);refine HPT.out.mono ?_;rintro _ u3 ⟨A2,c2,rfl,hown,hE2,hc2,hb⟩;have HS3:=hid (HS2.out.on hb);have HOW:=hid hown;have HC2:=hid hc2;have HB3:=hid hb;clear hown hE2 hc2 hb y0 y1 y2 y3 y4 y5 y6 y7 y8 yl x0 x1 xl HY HPT;generalize hn2:es2.length=nn2 at *;have HN2:=hid hn2;clear hn2;(go_upto_region 7 with fail);refine zI ?_;intro u4 hu;(have hb:KB u3.heap.size u3 u4:=by rw [hu]; exact zG _ _);have HZ:=hid (show Box u4 u3.heap.size [.string n2,.slice A2 nn2 c2] by rw [hu]; exact Box.new u3 [.string n2,.slice A2 nn2 c2] 24);have HS4:=hid (HS3.out.on hb);have HB4:=hid hb;clear hu hb;by_cases hen:en=0
    ·subst hen;obtain ⟨he,hlt64,hmay⟩:=HPV.out rfl;(injection he with he1 he2);have he1':=he1.symm;subst he1';have HE2:=hid he2;have HMY:=hid hmay;obtain ⟨g,hA2,hgl,hfz,ps,hps,hli,hrl⟩:=HOW.out rfl;subst hA2;have HPS:=hid hps;have HFZ:=hid hfz;have HLI:=hid hli;have HRP:=hid hrl;(have hnn:nn2=n+1:=by rw [← HN2.out,HE2.out,List.length_append,HN.out]; rfl);subst hnn
     have hpl:ps.length=n+1:=by
      have:=congrArg List.length hps;rw [List.length_map] at this;rw [this,← HN2.out,HE2.out]
     (have hkp:n < ps.length:=by omega);have hu3:u2.heap.size≤u3.heap.size:=HB3.out.size;have hg3:g < u3.heap.size:=(hli.lay hkp).1;have hg1u:g1 < u2.heap.size:=HS2.out.own.box.1;(have hgg:g≠g1:=by omega);(have hwg:w.heap.size≤g:=by have:=HS2.out.kb.size; omega);(have hBg:B≤g:=by have:=HS2.out.base; omega);(have hn64:n < 64:=by have:=HN.out; have h65:=hlt64; omega);have HPL:=hid hpl;clear hps hli hrl hfz hpl hmay he2 hlt64;have z0:=HZ.out.2 0 _ rfl;have z1:=HZ.out.2 1 _ rfl;have zl:=HZ.out.1;have x0:=HS4.out.own.box.2 0 _ rfl;have x1:=HS4.out.own.box.2 1 _ rfl;have xl:=HS4.out.own.box.1;have xf:∀ j,u4.frozen? ⟨g1,j,none⟩=false:=HS4.out.own.soft;(go_upto_region 9 with fail);refine zI ?_;intro u5 hu;have HX5:=hid (show Own w.heap.size u5 g1 [.string nm,.slice (some ⟨g,0,none⟩) (n+1) c2] by rw [hu]; exact vM HS4.out.own _ _);have HB5:=hid (show KB w.heap.size w u5 by rw [hu]; exact vE HS4.out.kb (Nat.le_of_lt hg1) _ _)
     have HL5:=hid (show Lies 11 yR u5 (some ⟨g,0,none⟩) ps by
      rw [hu]
      exact ((HLI.out.kb HB4.out).put (fun ad had=>by injection had with had; rw [← had]; exact hgg) _).put (fun ad had=>by injection had with had; rw [← had]; exact hgg) _)
     have HF5:=hid (show ∀ j,u5.frozen? ⟨g,j,none⟩=false by
      intro j;rw [hu,World.frozen?_setCell,World.frozen?_setCell]
      exact (Go.RowKit.Below.frozen HB4.out (p:=⟨g,j,none⟩) hg3).trans (HFZ.out j))
     have HO5:=hid (show Own w.heap.size u5 w.heap.size [.string ⟨#[]⟩,.slice none 0 0] by rw [hu]; exact (HS4.out.res.other (Nat.ne_of_lt hg1) _).other (Nat.ne_of_lt hg1) _)
     have HK5:=hid (show ∀ q,q < u2.heap.size→B≤q→u5.heap[q]?=u2.heap[q]? by
      intro q h1 h2;rw [hu,pA (by omega),pA (by omega)]
      exact (HB4.out.block q (by omega)).trans (HB3.out.block q h1))
     have HZ5:=hid (show u2.heap.size≤u5.heap.size by rw [hu,World.size_setCell,World.size_setCell]; exact Nat.le_trans hu3 HB4.out.size);clear hu z0 z1 zl x0 x1 xl xf;(have n0:(0:Int)≤(n:Int):=by omega);(have n1:(n:Int) < (n:Int)+1:=by omega);have r1:IntKind.i64.wrap (i+1)=i+1:=IntWalk.i64_in _ (by omega);have r2:IntKind.i64.wrap (82 * (k:Int))=82 * (k:Int):=IntWalk.i64_in _ (by omega);have r3:IntKind.i64.wrap (i+1+82 * (k:Int))=i+1+82 * (k:Int):=IntWalk.i64_in _ (by omega);have r4:IntKind.i64.wrap (i+1+82 * (k:Int)+81)=i+1+82 * (k:Int)+81:=IntWalk.i64_in _ (by omega);have hkd:KB w.heap.size w u5.drew:=zM HB5.out;have hS:Box u5.drew g1 [.string nm,.slice (some ⟨g,0,none⟩) (n+1) c2]:=HX5.out.box.kb (zM (zH _));(refine wpS (fun u=>Box u g1 [.string nm,.slice (some ⟨g,0,none⟩) (n+1) c2]) (.call [0,1,2,3,4,5,6,7,8,9,10,11,12] 13 (.call [14,15,16] 17 (.last []))) fun iS=>?_);(have x1:=fun (z:SW fun u=>Box u g1 [.string nm,.slice (some ⟨g,0,none⟩) (n+1) c2])=>z.ok.2 1 (.slice (some ⟨g,0,none⟩) (n+1) c2) rfl);(have xl:=fun (z:SW fun u=>Box u g1 [.string nm,.slice (some ⟨g,0,none⟩) (n+1) c2])=>z.ok.1);(with_reducible refine zD ?_);simp only [zB,pka,pkb,pkc,pkd,pke,pkf];(repeat go_big_quiet_step (fail));refine wpQuiet_nil ?_;(go_wp2_with fail);refine (CF.out _ _ _ hkd (by omega) (by omega) (by omega) (by omega)).mono ?_
     rintro _ _ ⟨rfl,rfl⟩;generalize xh zs (i+1+82 * (k:Int)+81) 9=q2 at *;(go_wp2_with fail);refine zE (hS) ?_;(with_reducible refine zD ?_);simp only [zB,pka,pkb,pkc,pkd,pke,pkf];(repeat go_big_quiet_step (fail));refine wpQuiet_nil ?_
     have o1:u5.cell? ⟨g,n * 11+10,none⟩=some (.bool ps[n].1.yanked):=by
      have:=(HL5.out.lay hkp).2 10 _ rfl
      rwa [Nat.zero_add] at this
     have of_:∀ j,u5.frozen? ⟨g,j,none⟩=false:=HF5.out;have ol:g < u5.heap.size:=(HL5.out.lay hkp).1;(go_wp2_with fail);refine zE (hS.putOther (Ne.symm hgg) _) ?_;(with_reducible refine zJ ?_);simp only [zB,pka,pkb,pkc,pkd,pke,pkf];(repeat go_big_quiet_step (fail));refine wpQuiet_nil ?_;clear iS x1 xl o1 of_ r1 r2 r3 r4;refine nV ?_;intro u6 hu6;replace hu6:u6=(u5.setCell ⟨g,n * 11+10,none⟩ (.bool (q2==1))).drew:=hu6;have HL6:=hid (show Lies 11 yR u6 (some ⟨g,0,none⟩) (ps.set n (({ ps[n].1 with yanked:=(q2==1) }:EntryL),ps[n].2)) by rw [hu6]; exact XK ga HL5.out hkp (by decide) _ (.bool (q2==1)) rfl (dq ps[n] (q2==1)))
     have HM6:=hid (show Mono (xH u2 B none) (xH u6 B none) from vd (by rw [hu6]; show _≤(u5.setCell _ _).heap.size; rw [World.size_setCell]; exact HZ5.out) fun q h1 h2 _=>⟨⟨h2,fun e=>by cases e⟩,by
      rw [hu6];show (u5.setCell _ _).heap[q]?=_;rw [pA (by omega)]
      exact HK5.out q h1 h2⟩)
     (have hz6:u2.heap.size≤u6.heap.size:=by have:=HM6.out.1; rwa [xL,xL] at this);(have hl6:(es++[(⟨r,(vo z7 r).1,q2==1⟩:EntryL)]).length=n+1:=by rw [List.length_append,HN.out]; rfl);have hmk:=bZ (HPS.out.trans HE2.out) HN.out hkp (q2==1)
     have HS6:=hid (show ShSt w g1 B nm u6 (some ⟨g,0,none⟩) c2 (es++[(⟨r,(vo z7 r).1,q2==1⟩:EntryL)]) from ⟨by
      rw [hl6,hu6]; exact (HX5.out.other (Ne.symm hgg) _).kb (zM (zH _)),by
      have:=uu (Zk HL6.out hBg) (fun p hp=>(show RecLies (xH u6 B none) p.2 p.1.rc from by
       rcases List.mem_or_eq_of_mem_set hp with h | h
       ·exact (HRP.out p h).mono HM6.out
       ·rw [h]; exact (HRP.out ps[n] (List.getElem_mem hkp)).mono HM6.out))
      rw [hmk] at this
      exact this,by rw [hl6]; exact HC2.out,HMY.out _,cg HS4.out.ok HFI.out HSM.out (by have:=HN.out; omega),by
      rw [hu6]; exact (HO5.out.other (by omega) _).kb (zM (zH _)),by
      rw [hu6]; exact zM (yV HB5.out hwg _),Nat.le_trans HS2.out.base hz6⟩)
     clear hu6 hmk;(go_wp2_with fail);go_roundw
     case rel=>exact ⟨k+1,some ⟨g,0,none⟩,c2,es++[⟨r,(vo z7 r).1,q2==1⟩],by go_num,by omega,hid (by have:=HEK.out; have:=HN.out; omega),HS6⟩
     case measure=>simp [intOf]<;>omega
    ·(have e0:(en==0)=false:=by rw [beq_eq_false_iff_ne]; exact hen);clear hen HPV HOW;(go_wp2_with fail);go_roundw
     case rel=>exact ⟨k+1,A',c',es,by go_num,by omega,hid (by have:=HEK.out; have:=HN.out; omega),HS4⟩
     case measure=>simp [intOf]<;>omega
   ·have d1:decide ((k:Int) < t0)=false:=decide_eq_false ht;clear ht;have hwB:w.heap.size < B:=Nat.lt_trans hg1 hgB;have x0:=HS.out.own.box.2 0 _ rfl;have x1:=HS.out.own.box.2 1 _ rfl;have xl:=HS.out.own.box.1;have y0:=HS.out.res.box.2 0 _ rfl;have y1:=HS.out.res.box.2 1 _ rfl;have yl:=HS.out.res.box.1;have sf:∀ j,wr.frozen? ⟨w.heap.size,j,none⟩=false:=HS.out.res.soft;(go_wp2_with fail);refine zP ?_;intro w9 hw9;(have O9:Own w.heap.size w9 w.heap.size [.string nm,.slice A' es.length c']:=by rw [hw9]; exact vM HS.out.res _ _);(have B9:KB w.heap.size w w9:=by rw [hw9]; exact vE HS.out.kb (Nat.le_refl _) _ _);(have M9:Mono (xH wr B none) (xH w9 w.heap.size none):=by rw [hw9]; exact ((yC (.inl hwB)).trans (yC (.inl hwB))).trans (yK (Nat.le_of_lt hwB) fun k e=>by cases e));clear hw9;have q0:=O9.box.2 0 _ rfl;have q1:=O9.box.2 1 _ rfl;refine bodyPost_ret (v := .agg #[.string nm,.slice A' es.length c']) (by simp [results,Tryz.results28,go_sem,q0,q1]) rfl ?_;exact ⟨es,A',c',rfl,RowOf.mono EntryAt.mono HS.out.ents M9,HS.out.cap,HS.out.may,HS.out.ok,B9⟩
  ·(have k1:¬ (k:Int) < (mo:Int):=by omega);have hwB:w.heap.size < B:=Nat.lt_trans hg1 hgB;have x0:=HS.out.own.box.2 0 _ rfl;have x1:=HS.out.own.box.2 1 _ rfl;have xl:=HS.out.own.box.1;have y0:=HS.out.res.box.2 0 _ rfl;have y1:=HS.out.res.box.2 1 _ rfl;have yl:=HS.out.res.box.1;have sf:∀ j,wr.frozen? ⟨w.heap.size,j,none⟩=false:=HS.out.res.soft;(go_wp2_with fail);refine zP ?_;intro w9 hw9;(have O9:Own w.heap.size w9 w.heap.size [.string nm,.slice A' es.length c']:=by rw [hw9]; exact vM HS.out.res _ _);(have B9:KB w.heap.size w w9:=by rw [hw9]; exact vE HS.out.kb (Nat.le_refl _) _ _);(have M9:Mono (xH wr B none) (xH w9 w.heap.size none):=by rw [hw9]; exact ((yC (.inl hwB)).trans (yC (.inl hwB))).trans (yK (Nat.le_of_lt hwB) fun k e=>by cases e));clear hw9;have q0:=O9.box.2 0 _ rfl;have q1:=O9.box.2 1 _ rfl;refine bodyPost_ret (v := .agg #[.string nm,.slice A' es.length c']) (by simp [results,Tryz.results28,go_sem,q0,q1]) rfl ?_;exact ⟨es,A',c',rfl,RowOf.mono EntryAt.mono HS.out.ents M9,HS.out.cap,HS.out.may,HS.out.ok,B9⟩
theorem cX (w:World):RecLies w ⟨none,0,none,0,none,0⟩ jy:=⟨.inl rfl,.inl rfl,.inl rfl,by decide,by decide,by decide⟩
theorem fc (nm:ByteArray):EntsOk (shB nm).entries:=⟨(fun x hx=>by
 rcases List.mem_singleton.1 hx with rfl
 exact Xw 1 0 0),(fun x hx f hf=>by
 rcases List.mem_singleton.1 hx with rfl
 exact absurd hf (List.not_mem_nil)),by simp [shB]⟩
end Go.Proofs.YtgllkohjehjphaaGreatDoor
