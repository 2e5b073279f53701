import Derived.Test.YtiebekmefjbenaaGreatDoorZDe
set_option linter.unusedVariables false
set_option linter.unusedSimpArgs false
set_option maxRecDepth 100000
set_option maxHeartbeats 8000000
namespace Go.Proofs.YtiebekmefjbenaaGreatDoor
open Go.RowKit Go.Lib
open Rw
def OwnT (w:World) (base:Nat) (v:Value) (ds:List ByteArray):Prop:=w.ownsRow base 9 1 v ds.length (ds.map Value.string)
section
variable {w w':World} {base:Nat} {v:Value} {ds:List ByteArray}
theorem OwnT.nil:OwnT w base (.slice none 0 0) []:=World.ownsRow_nil _ _ _ _
theorem OwnT.kb (h:OwnT w base v ds) (hb:KB w.heap.size w w'):OwnT w' base v ds:=tG h hb
theorem OwnT.snoc {p:ByteArray} {v':Value} (h:w'.ownsRow base 9 1 v' (ds.length+1) (ds.map Value.string++[.string p])):OwnT w' base v' (ds++[p]):=by
 unfold OwnT;rw [List.length_append,List.map_append];simpa using h
theorem OwnT.box (h:OwnT w base v ds) (h0:0 < ds.length):∃ g cap,v = .slice (some ⟨g,0,none⟩) ds.length cap∧Box w g (ds.map Value.string)∧ds.length≤cap∧base≤g:=by
 obtain ⟨g,cap,hv,hg,hlt,hc,hcell⟩:=vN h h0;refine ⟨g,cap,hv,⟨hlt,fun j u hj=>?_⟩,hc,hg⟩
 have hjl:j < ds.length * 1:=by
  rcases Nat.lt_or_ge j ds.length with h | h
  ·omega
  ·rw [List.getElem?_eq_none (by rw [List.length_map]; exact h)] at hj; cases hj
 rw [hcell j hjl]; exact hj
end
theorem sd {α:Type} {g:α→List UInt8} {l:List α} {ds:List ByteArray} {k:Nat} {p:ByteArray} (h:ds.map bts=(l.map g).take k) (hk:k < l.length) (hp:bts p=g l[k]):(ds++[p]).map bts=(l.map g).take (k+1):=by
 rw [List.take_succ_eq_append_getElem (by rw [List.length_map]; exact hk),List.map_append,h,List.getElem_map,List.map_cons,List.map_nil,hp]
theorem qG {α:Type} {g:α→List UInt8} {l:List α} {ds:List ByteArray} {k:Nat} (h:ds.map bts=(l.map g).take k) (hk:l.length≤k):ds.map bts=l.map g:=by
 rw [h,List.take_of_length_le (by rw [List.length_map]; exact hk)]
def V1 (w:World) (r:List (List CompL)) (e:Ending) (w':World):Prop:=∃ t:ByteArray,e = .returned (.tuple #[.string t,.bool (tD r)])∧bts t=(if tD r then xd r else [])∧KB w.heap.size w w'
theorem sb {w w':World} {r:List (List CompL)} (hf:tD r=false) (h:KB w.heap.size w w'):V1 w r (.returned (.tuple #[.string ⟨#[]⟩,.bool false])) w':=⟨⟨#[]⟩,by rw [hf],by rw [hf]; exact zN [],h⟩
theorem UC {w w1 w2:World} {g:Nat} (hg:w.heap.size=g) (h:KB g w w1) (k:KB w1.heap.size w1 w2):KB w.heap.size w w2:=by subst hg; exact zA h k
theorem mN (A:Option Addr) (c:Nat) (r:List (List CompL)) (w:World) (hL:Laid w) (h:Alts w A r) (hf:Z7 r) (hn:r.length≤4398046511104) (hm:∀ a∈r,a.length≤4398046511104):Calls Tryz.prog 187 #[wL A r.length c] w (V1 w r):=by
 have HL:=hid hL;have HF:=hid hf;have HMM:=hid hm;have HA:=hid h;have HL0:=hid (jV (r:=r));have HY0:=hid (gj (r:=r));have HFP:=hid (fun h=>vb (r:=r) h);clear hf hm h hL;have HLE:=hn;generalize hn2:r.length=n at *;have HN:=hid hn2;clear hn hn2;go_enter Tryz.func187,Tryz.ntmps187;(go_upto_region 1 with fail);refine zI ?_;intro w1 hw1;have HX:=hid (show Box w1 w.heap.size [.slice A n c] by rw [hw1]; exact Box.new w [.slice A n c] 190);have HB:=hid (show KB w.heap.size w w1 by rw [hw1]; exact zG _ _);have HA:=hid (HA.out.kb HB.out);have HL:=hid (HL.out.kb HB.out);clear hw1;have x0:=HX.out.2 0 _ rfl;have xl:=HX.out.1;by_cases hsm:1≤n∧n≤6
 ·(have a1:¬ (n:Int) < 1:=by omega);(have a2:¬ (6:Int) < (n:Int):=by omega);(go_upto_block 0 with fail);clear x0 xl;generalize hB:w1.heap.size=B at *;generalize hg:w.heap.size=g at *;(go_wp2_with fail);go_loopw [23,4] (fun i vs wr=>∃ (k:Nat) (ds:List ByteArray) (v:Value),i = .int .i64 k∧v=vs∧k≤n∧ds.length=k∧Hid (ds.map bts=(r.map l9).take k)∧Hid ((r.take k).all eF=true)∧Hid (OwnT wr B v ds)∧Hid (KB w1.heap.size w1 wr)) (fun i _ _=>n - (intOf i).toNat)
  case atStart=>exact ⟨0,[],_,rfl,rfl,Nat.zero_le _,rfl,hid (by simp),hid (by simp),hid .nil,hid (zH _)⟩
  case round =>
   obtain ⟨k,ds,v,rfl,rfl,hk,hdk,HD,HT,HO,HB1⟩:=hrel;have HBW:=hid (UC hg HB.out HB1.out);(have hBr:B≤wr.heap.size:=by have:=HB1.out.size; omega);by_cases hlt:k < n
   ·(have hlt':k < r.length:=by rw [HN.out]; exact hlt);obtain ⟨b,off,Ai,ci,hA,hbl,hcell,hcs⟩:=(HA.out.kb HB1.out).at_ hlt';subst hA;have HCS:=hid hcs;have HAF:=hid (HF.out _ (List.getElem_mem hlt'));have ham:=HMM.out _ (List.getElem_mem hlt');have HNO:=hid (bi hlt');have HST:=hid (fun h=>q7 hlt' HT.out h);have HDS:=hid (fun p=>sd (g:=l9) (p:=p) HD.out hlt');clear hcs;generalize r[k]=a at *;have HL1:=hid (kI (a:=a));have HY1:=hid (gw (a:=a));have HAL:=hid (show (zT o7 (a.map zh)).length≤62 * a.length from fN a);generalize hm:a.length=m at *;have HM:=hid hm;clear hm;(have i0:(0:Int)≤(k:Int):=by omega);(have i1:(k:Int) < (n:Int):=by omega);by_cases hsa:1≤m∧m≤6
    ·(have b1:¬ (m:Int) < 1:=by omega);(have b2:¬ (6:Int) < (m:Int):=by omega);(go_upto_block 2 with fail);clear hcell;(go_wp2_with fail);go_loopw [37,7] (fun i vs ur=>∃ (j:Nat) (ps:List ByteArray) (va:Value),i = .int .i64 j∧va=vs∧j≤m∧ps.length=j∧Hid (ps.map bts=(a.map zh).take j)∧Hid ((a.take j).all sL=true)∧Hid (OwnT ur wr.heap.size va ps)∧Hid (KB wr.heap.size wr ur)) (fun i _ _=>m - (intOf i).toNat)
     case atStart=>exact ⟨0,[],_,rfl,rfl,Nat.zero_le _,rfl,hid (by simp),hid (by simp),hid .nil,hid (zH _)⟩
     case round =>
      (rename World=>ur);obtain ⟨j,ps,va,rfl,rfl,hj,hpj,HP,HU,HOU,HB2⟩:=hrel;have hBu:=HB2.out.size;by_cases hlj:j < m
      ·(have hlj':j < a.length:=by rw [HM.out]; exact hlj);(have j0:(0:Int)≤(j:Int):=by omega);(have j1:(j:Int) < (m:Int):=by omega);obtain ⟨b2',off2,hAi,hbl2,hrow⟩:=(Lies.kb HCS.out HB2.out).at7 hlj';subst hAi;have HCF:=hid (HAF.out _ (List.getElem_mem hlj'));have HNA:=hid (cm hlj');have HSU:=hid (fun h=>q7 hlj' HU.out h);have HPS:=hid (fun p=>sd (g:=zh) (p:=p) HP.out hlj');generalize a[j]=x at *;obtain ⟨c0,c1,c2,c3,c4,c5,c6⟩:=hrow;(go_upto_region 13 with fail);refine zI ?_;intro u1 hu1;have HXX:=hid (show Box u1 ur.heap.size x.cells by rw [hu1]; exact Box.new ur x.cells 88);have HB3:=hid (show KB wr.heap.size wr u1 by rw [hu1]; exact zA HB2.out (zG _ _));have HOU:=hid (show OwnT u1 wr.heap.size va ps by rw [hu1]; exact HOU.out.kb (zG _ _));clear hu1 c0 c1 c2 c3 c4 c5 c6;obtain ⟨x0,x1,x2,x3,x4,x5,x6⟩:=HXX.out.get7;have xl:=HXX.out.1;have HMX:=hid (fun u=>mz x u HCF.out);(go_wp2_with fail);refine (HMX.out _).mono ?_;rintro _ u2 ⟨rfl,hb⟩;have HB4:=hid (zA HB3.out hb.kb);have HOU:=hid (HOU.out.kb hb.kb);have HXX:=hid (HXX.out.below hb);clear hb x0 x1 x2 x3 x4 x5 x6 xl HMX;cases hmx:sL x
       ·have HE:=hid (HNO.out (HNA.out hmx));go_wp2_with fail
        go_ret2
        exact sb HE.out (zA HBW.out HB4.out)
       ·have HE:=hid (HSU.out hmx);obtain ⟨x0,x1,x2,x3,x4,x5,x6⟩:=HXX.out.get7;have xl:=HXX.out.1;have HPX:=hid (fun u hu=>nR x u hu HCF.out);have HLU:=hid ((HL.out.kb HB1.out).kb HB4.out);(go_wp2_with fail);refine (HPX.out _ HLU.out).mono ?_;rintro _ u3 ⟨p,rfl,hp,hb⟩;have HPP:=hid (HPS.out p hp);have HB5:=hid (zA HB4.out hb.kb);have HOU:=hid (HOU.out.kb hb.kb);clear hb x0 x1 x2 x3 x4 x5 x6 xl HPX hp;have hsz:=HB5.out.size;(go_wp2_with (first | (at_builtin; refine vu yd rfl (.tmp 44) (.tmp 47) rfl [.string p] HOU.out rfl rfl rfl (Vd _ rfl) (by unfold maxLen; omega) (by omega) hsz ?_; intro v' w' h2 h3 h4)));go_roundw
        case rel=>exact ⟨j+1,ps++[p],_,by go_num,rfl,by omega,by rw [List.length_append,hpj]; rfl,HPP,HE,hid (OwnT.snoc h2),hid (Go.RowKit.Below.trans HB5.out h3.kb)⟩
        case measure=>simp [intOf]; omega
      ·(obtain rfl:j=m:=by omega);(have hge:¬ (j:Int) < (j:Int):=by omega);have HE:=hid (HST.out (HY1.out hsa HU.out));have HPA:=hid (qG (g:=zh) HP.out (by rw [HM.out]; exact Nat.le_refl _));obtain ⟨gq,cap,rfl,hbq,hcq,-⟩:=HOU.out.box (by omega);have HBQ:=hid hbq;have HJ:=hid (oZ gq cap ps ⟨#[44,32]⟩ ur hbq hcq (by omega) (by rw [lI,HPA.out]; have:=HAL.out; omega));rw [lI,HPA.out] at HJ;have HOW:=hid (HO.out.kb HB2.out);clear hbq;generalize hpl:ps.length=pl at *;subst hpj;(go_wp2_with fail);refine HJ.out.mono ?_;rintro _ u1 ⟨t,rfl,ht,hb⟩;have HDT:=hid (HDS.out t ht);have HB3:=hid (zA HB2.out hb);have HOW:=hid (HOW.out.kb hb);have hsz:=HB3.out.size;(have hszB:B≤u1.heap.size:=by omega);have HB4:=hid (zA HB1.out HB3.out);clear hb ht;(go_wp2_with (first | (at_builtin; refine vu yd rfl (.tmp 50) (.tmp 53) rfl [.string t] HOW.out rfl rfl rfl (Vd _ rfl) (by unfold maxLen; omega) (by omega) hszB ?_; intro v' w' h2 h3 h4)));go_roundw
       case rel=>exact ⟨k+1,ds++[t],_,by go_num,rfl,by omega,by rw [List.length_append,hdk]; rfl,HDT,HE,hid (OwnT.snoc h2),hid (Go.RowKit.Below.trans HB4.out (by rw [hB]; exact h3.kb))⟩
       case measure=>simp [intOf]; omega
    ·have HE:=hid (HNO.out (HL1.out hsa));by_cases hs0:m < 1
     ·(have b1:(m:Int) < 1:=by omega);go_wp2_with fail
      go_ret2
      exact sb HE.out HBW.out
     ·(have b1:¬ (m:Int) < 1:=by omega);(have b2:(6:Int) < (m:Int):=by omega);go_wp2_with fail
      go_ret2
      exact sb HE.out HBW.out
   ·(obtain rfl:k=n:=by omega);(have hge:¬ (k:Int) < (k:Int):=by omega);have HE:=hid (HY0.out hsm HT.out);have HPA:=hid (qG (g:=l9) HD.out (by rw [HN.out]; exact Nat.le_refl _));obtain ⟨gq,cap,rfl,hbq,hcq,-⟩:=HO.out.box (by omega);have hlen:=dc (HFP.out HE.out).2;have hn6:=(HFP.out HE.out).1;rw [HN.out] at hlen;have HRT:=hid (show zT rp (r.map l9)=xd r from rfl);have HJ:=hid (oZ gq cap ds ⟨#[32,124,124,32]⟩ wr hbq hcq (by omega) (by rw [lJ,HPA.out,HRT.out]; omega));rw [lJ,HPA.out,HRT.out] at HJ;clear hbq;generalize hpl:ds.length=pl at *;subst hdk;(go_wp2_with fail);refine HJ.out.mono ?_;rintro _ u1 ⟨t,rfl,ht,hb⟩;have HTT:=hid ht;have HB3:=hid (zA HBW.out hb);clear ht hb;go_wp2_with fail
    go_ret2
    exact ⟨t,by rw [show tD r=true from HE.out]; rfl,by rw [show tD r=true from HE.out,if_pos rfl,HTT.out],HB3.out⟩
 ·have HE:=hid (HL0.out hsm);by_cases hs0:n < 1
  ·(have b1:(n:Int) < 1:=by omega);go_wp2_with fail
   go_ret2
   exact sb HE.out HB.out
  ·(have b1:¬ (n:Int) < 1:=by omega);(have b2:(6:Int) < (n:Int):=by omega);go_wp2_with fail
   go_ret2
   exact sb HE.out HB.out
theorem XB (A:Option Addr) (c:Nat) (r:List (List CompL)) (w:World) (hL:Laid w) (h:Alts w A r) (hf:Z7 r) (hn:r.length≤4398046511104) (hm:∀ a∈r,a.length≤4398046511104):Calls Tryz.prog 188 #[wL A r.length c] w (yT w (bD r)):=by
 have HTX:=hid (fun u (hb:KB w.heap.size w u)=>mN A c r u (hL.kb hb) (h.kb hb) hf hn hm);have HMG:=hid (show bD r=(tD r&&decide ((xd r).length≤96)) from rfl);have HB0:=hid (zG w (.cells #[.slice A r.length c] 190));clear h hf hn hm hL;generalize r.length=n at *;go_enter Tryz.func188,Tryz.ntmps188;(go_wp2_with fail);refine (HTX.out _ HB0.out).mono ?_;rintro _ w1 ⟨t,rfl,ht,hb⟩;have HB:=hid (zA HB0.out hb);have HT:=hid ht;clear hb ht;cases hfe:tD r
 ·rw [hfe] at HMG;(go_wp2_with fail);go_ret;exact ⟨by rw [HMG.out]; rfl,HB.out⟩
 ·rw [hfe] at HMG HT;have HTS:=hid (show t.size=(xd r).length by rw [← zF,HT.out,if_pos rfl]);clear hfe;(go_wp2_with fail);go_ret;refine ⟨?_,HB.out⟩;rw [HMG.out,Bool.true_and,← HTS.out];by_cases h96:t.size≤96<;>simp [h96]<;>omega
theorem dv (A:Option Addr) (c:Nat) (r:List (List CompL)) (w:World) (hL:Laid w) (h:Alts w A r) (hf:Z7 r) (hn:r.length≤4398046511104) (hm:∀ a∈r,a.length≤4398046511104):Calls Tryz.prog 166 #[wL A r.length c] w (nM w (qE r)):=by
 have HTX:=hid (fun u (hb:KB w.heap.size w u)=>mN A c r u (hL.kb hb) (h.kb hb) hf hn hm);have HMG:=hid (show qE r=if tD r&&decide ((xd r).length≤96) then xd r else [] from rfl);have HB0:=hid (zG w (.cells #[.slice A r.length c] 190));clear h hf hn hm hL;generalize r.length=n at *;go_enter Tryz.func166,Tryz.ntmps166;(go_wp2_with fail);refine (HTX.out _ HB0.out).mono ?_;rintro _ w1 ⟨t,rfl,ht,hb⟩;have HB:=hid (zA HB0.out hb);have HT:=hid ht;clear hb ht;cases hfe:tD r
 ·rw [hfe] at HMG;(go_wp2_with fail);go_ret;exact ⟨_,rfl,by rw [HMG.out]; exact zN [],HB.out⟩
 ·rw [hfe] at HMG HT;have HTS:=hid (show t.size=(xd r).length by rw [← zF,HT.out,if_pos rfl]);clear hfe;by_cases h96:t.size≤96
  ·(have i96:(t.size:Int)≤96:=by omega);(go_wp2_with fail);go_ret;refine ⟨t,rfl,?_,HB.out⟩;rw [HMG.out,HT.out,Bool.true_and,← HTS.out];simp [h96]
  ·(have i96:¬ (t.size:Int)≤96:=by omega);(go_wp2_with fail);go_ret;refine ⟨_,rfl,?_,HB.out⟩;rw [HMG.out,Bool.true_and,← HTS.out,if_neg (by simpa using h96)];exact zN []
theorem tR (s sep:ByteArray) (w:World) (hL:Laid w) (hs:s.size < 4294967281) (h1:1≤sep.size):Calls Tryz.prog 167 #[.string s,.string sep] w (s9 w (Lib.split (bts s) (bts sep))):=by
 refine (Ym s sep w hL hs h1).mono ?_;rintro e w' ⟨ps,hps,-,h0,-,rfl,rfl⟩;(have hl:(Lib.split (bts s) (bts sep)).length=ps.length:=by rw [← hps,List.length_map]);have hx:=Box.new w (ps.map Value.string) 9;refine ⟨w.heap.size,ps.length,by rw [hl],Nat.le_refl _,hx.1,by rw [hl]; exact Nat.le_refl _,fun j hj=>?_,zL _ _⟩;rw [← hps,List.length_map] at hj;rw [hx.2 j (.string ps[j]) (by simp [hj]),← hps,List.getD_eq_getElem?_getD,List.getElem?_map,List.getElem?_eq_getElem hj];simp only [Option.map_some,Option.getD_some];rw [gu]
theorem V9:bts (⟨#[124,124]⟩:ByteArray)=[124,124]:=zN [124,124]
theorem b44:bts (⟨#[44]⟩:ByteArray)=[44]:=zN [44]
theorem jw (s:ByteArray) (w:World) (hL:Laid w) (hs:s.size < 4294967281):Calls Tryz.prog 167 #[.string s,.string ⟨#[124,124]⟩] w (s9 w (yZ [] (bts s))):=by
 have:=tR s ⟨#[124,124]⟩ w hL hs (by decide)
 rwa [V9,dC] at this
theorem kR (s:ByteArray) (w:World) (hL:Laid w) (hs:s.size < 4294967281):Calls Tryz.prog 167 #[.string s,.string ⟨#[44]⟩] w (s9 w (zV 44 [] (bts s))):=by
 have:=tR s ⟨#[44]⟩ w hL hs (by decide)
 rwa [b44,nu] at this
theorem cS (s:ByteArray) (w:World) (hs:s.size≤9223372036854775807):Calls Tryz.prog 186 #[.string s,.string ⟨#[32]⟩] w (xK w (Lib.trimB (bts s) 32)):=by
 refine (Any.strings_Trim_one Tryz.lays160 s 32 (by decide) w hs).mono ?_;rintro e w' ⟨rfl,h⟩;refine ⟨_,rfl,by rw [zN,bts,yX],?_⟩;rcases h with rfl | rfl
 ·exact Below.refl _ _
 ·exact (Below.refl _ _).drew
theorem dK (s:ByteArray) (w:World) (hL:Laid w):Calls Tryz.prog 165 #[.string s] w (Wc w (yB (bts s))):=by
 have HLS:=hid (zF s);have HL:=hid hL;clear hL;go_enter Tryz.func165,Tryz.ntmps165;(go_upto_region 1 with fail);refine zI ?_;intro w1 hw1;have O2:=hid (show Own w.heap.size w1 w.heap.size [.slice none 0 0] by rw [hw1]; exact Own.new w [.slice none 0 0] 190 (Nat.le_refl _));have HB:=hid (show KB w.heap.size w w1 by rw [hw1]; exact zG _ _);clear hw1;by_cases h96:96 < s.size
 ·have HP:=hid (oq (s:=bts s) (by rw [HLS.out]; exact h96));(have i96:(96:Int) < (s.size:Int):=by omega);have y0:=O2.out.box.2 0 _ rfl;have sf:∀ j,w1.frozen? ⟨w.heap.size,j,none⟩=false:=O2.out.soft;have yl:=O2.out.box.1;(go_wp2_with fail);refine zP ?_;intro w9 hw9;(have O9:Own w.heap.size w9 w.heap.size [.slice none 0 0]:=by rw [hw9]; exact O2.out.put (j:=0) (by simp) _);(have B9:KB w.heap.size w w9:=by rw [hw9]; exact tL HB.out (Nat.le_refl _) _);clear hw9;have k0:=O9.box.2 0 _ rfl;refine bodyPost_ret (v := .tuple #[wL none 0 0,.int .i64 3]) (by simp [results,Tryz.results165,go_sem,k0]) rfl ?_;rw [show yB (bts s)=([],3) from HP.out];exact vI B9
 ·have HPN:=hid (pK (s:=bts s) (by rw [HLS.out]; exact h96));have HPS:=hid (fun r=>oN (s:=bts s) (by rw [HLS.out]; exact h96) (r:=r));(have i96:¬ (96:Int) < (s.size:Int):=by omega);(go_upto_region 4 with fail);refine zI ?_;intro w2 hw2;have O4:=hid (show Own w.heap.size w2 w1.heap.size [.slice none 0 0] by rw [hw2]; exact Own.new w1 [.slice none 0 0] 190 HB.out.size);(have HN4:w.heap.size≠w1.heap.size:=by have:=O2.out.box.1; omega);have O2:=hid (show Own w.heap.size w2 w.heap.size [.slice none 0 0] by rw [hw2]; exact O2.out.alloc _);have HB:=hid (show KB w.heap.size w w2 by rw [hw2]; exact zA HB.out (zG _ _));clear hw2;generalize w1.heap.size=g4 at *;(go_wp2_with fail);refine (jw s w2 (HL.out.kb HB.out) (by omega)).mono ?_;rintro _ w3 ⟨gp,cp,rfl,hgp,hgpl,hcp,hcell,hb⟩;have HXL:=hid (fun x (hx:x∈yZ [] (bts s))=>(show x.length≤96 by have h1:=uo hx; have h2:=HLS.out; omega));have hxn:(yZ [] (bts s)).length≤97:=by have h1:=ug (bts s) []; have h2:=HLS.out; omega
  have HPW:=hid (show PW w w3.heap.size w.heap.size g4 gp (yZ [] (bts s)) (.slice none 0 0) [] w3 from
   ⟨zA HB.out hb.kb,O2.out.below hb,O4.out.below hb,⟨hgpl,hcell⟩,.nil,Nat.lt_of_lt_of_le O2.out.box.1 hb.size,Nat.lt_of_lt_of_le O4.out.box.1 hb.size,hgpl,HN4,(by have:=O4.out.box.1; omega),Nat.le_refl _⟩)
  have hwB:w.heap.size≤w3.heap.size:=HPW.out.below.size;clear hcell hb O2 O4 HB hgpl hgp;generalize yZ [] (bts s)=xs at *;generalize hn:xs.length=n at *;have HN:=hid hn;clear hn;have HWB:=hid hwB;generalize hB:w3.heap.size=B at *;clear hB;(go_upto_block 0 with fail);(go_wp2_with fail);go_loopw [21] (fun i wr=>∃ (k:Nat) (v:Value) (r:List (List CompL)),i = .int .i64 k∧k≤n∧r.length=k∧Hid (rP r (xs.drop k)=vg xs)∧Hid (PW w B w.heap.size g4 gp xs v r wr)) (fun i _=>n - (intOf i).toNat)
  case atStart=>exact ⟨0,_,[],rfl,Nat.zero_le _,rfl,hid (by rw [List.drop_zero]; exact oK xs),HPW⟩
  case round =>
   obtain ⟨k,v,r,rfl,hk,hrk,HS,HPW⟩:=hrel;by_cases hlt:k < n
   ·(have hlt':k < xs.length:=by rw [HN.out]; exact hlt);(have i0:(0:Int)≤(k:Int):=by omega);(have i1:(k:Int) < (n:Int):=by omega);obtain ⟨y,hy,hyn⟩:=fC xs[k];have cy:=qo HPW.out.held hlt' hy;(have hy96:y.size≤96:=by rw [hyn]; exact HXL.out _ (List.getElem_mem hlt'));have HXK:=hid (List.drop_eq_getElem_cons hlt');rw [← hy] at HXK;have hgl:=HPW.out.held.1;clear hyn hy;(go_wp2_with fail);refine (kR y wr (HL.out.kb HPW.out.below) (by omega)).mono ?_;rintro _ w4 ⟨gq,cq,rfl,hgq,hgql,hcq,hcell,hb⟩;have HQ:=hid (show Held w4 gq (zV 44 [] (bts y)) from ⟨hgql,hcell⟩);have HZL:=hid (fun z (hz:z∈zV 44 [] (bts y))=>(show z.length≤96 by have h1:=uD hz; rw [zF] at h1; omega));have HCP:=hid (show rP r (bts y::xs.drop (k+1))=match yq (zV 44 [] (bts y)) with | none=>none | some a=>rP (r++[a]) (xs.drop (k+1)) from mI _ _ _);rw [← HXK.out,HS.out] at HCP;(have hzn:(zV 44 [] (bts y)).length≤97:=by have h1:=(zk 44 (bts y) []).2; rw [zF] at h1; omega);have HPW:=hid (HPW.out.kb hb.kb);have hB4:=HPW.out.size;clear hcell hb cy hgq;generalize zV 44 [] (bts y)=zs at *;generalize hm:zs.length=m at *;have HM:=hid hm;clear hm hgl;(go_upto_block 2 with fail);(go_wp2_with fail);go_loopw [28,7] (fun j vs ur=>∃ (q:Nat) (l:List CompL) (va:Value),j = .int .i64 q∧va=vs∧q≤m∧l.length=q∧Hid (t4 l (zs.drop q)=yq zs)∧Hid (Vb ur w4.heap.size va l)∧Hid (KB w4.heap.size w4 ur)) (fun j _ _=>m - (intOf j).toNat)
    case atStart=>exact ⟨0,[],_,rfl,rfl,Nat.zero_le _,rfl,hid (by rw [List.drop_zero]; exact qX zs),hid .nil,hid (zH _)⟩
    case round =>
     (rename World=>ur);obtain ⟨q,l,va,rfl,rfl,hq,hlq,HCF,HOX,HBU⟩:=hrel;by_cases hlq2:q < m
     ·(have hlq':q < zs.length:=by rw [HM.out]; exact hlq2);(have j0:(0:Int)≤(q:Int):=by omega);(have j1:(q:Int) < (m:Int):=by omega);obtain ⟨z,hz,hzn⟩:=fC zs[q];have HQU:=hid (HQ.out.kb HBU.out);have cz:=qo HQU.out hlq' hz;(have hz96:z.size≤96:=by rw [hzn]; exact HZL.out _ (List.getElem_mem hlq'));have HZK:=hid (List.drop_eq_getElem_cons hlq');rw [← hz] at HZK;have HCC:=hid (pY l (bts z) (zs.drop (q+1)));rw [← HZK.out,HCF.out] at HCC;have hgl:=HQU.out.1;clear hzn hz;(go_wp2_with fail);refine (cS z ur (by omega)).mono ?_;rintro _ u1 ⟨t,rfl,ht,hb1⟩;have HBU1:=hid (zA HBU.out hb1.kb);have HOX1:=hid (HOX.out.below hb1);(have ht96:t.size≤96:=by have h1:=pL (bts z) 32; rw [← ht,zF,zF] at h1; omega);have HXP:=hid (dU t u1 ((HL.out.kb HPW.out.below).kb HBU1.out) (by omega));rw [ht] at HXP;clear ht hb1 cz;cases ho:wH (Lib.trimB (bts z) 32) with
      | none =>
       rw [ho] at HXP HCC;clear ho;have HNO:Hid (yB (bts s)=([],6)):=hid (HPN.out (by rw [HCP.out,HCC.out]));(go_wp2_with fail);refine HXP.out.mono ?_;rintro _ u2 ⟨cc,rfl,-,hb2⟩;dsimp only [Option.isSome_none];have HPU:=hid (HPW.out.kb (zA HBU1.out hb2.kb));clear hb2 HXP;(go_upto_if 39 with fail);refine zI ?_;intro u3 hu3;have HPU:=hid (show PW w B w.heap.size g4 gp xs v r u3 by rw [hu3]; exact HPU.out.kb (zG _ (.cells cc.cells.toArray 88)));clear hu3;have y0:=HPU.out.o2.box.2 0 _ rfl;have sf:∀ j,u3.frozen? ⟨w.heap.size,j,none⟩=false:=HPU.out.o2.soft;have yl:=HPU.out.o2.box.1;(go_wp2_with fail);refine zP ?_;intro w9 hw9;(have O9:Own w.heap.size w9 w.heap.size [.slice none 0 0]:=by rw [hw9]; exact HPU.out.o2.put (j:=0) (by simp) _);(have B9:KB w.heap.size w w9:=by rw [hw9]; exact tL HPU.out.below (Nat.le_refl _) _);clear hw9;have k0:=O9.box.2 0 _ rfl;refine bodyPost_ret (v := .tuple #[wL none 0 0,.int .i64 6]) (by simp [results,Tryz.results165,go_sem,k0]) rfl ?_;rw [show yB (bts s)=([],6) from HNO.out];exact vI B9
      | some x =>
       rw [ho] at HXP HCC;clear ho;(go_wp2_with fail);refine HXP.out.mono ?_;rintro _ u2 ⟨cc,rfl,hcc,hb2⟩;obtain rfl:cc=x:=hcc x rfl;dsimp only [Option.isSome_some];have HBU2:=hid (zA HBU1.out hb2.kb);have HOX2:=hid (HOX1.out.below hb2);clear hb2 HXP hcc;(go_upto_if 39 with fail);refine zI ?_;intro u3 hu3;have HX3:=hid (show Box u3 u2.heap.size cc.cells by rw [hu3]; exact Box.new u2 cc.cells 88);have HOX3:=hid (show Vb u3 w4.heap.size va l by rw [hu3]; exact HOX2.out.below (zL _ _));have HBU3:=hid (show KB w4.heap.size w4 u3 by rw [hu3]; exact zA HBU2.out (zG _ _));clear hu3;obtain ⟨x0,x1,x2,x3,x4,x5,x6⟩:=HX3.out.get7;have xl:=HX3.out.1;have hsz:=HBU3.out.size;(have hl97:l.length≤97:=by omega);(go_wp2_with (first | (at_builtin; refine vu cK rfl (.tmp 41) (.tmp 43) rfl (CompL.cells cc) HOX3.out rfl rfl rfl (V2 _) (by unfold maxLen; omega) (by omega) hsz ?_; intro v' w' h2 h3 h4)));go_roundw
       case rel=>exact ⟨q+1,l++[cc],_,by go_num,rfl,by omega,by rw [List.length_append,hlq]; rfl,hid HCC.out.symm,hid (OwnL.snoc h2),hid (Go.RowKit.Below.trans HBU3.out h3.kb)⟩
       case measure=>simp [intOf]; omega
     ·obtain rfl:q=m:=by omega
      have HCE:Hid (yq zs=some l):=hid (by
       have:=HCF.out;rw [List.drop_eq_nil_of_le (by rw [HM.out]; exact Nat.le_refl _),nG] at this
       exact this.symm)
      subst hlq;subst hrk;(have hge:¬ (l.length:Int) < (l.length:Int):=by omega);rw [HCE.out] at HCP;obtain ⟨Aa,ca,rfl,hcs,hab,-⟩:=OwnL.lies XW HOX.out;have HPU:=hid (HPW.out.kb HBU.out);have HCS:=hid hcs
      have HAB:Hid (∀ ad,Aa=some ad→B≤ad.block∧v.ownBlock≠some ad.block):=hid (fun ad had=>by
       have h1:=(hab ad had).1;refine ⟨by omega,fun e=>?_⟩;obtain ⟨hs,-,h2,-⟩:=HPW.out.heads;have:=(h2.lt _ e).2
       omega)
      obtain ⟨hs,e1,e2,e3⟩:=HPU.out.heads;have HE1:=hid e1;have HE2:=hid e2;have HE3:=hid e3;clear hcs hab HOX e1 e2 e3;have y0:=HPU.out.o4.box.2 0 _ rfl;have sf:∀ j,ur.frozen? ⟨g4,j,none⟩=false:=HPU.out.o4.soft;have yl:=HPU.out.o4.box.1;have hsz:=HPU.out.size;(have hr97:r.length≤97:=by omega);have HL4:=hid HPU.out.lo4;(go_wp2_with (first | (at_builtin; refine wI ZT rfl (.tmp 47) (.tmp 49) rfl [.slice Aa l.length ca] HE2.out rfl rfl rfl (Vd _ rfl) (by unfold maxLen; omega) (by omega) hsz ?_; intro v' w' h2 h3 h4 h5; obtain ⟨A9,c9,rfl⟩:=xr h2; have HNX:=hid (HPU.out.next HE1.out HE3.out h2 h3.kb h4 h5 HCS.out (fun _=>HAB.out) HWB.out); have HO4:=hid (HPU.out.o4.kbB HL4.out h3.kb); clear h2 h3 h4 h5 y0 sf yl; have y0:=HO4.out.box.2 0 _ rfl; have sf:∀ j,w'.frozen? ⟨g4,j,none⟩=false:=HO4.out.soft; have yl:=HO4.out.box.1)));go_roundw
      case rel=>exact ⟨r.length+1,_,r++[l],by go_num,by omega,by rw [List.length_append]; rfl,hid HCP.out.symm,HNX⟩
      case measure=>simp [intOf]; omega
   ·(obtain rfl:k=n:=by omega);subst hrk;have hge:¬ (r.length:Int) < (r.length:Int):=by omega
    have HAE:Hid (vg xs=some r):=hid (by
     have:=HS.out;rw [List.drop_eq_nil_of_le (by rw [HN.out]; exact Nat.le_refl _),kx] at this
     exact this.symm)
    have HPR:=hid (HPS.out r HAE.out);have HRF:=hid (sT (fun x hx=>by have:=HXL.out x hx; omega) HAE.out);have HRL:=hid (oV (B:=96) (fun x hx=>HXL.out x hx) HAE.out);obtain ⟨A,c,rfl,hal⟩:=HPW.out.heads.alts;have HAL:=hid hal;have y0:=HPW.out.o4.box.2 0 _ rfl;have yl:=HPW.out.o4.box.1;clear hal;have HFW:=hid (mN A c r wr (HL.out.kb HPW.out.below) HAL.out HRF.out (by omega) (fun a ha=>by have:=HRL.out.2 a ha; omega));(go_wp2_with fail);refine HFW.out.mono ?_;rintro _ u1 ⟨tt,rfl,-,hb1⟩;have HPU:=hid (HPW.out.kb hb1);have HAL:=hid (HAL.out.kb hb1);clear hb1 y0 yl;cases hfe:tD r
    ·rw [hfe] at HPR;have y0:=HPU.out.o2.box.2 0 _ rfl;have sf:∀ j,u1.frozen? ⟨w.heap.size,j,none⟩=false:=HPU.out.o2.soft;have yl:=HPU.out.o2.box.1;(go_wp2_with fail);refine zP ?_;intro w9 hw9;(have O9:Own w.heap.size w9 w.heap.size [.slice none 0 0]:=by rw [hw9]; exact HPU.out.o2.put (j:=0) (by simp) _);(have B9:KB w.heap.size w w9:=by rw [hw9]; exact tL HPU.out.below (Nat.le_refl _) _);clear hw9;have k0:=O9.box.2 0 _ rfl;refine bodyPost_ret (v := .tuple #[wL none 0 0,.int .i64 6]) (by simp [results,Tryz.results165,go_sem,k0]) rfl ?_;rw [show yB (bts s)=([],6) from HPR.out];exact vI B9
    ·rw [hfe,if_pos rfl] at HPR;have HTX:=hid (XB A c r u1 (HL.out.kb HPU.out.below) HAL.out HRF.out (by omega) (fun a ha=>by have:=HRL.out.2 a ha; omega));have HMG:=hid (show bD r=(tD r&&decide ((xd r).length≤96)) from rfl);rw [hfe,Bool.true_and] at HMG;clear hfe;have y4:=HPU.out.o4.box.2 0 _ rfl;have yl4:=HPU.out.o4.box.1;(go_wp2_with fail);refine HTX.out.mono ?_;rintro _ u2 ⟨rfl,hb2⟩;have HPU:=hid (HPU.out.kb hb2);have HAL:=hid (HAL.out.kb hb2);rw [HMG.out];clear hb2 y4 yl4 HMG;have y0:=HPU.out.o2.box.2 0 _ rfl;have sf:∀ j,u2.frozen? ⟨w.heap.size,j,none⟩=false:=HPU.out.o2.soft;have yl:=HPU.out.o2.box.1;have y4:=HPU.out.o4.box.2 0 _ rfl;have yl4:=HPU.out.o4.box.1;generalize (xd r).length=tl at *;by_cases ht96:tl≤96
     ·rw [if_pos ht96] at HPR;have hde:decide (tl≤96)=true:=decide_eq_true ht96;rw [hde];(go_wp2_with fail);refine zP ?_;intro w9 hw9;(have O9:Own w.heap.size w9 w.heap.size [.slice A r.length c]:=by rw [hw9]; exact HPU.out.o2.put (j:=0) (by simp) _);have B9:KB w.heap.size w w9:=by rw [hw9]; exact tL HPU.out.below (Nat.le_refl _) _
      have A9:Alts w9 A r:=by
       rw [hw9];obtain ⟨A',c',e,h⟩:=(HPU.out.heads.put (j:=0) HPU.out.lo2 (.slice A r.length c)).alts;(injection e with e);rw [← e] at h; exact h
      clear hw9;have k0:=O9.box.2 0 _ rfl;refine bodyPost_ret (v := .tuple #[wL A r.length c,.int .i64 0]) (by simp [results,Tryz.results165,go_sem,k0]) rfl ?_;rw [show yB (bts s)=(r,0) from HPR.out];exact ⟨A,c,rfl,A9,B9⟩
     ·rw [if_neg ht96] at HPR;have hde:decide (tl≤96)=false:=decide_eq_false ht96;rw [hde];(go_wp2_with fail);refine zP ?_;intro w9 hw9;(have O9:Own w.heap.size w9 w.heap.size [.slice none 0 0]:=by rw [hw9]; exact HPU.out.o2.put (j:=0) (by simp) _);(have B9:KB w.heap.size w w9:=by rw [hw9]; exact tL HPU.out.below (Nat.le_refl _) _);clear hw9;have k0:=O9.box.2 0 _ rfl;refine bodyPost_ret (v := .tuple #[wL none 0 0,.int .i64 3]) (by simp [results,Tryz.results165,go_sem,k0]) rfl ?_;rw [show yB (bts s)=([],3) from HPR.out];exact vI B9
section
variable {w w':World} {base:Nat} {v:Value} {L:List (List SpanL × List SpanL)}
end
theorem Xw (a b c:Int):(⟨a,b,c,⟨#[]⟩,⟨#[]⟩⟩:Ver).fit:=⟨by show (⟨#[]⟩:ByteArray).size≤_; exact Nat.zero_le _,by show (⟨#[]⟩:ByteArray).size≤_; exact Nat.zero_le _⟩
theorem aB {c:CompL} (h:MayX c):bD [[c]]=true:=by
 have hl:=rU c;rw [bD,Bool.and_eq_true,decide_eq_true_eq];refine ⟨?_,?_⟩
 ·simp [tD,eF,yY.2 h]
 ·have e:xd [[c]]=zh c:=rfl;rw [e]; omega
end Go.Proofs.YtiebekmefjbenaaGreatDoor
