import Derived.Test.YtiffijoenkcpjaaGreatDoorYCi
import Derived.Test.YtiffijoenkcpjaaGreatDoorYDe
set_option linter.unusedVariables false
set_option linter.unusedSimpArgs false
set_option maxRecDepth 100000
set_option maxHeartbeats 8000000
namespace Go.Proofs.YtiffijoenkcpjaaGreatDoor
open Go.RowKit Go.Lib
open Rw
def OwnT (w:World) (base:Nat) (v:Value) (ds:List ByteArray):Prop:=w.ownsRow base 9 1 v ds.length (ds.map Value.string)
section
variable {w w':World} {base:Nat} {v:Value} {ds:List ByteArray}
theorem OwnT.nil:OwnT w base (.slice none 0 0) []:=World.ownsRow_nil _ _ _ _
theorem OwnT.kb (h:OwnT w base v ds) (hb:KB w.heap.size w w'):OwnT w' base v ds:=tG h hb
theorem OwnT.snoc {p:ByteArray} {v':Value} (h:w'.ownsRow base 9 1 v' (ds.length+1) (ds.map Value.string++[.string p])):OwnT w' base v' (ds++[p]):=by
 unfold OwnT;rw [List.length_append,List.map_append];simpa using h
theorem OwnT.box (h:OwnT w base v ds) (h0:0 < ds.length):∃ g cap,v = .slice (some ⟨g,0,none⟩) ds.length cap∧Box w g (ds.map Value.string)∧ds.length≤cap∧base≤g:=by
 obtain ⟨g,cap,hv,hg,hlt,hc,hcell⟩:=vN h h0;refine ⟨g,cap,hv,⟨hlt,fun j u hj=>?_⟩,hc,hg⟩
 have hjl:j < ds.length * 1:=by
  rcases Nat.lt_or_ge j ds.length with h | h
  ·omega
  ·rw [List.getElem?_eq_none (by rw [List.length_map]; exact h)] at hj; cases hj
 rw [hcell j hjl]; exact hj
end
theorem sd {α:Type} {g:α→List UInt8} {l:List α} {ds:List ByteArray} {k:Nat} {p:ByteArray} (h:ds.map bts=(l.map g).take k) (hk:k < l.length) (hp:bts p=g l[k]):(ds++[p]).map bts=(l.map g).take (k+1):=by
 rw [List.take_succ_eq_append_getElem (by rw [List.length_map]; exact hk),List.map_append,h,List.getElem_map,List.map_cons,List.map_nil,hp]
theorem qG {α:Type} {g:α→List UInt8} {l:List α} {ds:List ByteArray} {k:Nat} (h:ds.map bts=(l.map g).take k) (hk:l.length≤k):ds.map bts=l.map g:=by
 rw [h,List.take_of_length_le (by rw [List.length_map]; exact hk)]
def V1 (w:World) (r:List (List CompL)) (e:Ending) (w':World):Prop:=∃ t:ByteArray,e = .returned (.tuple #[.string t,.bool (tD r)])∧bts t=(if tD r then xd r else [])∧KB w.heap.size w w'
theorem sb {w w':World} {r:List (List CompL)} (hf:tD r=false) (h:KB w.heap.size w w'):V1 w r (.returned (.tuple #[.string ⟨#[]⟩,.bool false])) w':=⟨⟨#[]⟩,by rw [hf],by rw [hf]; exact zN [],h⟩
theorem UC {w w1 w2:World} {g:Nat} (hg:w.heap.size=g) (h:KB g w w1) (k:KB w1.heap.size w1 w2):KB w.heap.size w w2:=by subst hg; exact zA h k
theorem mN (A:Option Addr) (c:Nat) (r:List (List CompL)) (w:World) (hL:Laid w) (h:Alts w A r) (hf:Z7 r) (hn:r.length≤4398046511104) (hm:∀ a∈r,a.length≤4398046511104):Calls Tryz.prog 88 #[wL A r.length c] w (V1 w r):=by
 have HL:=hid hL;have HF:=hid hf;have HMM:=hid hm;have HA:=hid h;have HL0:=hid (jV (r:=r));have HY0:=hid (gj (r:=r));have HFP:=hid (fun h=>vb (r:=r) h);clear hf hm h hL;have HLE:=hn;generalize hn2:r.length=n at *;have HN:=hid hn2;clear hn hn2;go_enter Tryz.func88,Tryz.ntmps88;(go_upto_region 1 with fail);refine zI ?_;intro w1 hw1;have HX:=hid (show Box w1 w.heap.size [.slice A n c] by rw [hw1]; exact Box.new w [.slice A n c] 102);have HB:=hid (show KB w.heap.size w w1 by rw [hw1]; exact zG _ _);have HA:=hid (HA.out.kb HB.out);have HL:=hid (HL.out.kb HB.out);clear hw1;have x0:=HX.out.2 0 _ rfl;have xl:=HX.out.1;by_cases hsm:1≤n∧n≤6
 ·(have a1:¬ (n:Int) < 1:=by omega);(have a2:¬ (6:Int) < (n:Int):=by omega);(go_upto_block 0 with fail);clear x0 xl;generalize hB:w1.heap.size=B at *;generalize hg:w.heap.size=g at *;(go_wp2_with fail);go_loopw [23,4] (fun i vs wr=>∃ (k:Nat) (ds:List ByteArray) (v:Value),i = .int .i64 k∧v=vs∧k≤n∧ds.length=k∧Hid (ds.map bts=(r.map l9).take k)∧Hid ((r.take k).all eF=true)∧Hid (OwnT wr B v ds)∧Hid (KB w1.heap.size w1 wr)) (fun i _ _=>n - (intOf i).toNat)
  case atStart=>exact ⟨0,[],_,rfl,rfl,Nat.zero_le _,rfl,hid (by simp),hid (by simp),hid .nil,hid (zH _)⟩
  case round =>
   obtain ⟨k,ds,v,rfl,rfl,hk,hdk,HD,HT,HO,HB1⟩:=hrel;have HBW:=hid (UC hg HB.out HB1.out);(have hBr:B≤wr.heap.size:=by have:=HB1.out.size; omega);by_cases hlt:k < n
   ·(have hlt':k < r.length:=by rw [HN.out]; exact hlt);obtain ⟨b,off,Ai,ci,hA,hbl,hcell,hcs⟩:=(HA.out.kb HB1.out).at_ hlt';subst hA;have HCS:=hid hcs;have HAF:=hid (HF.out _ (List.getElem_mem hlt'));have ham:=HMM.out _ (List.getElem_mem hlt');have HNO:=hid (bi hlt');have HST:=hid (fun h=>q7 hlt' HT.out h);have HDS:=hid (fun p=>sd (g:=l9) (p:=p) HD.out hlt');clear hcs;generalize r[k]=a at *;have HL1:=hid (kI (a:=a));have HY1:=hid (gw (a:=a));have HAL:=hid (show (zT o7 (a.map zh)).length≤62 * a.length from fN a);generalize hm:a.length=m at *;have HM:=hid hm;clear hm;(have i0:(0:Int)≤(k:Int):=by omega);(have i1:(k:Int) < (n:Int):=by omega);by_cases hsa:1≤m∧m≤6
    ·(have b1:¬ (m:Int) < 1:=by omega);(have b2:¬ (6:Int) < (m:Int):=by omega);(go_upto_block 2 with fail);clear hcell;(go_wp2_with fail);go_loopw [37,7] (fun i vs ur=>∃ (j:Nat) (ps:List ByteArray) (va:Value),i = .int .i64 j∧va=vs∧j≤m∧ps.length=j∧Hid (ps.map bts=(a.map zh).take j)∧Hid ((a.take j).all sL=true)∧Hid (OwnT ur wr.heap.size va ps)∧Hid (KB wr.heap.size wr ur)) (fun i _ _=>m - (intOf i).toNat)
     case atStart=>exact ⟨0,[],_,rfl,rfl,Nat.zero_le _,rfl,hid (by simp),hid (by simp),hid .nil,hid (zH _)⟩
     case round =>
      (rename World=>ur);obtain ⟨j,ps,va,rfl,rfl,hj,hpj,HP,HU,HOU,HB2⟩:=hrel;have hBu:=HB2.out.size;by_cases hlj:j < m
      ·(have hlj':j < a.length:=by rw [HM.out]; exact hlj);(have j0:(0:Int)≤(j:Int):=by omega);(have j1:(j:Int) < (m:Int):=by omega);obtain ⟨b2',off2,hAi,hbl2,hrow⟩:=(Lies.kb HCS.out HB2.out).at7 hlj';subst hAi;have HCF:=hid (HAF.out _ (List.getElem_mem hlj'));have HNA:=hid (cm hlj');have HSU:=hid (fun h=>q7 hlj' HU.out h);have HPS:=hid (fun p=>sd (g:=zh) (p:=p) HP.out hlj');generalize a[j]=x at *;obtain ⟨c0,c1,c2,c3,c4,c5,c6⟩:=hrow;(go_upto_region 13 with fail);refine zI ?_;intro u1 hu1;have HXX:=hid (show Box u1 ur.heap.size x.cells by rw [hu1]; exact Box.new ur x.cells 86);have HB3:=hid (show KB wr.heap.size wr u1 by rw [hu1]; exact zA HB2.out (zG _ _));have HOU:=hid (show OwnT u1 wr.heap.size va ps by rw [hu1]; exact HOU.out.kb (zG _ _));clear hu1 c0 c1 c2 c3 c4 c5 c6;obtain ⟨x0,x1,x2,x3,x4,x5,x6⟩:=HXX.out.get7;have xl:=HXX.out.1;have HMX:=hid (fun u=>mz x u HCF.out);(go_wp2_with fail);refine (HMX.out _).mono ?_;rintro _ u2 ⟨rfl,hb⟩;have HB4:=hid (zA HB3.out hb.kb);have HOU:=hid (HOU.out.kb hb.kb);have HXX:=hid (HXX.out.below hb);clear hb x0 x1 x2 x3 x4 x5 x6 xl HMX;cases hmx:sL x
       ·have HE:=hid (HNO.out (HNA.out hmx));go_wp2_with fail
        go_ret2
        exact sb HE.out (zA HBW.out HB4.out)
       ·have HE:=hid (HSU.out hmx);obtain ⟨x0,x1,x2,x3,x4,x5,x6⟩:=HXX.out.get7;have xl:=HXX.out.1;have HPX:=hid (fun u hu=>nR x u hu HCF.out);have HLU:=hid ((HL.out.kb HB1.out).kb HB4.out);(go_wp2_with fail);refine (HPX.out _ HLU.out).mono ?_;rintro _ u3 ⟨p,rfl,hp,hb⟩;have HPP:=hid (HPS.out p hp);have HB5:=hid (zA HB4.out hb.kb);have HOU:=hid (HOU.out.kb hb.kb);clear hb x0 x1 x2 x3 x4 x5 x6 xl HPX hp;have hsz:=HB5.out.size;(go_wp2_with (first | (at_builtin; refine vu yd rfl (.tmp 44) (.tmp 47) rfl [.string p] HOU.out rfl rfl rfl (Vd _ rfl) (by unfold maxLen; omega) (by omega) hsz ?_; intro v' w' h2 h3 h4)));go_roundw
        case rel=>exact ⟨j+1,ps++[p],_,by go_num,rfl,by omega,by rw [List.length_append,hpj]; rfl,HPP,HE,hid (OwnT.snoc h2),hid (Go.RowKit.Below.trans HB5.out h3.kb)⟩
        case measure=>simp [intOf]; omega
      ·(obtain rfl:j=m:=by omega);(have hge:¬ (j:Int) < (j:Int):=by omega);have HE:=hid (HST.out (HY1.out hsa HU.out));have HPA:=hid (qG (g:=zh) HP.out (by rw [HM.out]; exact Nat.le_refl _));obtain ⟨gq,cap,rfl,hbq,hcq,-⟩:=HOU.out.box (by omega);have HBQ:=hid hbq;have HJ:=hid (oZ gq cap ps ⟨#[44,32]⟩ ur hbq hcq (by omega) (by rw [lI,HPA.out]; have:=HAL.out; omega));rw [lI,HPA.out] at HJ;have HOW:=hid (HO.out.kb HB2.out);clear hbq;generalize hpl:ps.length=pl at *;subst hpj;(go_wp2_with fail);refine HJ.out.mono ?_;rintro _ u1 ⟨t,rfl,ht,hb⟩;have HDT:=hid (HDS.out t ht);have HB3:=hid (zA HB2.out hb);have HOW:=hid (HOW.out.kb hb);have hsz:=HB3.out.size;(have hszB:B≤u1.heap.size:=by omega);have HB4:=hid (zA HB1.out HB3.out);clear hb ht;(go_wp2_with (first | (at_builtin; refine vu yd rfl (.tmp 50) (.tmp 53) rfl [.string t] HOW.out rfl rfl rfl (Vd _ rfl) (by unfold maxLen; omega) (by omega) hszB ?_; intro v' w' h2 h3 h4)));go_roundw
       case rel=>exact ⟨k+1,ds++[t],_,by go_num,rfl,by omega,by rw [List.length_append,hdk]; rfl,HDT,HE,hid (OwnT.snoc h2),hid (Go.RowKit.Below.trans HB4.out (by rw [hB]; exact h3.kb))⟩
       case measure=>simp [intOf]; omega
    ·have HE:=hid (HNO.out (HL1.out hsa));by_cases hs0:m < 1
     ·(have b1:(m:Int) < 1:=by omega);go_wp2_with fail
      go_ret2
      exact sb HE.out HBW.out
     ·(have b1:¬ (m:Int) < 1:=by omega);(have b2:(6:Int) < (m:Int):=by omega);go_wp2_with fail
      go_ret2
      exact sb HE.out HBW.out
   ·(obtain rfl:k=n:=by omega);(have hge:¬ (k:Int) < (k:Int):=by omega);have HE:=hid (HY0.out hsm HT.out);have HPA:=hid (qG (g:=l9) HD.out (by rw [HN.out]; exact Nat.le_refl _));obtain ⟨gq,cap,rfl,hbq,hcq,-⟩:=HO.out.box (by omega);have hlen:=dc (HFP.out HE.out).2;have hn6:=(HFP.out HE.out).1;rw [HN.out] at hlen;have HRT:=hid (show zT rp (r.map l9)=xd r from rfl);have HJ:=hid (oZ gq cap ds ⟨#[32,124,124,32]⟩ wr hbq hcq (by omega) (by rw [lJ,HPA.out,HRT.out]; omega));rw [lJ,HPA.out,HRT.out] at HJ;clear hbq;generalize hpl:ds.length=pl at *;subst hdk;(go_wp2_with fail);refine HJ.out.mono ?_;rintro _ u1 ⟨t,rfl,ht,hb⟩;have HTT:=hid ht;have HB3:=hid (zA HBW.out hb);clear ht hb;go_wp2_with fail
    go_ret2
    exact ⟨t,by rw [show tD r=true from HE.out]; rfl,by rw [show tD r=true from HE.out,if_pos rfl,HTT.out],HB3.out⟩
 ·have HE:=hid (HL0.out hsm);by_cases hs0:n < 1
  ·(have b1:(n:Int) < 1:=by omega);go_wp2_with fail
   go_ret2
   exact sb HE.out HB.out
  ·(have b1:¬ (n:Int) < 1:=by omega);(have b2:(6:Int) < (n:Int):=by omega);go_wp2_with fail
   go_ret2
   exact sb HE.out HB.out
theorem XB (A:Option Addr) (c:Nat) (r:List (List CompL)) (w:World) (hL:Laid w) (h:Alts w A r) (hf:Z7 r) (hn:r.length≤4398046511104) (hm:∀ a∈r,a.length≤4398046511104):Calls Tryz.prog 89 #[wL A r.length c] w (yT w (bD r)):=by
 have HTX:=hid (fun u (hb:KB w.heap.size w u)=>mN A c r u (hL.kb hb) (h.kb hb) hf hn hm);have HMG:=hid (show bD r=(tD r&&decide ((xd r).length≤96)) from rfl);have HB0:=hid (zG w (.cells #[.slice A r.length c] 102));clear h hf hn hm hL;generalize r.length=n at *;go_enter Tryz.func89,Tryz.ntmps89;(go_wp2_with fail);refine (HTX.out _ HB0.out).mono ?_;rintro _ w1 ⟨t,rfl,ht,hb⟩;have HB:=hid (zA HB0.out hb);have HT:=hid ht;clear hb ht;cases hfe:tD r
 ·rw [hfe] at HMG;(go_wp2_with fail);go_ret;exact ⟨by rw [HMG.out]; rfl,HB.out⟩
 ·rw [hfe] at HMG HT;have HTS:=hid (show t.size=(xd r).length by rw [← zF,HT.out,if_pos rfl]);clear hfe;(go_wp2_with fail);go_ret;refine ⟨?_,HB.out⟩;rw [HMG.out,Bool.true_and,← HTS.out];by_cases h96:t.size≤96<;>simp [h96]<;>omega
theorem dv (A:Option Addr) (c:Nat) (r:List (List CompL)) (w:World) (hL:Laid w) (h:Alts w A r) (hf:Z7 r) (hn:r.length≤4398046511104) (hm:∀ a∈r,a.length≤4398046511104):Calls Tryz.prog 74 #[wL A r.length c] w (nM w (qE r)):=by
 have HTX:=hid (fun u (hb:KB w.heap.size w u)=>mN A c r u (hL.kb hb) (h.kb hb) hf hn hm);have HMG:=hid (show qE r=if tD r&&decide ((xd r).length≤96) then xd r else [] from rfl);have HB0:=hid (zG w (.cells #[.slice A r.length c] 102));clear h hf hn hm hL;generalize r.length=n at *;go_enter Tryz.func74,Tryz.ntmps74;(go_wp2_with fail);refine (HTX.out _ HB0.out).mono ?_;rintro _ w1 ⟨t,rfl,ht,hb⟩;have HB:=hid (zA HB0.out hb);have HT:=hid ht;clear hb ht;cases hfe:tD r
 ·rw [hfe] at HMG;(go_wp2_with fail);go_ret;exact ⟨_,rfl,by rw [HMG.out]; exact zN [],HB.out⟩
 ·rw [hfe] at HMG HT;have HTS:=hid (show t.size=(xd r).length by rw [← zF,HT.out,if_pos rfl]);clear hfe;by_cases h96:t.size≤96
  ·(have i96:(t.size:Int)≤96:=by omega);(go_wp2_with fail);go_ret;refine ⟨t,rfl,?_,HB.out⟩;rw [HMG.out,HT.out,Bool.true_and,← HTS.out];simp [h96]
  ·(have i96:¬ (t.size:Int)≤96:=by omega);(go_wp2_with fail);go_ret;refine ⟨_,rfl,?_,HB.out⟩;rw [HMG.out,Bool.true_and,← HTS.out,if_neg (by simpa using h96)];exact zN []
theorem tR (s sep:ByteArray) (w:World) (hL:Laid w) (hs:s.size < 4294967281) (h1:1≤sep.size):Calls Tryz.prog 85 #[.string s,.string sep] w (s9 w (Lib.split (bts s) (bts sep))):=by
 refine (Ym s sep w hL hs h1).mono ?_;rintro e w' ⟨ps,hps,-,h0,-,rfl,rfl⟩;(have hl:(Lib.split (bts s) (bts sep)).length=ps.length:=by rw [← hps,List.length_map]);have hx:=Box.new w (ps.map Value.string) 9;refine ⟨w.heap.size,ps.length,by rw [hl],Nat.le_refl _,hx.1,by rw [hl]; exact Nat.le_refl _,fun j hj=>?_,zL _ _⟩;rw [← hps,List.length_map] at hj;rw [hx.2 j (.string ps[j]) (by simp [hj]),← hps,List.getD_eq_getElem?_getD,List.getElem?_map,List.getElem?_eq_getElem hj];simp only [Option.map_some,Option.getD_some];rw [gu]
theorem V9:bts (⟨#[124,124]⟩:ByteArray)=[124,124]:=zN [124,124]
theorem b44:bts (⟨#[44]⟩:ByteArray)=[44]:=zN [44]
theorem jw (s:ByteArray) (w:World) (hL:Laid w) (hs:s.size < 4294967281):Calls Tryz.prog 85 #[.string s,.string ⟨#[124,124]⟩] w (s9 w (yZ [] (bts s))):=by
 have:=tR s ⟨#[124,124]⟩ w hL hs (by decide)
 rwa [V9,dC] at this
theorem kR (s:ByteArray) (w:World) (hL:Laid w) (hs:s.size < 4294967281):Calls Tryz.prog 85 #[.string s,.string ⟨#[44]⟩] w (s9 w (zV 44 [] (bts s))):=by
 have:=tR s ⟨#[44]⟩ w hL hs (by decide)
 rwa [b44,nu] at this
theorem cS (s:ByteArray) (w:World) (hs:s.size≤9223372036854775807):Calls Tryz.prog 87 #[.string s,.string ⟨#[32]⟩] w (xK w (Lib.trimB (bts s) 32)):=by
 refine (Any.strings_Trim_one Tryz.lays160 s 32 (by decide) w hs).mono ?_;rintro e w' ⟨rfl,h⟩;refine ⟨_,rfl,by rw [zN,bts,yX],?_⟩;rcases h with rfl | rfl
 ·exact Below.refl _ _
 ·exact (Below.refl _ _).drew
theorem dK (s:ByteArray) (w:World) (hL:Laid w):Calls Tryz.prog 51 #[.string s] w (Wc w (yB (bts s))):=by
 have HLS:=hid (zF s);have HL:=hid hL;clear hL;go_enter Tryz.func51,Tryz.ntmps51;(go_upto_region 1 with fail);refine zI ?_;intro w1 hw1;have O2:=hid (show Own w.heap.size w1 w.heap.size [.slice none 0 0] by rw [hw1]; exact Own.new w [.slice none 0 0] 102 (Nat.le_refl _));have HB:=hid (show KB w.heap.size w w1 by rw [hw1]; exact zG _ _);clear hw1;by_cases h96:96 < s.size
 ·have HP:=hid (oq (s:=bts s) (by rw [HLS.out]; exact h96));(have i96:(96:Int) < (s.size:Int):=by omega);have y0:=O2.out.box.2 0 _ rfl;have sf:∀ j,w1.frozen? ⟨w.heap.size,j,none⟩=false:=O2.out.soft;have yl:=O2.out.box.1;(go_wp2_with fail);refine zP ?_;intro w9 hw9;(have O9:Own w.heap.size w9 w.heap.size [.slice none 0 0]:=by rw [hw9]; exact O2.out.put (j:=0) (by simp) _);(have B9:KB w.heap.size w w9:=by rw [hw9]; exact tL HB.out (Nat.le_refl _) _);clear hw9;have k0:=O9.box.2 0 _ rfl;refine bodyPost_ret (v := .tuple #[wL none 0 0,.int .i64 3]) (by simp [results,Tryz.results51,go_sem,k0]) rfl ?_;rw [show yB (bts s)=([],3) from HP.out];exact vI B9
 ·have HPN:=hid (pK (s:=bts s) (by rw [HLS.out]; exact h96));have HPS:=hid (fun r=>oN (s:=bts s) (by rw [HLS.out]; exact h96) (r:=r));(have i96:¬ (96:Int) < (s.size:Int):=by omega);(go_upto_region 4 with fail);refine zI ?_;intro w2 hw2;have O4:=hid (show Own w.heap.size w2 w1.heap.size [.slice none 0 0] by rw [hw2]; exact Own.new w1 [.slice none 0 0] 102 HB.out.size);(have HN4:w.heap.size≠w1.heap.size:=by have:=O2.out.box.1; omega);have O2:=hid (show Own w.heap.size w2 w.heap.size [.slice none 0 0] by rw [hw2]; exact O2.out.alloc _);have HB:=hid (show KB w.heap.size w w2 by rw [hw2]; exact zA HB.out (zG _ _));clear hw2;generalize w1.heap.size=g4 at *;(go_wp2_with fail);refine (jw s w2 (HL.out.kb HB.out) (by omega)).mono ?_;rintro _ w3 ⟨gp,cp,rfl,hgp,hgpl,hcp,hcell,hb⟩;have HXL:=hid (fun x (hx:x∈yZ [] (bts s))=>(show x.length≤96 by have h1:=uo hx; have h2:=HLS.out; omega));have hxn:(yZ [] (bts s)).length≤97:=by have h1:=ug (bts s) []; have h2:=HLS.out; omega
  have HPW:=hid (show PW w w3.heap.size w.heap.size g4 gp (yZ [] (bts s)) (.slice none 0 0) [] w3 from
   ⟨zA HB.out hb.kb,O2.out.below hb,O4.out.below hb,⟨hgpl,hcell⟩,.nil,Nat.lt_of_lt_of_le O2.out.box.1 hb.size,Nat.lt_of_lt_of_le O4.out.box.1 hb.size,hgpl,HN4,(by have:=O4.out.box.1; omega),Nat.le_refl _⟩)
  have hwB:w.heap.size≤w3.heap.size:=HPW.out.below.size;clear hcell hb O2 O4 HB hgpl hgp;generalize yZ [] (bts s)=xs at *;generalize hn:xs.length=n at *;have HN:=hid hn;clear hn;have HWB:=hid hwB;generalize hB:w3.heap.size=B at *;clear hB;(go_upto_block 0 with fail);(go_wp2_with fail);go_loopw [21] (fun i wr=>∃ (k:Nat) (v:Value) (r:List (List CompL)),i = .int .i64 k∧k≤n∧r.length=k∧Hid (rP r (xs.drop k)=vg xs)∧Hid (PW w B w.heap.size g4 gp xs v r wr)) (fun i _=>n - (intOf i).toNat)
  case atStart=>exact ⟨0,_,[],rfl,Nat.zero_le _,rfl,hid (by rw [List.drop_zero]; exact oK xs),HPW⟩
  case round =>
   obtain ⟨k,v,r,rfl,hk,hrk,HS,HPW⟩:=hrel;by_cases hlt:k < n
   ·(have hlt':k < xs.length:=by rw [HN.out]; exact hlt);(have i0:(0:Int)≤(k:Int):=by omega);(have i1:(k:Int) < (n:Int):=by omega);obtain ⟨y,hy,hyn⟩:=fC xs[k];have cy:=qo HPW.out.held hlt' hy;(have hy96:y.size≤96:=by rw [hyn]; exact HXL.out _ (List.getElem_mem hlt'));have HXK:=hid (List.drop_eq_getElem_cons hlt');rw [← hy] at HXK;have hgl:=HPW.out.held.1;clear hyn hy;(go_wp2_with fail);refine (kR y wr (HL.out.kb HPW.out.below) (by omega)).mono ?_;rintro _ w4 ⟨gq,cq,rfl,hgq,hgql,hcq,hcell,hb⟩;have HQ:=hid (show Held w4 gq (zV 44 [] (bts y)) from ⟨hgql,hcell⟩);have HZL:=hid (fun z (hz:z∈zV 44 [] (bts y))=>(show z.length≤96 by have h1:=uD hz; rw [zF] at h1; omega));have HCP:=hid (show rP r (bts y::xs.drop (k+1))=match yq (zV 44 [] (bts y)) with | none=>none | some a=>rP (r++[a]) (xs.drop (k+1)) from mI _ _ _);rw [← HXK.out,HS.out] at HCP;(have hzn:(zV 44 [] (bts y)).length≤97:=by have h1:=(zk 44 (bts y) []).2; rw [zF] at h1; omega);have HPW:=hid (HPW.out.kb hb.kb);have hB4:=HPW.out.size;clear hcell hb cy hgq;generalize zV 44 [] (bts y)=zs at *;generalize hm:zs.length=m at *;have HM:=hid hm;clear hm hgl;(go_upto_block 2 with fail);(go_wp2_with fail);go_loopw [28,7] (fun j vs ur=>∃ (q:Nat) (l:List CompL) (va:Value),j = .int .i64 q∧va=vs∧q≤m∧l.length=q∧Hid (t4 l (zs.drop q)=yq zs)∧Hid (Vb ur w4.heap.size va l)∧Hid (KB w4.heap.size w4 ur)) (fun j _ _=>m - (intOf j).toNat)
    case atStart=>exact ⟨0,[],_,rfl,rfl,Nat.zero_le _,rfl,hid (by rw [List.drop_zero]; exact qX zs),hid .nil,hid (zH _)⟩
    case round =>
     (rename World=>ur);obtain ⟨q,l,va,rfl,rfl,hq,hlq,HCF,HOX,HBU⟩:=hrel;by_cases hlq2:q < m
     ·(have hlq':q < zs.length:=by rw [HM.out]; exact hlq2);(have j0:(0:Int)≤(q:Int):=by omega);(have j1:(q:Int) < (m:Int):=by omega);obtain ⟨z,hz,hzn⟩:=fC zs[q];have HQU:=hid (HQ.out.kb HBU.out);have cz:=qo HQU.out hlq' hz;(have hz96:z.size≤96:=by rw [hzn]; exact HZL.out _ (List.getElem_mem hlq'));have HZK:=hid (List.drop_eq_getElem_cons hlq');rw [← hz] at HZK;have HCC:=hid (pY l (bts z) (zs.drop (q+1)));rw [← HZK.out,HCF.out] at HCC;have hgl:=HQU.out.1;clear hzn hz;(go_wp2_with fail);refine (cS z ur (by omega)).mono ?_;rintro _ u1 ⟨t,rfl,ht,hb1⟩;have HBU1:=hid (zA HBU.out hb1.kb);have HOX1:=hid (HOX.out.below hb1);(have ht96:t.size≤96:=by have h1:=pL (bts z) 32; rw [← ht,zF,zF] at h1; omega);have HXP:=hid (dU t u1 ((HL.out.kb HPW.out.below).kb HBU1.out) (by omega));rw [ht] at HXP;clear ht hb1 cz;cases ho:wH (Lib.trimB (bts z) 32) with
      | none =>
       rw [ho] at HXP HCC;clear ho;have HNO:Hid (yB (bts s)=([],6)):=hid (HPN.out (by rw [HCP.out,HCC.out]));(go_wp2_with fail);refine HXP.out.mono ?_;rintro _ u2 ⟨cc,rfl,-,hb2⟩;dsimp only [Option.isSome_none];have HPU:=hid (HPW.out.kb (zA HBU1.out hb2.kb));clear hb2 HXP;(go_upto_if 39 with fail);refine zI ?_;intro u3 hu3;have HPU:=hid (show PW w B w.heap.size g4 gp xs v r u3 by rw [hu3]; exact HPU.out.kb (zG _ (.cells cc.cells.toArray 86)));clear hu3;have y0:=HPU.out.o2.box.2 0 _ rfl;have sf:∀ j,u3.frozen? ⟨w.heap.size,j,none⟩=false:=HPU.out.o2.soft;have yl:=HPU.out.o2.box.1;(go_wp2_with fail);refine zP ?_;intro w9 hw9;(have O9:Own w.heap.size w9 w.heap.size [.slice none 0 0]:=by rw [hw9]; exact HPU.out.o2.put (j:=0) (by simp) _);(have B9:KB w.heap.size w w9:=by rw [hw9]; exact tL HPU.out.below (Nat.le_refl _) _);clear hw9;have k0:=O9.box.2 0 _ rfl;refine bodyPost_ret (v := .tuple #[wL none 0 0,.int .i64 6]) (by simp [results,Tryz.results51,go_sem,k0]) rfl ?_;rw [show yB (bts s)=([],6) from HNO.out];exact vI B9
      | some x =>
       rw [ho] at HXP HCC;clear ho;(go_wp2_with fail);refine HXP.out.mono ?_;rintro _ u2 ⟨cc,rfl,hcc,hb2⟩;obtain rfl:cc=x:=hcc x rfl;dsimp only [Option.isSome_some];have HBU2:=hid (zA HBU1.out hb2.kb);have HOX2:=hid (HOX1.out.below hb2);clear hb2 HXP hcc;(go_upto_if 39 with fail);refine zI ?_;intro u3 hu3;have HX3:=hid (show Box u3 u2.heap.size cc.cells by rw [hu3]; exact Box.new u2 cc.cells 86);have HOX3:=hid (show Vb u3 w4.heap.size va l by rw [hu3]; exact HOX2.out.below (zL _ _));have HBU3:=hid (show KB w4.heap.size w4 u3 by rw [hu3]; exact zA HBU2.out (zG _ _));clear hu3;obtain ⟨x0,x1,x2,x3,x4,x5,x6⟩:=HX3.out.get7;have xl:=HX3.out.1;have hsz:=HBU3.out.size;(have hl97:l.length≤97:=by omega);(go_wp2_with (first | (at_builtin; refine vu cK rfl (.tmp 41) (.tmp 43) rfl (CompL.cells cc) HOX3.out rfl rfl rfl (V2 _) (by unfold maxLen; omega) (by omega) hsz ?_; intro v' w' h2 h3 h4)));go_roundw
       case rel=>exact ⟨q+1,l++[cc],_,by go_num,rfl,by omega,by rw [List.length_append,hlq]; rfl,hid HCC.out.symm,hid (OwnL.snoc h2),hid (Go.RowKit.Below.trans HBU3.out h3.kb)⟩
       case measure=>simp [intOf]; omega
     ·obtain rfl:q=m:=by omega
      have HCE:Hid (yq zs=some l):=hid (by
       have:=HCF.out;rw [List.drop_eq_nil_of_le (by rw [HM.out]; exact Nat.le_refl _),nG] at this
       exact this.symm)
      subst hlq;subst hrk;(have hge:¬ (l.length:Int) < (l.length:Int):=by omega);rw [HCE.out] at HCP;obtain ⟨Aa,ca,rfl,hcs,hab,-⟩:=OwnL.lies XW HOX.out;have HPU:=hid (HPW.out.kb HBU.out);have HCS:=hid hcs
      have HAB:Hid (∀ ad,Aa=some ad→B≤ad.block∧v.ownBlock≠some ad.block):=hid (fun ad had=>by
       have h1:=(hab ad had).1;refine ⟨by omega,fun e=>?_⟩;obtain ⟨hs,-,h2,-⟩:=HPW.out.heads;have:=(h2.lt _ e).2
       omega)
      obtain ⟨hs,e1,e2,e3⟩:=HPU.out.heads;have HE1:=hid e1;have HE2:=hid e2;have HE3:=hid e3;clear hcs hab HOX e1 e2 e3;have y0:=HPU.out.o4.box.2 0 _ rfl;have sf:∀ j,ur.frozen? ⟨g4,j,none⟩=false:=HPU.out.o4.soft;have yl:=HPU.out.o4.box.1;have hsz:=HPU.out.size;(have hr97:r.length≤97:=by omega);have HL4:=hid HPU.out.lo4;(go_wp2_with (first | (at_builtin; refine wI ZT rfl (.tmp 47) (.tmp 49) rfl [.slice Aa l.length ca] HE2.out rfl rfl rfl (Vd _ rfl) (by unfold maxLen; omega) (by omega) hsz ?_; intro v' w' h2 h3 h4 h5; obtain ⟨A9,c9,rfl⟩:=xr h2; have HNX:=hid (HPU.out.next HE1.out HE3.out h2 h3.kb h4 h5 HCS.out (fun _=>HAB.out) HWB.out); have HO4:=hid (HPU.out.o4.kbB HL4.out h3.kb); clear h2 h3 h4 h5 y0 sf yl; have y0:=HO4.out.box.2 0 _ rfl; have sf:∀ j,w'.frozen? ⟨g4,j,none⟩=false:=HO4.out.soft; have yl:=HO4.out.box.1)));go_roundw
      case rel=>exact ⟨r.length+1,_,r++[l],by go_num,by omega,by rw [List.length_append]; rfl,hid HCP.out.symm,HNX⟩
      case measure=>simp [intOf]; omega
   ·(obtain rfl:k=n:=by omega);subst hrk;have hge:¬ (r.length:Int) < (r.length:Int):=by omega
    have HAE:Hid (vg xs=some r):=hid (by
     have:=HS.out;rw [List.drop_eq_nil_of_le (by rw [HN.out]; exact Nat.le_refl _),kx] at this
     exact this.symm)
    have HPR:=hid (HPS.out r HAE.out);have HRF:=hid (sT (fun x hx=>by have:=HXL.out x hx; omega) HAE.out);have HRL:=hid (oV (B:=96) (fun x hx=>HXL.out x hx) HAE.out);obtain ⟨A,c,rfl,hal⟩:=HPW.out.heads.alts;have HAL:=hid hal;have y0:=HPW.out.o4.box.2 0 _ rfl;have yl:=HPW.out.o4.box.1;clear hal;have HFW:=hid (mN A c r wr (HL.out.kb HPW.out.below) HAL.out HRF.out (by omega) (fun a ha=>by have:=HRL.out.2 a ha; omega));(go_wp2_with fail);refine HFW.out.mono ?_;rintro _ u1 ⟨tt,rfl,-,hb1⟩;have HPU:=hid (HPW.out.kb hb1);have HAL:=hid (HAL.out.kb hb1);clear hb1 y0 yl;cases hfe:tD r
    ·rw [hfe] at HPR;have y0:=HPU.out.o2.box.2 0 _ rfl;have sf:∀ j,u1.frozen? ⟨w.heap.size,j,none⟩=false:=HPU.out.o2.soft;have yl:=HPU.out.o2.box.1;(go_wp2_with fail);refine zP ?_;intro w9 hw9;(have O9:Own w.heap.size w9 w.heap.size [.slice none 0 0]:=by rw [hw9]; exact HPU.out.o2.put (j:=0) (by simp) _);(have B9:KB w.heap.size w w9:=by rw [hw9]; exact tL HPU.out.below (Nat.le_refl _) _);clear hw9;have k0:=O9.box.2 0 _ rfl;refine bodyPost_ret (v := .tuple #[wL none 0 0,.int .i64 6]) (by simp [results,Tryz.results51,go_sem,k0]) rfl ?_;rw [show yB (bts s)=([],6) from HPR.out];exact vI B9
    ·rw [hfe,if_pos rfl] at HPR;have HTX:=hid (XB A c r u1 (HL.out.kb HPU.out.below) HAL.out HRF.out (by omega) (fun a ha=>by have:=HRL.out.2 a ha; omega));have HMG:=hid (show bD r=(tD r&&decide ((xd r).length≤96)) from rfl);rw [hfe,Bool.true_and] at HMG;clear hfe;have y4:=HPU.out.o4.box.2 0 _ rfl;have yl4:=HPU.out.o4.box.1;(go_wp2_with fail);refine HTX.out.mono ?_;rintro _ u2 ⟨rfl,hb2⟩;have HPU:=hid (HPU.out.kb hb2);have HAL:=hid (HAL.out.kb hb2);rw [HMG.out];clear hb2 y4 yl4 HMG;have y0:=HPU.out.o2.box.2 0 _ rfl;have sf:∀ j,u2.frozen? ⟨w.heap.size,j,none⟩=false:=HPU.out.o2.soft;have yl:=HPU.out.o2.box.1;have y4:=HPU.out.o4.box.2 0 _ rfl;have yl4:=HPU.out.o4.box.1;generalize (xd r).length=tl at *;by_cases ht96:tl≤96
     ·rw [if_pos ht96] at HPR;have hde:decide (tl≤96)=true:=decide_eq_true ht96;rw [hde];(go_wp2_with fail);refine zP ?_;intro w9 hw9;(have O9:Own w.heap.size w9 w.heap.size [.slice A r.length c]:=by rw [hw9]; exact HPU.out.o2.put (j:=0) (by simp) _);have B9:KB w.heap.size w w9:=by rw [hw9]; exact tL HPU.out.below (Nat.le_refl _) _
      have A9:Alts w9 A r:=by
       rw [hw9];obtain ⟨A',c',e,h⟩:=(HPU.out.heads.put (j:=0) HPU.out.lo2 (.slice A r.length c)).alts;(injection e with e);rw [← e] at h; exact h
      clear hw9;have k0:=O9.box.2 0 _ rfl;refine bodyPost_ret (v := .tuple #[wL A r.length c,.int .i64 0]) (by simp [results,Tryz.results51,go_sem,k0]) rfl ?_;rw [show yB (bts s)=(r,0) from HPR.out];exact ⟨A,c,rfl,A9,B9⟩
     ·rw [if_neg ht96] at HPR;have hde:decide (tl≤96)=false:=decide_eq_false ht96;rw [hde];(go_wp2_with fail);refine zP ?_;intro w9 hw9;(have O9:Own w.heap.size w9 w.heap.size [.slice none 0 0]:=by rw [hw9]; exact HPU.out.o2.put (j:=0) (by simp) _);(have B9:KB w.heap.size w w9:=by rw [hw9]; exact tL HPU.out.below (Nat.le_refl _) _);clear hw9;have k0:=O9.box.2 0 _ rfl;refine bodyPost_ret (v := .tuple #[wL none 0 0,.int .i64 3]) (by simp [results,Tryz.results51,go_sem,k0]) rfl ?_;rw [show yB (bts s)=([],3) from HPR.out];exact vI B9
theorem below_set2 {w w1:World} (h:Below w.heap.size w w1) {g:Nat} (hg:w.heap.size≤g) (b0 b1:Value):Below w.heap.size w ((w1.setCell ⟨g,0,none⟩ b0).setCell ⟨g,1,none⟩ b1):=zR (zR h hg b0) hg b1
theorem spanB_set2 {w:World} {base k:Nat} {A:Option Addr} {l:List SpanL} (h:SpanB w base A l) (hk:k < base) (b0 b1:Value):SpanB ((w.setCell ⟨k,0,none⟩ b0).setCell ⟨k,1,none⟩ b1) base A l:=spanB_put (spanB_put h hk b0) hk b1
structure AltW (n:Nat) (l:List CompL) (k:Nat) (L1 L2:List SpanL):Prop where
 f1:fitL L1
 f2:fitL L2
 l1:L1.length≤1+3 * k
 l2:L2.length≤2 * k
 r1:(l.drop k).foldl (fun o c=>randL o (regionX c)) L1=relA l
 r2:(l.drop k).foldl (fun o c=>rorL o (zoneX c)) L2=zoneA l
theorem AltW.start (n:Nat) (l:List CompL):AltW n l 0 wholeL []:=⟨whole_fit0,fit_nil0,by simp [wholeL],by simp,rfl,rfl⟩
theorem AltW.step {n:Nat} {l:List CompL} {k:Nat} {L1 L2:List SpanL} (h:AltW n l k L1 L2) (hk:k < l.length) (hf:CompL.fit l[k]):AltW n l (k+1) (randL L1 (regionX l[k])) (rorL L2 (zoneX l[k])):=by
 have hd:=List.drop_eq_getElem_cons hk;have g1:=regionX_good hf;have g2:=zoneX_good l[k];have e1:=h.r1;have e2:=h.r2;rw [hd,List.foldl_cons] at e1 e2;refine ⟨(randL_good h.f1 g1.1).1,(rorL_good h.f2 g2.1).1,?_,?_,e1,e2⟩
 ·have:=randL_len h.f1 g1.1; have:=h.l1; have:=g1.2; omega
 ·have:=rorL_len h.f2 g2.1; have:=h.l2; have:=g2.2; omega
theorem AltW.last {n:Nat} {l:List CompL} {k:Nat} {L1 L2:List SpanL} (h:AltW n l k L1 L2) (hk:l.length≤k):L1=relA l∧L2=zoneA l:=by
 have e1:=h.r1;have e2:=h.r2;rw [List.drop_eq_nil_of_le hk] at e1 e2;exact ⟨e1,e2⟩
theorem alt_any (A:Option Addr) (c:Nat) (l:List CompL) (w:World) (hg:Vl w) (h:rf w A l) (hf:∀ x∈l,CompL.fit x) (hn:l.length≤6):Calls Tryz.prog 90 #[.slice A l.length c] w (SetPost w (altS l).1 (altS l).2):=by
 have HF:=hid hf;have HA:=hid h;have HG:=hid hg;have HAS:=hid (show altS l=(smakeL (relA l) (randL (relA l) (zoneA l))).1 from rfl);have HGR:=hid (relA_good hf);have HGZ:=hid (zoneA_good l);clear hf h hg;generalize hn2:l.length=n at *;have HN:=hid hn2;clear hn2;go_enter Tryz.func90,Tryz.ntmps90;(go_upto_region 1 with fail);refine zI ?_;intro w1 hw1;have O2:=hid (show Own w.heap.size w1 w.heap.size [.slice none 0 0,.slice none 0 0] by rw [hw1]; exact Own.new w [.slice none 0 0,.slice none 0 0] 42 (Nat.le_refl _));have HB:=hid (show Below w.heap.size w w1 by rw [hw1]; exact zL _ _);clear hw1;(go_upto_block 0 with fail);refine zI ?_;intro w2 hw2;have HWH:=hid (show Spans w2 (some ⟨w1.heap.size,0,none⟩) wholeL by rw [hw2]; exact (SpanB.fresh w1 ⟨rR,ig⟩ 111).1);have O2:=hid (show Own w.heap.size w2 w.heap.size [.slice none 0 0,.slice none 0 0] by rw [hw2]; exact O2.out.alloc _);have HB:=hid (show Below w.heap.size w w2 by rw [hw2]; exact zC HB.out (zL _ _));clear hw2;have HA:=hid (Lies.below HA.out HB.out);generalize w1.heap.size=g1 at *;(go_wp2_with fail);go_loopw [15,3,4] (fun i v1 v2 wr=>∃ (k:Nat) (A1 A2:Option Addr) (c1 c2 n1 n2:Nat) (L1 L2:List SpanL),i = .int .i64 k∧k≤n∧v1 = .slice A1 n1 c1∧v2 = .slice A2 n2 c2∧Hid (L1.length=n1)∧Hid (L2.length=n2)∧Hid (AltW n l k L1 L2)∧Hid (Spans wr A1 L1)∧Hid (Spans wr A2 L2)∧Hid (Below w2.heap.size w2 wr)) (fun i _ _ _=>n - (intOf i).toNat)
 case atStart=>exact ⟨0,some ⟨g1,0,none⟩,none,1,0,1,0,wholeL,[],rfl,Nat.zero_le _,rfl,rfl,hid rfl,hid rfl,hid (AltW.start n l),HWH,hid Spans.nil,hid (Below.refl _ _)⟩
 case round =>
  obtain ⟨k,A1,A2,c1,c2,n1,n2,L1,L2,rfl,hk,rfl,rfl,HN1,HN2,HW,HS1,HS2,HB1⟩:=hrel;by_cases hlt:k < n
  ·(have hlt':k < l.length:=by rw [HN.out]; exact hlt);(have i0:(0:Int)≤(k:Int):=by omega);(have i1:(k:Int) < (n:Int):=by omega);obtain ⟨b,off,hA,hbl,hrow⟩:=(Lies.below HA.out HB1.out).at7 hlt';subst hA;have HCF:=hid (HF.out _ (List.getElem_mem hlt'));have HWN:=hid (HW.out.step hlt' HCF.out);generalize l[k]=x at *;obtain ⟨y0,y1,y2,y3,y4,y5,y6⟩:=hrow;(go_upto_region 6 with fail);refine zI ?_;intro u1 hu1;have HX:=hid (show Box u1 wr.heap.size x.cells by rw [hu1]; exact Box.new wr x.cells 86);have HBU:=hid (show Below wr.heap.size wr u1 by rw [hu1]; exact zL _ _);clear hu1 y0 y1 y2 y3 y4 y5 y6;obtain ⟨x0,x1,x2,x3,x4,x5,x6⟩:=HX.out.get7;have xl:=HX.out.1;(go_wp2_with fail);refine (region_any x u1 HCF.out).mono ?_;rintro _ u2 ⟨A3,c3,rfl,hs3,hb⟩;have HBU2:=hid (zC HBU.out hb);have HX:=hid (HX.out.below hb);have HRG:=hid (regionX_good HCF.out);have HAND:=hid (callN (and_any u2.heap.size A1 A3 c1 c3 L1 (regionX x) u2 (HS1.out.below HBU2.out) hs3.1 HW.out.f1 HRG.out.1 (by have:=HW.out.l1; have:=HRG.out.2; omega) (Nat.le_refl _)));rw [HN1.out] at HAND;clear hb hs3 x0 x1 x2 x3 x4 x5 x6 xl;generalize hr3:(regionX x).length=n3 at *;generalize hr5:(randL L1 (regionX x)).length=n5 at *;have HR5:=hid hr5;clear hr5;(go_wp2_with fail);refine HAND.out.mono ?_;rintro _ u3 ⟨A5,c5,he5,hs5,hb⟩;rw [HR5.out] at he5;subst he5;have HBU3:=hid (zC HBU2.out hb);have HX:=hid (HX.out.below hb)
   have HS5:=hid hs5.1;clear hb hs5 HAND;obtain ⟨x0,x1,x2,x3,x4,x5,x6⟩:=HX.out.get7;have xl:=HX.out.1;(go_wp2_with fail);refine (zone_any x u3 HCF.out).mono ?_;rintro _ u4 ⟨A4,c4,rfl,hs4,hb⟩;have HBU4:=hid (zC HBU3.out hb);have HS5:=hid (HS5.out.below hb);have HZG:=hid (zoneX_good x);have HOR:=hid (callN (por_any u4.heap.size A2 A4 c2 c4 L2 (zoneX x) u4 (HS2.out.below HBU4.out) hs4.1 HW.out.f2 HZG.out.1 (by have:=HW.out.l2; have:=HZG.out.2; omega) (Nat.le_refl _)));rw [HN2.out] at HOR;clear hb hs4 x0 x1 x2 x3 x4 x5 x6 xl;generalize hr4:(zoneX x).length=n4 at *;generalize hr6:(rorL L2 (zoneX x)).length=n6 at *;have HR6:=hid hr6;clear hr6;(go_wp2_with fail);refine HOR.out.mono ?_;rintro _ u5 ⟨A6,c6,he6,hs6,hb⟩;rw [HR6.out] at he6;subst he6;have HBU5:=hid (zC HBU4.out hb);have HS5:=hid (HS5.out.below hb);have HS6:=hid hs6.1;clear hb hs6 HOR;(go_wp2_with fail);go_roundw
   case rel=>exact ⟨k+1,A5,A6,c5,c6,n5,n6,_,_,by go_num,by omega,rfl,rfl,HR5,HR6,HWN,HS5,HS6,hid (zC HB1.out HBU5.out)⟩
   case measure=>simp [intOf]; omega
  ·(obtain rfl:k=n:=by omega);(have hge:¬ (k:Int) < (k:Int):=by omega);have HL:=hid (HW.out.last (by rw [HN.out]; exact Nat.le_refl _));have e1:=HL.out.1;have e2:=HL.out.2;subst e1;subst e2;have HBW:=hid (zC HB.out HB1.out);have hgr:=HGR.out;have hgz:=HGZ.out;(try rw [HN.out] at hgr);(try rw [HN.out] at hgz);have HAND:=hid (callN (and_any wr.heap.size A1 A2 c1 c2 (relA l) (zoneA l) wr HS1.out HS2.out hgr.1 hgz.1 (by have:=hgr.2; have:=hgz.2; omega) (Nat.le_refl _)));have HRZ:=hid (randL_good hgr.1 hgz.1);have hrzl:=randL_len hgr.1 hgz.1;have hg1:=hgr.2;have hg2:=hgz.2;have HGR1:=hid hgr.1;rw [HN1.out] at hg1;rw [HN2.out] at hg2;rw [HN1.out,HN2.out] at HAND hrzl;clear hgr hgz;generalize hr5:(randL (relA l) (zoneA l)).length=n5 at *;have HR5:=hid hr5;clear hr5;(go_wp2_with fail);refine HAND.out.mono ?_;rintro _ u1 ⟨A3,c3,he3,hs3,hb⟩;rw [HR5.out] at he3;subst he3;have HU1:=hid (Own.below (O2.out.below HB1.out) hb);have HMK:=hid (smake_any A1 A3 c1 c3 (relA l) (randL (relA l) (zoneA l)) u1 ((HG.out.below HBW.out).below hb) (HS1.out.below hb) hs3.1 HGR1.out HRZ.out.1 (by rw [HN1.out]; omega) (by rw [HR5.out]; omega));rw [HN1.out,HR5.out] at HMK;have HBW2:=hid (zC HBW.out hb);have hwu:=HU1.out.box.1;clear hb hs3 HAND;generalize smakeL (relA l) (randL (relA l) (zoneA l))=sm at *;obtain ⟨⟨sm1,sm2⟩,okb⟩:=sm;(try dsimp only at HMK HAS);generalize hp1:sm1.length=p1 at *;generalize hp2:sm2.length=p2 at *
   have HP1:=hid hp1;have HP2:=hid hp2;clear hp1 hp2;(go_wp2_with fail);refine HMK.out.mono ?_;rintro _ u2 ⟨A4,c4,B4,d4,he,hsa,hsb,hb⟩;(try dsimp only at he hsa hsb);rw [HP1.out,HP2.out] at he;subst he;have HSA:=hid hsa;have HSB:=hid hsb;have O2:=hid (HU1.out.below hb);have HBW3:=hid (zC HBW2.out hb);clear hsa hsb hb HMK HU1;(go_upto_region 10 with fail);refine zI ?_;intro u3 hu3;have HX:=hid (show Box u3 u2.heap.size [.slice A4 p1 c4,.slice B4 p2 d4] by rw [hu3]; exact Box.new u2 [.slice A4 p1 c4,.slice B4 p2 d4] 42);have HSA:=hid (show SpanB u3 u1.heap.size A4 sm1 by rw [hu3]; exact HSA.out.below (zL _ _));have HSB:=hid (show SpanB u3 u1.heap.size B4 sm2 by rw [hu3]; exact HSB.out.below (zL _ _));have O2:=hid (show Own w.heap.size u3 w.heap.size [.slice none 0 0,.slice none 0 0] by rw [hu3]; exact O2.out.alloc _);have HBW4:=hid (show Below w.heap.size w u3 by rw [hu3]; exact zC HBW3.out (zL _ _));clear hu3;obtain ⟨x0,x1⟩:=HX.out.get2;have xl:=HX.out.1;obtain ⟨y0,y1⟩:=O2.out.box.get2;have sf:∀ j,u3.frozen? ⟨w.heap.size,j,none⟩=false:=O2.out.soft;have yl:=O2.out.box.1;(go_wp2_with fail);refine zP ?_;intro w9 hw9;(have O9:Own w.heap.size w9 w.heap.size [.slice A4 p1 c4,.slice B4 p2 d4]:=by rw [hw9]; exact O2.out.set2 _ _);(have S9:SpanB w9 u1.heap.size A4 sm1:=by rw [hw9]; exact spanB_set2 HSA.out hwu _ _);have T9:SpanB w9 u1.heap.size B4 sm2:=by rw [hw9]; exact spanB_set2 HSB.out hwu _ _
   (have B9:Below w.heap.size w w9:=by rw [hw9]; exact below_set2 HBW4.out (Nat.le_refl _) _ _);clear hw9;obtain ⟨k0,k1⟩:=O9.box.get2;refine bodyPost_ret (v:=setV A4 p1 c4 B4 p2 d4) (by simp [results,Tryz.results90,go_sem,k0,k1,setV]) rfl ?_;rw [HAS.out];exact ⟨A4,c4,B4,d4,by rw [HP1.out,HP2.out],S9.low (Nat.le_of_lt hwu),T9.low (Nat.le_of_lt hwu),B9⟩
structure SGood (n:Nat) (s:List SpanL × List SpanL):Prop where
 f1:fitL s.1
 f2:fitL s.2
 l1:s.1.length≤n
 l2:s.2.length≤n
 val:ValS s.1 s.2
theorem SGood.at_ {n:Nat} {s:List SpanL × List SpanL} (h:SGood n s) {w:World} {A B:Option Addr} (ha:Spans w A s.1) (hb:Spans w B s.2):SetAt n w A s.1 B s.2:=⟨ha,hb,h.f1,h.f2,h.l1,h.l2,h.val⟩
theorem SGood.mono {n m:Nat} {s:List SpanL × List SpanL} (h:SGood n s) (hn:n≤m):SGood m s:=⟨h.f1,h.f2,Nat.le_trans h.l1 hn,Nat.le_trans h.l2 hn,h.val⟩
theorem SGood.nil (n:Nat):SGood n ([],[]):=⟨fit_nil,fit_nil,Nat.zero_le _,Nat.zero_le _,ValS.nil⟩
theorem SGood.or {n m:Nat} {s t:List SpanL × List SpanL} (h:SGood n s) (k:SGood m t):SGood (1+(n+m)) (orS s.1 s.2 t.1 t.2):=by
 have g:=orS_good h.f1 h.f2 k.f1 k.f2;have:=h.l1; have:=h.l2; have:=k.l1; have:=k.l2;refine ⟨g.1,g.2.1,by have:=g.2.2.1; omega,by have:=g.2.2.2; omega,?_⟩;rw [orS_val h.val k.val];exact ValS.or h.val k.val
theorem altS_sgood {l:List CompL} (h:∀ c∈l,c.fit) (hn:l.length≤6):SGood 40 (altS l):=by
 have g:=altS_good h;exact ⟨g.1,g.2.1,by have:=g.2.2.1; omega,by have:=g.2.2.2; omega,altS_val l⟩
def PartAt (w:World) (base:Nat) (v:Value) (A:Option Addr) (l:List SpanL):Prop:=Spans w A l∧(l≠[]→∀ ad,A=some ad→base≤ad.block∧v.ownBlock≠some ad.block)
theorem Spans.grown {w w':World} {row:Option Nat} {A:Option Addr} {l:List SpanL} (h:Spans w A l) (hg:w.grownBy w' row) (hne:l≠[]→∀ ad,A=some ad→some ad.block≠row):Spans w' A l:=by
 by_cases hl:l=[]
 ·exact .inl hl
 ·rcases h with h | ⟨b,off,rfl,hlt,hc⟩
  ·exact .inl h
  ·exact .inr ⟨b,off,rfl,Nat.lt_of_lt_of_le hlt hg.size,fun i hi j u hj=>(World.cell?_of_block (a:=⟨b,_,none⟩) (w:=w) (hg.block b hlt (hne hl _ rfl))).trans (hc i hi j u hj)⟩
theorem spans_lt {w:World} {A:Option Addr} {l:List SpanL} (h:Spans w A l) (hne:l≠[]):∀ ad,A=some ad→ad.block < w.heap.size:=by
 intro ad had;rcases h with h | ⟨b,off,rfl,hl,-⟩
 ·exact absurd h hne
 ·injection had with had; subst had; exact hl
theorem PartAt.next {w w':World} {base:Nat} {v v':Value} {A:Option Addr} {l:List SpanL} (h:PartAt w base v A l) (hg:w.grownBy w' v.ownBlock) (hv:∀ k,v'.ownBlock=some k→v.ownBlock=some k∨w.heap.size≤k):PartAt w' base v' A l:=by
 by_cases hl:l=[]
 ·exact ⟨.inl hl,fun e=>absurd hl e⟩
 ·refine ⟨h.1.grown hg (fun _ ad had e=>(h.2 hl ad had).2 e.symm),fun _ ad had=>⟨(h.2 hl ad had).1,fun e=>?_⟩⟩;rcases hv _ e with e2 | e2
  ·exact (h.2 hl ad had).2 e2
  ·have:=spans_lt h.1 hl ad had; omega
theorem PartAt.kb {w w':World} {base:Nat} {v:Value} {A:Option Addr} {l:List SpanL} (h:PartAt w base v A l) (hb:KB w.heap.size w w'):PartAt w' base v A l:=⟨h.1.kb hb,h.2⟩
def SetsOwn (w:World) (base:Nat) (v:Value) (L:List (List SpanL × List SpanL)):Prop :=
 ∃ hs:List Value,hs.length=L.length * 2∧w.ownsRow base 42 2 v L.length hs∧∀ i (h:i < L.length),∃ Ai ci Bi di,hs[i * 2]?=some (.slice Ai L[i].1.length ci)∧hs[i * 2+1]?=some (.slice Bi L[i].2.length di)∧PartAt w base v Ai L[i].1∧PartAt w base v Bi L[i].2
theorem Tryz.info42:(Tryz.prog.info? 42).map (fun i=>(i.zero,i.size,i.bytes))=some (some (setV none 0 0 none 0 0),2,48):=by kernel_rfl
theorem EKsets:EK Tryz.prog 154 42 2 48 := .mk' _ Tryz.underlying154 Tryz.info42 rfl (by omega)
section
variable {w w':World} {base:Nat} {v:Value} {L:List (List SpanL × List SpanL)}
theorem SetsOwn.nil:SetsOwn w base (.slice none 0 0) []:=⟨[],rfl,World.ownsRow_nil _ _ _ _,fun i h=>by simp at h⟩
theorem SetsOwn.kb (h:SetsOwn w base v L) (hb:KB w.heap.size w w'):SetsOwn w' base v L:=by
 obtain ⟨hs,h1,h2,h3⟩:=h;refine ⟨hs,h1,tG h2 hb,fun i hi=>?_⟩;obtain ⟨Ai,ci,Bi,di,h4,h5,h6,h7⟩:=h3 i hi;exact ⟨Ai,ci,Bi,di,h4,h5,h6.kb hb,h7.kb hb⟩
theorem SetsOwn.snoc {s:List SpanL × List SpanL} {Aa Ba:Option Addr} {ca da:Nat} {v':Value} {hs:List Value} (h1:hs.length=L.length * 2)
 (h3:∀ i (h:i < L.length),∃ Ai ci Bi di,hs[i * 2]?=some (.slice Ai L[i].1.length ci)∧hs[i * 2+1]?=some (.slice Bi L[i].2.length di)∧PartAt w base v Ai L[i].1∧PartAt w base v Bi L[i].2)
 (h2:w'.ownsRow base 42 2 v' (L.length+1) (hs++[.slice Aa s.1.length ca,.slice Ba s.2.length da])) (hg:w.grownBy w' v.ownBlock) (hv:∀ k,v'.ownBlock=some k→v.ownBlock=some k∨w.heap.size≤k)
 (ha:PartAt w base v Aa s.1) (hb:PartAt w base v Ba s.2):SetsOwn w' base v' (L++[s]):=by
 refine ⟨hs++[.slice Aa s.1.length ca,.slice Ba s.2.length da],by simp [h1]; omega,by rw [List.length_append]; exact h2,fun i hi=>?_⟩
 rcases Nat.lt_or_ge i L.length with k | k
 ·obtain ⟨Ai,ci,Bi,di,h4,h5,h6,h7⟩:=h3 i k;rw [List.getElem_append_left k];exact ⟨Ai,ci,Bi,di,by rw [List.getElem?_append_left (by omega)]; exact h4,by rw [List.getElem?_append_left (by omega)]; exact h5,h6.next hg hv,h7.next hg hv⟩
 ·(have hi2:i=L.length:=by simp at hi; omega);subst hi2;(have e:(L++[s])[L.length]=s:=by simp);rw [e];refine ⟨Aa,ca,Ba,da,?_,?_,ha.next hg hv,hb.next hg hv⟩
  ·rw [List.getElem?_append_right (by omega),h1]; simp
  ·rw [List.getElem?_append_right (by omega),h1]; simp
def SetsAt (w:World) (A:Option Addr) (L:List (List SpanL × List SpanL)):Prop :=
 L=[]∨∃ b off,A=some ⟨b,off,none⟩∧b < w.heap.size∧∀ i (h:i < L.length),∃ Ai ci Bi di,w.cell? ⟨b,off+i * 2,none⟩=some (.slice Ai L[i].1.length ci)∧w.cell? ⟨b,off+i * 2+1,none⟩=some (.slice Bi L[i].2.length di)∧Spans w Ai L[i].1∧Spans w Bi L[i].2
theorem SetsOwn.at_ (h:SetsOwn w base v L):∃ A c,v = .slice A L.length c∧SetsAt w A L:=by
 obtain ⟨hs,h1,h2,h3⟩:=h;rcases h2.2 with ⟨hv,h0⟩ | ⟨g,cap,cur,hv,hg,hh,hle,-⟩
 ·have:L=[]:=List.eq_nil_of_length_eq_zero h0;subst this;exact ⟨none,0,hv,.inl rfl⟩
 ·have hlt:g < w.heap.size:=by
   rcases Nat.lt_or_ge g w.heap.size with h | h
   ·exact h
   ·rw [Array.getElem?_eq_none h] at hh; cases hh
  subst hv;refine ⟨some ⟨g,0,none⟩,cap,rfl,.inr ⟨g,0,rfl,hlt,fun i hi=>?_⟩⟩;obtain ⟨Ai,ci,Bi,di,h4,h5,h6,h7⟩:=h3 i hi;refine ⟨Ai,ci,Bi,di,?_,?_,h6.1,h7.1⟩
  ·have:=World.ownsRow.cellAt h2 (i * 2) (by omega);rw [Nat.zero_add,this]; exact h4
  ·have:=World.ownsRow.cellAt h2 (i * 2+1) (by omega);rw [Nat.zero_add,this]; exact h5
end
structure OrW (L:List (List SpanL × List SpanL)) (k:Nat) (o:List SpanL × List SpanL):Prop where
 good:SGood (41 * k) o
 r:(L.drop k).foldl (fun o s=>orS o.1 o.2 s.1 s.2) o=orG L
theorem OrW.start (L:List (List SpanL × List SpanL)):OrW L 0 ([],[]):=⟨SGood.nil _,rfl⟩
theorem OrW.step {L:List (List SpanL × List SpanL)} {k:Nat} {o:List SpanL × List SpanL} (h:OrW L k o) (hk:k < L.length) (hg:SGood 40 L[k]):OrW L (k+1) (orS o.1 o.2 L[k].1 L[k].2):=by
 refine ⟨(h.good.or hg).mono (by omega),?_⟩;have e:=h.r;rw [List.drop_eq_getElem_cons hk,List.foldl_cons] at e;exact e
theorem OrW.last {L:List (List SpanL × List SpanL)} {k:Nat} {o:List SpanL × List SpanL} (h:OrW L k o) (hk:L.length≤k):o=orG L:=by
 have e:=h.r;rw [List.drop_eq_nil_of_le hk] at e;exact e
theorem or7_any (A:Option Addr) (c:Nat) (L:List (List SpanL × List SpanL)) (w:World) (hg:Vl w) (h:SetsAt w A L) (hL:∀ s∈L,SGood 40 s) (hn:L.length≤6):Calls Tryz.prog 91 #[.slice A L.length c] w (SetPost w (orG L).1 (orG L).2):=by
 have HA:=hid h;have HG:=hid hg;have HLG:=hid hL;clear h hg hL;generalize hn2:L.length=n at *;have HN:=hid hn2;clear hn2;go_enter Tryz.func91,Tryz.ntmps91;(go_upto_region 1 with fail);refine zI ?_;intro w1 hw1;have O2:=hid (show Own w.heap.size w1 w.heap.size [.slice none 0 0,.slice none 0 0] by rw [hw1]; exact Own.new w [.slice none 0 0,.slice none 0 0] 42 (Nat.le_refl _));have HB:=hid (show Below w.heap.size w w1 by rw [hw1]; exact zL _ _);clear hw1;(go_wp2_with fail);refine (snone_any w1).mono ?_;rintro _ w2 ⟨rfl,hb⟩;have O2:=hid (O2.out.below hb);have HB:=hid (zC HB.out hb);clear hb;(go_upto_block 0 with fail);refine zI ?_;intro w3 hw3;(have HNE:w.heap.size≠w2.heap.size:=by have:=O2.out.box.1; omega);have O2:=hid (show Own w.heap.size w3 w.heap.size [.slice none 0 0,.slice none 0 0] by rw [hw3]; exact O2.out.alloc _);have O3:=hid (show Own w.heap.size w3 w2.heap.size [.slice none 0 0,.slice none 0 0] by rw [hw3]; exact Own.new w2 [.slice none 0 0,.slice none 0 0] 42 HB.out.size);have HB:=hid (show Below w.heap.size w w3 by rw [hw3]; exact zC HB.out (zL _ _));clear hw3;generalize w2.heap.size=g3 at *;(go_wp2_with fail);go_loopw [9] (fun i wr=>∃ (k:Nat) (A1 B1:Option Addr) (c1 d1 n1 m1:Nat) (o:List SpanL × List SpanL),i = .int .i64 k∧k≤n∧Hid (o.1.length=n1)∧Hid (o.2.length=m1)∧Hid (OrW L k o)∧Hid (SpanB wr (g3+1) A1 o.1)∧Hid (SpanB wr (g3+1) B1 o.2)∧Hid (Own w.heap.size wr g3 [.slice A1 n1 c1,.slice B1 m1 d1])∧Hid (Own w.heap.size wr w.heap.size [.slice none 0 0,.slice none 0 0])∧Hid (Below w.heap.size w wr)) (fun i _=>n - (intOf i).toNat)
 case atStart=>exact ⟨0,none,none,0,0,0,0,([],[]),rfl,Nat.zero_le _,hid rfl,hid rfl,hid (OrW.start L),hid (SpanB.nil _ _),hid (SpanB.nil _ _),O3,O2,HB⟩
 case round =>
  obtain ⟨k,A1,B1,c1,d1,n1,m1,o,rfl,hk,HN1,HM1,HW,HS1,HS2,O3,O2,HB⟩:=hrel;by_cases hlt:k < n
  ·(have hlt':k < L.length:=by rw [HN.out]; exact hlt);(have i0:(0:Int)≤(k:Int):=by omega);(have i1:(k:Int) < (n:Int):=by omega);rcases HA.out with h | ⟨b,off,hA,hbl,hc⟩
   ·exfalso; rw [h] at hlt'; simp at hlt'
   ·subst hA;obtain ⟨Ai,ci,Bi,di,hc0,hc1,hsa,hsb⟩:=hc k hlt';have HGK:=hid (HLG.out _ (List.getElem_mem hlt'));have HWN:=hid (HW.out.step hlt' HGK.out);have c0:=(HB.out.cell (p:=⟨b,off+k * 2,none⟩) hbl).trans hc0;have c1:=(HB.out.cell (p:=⟨b,off+k * 2+1,none⟩) hbl).trans hc1;have HSA:=hid (hsa.below HB.out);have HSB:=hid (hsb.below HB.out);have hbl2:b < wr.heap.size:=Nat.lt_of_lt_of_le hbl HB.out.size;clear hc hc0 hc1 hsa hsb;generalize L[k]=s at *;obtain ⟨s1,s2⟩:=s;dsimp only at HGK HWN HSA HSB c0 c1;generalize hq1:s1.length=q1 at *;generalize hq2:s2.length=q2 at *;have HQ1:=hid hq1;have HQ2:=hid hq2;clear hq1 hq2;(go_upto_region 5 with fail);refine zI ?_;intro u1 hu1;have HX:=hid (show Box u1 wr.heap.size [.slice Ai q1 ci,.slice Bi q2 di] by rw [hu1]; exact Box.new wr [.slice Ai q1 ci,.slice Bi q2 di] 42);have HBU:=hid (show Below wr.heap.size wr u1 by rw [hu1]; exact zL _ _);clear hu1 c0 c1 hbl2;have O3:=hid (O3.out.below HBU.out);obtain ⟨x0,x1⟩:=HX.out.get2;obtain ⟨y0,y1⟩:=O3.out.box.get2;have xl:=HX.out.1;have yl:=O3.out.box.1;have HAT1:=hid (HW.out.good.at_ (HS1.out.1.below HBU.out) (HS2.out.1.below HBU.out));have HAT2:=hid (SGood.at_ (s:=(s1,s2)) HGK.out (HSA.out.below HBU.out) (HSB.out.below HBU.out));have HOR:=hid (law_or (1+2 * (41 * k+40)) c1 d1 ci di ((HG.out.below HB.out).below HBU.out) HAT1.out HAT2.out (Nat.le_refl _) (by omega));dsimp only at HOR
    rw [HN1.out,HM1.out,HQ1.out,HQ2.out] at HOR;clear HAT1 HAT2;generalize orS o.1 o.2 s1 s2=o2 at *;obtain ⟨p1,p2⟩:=o2;dsimp only at HOR HWN;generalize hr1:p1.length=r1 at *;generalize hr2:p2.length=r2 at *;have HR1:=hid hr1;have HR2:=hid hr2;clear hr1 hr2;(go_wp2_with fail);refine HOR.out.mono ?_;rintro _ u2 ⟨A5,c5,B5,d5,he,-,hs5,hs6,hb⟩;rw [HR1.out,HR2.out] at he;subst he;have HBU2:=hid (zC HBU.out hb);have O3:=hid (O3.out.below hb);have hgu:g3+1≤u1.heap.size:=yl;have HS5:=hid (hs5.low hgu);have HS6:=hid (hs6.low hgu);clear hb hs5 hs6 HOR x0 x1 y0 y1 xl yl;have O2:=hid (O2.out.below HBU2.out);have HBW:=hid (zC HB.out HBU2.out);obtain ⟨y0,y1⟩:=O3.out.box.get2;have sf:∀ j,u2.frozen? ⟨g3,j,none⟩=false:=O3.out.soft;have yl:=O3.out.box.1;have hlow:=O3.out.low;(go_wp2_with fail);go_roundw
    case rel=>exact ⟨k+1,A5,B5,c5,d5,r1,r2,(p1,p2),by go_num,by omega,HR1,HR2,HWN,hid (spanB_set2 HS5.out (Nat.lt_succ_self _) _ _),hid (spanB_set2 HS6.out (Nat.lt_succ_self _) _ _),hid (O3.out.set2 _ _),hid ((O2.out.other HNE _).other HNE _),hid (below_set2 HBW.out hlow _ _)⟩
    case measure=>simp [intOf]; omega
  ·(obtain rfl:k=n:=by omega);(have hge:¬ (k:Int) < (k:Int):=by omega);have HE:=hid (HW.out.last (by rw [HN.out]; exact Nat.le_refl _));obtain ⟨x0,x1⟩:=O3.out.box.get2;have xl:=O3.out.box.1;obtain ⟨y0,y1⟩:=O2.out.box.get2;have sf:∀ j,wr.frozen? ⟨w.heap.size,j,none⟩=false:=O2.out.soft;have yl:=O2.out.box.1;(have hwg:w.heap.size < g3+1:=by have:=O3.out.low; omega);(go_wp2_with fail);refine zP ?_;intro w9 hw9;(have O9:Own w.heap.size w9 w.heap.size [.slice A1 n1 c1,.slice B1 m1 d1]:=by rw [hw9]; exact O2.out.set2 _ _);(have S9:SpanB w9 (g3+1) A1 o.1:=by rw [hw9]; exact spanB_set2 HS1.out hwg _ _);(have T9:SpanB w9 (g3+1) B1 o.2:=by rw [hw9]; exact spanB_set2 HS2.out hwg _ _);(have B9:Below w.heap.size w w9:=by rw [hw9]; exact below_set2 HB.out (Nat.le_refl _) _ _);clear hw9;obtain ⟨k0,k1⟩:=O9.box.get2;refine bodyPost_ret (v:=setV A1 n1 c1 B1 m1 d1) (by simp [results,Tryz.results91,go_sem,k0,k1,setV]) rfl ?_;rw [← HE.out];exact ⟨A1,c1,B1,d1,by rw [HN1.out,HM1.out],S9.low (Nat.le_of_lt hwg),T9.low (Nat.le_of_lt hwg),B9⟩
def SetPostK (w:World) (l m:List SpanL) (e:Ending) (w':World):Prop:=∃ A c B d,e = .returned (setV A l.length c B m.length d)∧SpanB w' w.heap.size A l∧SpanB w' w.heap.size B m∧KB w.heap.size w w'
theorem kb_set2 {w w1:World} (h:KB w.heap.size w w1) {g:Nat} (hg:w.heap.size≤g) (b0 b1:Value):KB w.heap.size w ((w1.setCell ⟨g,0,none⟩ b0).setCell ⟨g,1,none⟩ b1):=tL (tL h hg b0) hg b1
theorem setG_no {r:List (List CompL)} (h:bD r=false):setG r=([],[]):=by rw [setG,h]; rfl
theorem setG_yes {r:List (List CompL)} (h:bD r=true):setG r=orG (r.map altS):=by rw [setG,if_pos h]
theorem mayG_parts {r:List (List CompL)} (h:bD r=true):r.length≤6∧∀ a∈r,a.length≤6:=by
 rw [bD,Bool.and_eq_true] at h;exact vb h.1
theorem alts_sgood {r:List (List CompL)} (hf:Z7 r) (h:∀ a∈r,a.length≤6):∀ s∈r.map altS,SGood 40 s:=fun s hs=>by
 obtain ⟨a,ha,rfl⟩:=List.mem_map.1 hs;exact altS_sgood (hf a ha) (h a ha)
theorem orG_good:∀ {L:List (List SpanL × List SpanL)},(∀ s∈L,SGood 40 s)→SGood (41 * L.length) (orG L):=fun {L} h=>by
 have:∀ k,k≤L.length→∃ o,OrW L k o:=fun k=>by
  induction k with
  | zero=>intro _; exact ⟨_,OrW.start L⟩
  | succ k ih =>
   intro hk;obtain ⟨o,ho⟩:=ih (by omega);exact ⟨_,ho.step (by omega) (h _ (List.getElem_mem (by omega)))⟩
 obtain ⟨o,ho⟩:=this L.length (Nat.le_refl _);rw [← ho.last (Nat.le_refl _)];exact ho.good
theorem setG_good {r:List (List CompL)} (hf:Z7 r):SGood 250 (setG r):=by
 cases hm:bD r
 ·rw [setG_no hm]; exact SGood.nil _
 ·have hp:=mayG_parts hm;rw [setG_yes hm];refine (orG_good (alts_sgood hf hp.2)).mono ?_;rw [List.length_map]; omega
theorem map_take_alt {r:List (List CompL)} {k:Nat} (h:k < r.length):(r.map altS).take k++[altS r[k]]=(r.map altS).take (k+1):=by
 rw [List.take_succ_eq_append_getElem (by rw [List.length_map]; exact h),List.getElem_map]
theorem set7_any (A:Option Addr) (c:Nat) (r:List (List CompL)) (w:World) (hL:Laid w) (h:Alts w A r) (hf:Z7 r) (hn:r.length≤4398046511104) (hm:∀ a∈r,a.length≤4398046511104):Calls Tryz.prog 52 #[wL A r.length c] w (SetPostK w (setG r).1 (setG r).2):=by
 have HMAY:=hid (fun u (hb:KB w.heap.size w u)=>XB A c r u (hL.kb hb) (h.kb hb) hf hn hm);have HL:=hid hL;have HA:=hid h;have HF:=hid hf;have HSN:=hid (setG_no (r:=r));have HSY:=hid (setG_yes (r:=r));have HMP:=hid (mayG_parts (r:=r));clear h hf hm hL;have HLE:=hn;generalize hn2:r.length=n at *;have HN:=hid hn2;clear hn hn2;go_enter Tryz.func52,Tryz.ntmps52;(go_upto_region 1 with fail);refine zI ?_;intro w1 hw1;have HX:=hid (show Box w1 w.heap.size [.slice A n c] by rw [hw1]; exact (Box.new w [.slice A n c] 102).below (zL _ _));have O2:=hid (show Own w.heap.size w1 (w.heap.size+1) [.slice none 0 0,.slice none 0 0] by rw [hw1]; exact Own.new2 w _ [.slice none 0 0,.slice none 0 0] 42 (Nat.le_refl _));have HB:=hid (show KB w.heap.size w w1 by rw [hw1]; exact zA (zG _ _) (zG _ _));clear hw1;have hg2:w.heap.size≤w.heap.size+1:=Nat.le_succ _;generalize w.heap.size+1=g2 at *;have x0:=HX.out.2 0 _ rfl;have xl:=HX.out.1;(go_wp2_with fail);refine (HMAY.out _ HB.out).mono ?_;rintro _ w2 ⟨rfl,hb⟩;have HX:=hid (HX.out.kb hb);have O2:=hid (O2.out.kb hb);have HB:=hid (zA HB.out hb);clear hb x0 xl HMAY;cases hmg:bD r
 ·have HE:=hid (HSN.out hmg);(go_wp2_with fail);refine (snone_any w2).mono ?_;rintro _ w3 ⟨rfl,hb⟩;have O2:=hid (O2.out.below hb);have HB:=hid (zA HB.out hb.kb);clear hb;obtain ⟨y0,y1⟩:=O2.out.box.get2;have sf:∀ j,w3.frozen? ⟨g2,j,none⟩=false:=O2.out.soft;have yl:=O2.out.box.1;(go_wp2_with fail);refine zP ?_;intro w9 hw9;(have O9:Own w.heap.size w9 g2 [.slice none 0 0,.slice none 0 0]:=by rw [hw9]; exact O2.out.set2 _ _);(have B9:KB w.heap.size w w9:=by rw [hw9]; exact kb_set2 HB.out hg2 _ _);clear hw9;obtain ⟨k0,k1⟩:=O9.box.get2;refine bodyPost_ret (v:=setV none 0 0 none 0 0) (by simp [results,Tryz.results52,go_sem,k0,k1,setV]) rfl ?_;rw [HE.out];exact ⟨none,0,none,0,rfl,SpanB.nil _ _,SpanB.nil _ _,B9⟩
 ·have HE:=hid (HSY.out hmg);have HP:=hid (HMP.out hmg);have hn6:=HP.out.1;have HA:=hid (HA.out.kb HB.out);(have HG:=hid (HL.out.kb HB.out).first);clear hmg;have x0:=HX.out.2 0 _ rfl;have xl:=HX.out.1;(go_upto_block 0 with fail);clear x0 xl;have HV2:=O2.out.box.1;generalize hB:w2.heap.size=B at *;(go_wp2_with fail);go_loopw [13,3] (fun i vs wr=>∃ (k:Nat) (v:Value),i = .int .i64 k∧v=vs∧k≤n∧Hid (SetsOwn wr B v ((r.map altS).take k))∧Hid (Below w2.heap.size w2 wr)) (fun i _ _=>n - (intOf i).toNat)
  case atStart=>exact ⟨0,_,rfl,rfl,Nat.zero_le _,hid .nil,hid (Below.refl _ _)⟩
  case round =>
   obtain ⟨k,v,rfl,rfl,hk,HO,HB1⟩:=hrel;by_cases hlt:k < n
   ·(have hlt':k < r.length:=by rw [HN.out]; exact hlt);(have i0:(0:Int)≤(k:Int):=by omega);(have i1:(k:Int) < (n:Int):=by omega);obtain ⟨b,off,Ai,ci,hA,hbl,hcell,hcs⟩:=(HA.out.below HB1.out).at_ hlt';subst hA;have HCS:=hid hcs;have HAF:=hid (HF.out _ (List.getElem_mem hlt'));have ha6:=HP.out.2 _ (List.getElem_mem hlt');have HTK:=hid (map_take_alt hlt');(have hLl:((r.map altS).take k).length=k:=by rw [List.length_take,List.length_map]; omega);clear hcs;generalize r[k]=a at *;have HALT:=hid (alt_any Ai ci a wr (HG.out.below HB1.out) HCS.out HAF.out ha6);generalize hm:a.length=m at *;generalize altS a=s at *;obtain ⟨s1,s2⟩:=s;dsimp only at HALT;generalize hq1:s1.length=q1 at *;generalize hq2:s2.length=q2 at *;have HQ1:=hid hq1;have HQ2:=hid hq2;clear hq1 hq2;(go_wp2_with fail);refine HALT.out.mono ?_;rintro _ u1 ⟨A5,c5,B5,d5,he,hs5,hs6,hb⟩;rw [HQ1.out,HQ2.out] at he;subst he;have HBU:=hid (zC HB1.out hb);(have hszB:B≤u1.heap.size:=by have:=HBU.out.size; omega);(have hszr:B≤wr.heap.size:=by have:=HB1.out.size; omega);have HOU:=hid (HO.out.kb hb.kb)
    have HP5:Hid (PartAt u1 B v A5 s1):=hid ⟨hs5.1,fun _ ad had=>by
     have h1:=hs5.2 ad had;refine ⟨by omega,fun e=>?_⟩;obtain ⟨hs,-,h2,-⟩:=HO.out;have:=(h2.lt _ e).2
     omega⟩
    have HP6:Hid (PartAt u1 B v B5 s2):=hid ⟨hs6.1,fun _ ad had=>by
     have h1:=hs6.2 ad had;refine ⟨by omega,fun e=>?_⟩;obtain ⟨hs,-,h2,-⟩:=HO.out;have:=(h2.lt _ e).2
     omega⟩
    obtain ⟨hs,e1,e2,e3⟩:=HOU.out;have HE1:=hid e1;have HE2:=hid e2;have HE3:=hid e3;rw [hLl] at HE2
    have hone:∀ u∈([.slice A5 q1 c5,.slice B5 q2 d5]:List Value),u.oneCell'=true:=fun u hu=>by
     simp only [List.mem_cons,List.not_mem_nil,or_false] at hu;rcases hu with rfl | rfl<;>rfl
    clear hb hs5 hs6 e1 e2 e3 HALT hcell;(go_wp2_with (first | (at_builtin; refine wI EKsets rfl (.tmp 17) (.tmp 20) rfl [.slice A5 q1 c5,.slice B5 q2 d5] HE2.out rfl rfl rfl hone (by unfold maxLen; omega) (by omega) hszB ?_; intro v' w' h2 h3 h4 h5)));go_roundw
    case rel=>exact ⟨k+1,_,by go_num,rfl,by omega,hid (by rw [← HTK.out]; exact SetsOwn.snoc (s:=(s1,s2)) HE1.out HE3.out (by rw [hLl,HQ1.out,HQ2.out]; exact h2) h4 h5 HP5.out HP6.out),hid (by rw [hB]; exact (hB▸HBU.out).trans h3)⟩
    case measure=>simp [intOf]; omega
   ·(obtain rfl:k=n:=by omega);(have hge:¬ (k:Int) < (k:Int):=by omega);have hfull:(r.map altS).take k=r.map altS:=List.take_of_length_le (by rw [List.length_map,HN.out]; exact Nat.le_refl _);rw [hfull] at HO;obtain ⟨A5,c5,hv,hsa⟩:=HO.out.at_;(have hll:(r.map altS).length=k:=by rw [List.length_map,HN.out]);rw [hll] at hv;subst hv;have HOR:=hid (or7_any A5 c5 (r.map altS) wr (HG.out.below HB1.out) hsa (alts_sgood HF.out HP.out.2) (by rw [hll]; exact hn6));rw [hll,← HE.out] at HOR;have O2:=hid (O2.out.below HB1.out);have HBW:=hid (zA HB.out HB1.out.kb);clear hsa hfull HO;generalize setG r=sg at *;obtain ⟨s1,s2⟩:=sg;dsimp only at HOR;generalize hq1:s1.length=q1 at *;generalize hq2:s2.length=q2 at *;have HQ1:=hid hq1;have HQ2:=hid hq2;clear hq1 hq2;(go_wp2_with fail);refine HOR.out.mono ?_;rintro _ u1 ⟨A6,c6,B6,d6,he,hs5,hs6,hb⟩;rw [HQ1.out,HQ2.out] at he;subst he;have HBW2:=hid (zA HBW.out hb.kb);have O2:=hid (O2.out.below hb);have HS5:=hid hs5;have HS6:=hid hs6;(have hgw:g2 < wr.heap.size:=by have:=HB1.out.size; omega);clear hb hs5 hs6 HOR;obtain ⟨y0,y1⟩:=O2.out.box.get2;have sf:∀ j,u1.frozen? ⟨g2,j,none⟩=false:=O2.out.soft;have yl:=O2.out.box.1;(go_wp2_with fail);refine zP ?_;intro w9 hw9;(have O9:Own w.heap.size w9 g2 [.slice A6 q1 c6,.slice B6 q2 d6]:=by rw [hw9]; exact O2.out.set2 _ _);have S9:SpanB w9 wr.heap.size A6 s1:=by rw [hw9]; exact spanB_set2 HS5.out hgw _ _
    (have T9:SpanB w9 wr.heap.size B6 s2:=by rw [hw9]; exact spanB_set2 HS6.out hgw _ _);(have B9:KB w.heap.size w w9:=by rw [hw9]; exact kb_set2 HBW2.out hg2 _ _);clear hw9;obtain ⟨k0,k1⟩:=O9.box.get2;refine bodyPost_ret (v:=setV A6 q1 c6 B6 q2 d6) (by simp [results,Tryz.results52,go_sem,k0,k1,setV]) rfl ?_;(have hww:w.heap.size≤wr.heap.size:=by omega);exact ⟨A6,c6,B6,d6,by rw [HQ1.out,HQ2.out],S9.low hww,T9.low hww,B9⟩
theorem Xw (a b c:Int):(⟨a,b,c,⟨#[]⟩,⟨#[]⟩⟩:Ver).fit:=⟨by show (⟨#[]⟩:ByteArray).size≤_; exact Nat.zero_le _,by show (⟨#[]⟩:ByteArray).size≤_; exact Nat.zero_le _⟩
theorem aB {c:CompL} (h:MayX c):bD [[c]]=true:=by
 have hl:=rU c;rw [bD,Bool.and_eq_true,decide_eq_true_eq];refine ⟨?_,?_⟩
 ·simp [tD,eF,yY.2 h]
 ·have e:xd [[c]]=zh c:=rfl;rw [e]; omega
end Go.Proofs.YtiffijoenkcpjaaGreatDoor
