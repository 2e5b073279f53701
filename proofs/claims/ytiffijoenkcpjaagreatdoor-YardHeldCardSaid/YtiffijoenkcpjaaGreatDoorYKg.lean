import Derived.Test.YtiffijoenkcpjaaGreatDoorYJx
set_option linter.unusedVariables false
set_option linter.unusedSimpArgs false
set_option maxRecDepth 100000
set_option maxHeartbeats 4000000
namespace Go.Proofs.YtiffijoenkcpjaaGreatDoor
open Go.RowKit Go.Lib
def zZ:Option MT→List NodeL
 | none=>[]
 | some t=>t.lay 0
def okM:Option MT→Prop
 | none=>True
 | some t=>t.ok
def pR:Option MT→List UInt8
 | none=>[]
 | some t=>t.text
def ox (o:Option MT):Bool:=decide ((zZ o).length≤15)&&decide ((pR o).length≤96)
def rE (o:Option MT):List UInt8:=if ox o then pR o else []
def yu (l:List UInt8):Option MT × Int:=if 96 < l.length then (none,3) else if l=[] then (none,0) else match sQ l with
 | none=>(none,7)
 | some t=>(some t,0)
theorem kK {l:List UInt8}:okM (yu l).1:=by
 unfold yu;split
 ·trivial
 ·split
  ·trivial
  ·cases h:sQ l with
   | none=>trivial
   | some t=>exact (gB h).1
theorem kZ (l:List UInt8):(decide ((yu l).2=0)&&decide (rE (yu l).1=l))=ye l:=by
 unfold yu ye;by_cases h96:96 < l.length
 ·rw [if_pos h96,decide_eq_false (by omega:¬ l.length≤96)]; rfl
 ·rw [if_neg h96,decide_eq_true (by omega:l.length≤96),Bool.true_and];by_cases h0:l=[]
  ·subst h0; decide +kernel
  ·rw [if_neg h0];(have he:l.isEmpty=false:=by simpa using h0);rw [he,Bool.false_or];cases h:sQ l with
   | none=>rfl
   | some t =>
    obtain ⟨h1,h2,h3⟩:=gB h
    have hm:ox (some t)=true:=by
     unfold ox zZ pR;rw [MT.lay_len,decide_eq_true h2,decide_eq_true h3]; rfl
    simp only [decide_true,Bool.true_and];rw [rE,hm,if_pos rfl]; rfl
theorem qa {l:List UInt8} (h:(yu l).2≠0):ye l=false:=by rw [← kZ,decide_eq_false h,Bool.false_and]
theorem oA {l:List UInt8} (h:(yu l).2=0):ye l=decide (rE (yu l).1=l):=by rw [← kZ,decide_eq_true h,Bool.true_and]
theorem oM {l:List UInt8} (h:96 < l.length):yu l=(none,3):=by rw [yu,if_pos h]
theorem mH {l:List UInt8} (h:l=[]):yu l=(none,0):=by subst h; rfl
theorem oE {l:List UInt8} (h:¬ 96 < l.length) (h0:l≠[]) (ht:sQ l=none):yu l=(none,7):=by rw [yu,if_neg h,if_neg h0,ht]
theorem pZ {l:List UInt8} {t:MT} (h:¬ 96 < l.length) (h0:l≠[]) (ht:sQ l=some t):yu l=(some t,0):=by rw [yu,if_neg h,if_neg h0,ht]
def m5 (w:World) (p:Option MT × Int) (e:Ending) (w':World):Prop:=∃ A c,e = .returned (.tuple #[.agg #[.slice A (zZ p.1).length c],.int .i64 p.2])∧Lies 5 NodeL.cells w' A (zZ p.1)∧KB w.heap.size w w'
theorem xv {w w':World} {er:Int} (h:KB w.heap.size w w'):m5 w (none,er) (.returned (.tuple #[.agg #[.slice none 0 0],.int .i64 er])) w':=⟨none,0,rfl,.inl rfl,h⟩
theorem nH (l:List UInt8):(yp l).length≤l.length+1:=(zk 32 l []).2
def qA (l:List UInt8) (ws':List ByteArray) (ns':List NodeL) (bad:Bool):Prop :=
 (bad=true∧sQ l=none)∨(bad=false∧0 < ws'.length∧sQ l=none)∨(bad=false∧ws'=[]∧∃ t:MT,ns'=t.lay 0∧t.ok∧sQ l=if t.size≤15∧t.text.length≤96 then some t else none)
theorem jb {l:List UInt8} {t:MT} {r:zb} {ws':List ByteArray} (hq:yI (wW ((yp l).length+1)) (yp l)=some (t,r)) (hr:ws'.map bts=r):qA l ws' ([]++t.lay 0) false:=by
 unfold qA sQ;rw [hq];rcases ws' with _ | ⟨x,ws'⟩
 ·subst hr;exact .inr (.inr ⟨rfl,rfl,t,rfl,(vf (vv _) _ _ _ hq).2.1,rfl⟩)
 ·subst hr;exact .inr (.inl ⟨rfl,by simp,rfl⟩)
theorem nQ {l:List UInt8} {ws':List ByteArray} {ns':List NodeL} (hq:yI (wW ((yp l).length+1)) (yp l)=none):qA l ws' ns' true:=by
 unfold qA sQ;rw [hq];exact .inl ⟨rfl,rfl⟩
theorem pg {w w':World} {l:List UInt8} {e:Ending} (h:s9 w (yp l) e w'):∃ g cap,∃ ws:List ByteArray,e = .returned (.slice (some ⟨g,0,none⟩) ws.length cap)∧ws.map bts=yp l∧ws.length≤cap∧Texts w' (some ⟨g,0,none⟩) ws∧KB w.heap.size w w':=by
 obtain ⟨g,cap,rfl,hg,hgl,hc,hcell,hb⟩:=h
 have hm:((yp l).map xP).map bts=yp l:=by
  rw [List.map_map];(have:(bts ∘ xP)=id:=funext fun x=>zx x);rw [this,List.map_id]
 refine ⟨g,cap,(yp l).map xP,by rw [List.length_map],hm,by rw [List.length_map]; exact hc,.inr ⟨g,0,rfl,hgl,fun i hi=>?_⟩,hb.kb⟩;rw [List.length_map] at hi;have:=hcell i hi;unfold TextAt;rw [Nat.zero_add,Nat.mul_one,this];simp only [List.getElem_map,List.getD_eq_getElem?_getD,List.getElem?_eq_getElem hi,Option.getD_some];rfl
theorem fm {w:World} {base:Nat} {v:Value} {ns:List NodeL} (h:OwnL 278 5 NodeL.cells w base v ns):∃ A c,v = .slice A ns.length c∧Lies 5 NodeL.cells w A ns∧∀ ad,A=some ad→base≤ad.block:=by
 obtain ⟨A,c,h1,h2,h3,-⟩:=h.lies (fun n=>VT n);exact ⟨A,c,h1,h2,fun ad had=>(h3 ad had).1⟩
theorem Vj:bts (⟨#[32]⟩:ByteArray)=[32]:=zN [32]
theorem kF (s:ByteArray) (w:World) (hL:Laid w) (hs:s.size < 4294967281):Calls Tryz.prog 85 #[.string s,.string ⟨#[32]⟩] w (s9 w (yp (bts s))):=by
 have:=tR s ⟨#[32]⟩ w hL hs (by decide)
 rwa [Vj,nu] at this
theorem qY (l:List UInt8):(zZ (yu l).1).length≤9223372036854775807:=by
 unfold yu;split
 ·simp [zZ]
 ·split
  ·simp [zZ]
  ·cases h:sQ l with
   | none=>simp [zZ]
   | some t=>show (t.lay 0).length≤_; rw [MT.lay_len]; have:=(gB h).2.1; omega
theorem W0 {w0 w':World} {l:List UInt8} {ws:List ByteArray} (hw:ws.map bts=yp l) {e:Ending} (h:yE w0 ws [] (if false=true then none else yI (wW ((yp l).length+1)) (ws.map bts)) e w') :
 ∃ x:Int,e = .returned (.int .i64 x)∧∃ (ws':List ByteArray) (ns':List NodeL) (bad:Bool),ns'.length≤ws.length∧Hid (PS w0 w' ws' ns' bad)∧Hid (qA l ws' ns' bad):=by
 rw [if_neg (by simp),hw] at h
 cases hq:yI (wW ((yp l).length+1)) (yp l) with
 | none =>
  rw [hq] at h
  obtain ⟨x,ws',ns',h1,h2,h3,h4⟩:=h
  exact ⟨x,h1,ws',ns',true,by simpa using Nat.le_trans (Nat.le_add_left _ _) h3,hid h2,hid (nQ hq)⟩
 | some q =>
  obtain ⟨t,r⟩:=q
  rw [hq] at h
  obtain ⟨h1,ws',h2,h3⟩:=h
  have h4:=(vf (vv _) _ _ _ hq).2.2
  rw [← hw,List.length_map] at h4
  exact ⟨_,h1,ws',_,false,by rw [List.nil_append,MT.lay_len]; omega,hid h3,hid (jb hq h2)⟩
theorem mB (o:Option MT) (ho:okM o) (hz:(zZ o).length≤15) (A:Option Addr) (c:Nat) (w:World) (h:Lies 5 NodeL.cells w A (zZ o)):Calls Tryz.prog 194 #[.slice A (zZ o).length c] w (nM w (pR o)):=by
 cases o with
 | none =>
  show Calls _ _ #[.slice A 0 c] _ _;go_enter Tryz.func194,Tryz.ntmps194;(go_wp2_with fail);go_ret;exact ⟨_,rfl,zN [],zH _⟩
 | some t =>
  have hp:=t.size_pos;have hl:(zZ (some t)).length=t.size:=MT.lay_len t 0;have HT:=hid (uM (A:=A) (c:=c) (ns:=zZ (some t)) (by omega) t 0 ho (by omega) t.sits0 w h);rw [show ((0+t.size - 1:Nat):Int)=((zZ (some t)).length:Int) - 1 by rw [hl]; omega] at HT;(have hne:(((zZ (some t)).length:Int)==0)=false:=by rw [beq_eq_false_iff_ne]; omega);(have hz2:((zZ (some t)).length:Int)≤15:=by omega);show Calls _ _ _ _ (nM w t.text);generalize (zZ (some t)).length=n at *;clear h hl;go_enter Tryz.func194,Tryz.ntmps194;(go_wp2_with fail);refine HT.out.mono ?_;rintro _ w1 ⟨s,rfl,hs,hb⟩;(go_wp2_with fail);go_ret;exact ⟨s,rfl,hs,hb⟩
theorem ay (o:Option MT) (ho:okM o) (hz:(zZ o).length≤9223372036854775807) (A:Option Addr) (c:Nat) (w:World) (h:Lies 5 NodeL.cells w A (zZ o)):Calls Tryz.prog 216 #[.slice A (zZ o).length c] w (yT w (decide ((zZ o).length≤15))):=by
 cases o with
 | none=>exact fG A c [] (fun _=>0) w h (fun j x hx=>by simp at hx) (fun j=>Nat.zero_le _) (fun h=>absurd h (by simp)) hz
 | some t=>exact fG A c (t.lay 0) t.st w h (t.st_ok ho) t.st_le (fun _=>t.st_last) hz
theorem gY (o:Option MT) (ho:okM o) (hz:(zZ o).length≤9223372036854775807) (A:Option Addr) (c:Nat) (w:World) (h:Lies 5 NodeL.cells w A (zZ o)):Calls Tryz.prog 193 #[.agg #[.slice A (zZ o).length c]] w (yT w (ox o)):=by
 have HT:=hid (fun u (hb:KB w.heap.size w u)=>ay o ho hz A c u (h.kb hb));have HW:=hid (fun u (hb:KB w.heap.size w u) hz=>mB o ho hz A c u (h.kb hb));have HM:=hid (show ox o=(decide ((zZ o).length≤15)&&decide ((pR o).length≤96)) from rfl);have HB0:=hid (zG w (.cells #[.slice A (zZ o).length c] 207));clear h;generalize (zZ o).length=n at *;by_cases h15:n≤15
 ·rw [decide_eq_true h15] at HM HT;have HW:=hid (fun u hb=>HW.out u hb h15);go_enter Tryz.func193,Tryz.ntmps193;(go_wp2_with fail);refine (HT.out _ HB0.out).mono ?_;rintro _ w1 ⟨rfl,hb⟩;have HB1:=hid (zA HB0.out hb);have HX:=hid ((Box.new w [.slice A n c] 207).kb hb);clear hb;have x0:=HX.out.2 0 _ rfl;have xl:=HX.out.1;(go_wp2_with fail);refine (HW.out _ HB1.out).mono ?_;rintro _ w2 ⟨s,rfl,hs,hb⟩;have HB2:=hid (zA HB1.out hb);have HS:=hid (show s.size=(pR o).length by rw [← zF,hs]);clear hs hb;(go_wp2_with fail);(try go_ret);refine ⟨?_,HB2.out⟩;rw [HM.out,Bool.true_and,← HS.out];by_cases h96:s.size≤96
  ·rw [decide_eq_true h96]; simp; omega
  ·rw [decide_eq_false h96]; simp; omega
 ·rw [decide_eq_false h15] at HM HT;go_enter Tryz.func193,Tryz.ntmps193;(go_wp2_with fail);refine (HT.out _ HB0.out).mono ?_;rintro _ w1 ⟨rfl,hb⟩;have HB1:=hid (zA HB0.out hb);have HX:=hid ((Box.new w [.slice A n c] 207).kb hb);clear hb;have x0:=HX.out.2 0 _ rfl;have xl:=HX.out.1;(go_wp2_with fail);(try go_ret);exact ⟨by first | (rw [HM.out]; done) | (rw [HM.out]; rfl),HB1.out⟩
theorem cC (o:Option MT) (ho:okM o) (hz:(zZ o).length≤9223372036854775807) (A:Option Addr) (c:Nat) (w:World) (h:Lies 5 NodeL.cells w A (zZ o)):Calls Tryz.prog 157 #[.agg #[.slice A (zZ o).length c]] w (nM w (rE o)):=by
 have HMY:=hid (fun u (hb:KB w.heap.size w u)=>gY o ho hz A c u (h.kb hb));have HW:=hid (fun u (hb:KB w.heap.size w u) hz=>mB o ho hz A c u (h.kb hb));have HM:=hid (show rE o=if ox o then pR o else [] from rfl);have HMM:=hid (fun (hm:ox o=true)=>(show (zZ o).length≤15 by unfold ox at hm; simp only [Bool.and_eq_true,decide_eq_true_eq] at hm; exact hm.1));have HB0:=hid (zG w (.cells #[.slice A (zZ o).length c] 207));clear h;generalize (zZ o).length=n at *;cases hm:ox o
 ·rw [hm] at HM HMY;clear hm;go_enter Tryz.func157,Tryz.ntmps157;(go_wp2_with fail);refine (HMY.out _ HB0.out).mono ?_;rintro _ w1 ⟨rfl,hb⟩;have HB1:=hid (zA HB0.out hb);clear hb;(go_wp2_with fail);(try go_ret);exact ⟨_,rfl,by rw [HM.out]; exact zN [],HB1.out⟩
 ·rw [hm] at HM HMY;have HW:=hid (fun u hb=>HW.out u hb (HMM.out hm));clear hm;go_enter Tryz.func157,Tryz.ntmps157;(go_wp2_with fail);refine (HMY.out _ HB0.out).mono ?_;rintro _ w1 ⟨rfl,hb⟩;have HB1:=hid (zA HB0.out hb);have HX:=hid ((Box.new w [.slice A n c] 207).kb hb);clear hb;have x0:=HX.out.2 0 _ rfl;have xl:=HX.out.1;(go_wp2_with fail);refine (HW.out _ HB1.out).mono ?_;rintro _ w2 ⟨s,rfl,hs,hb⟩;have HB2:=hid (zA HB1.out hb);have HS:=hid hs;clear hb hs;(go_wp2_with fail);(try go_ret);exact ⟨s,rfl,by rw [HM.out,HS.out]; rfl,HB2.out⟩
theorem dP (s:ByteArray) (w:World) (hL:Laid w):Calls Tryz.prog 156 #[.string s] w (m5 w (yu (bts s))):=by
 have HLS:=hid (zF s);have HL:=hid hL;clear hL;go_enter Tryz.func156,Tryz.ntmps156;(go_upto_region 1 with fail);refine zI ?_;intro w1 hw1;have O2:=hid (show Own w.heap.size w1 w.heap.size [.slice none 0 0] by rw [hw1]; exact Own.new w [.slice none 0 0] 207 (Nat.le_refl _));have HB:=hid (show KB w.heap.size w w1 by rw [hw1]; exact zG _ _);clear hw1;by_cases h96:96 < s.size
 ·have HP:=hid (oM (l:=bts s) (by rw [HLS.out]; exact h96));(have i96:(96:Int) < (s.size:Int):=by omega);have y0:=O2.out.box.2 0 _ rfl;have sf:∀ j,w1.frozen? ⟨w.heap.size,j,none⟩=false:=O2.out.soft;have yl:=O2.out.box.1;(go_wp2_with fail);refine zP ?_;intro w9 hw9;(have O9:Own w.heap.size w9 w.heap.size [.slice none 0 0]:=by rw [hw9]; exact O2.out.put (j:=0) (by simp) _);(have B9:KB w.heap.size w w9:=by rw [hw9]; exact yV HB.out (Nat.le_refl _) _);clear hw9;have k0:=O9.box.2 0 _ rfl;refine bodyPost_ret (v := .tuple #[.agg #[.slice none 0 0],.int .i64 3]) (by simp [results,Tryz.results156,go_sem,k0]) rfl ?_;rw [HP.out];exact xv B9
 ·(have i96:¬ (96:Int) < (s.size:Int):=by omega);by_cases h0:bts s=[]
  ·have HP:=hid (mH h0);(have e0:(s.toList==[])=true:=by rw [beq_iff_eq]; exact h0);have y0:=O2.out.box.2 0 _ rfl;have sf:∀ j,w1.frozen? ⟨w.heap.size,j,none⟩=false:=O2.out.soft;have yl:=O2.out.box.1;clear h0;(go_wp2_with fail);refine zP ?_;intro w9 hw9;(have O9:Own w.heap.size w9 w.heap.size [.slice none 0 0]:=by rw [hw9]; exact O2.out.put (j:=0) (by simp) _);(have B9:KB w.heap.size w w9:=by rw [hw9]; exact yV HB.out (Nat.le_refl _) _);clear hw9;have k0:=O9.box.2 0 _ rfl;refine bodyPost_ret (v := .tuple #[.agg #[.slice none 0 0],.int .i64 0]) (by simp [results,Tryz.results156,go_sem,k0]) rfl ?_;rw [HP.out];exact xv B9
  ·(have e0:(s.toList==[])=false:=by rw [beq_eq_false_iff_ne]; exact h0);have HPN:=hid (fun ht=>oE (l:=bts s) (by rw [HLS.out]; exact h96) h0 ht);have HPS:=hid (fun t ht=>pZ (l:=bts s) (t:=t) (by rw [HLS.out]; exact h96) h0 ht);have HWL:=hid (nH (bts s));clear h0;(go_wp2_with fail);refine (kF s w1 (HL.out.kb HB.out) (by omega)).mono ?_;rintro _ w3 hq;obtain ⟨gp,cp,ws,rfl,hws,hwc,hwt,hb⟩:=pg hq;have O2:=hid (O2.out.kb hb);have HB:=hid (zA HB.out hb);have hg2:w.heap.size < w3.heap.size:=O2.out.box.1
   have hwn:ws.length≤100:=by
    have h1:=HWL.out;rw [← hws,List.length_map,HLS.out] at h1;omega
   have HWN:=hid (show ws.length=(yp (bts s)).length by rw [← hws,List.length_map]);clear hq hb;(go_upto_region 6 with fail);refine zI ?_;intro w4 hw4;have HPS0:=hid (show PS w3 w4 ws [] false from ⟨by rw [hw4]; exact zG _ _,_,cp,.slice none 0 0,by rw [hw4]; exact Own.new w3 [.slice (some ⟨gp,0,none⟩) ws.length cp,.slice none 0 0,.bool false] 243 (Nat.le_refl _),hwt,hwc,OwnL.nil⟩);have HONE:=hid ((gK w3 (wW ((yp (bts s)).length+1)) ((yp (bts s)).length+1) (vv _) (eQ w3 _) w4 ws [] false HPS0.out (by have:=HWN.out; omega) (by simp; omega)).mono fun e w' h=>W0 (l:=bts s) hws h);clear hw4 hwt hws;(go_wp2_with fail);refine HONE.out.mono ?_;rintro _ w5 ⟨x,rfl,ws',ns',bad,hnl,HPS5,HEND⟩;have O2:=hid (mv O2.out hg2 HPS5.out.kb);have HB:=hid (zA HB.out HPS5.out.kb);obtain ⟨Aw,cw,vn,ho,-,-,hv⟩:=HPS5.out.st;obtain ⟨An,cn,rfl,hlies,had⟩:=fm hv;have HLI:=hid hlies;have HAD:=hid had;have HG2:=hid hg2;have HO:=hid ho;have z0:=ho.box.2 0 _ rfl;have z1:=ho.box.2 1 _ rfl;have z2:=ho.box.2 2 _ rfl;have zl:=ho.box.1;have HZL:=hid zl;clear hlies hv ho;(go_upto_region 8 with fail);refine zI ?_;intro w6 hw6;have O5:=hid (show Own w.heap.size w6 w5.heap.size [.slice An ns'.length cn] by rw [hw6]; exact Own.new w5 [.slice An ns'.length cn] 207 HB.out.size);have HB6:=hid (show KB w5.heap.size w5 w6 by rw [hw6]; exact zG _ _);have O2:=hid (O2.out.kb HB6.out)
   have HB:=hid (zA HB.out HB6.out);have HLI:=hid (HLI.out.kb HB6.out);have z0:=(HB6.out.cell (p:=⟨w3.heap.size,0,none⟩) HZL.out).trans (HO.out.box.2 0 _ rfl);have z2:=(HB6.out.cell (p:=⟨w3.heap.size,2,none⟩) HZL.out).trans (HO.out.box.2 2 _ rfl);have zl:=Nat.lt_of_lt_of_le HZL.out HB6.out.size;clear z1;clear hw6;generalize w5.heap.size=g5 at *;rcases HEND.out with ⟨rfl,ht⟩ | ⟨rfl,hpos,ht⟩ | ⟨rfl,rfl,t,rfl,hok,ht⟩
   ·have HP:=hid (HPN.out ht);clear ht;have y0:=O2.out.box.2 0 _ rfl;have sf:∀ j,w6.frozen? ⟨w.heap.size,j,none⟩=false:=O2.out.soft;have yl:=O2.out.box.1;(go_wp2_with fail);refine zP ?_;intro w9 hw9;(have O9:Own w.heap.size w9 w.heap.size [.slice none 0 0]:=by rw [hw9]; exact O2.out.put (j:=0) (by simp) _);(have B9:KB w.heap.size w w9:=by rw [hw9]; exact yV HB.out (Nat.le_refl _) _);clear hw9;have k0:=O9.box.2 0 _ rfl;refine bodyPost_ret (v := .tuple #[.agg #[.slice none 0 0],.int .i64 7]) (by simp [results,Tryz.results156,go_sem,k0]) rfl ?_;rw [HP.out];exact xv B9
   ·have HP:=hid (HPN.out ht);clear ht;have y0:=O2.out.box.2 0 _ rfl;have sf:∀ j,w6.frozen? ⟨w.heap.size,j,none⟩=false:=O2.out.soft;have yl:=O2.out.box.1;(have hpos2:(0:Int) < (ws'.length:Int):=by omega);(go_wp2_with fail);refine zP ?_;intro w9 hw9;(have O9:Own w.heap.size w9 w.heap.size [.slice none 0 0]:=by rw [hw9]; exact O2.out.put (j:=0) (by simp) _);(have B9:KB w.heap.size w w9:=by rw [hw9]; exact yV HB.out (Nat.le_refl _) _);clear hw9;have k0:=O9.box.2 0 _ rfl;refine bodyPost_ret (v := .tuple #[.agg #[.slice none 0 0],.int .i64 7]) (by simp [results,Tryz.results156,go_sem,k0]) rfl ?_;rw [HP.out];exact xv B9
   ·have HMY:=hid (fun u (hb:KB w6.heap.size w6 u)=>(show Calls Tryz.prog 193 #[.agg #[.slice An (t.lay 0).length cn]] u (yT u (ox (some t))) from gY (some t) hok (by show (t.lay 0).length≤_; omega) An cn u (HLI.out.kb hb)))
    have hmm:ox (some t)=decide (t.size≤15∧t.text.length≤96):=by
     show (decide ((t.lay 0).length≤15)&&decide (t.text.length≤96))=_;rw [MT.lay_len,Bool.decide_and]
    have yl5:=O5.out.box.1;have y5:=O5.out.box.2 0 _ rfl;generalize hll:(t.lay 0).length=nl at *;have HLL:=hid hll;clear hll;cases hm:ox (some t)
    ·rw [hm] at hmm HMY;have HP:=hid (HPN.out (by rw [ht,if_neg (by simpa using hmm.symm)]));clear ht hmm hm;(go_wp2_with fail);refine (HMY.out _ (zH _)).mono ?_;rintro _ w7 ⟨rfl,hb⟩;have HB7:=hid hb;clear hb y5 yl5;have O2:=hid (O2.out.kb HB7.out);have HB:=hid (zA HB.out HB7.out);have y0:=O2.out.box.2 0 _ rfl;have sf:∀ j,w7.frozen? ⟨w.heap.size,j,none⟩=false:=O2.out.soft;have yl:=O2.out.box.1;(go_wp2_with fail);refine zP ?_;intro w9 hw9;(have O9:Own w.heap.size w9 w.heap.size [.slice none 0 0]:=by rw [hw9]; exact O2.out.put (j:=0) (by simp) _);(have B9:KB w.heap.size w w9:=by rw [hw9]; exact yV HB.out (Nat.le_refl _) _);clear hw9;have k0:=O9.box.2 0 _ rfl;refine bodyPost_ret (v := .tuple #[.agg #[.slice none 0 0],.int .i64 7]) (by simp [results,Tryz.results156,go_sem,k0]) rfl ?_;rw [HP.out];exact xv B9
    ·rw [hm] at hmm HMY;have HP:=hid (HPS.out t (by rw [ht,if_pos (by simpa using hmm.symm)]));clear ht hmm hm;(go_wp2_with fail);refine (HMY.out _ (zH _)).mono ?_;rintro _ w7 ⟨rfl,hb⟩;have HB7:=hid hb;clear hb y5 yl5;have O2:=hid (O2.out.kb HB7.out);have HB:=hid (zA HB.out HB7.out);have HLI:=hid (HLI.out.kb HB7.out);have O5:=hid (O5.out.kb HB7.out);have y5:=O5.out.box.2 0 _ rfl;have yl5:=O5.out.box.1;have y0:=O2.out.box.2 0 _ rfl;have sf:∀ j,w7.frozen? ⟨w.heap.size,j,none⟩=false:=O2.out.soft;have yl:=O2.out.box.1;(go_wp2_with fail);refine zP ?_;intro w9 hw9;(have O9:Own w.heap.size w9 w.heap.size [.slice An nl cn]:=by rw [hw9]; exact O2.out.put (j:=0) (by simp) _);(have B9:KB w.heap.size w w9:=by rw [hw9]; exact yV HB.out (Nat.le_refl _) _);(have L9:Lies 5 NodeL.cells w9 An (t.lay 0):=by rw [hw9]; exact HLI.out.put (fun ad had=>by have:=HAD.out ad had; have:=HG2.out; omega) _);clear hw9;have k0:=O9.box.2 0 _ rfl;refine bodyPost_ret (v := .tuple #[.agg #[.slice An nl cn],.int .i64 0]) (by simp [results,Tryz.results156,go_sem,k0]) rfl ?_;rw [HP.out];exact ⟨An,cn,by rw [show (zZ (some t)).length=nl from HLL.out],L9,B9⟩
theorem nX (s:ByteArray) (w:World) (hL:Laid w):Calls Tryz.prog 113 #[.string s] w (yT w (ye (bts s))):=by
 have HPA:=hid (dP s w hL);have HPR:=hid (fun A c u h=>cC (yu (bts s)).1 kK (qY _) A c u h);have HMF:=hid (fun h=>qa (l:=bts s) h);have HMT:=hid (fun h=>oA (l:=bts s) h);go_enter Tryz.func113,Tryz.ntmps113;(go_wp2_with fail);refine HPA.out.mono ?_;rintro _ w1 ⟨A,c,rfl,hl,hb⟩;have HL:=hid hl;have HB:=hid hb;clear hl hb;generalize hoo:(yu (bts s)).1=o at *;generalize hee:(yu (bts s)).2=er at *;have HOO:=hid hoo;clear hoo;by_cases he:er=0
 ·have HE:=hid (HMT.out he);(have e0:(er==0)=true:=by rw [beq_iff_eq]; exact he);subst he;(go_upto_region 2 with fail);refine zI ?_;intro w2 hw2;have HX:=hid (show Box w2 w1.heap.size [.slice A (zZ o).length c] by rw [hw2]; exact Box.new w1 [.slice A (zZ o).length c] 207);have HB2:=hid (show KB w1.heap.size w1 w2 by rw [hw2]; exact zG _ _);clear hw2;have HPR:=hid (HPR.out A c w2 (HL.out.kb HB2.out));have x0:=HX.out.2 0 _ rfl;have xl:=HX.out.1;generalize (zZ o).length=n at *;(go_wp2_with fail);refine HPR.out.mono ?_;rintro _ w3 ⟨t,rfl,ht,hb⟩;have HB3:=hid (zA HB.out (zA HB2.out hb))
  have HT:=hid (show (t.toList==s.toList)=decide (rE o=bts s) by
   rw [← ht];by_cases h:bts t=bts s
   ·rw [decide_eq_true h,beq_iff_eq]; exact h
   ·rw [decide_eq_false h,beq_eq_false_iff_ne]; exact h)
  clear hb ht;(go_wp2_with fail);(try go_ret);exact ⟨by rw [HE.out,← HT.out]<;>rfl,HB3.out⟩
 ·have HE:=hid (HMF.out he);(have e0:(er==0)=false:=by rw [beq_eq_false_iff_ne]; exact he);clear he;(go_upto_region 2 with fail);refine zI ?_;intro w2 hw2;have HB2:=hid (show KB w1.heap.size w1 w2 by rw [hw2]; exact zG _ _);clear hw2;(go_wp2_with fail);(try go_ret);exact ⟨by first | (rw [HE.out]; done) | (rw [HE.out]; rfl),zA HB.out HB2.out⟩
end Go.Proofs.YtiffijoenkcpjaaGreatDoor
