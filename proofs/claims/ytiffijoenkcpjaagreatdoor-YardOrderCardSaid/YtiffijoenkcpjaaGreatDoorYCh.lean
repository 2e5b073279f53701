import Derived.Test.YtiffijoenkcpjaaGreatDoorYCf
set_option linter.unusedVariables false
set_option linter.unusedSimpArgs false
set_option maxRecDepth 100000
set_option maxHeartbeats 4000000
namespace Go.Proofs.YtiffijoenkcpjaaGreatDoor
open Go.RowKit Go.Lib
open Rw
def iY (op:Int) (rest s:List UInt8):Option CompL:=if op=9∧(zO (zq 45 rest)).getLast?≠some [42] then none else
 match uj op rest with
 | none=>none
 | some c=>if sL c&&decide (zh c=s) then some c else none
theorem eX (s:List UInt8):sM s=iY (xu s tv).1 (xu s tv).2 s:=rfl
abbrev xW:List Value:=[.int .i64 0,.int .i64 0,.int .i64 0,.int .i64 0,.int .i64 0,.string ⟨#[]⟩,.string ⟨#[]⟩]
def lg (w:World) (o:Option CompL) (e:Ending) (w':World):Prop:=∃ c:CompL,e = .returned (.tuple #[c.val,.bool o.isSome])∧(∀ u,o=some u→c=u)∧Below w.heap.size w w'
theorem tM {w w':World} (h:Below w.heap.size w w'):lg w none (.returned (.tuple #[wl.val,.bool false])) w':=⟨wl,rfl,fun u h=>(by cases h),h⟩
theorem gU {s p:List UInt8} (h:Lib.hasPrefix s p=true):p.length≤s.length:=by
 rw [Lib.hasPrefix,List.isPrefixOf_iff_prefix] at h;exact h.length_le
theorem fg {s:List UInt8} {op:Int} {r:List Int} (h:Lib.hasPrefix s (yh op)=true):xu s (op::r)=(op,s.drop (yh op).length):=by rw [xu,if_pos h]
theorem lj {s:List UInt8} {op:Int} {r:List Int} (h:Lib.hasPrefix s (yh op)=false):xu s (op::r)=xu s r:=by rw [xu,if_neg (by simp [h])]
def zX (ls:List (List UInt8)) (k j:Nat):Int:=if j < k then (za (ls.getD j [])).1 else 0
def okN (ls:List (List UInt8)) (k:Nat):Prop:=∀ j,j < k→(za (ls.getD j [])).2=true
theorem Zp:∀ {ls:List (List UInt8)},ls.length≤3→okN ls ls.length→vp ls=some (zX ls ls.length 0,zX ls ls.length 1,zX ls ls.length 2)
 | [],_,_=>rfl
 | [a],_,h=>by
  have h0:=h 0 (by simp);simp only [List.getD_cons_zero] at h0;simp [vp,zX,h0]
 | [a,b],_,h=>by
  have h0:=h 0 (by simp);have h1:=h 1 (by simp);simp only [List.getD_cons_zero,List.getD_cons_succ] at h0 h1;simp [vp,zX,h0,h1]
 | [a,b,c],_,h=>by
  have h0:=h 0 (by simp);have h1:=h 1 (by simp);have h2:=h 2 (by simp);simp only [List.getD_cons_zero,List.getD_cons_succ] at h0 h1 h2;simp [vp,zX,h0,h1,h2]
 | a::b::c::d::r,h,_=>by simp at h
theorem fM:∀ {ls:List (List UInt8)} {k:Nat},k < ls.length→(za (ls.getD k [])).2=false→vp ls=none
 | [],_,h,_=>by simp at h
 | [a],k,h,e=>by
  (obtain rfl:k=0:=by simpa using h);simp only [List.getD_cons_zero] at e; simp [vp,e]
 | [a,b],k,h,e=>by
  have h2:k < 2:=h;rcases (show k=0∨k=1 by omega) with rfl | rfl
  ·simp only [List.getD_cons_zero] at e; simp [vp,e]
  ·simp only [List.getD_cons_zero,List.getD_cons_succ] at e; simp [vp,e]
 | [a,b,c],k,h,e=>by
  have h2:k < 3:=h;rcases (show k=0∨k=1∨k=2 by omega) with rfl | rfl | rfl
  ·simp only [List.getD_cons_zero] at e; simp [vp,e]
  ·simp only [List.getD_cons_zero,List.getD_cons_succ] at e; simp [vp,e]
  ·simp only [List.getD_cons_zero,List.getD_cons_succ] at e; simp [vp,e]
 | a::b::c::d::r,k,_,_=>rfl
theorem kp {ls:List (List UInt8)} (h:3 < ls.length):vp ls=none:=by
 match ls,h with
 | a::b::c::d::r,_=>rfl
theorem dX {op:Int} {rest s:List UInt8} (h:op=9) (h2:(zO (zq 45 rest)).getLast?≠some [42]):iY op rest s=none:=by rw [iY,if_pos ⟨h,h2⟩]
theorem dN {op:Int} {rest s:List UInt8} (h:uj op rest=none):iY op rest s=none:=by
 unfold iY;split
 ·rfl
 ·rw [h]
theorem eY {op:Int} {rest s:List UInt8} (hs:op=9→(zO (zq 45 rest)).getLast?=some [42]) {c:CompL} (h:uj op rest=some c):iY op rest s=if sL c&&decide (zh c=s) then some c else none:=by
 rw [iY,if_neg (fun e=>e.2 (hs e.1)),h]
def lsX (op:Int) (rest:List UInt8):List (List UInt8):=if op=9 then (zO (zq 45 rest)).dropLast else zO (zq 45 rest)
theorem fI (op:Int) (rest:List UInt8):uj op rest=kC op (lsX op rest) (xq 45 rest):=rfl
theorem jA (s:ByteArray) (w:World) (hL:Laid w) (hs:s.size≤30000):Calls Tryz.prog 123 #[.string s] w (lg w (sM (bts s))):=by
 have HL:=hid hL;clear hL;have HRO:=hid (eX (bts s));generalize sM (bts s)=ro at *;generalize hf:xu (bts s) tv=fx at *;obtain ⟨fop,frest⟩:=fx;have HF:=hid hf;clear hf;dsimp only at HRO;go_enter Tryz.func123,Tryz.ntmps123;(go_upto_block 0 with fail);refine zI ?_;intro u0 hu;have O2:=hid (show Own w.heap.size u0 w.heap.size xW by rw [hu]; exact ((Own.new w xW 86 (Nat.le_refl _)).alloc _).alloc _);have O4:=hid (show Own w.heap.size u0 (w.heap.size+1) [.int .i64 9,.int .i64 0,.int .i64 0,.int .i64 0,.int .i64 0,.string ⟨#[]⟩,.string ⟨#[]⟩] by rw [hu]; exact (Own.new2 w _ [.int .i64 9,.int .i64 0,.int .i64 0,.int .i64 0,.int .i64 0,.string ⟨#[]⟩,.string ⟨#[]⟩] 86 (Nat.le_refl _)).alloc _)
 have HN:Hid (Box u0 (w.heap.size+1+1) (tv.map (fun o => .int .i64 o))):=hid (by
  rw [hu];have:=Box.new ((w.alloc (.cells #[.int .i64 0,.int .i64 0,.int .i64 0,.int .i64 0,.int .i64 0,.string ⟨#[]⟩,.string ⟨#[]⟩] 86)).alloc (.cells #[.int .i64 9,.int .i64 0,.int .i64 0,.int .i64 0,.int .i64 0,.string ⟨#[]⟩,.string ⟨#[]⟩] 86)) (tv.map (fun o => .int .i64 o)) 3;rw [World.size_alloc,World.size_alloc] at this
  exact this)
 have HB:=hid (show Below w.heap.size w u0 by rw [hu]; exact zC (zC (zL _ _) (zL _ _)) (zL _ _));clear hu;(have hne24:w.heap.size≠w.heap.size+1:=by omega);(have hl24:w.heap.size≤w.heap.size+1:=by omega);go_cut [5] from 14 to 118 (fun rv wx=>∃ r:ByteArray,rv = .string r∧r.size≤s.size∧Hid (bts r=frest)∧Hid (Own w.heap.size wx w.heap.size xW)∧Hid (Own w.heap.size wx (w.heap.size+1) [.int .i64 fop,.int .i64 0,.int .i64 0,.int .i64 0,.int .i64 0,.string ⟨#[]⟩,.string ⟨#[]⟩])∧Hid (Below w.heap.size w wx))
 case first =>
  go_wp2_with fail
  go_loop [18,5] (fun i rv=>∃ k:Nat,i = .int .i64 k∧k≤8∧rv = .string s∧Hid (xu (bts s) (tv.drop k)=(fop,frest))) (fun i _=>8 - (intOf i).toNat)
  case atStart=>exact ⟨0,rfl,Nat.zero_le _,rfl,HF⟩
  case round =>
   obtain ⟨k,rfl,hk,rfl,HFK⟩:=hrel;by_cases hk8:k < 8
   ·have hkl:k < tv.length:=hk8;obtain ⟨opk,hopk⟩:∃ o,tv[k]=o:=⟨_,rfl⟩;have ck:u0.cell? ⟨w.heap.size+1+1,k,none⟩=some (.int .i64 opk):=HN.out.2 k _ (by rw [List.getElem?_map,List.getElem?_eq_getElem hkl,hopk]; rfl)
    have HFK2:Hid (xu (bts s) (opk::tv.drop (k+1))=(fop,frest)):=hid (by
     have:=HFK.out
     rw [List.drop_eq_getElem_cons hkl,hopk] at this; exact this)
    have hkn:=HN.out.1;clear hopk hkl;have HSG:=hid (fun u=>fa opk u);have HBG:=hid (fun u=>hF s (xP (yh opk)) u);rw [zx] at HBG;(have hk0:(0:Int)≤(k:Int):=by omega);(have hki:(k:Int) < 8:=by omega);cases hb:Lib.hasPrefix (bts s) (yh opk)
    ·rw [hb] at HBG;have HMISS:=hid (HFK2.out.symm.trans (lj hb));clear hb;generalize xP (yh opk)=sg at *;(go_wp2_with fail);refine (HSG.out _).mono ?_;rintro _ _ ⟨rfl,rfl⟩;(go_wp2_with fail);refine (HBG.out _).mono ?_;rintro _ _ ⟨rfl,rfl⟩;go_wp2_with fail
     go_round
     case rel=>exact ⟨k+1,by go_num,by omega,rfl,hid HMISS.out.symm⟩
     case measure=>simp [intOf]; omega
    ·rw [hb] at HBG;have HHIT:=hid (HFK2.out.symm.trans (fg hb));have hpl:=gU hb;rw [zF] at hpl;have hsgs:(xP (yh opk)).size≤s.size:=by rw [oQ]; exact hpl
     have HEX:Hid (bts (s.extract (xP (yh opk)).size s.size)=(bts s).drop (yh opk).length):=hid (by
      rw [xR,oQ,List.take_of_length_le]
      rw [List.length_drop,zF]; omega)
     clear hb hpl;generalize xP (yh opk)=sg at *;obtain ⟨y0,y1,y2,y3,y4,y5,y6⟩:=O4.out.box.get7;have sf4:∀ j,u0.frozen? ⟨w.heap.size+1,j,none⟩=false:=O4.out.soft;have hlt4:=O4.out.box.1;(go_wp2_with fail);refine (HSG.out _).mono ?_;rintro _ _ ⟨rfl,rfl⟩;(go_wp2_with fail);refine (HBG.out _).mono ?_;rintro _ _ ⟨rfl,rfl⟩;(go_wp2_with fail);refine (HSG.out _).mono ?_;rintro _ w1 ⟨rfl,hw1⟩;have O4:=hid (show Own w.heap.size w1 (w.heap.size+1) [.int .i64 opk,.int .i64 0,.int .i64 0,.int .i64 0,.int .i64 0,.string ⟨#[]⟩,.string ⟨#[]⟩] by rw [← hw1]; exact O4.out.put (j:=0) (by simp) _);have O2:=hid (show Own w.heap.size w1 w.heap.size xW by rw [← hw1]; exact O2.out.other hne24 _);have HB:=hid (show Below w.heap.size w w1 by rw [← hw1]; exact zR HB.out hl24 _);clear hw1 y0 y1 y2 y3 y4 y5 y6 sf4 hlt4 ck;have hfo:fop=opk:=congrArg Prod.fst HHIT.out;have HFR:=hid (congrArg Prod.snd HHIT.out);have HFO:=hid hfo;clear hfo;(go_wp2_with fail);go_meet
     case rel =>
      refine ⟨s.extract sg.size s.size,rfl,by rw [ByteArray.size_extract]; omega,hid (HEX.out.trans HFR.out.symm),O2,hid ?_,HB⟩;rw [HFO.out]; exact O4.out
   ·(obtain rfl:k=8:=by omega);have HE:=hid (show ((9:Int),bts s)=(fop,frest) from HFK.out);have HFO:=hid (show fop=9 from (congrArg Prod.fst HE.out).symm);have HFR:=hid (show bts s=frest from congrArg Prod.snd HE.out);(go_wp2_with fail);go_meet
    case rel=>exact ⟨s,rfl,Nat.le_refl _,HFR,O2,hid (by rw [HFO.out]; exact O4.out),HB⟩
 case rest =>
  obtain ⟨r,rfl,hrs,HR,O2,O4,HB⟩:=hcut;clear HN HF;(go_upto_block 2 with fail);go_cut [5] from 34 to 118 (fun rv wx=>∃ r1:ByteArray,rv = .string r1∧r1.size≤s.size∧Hid (bts r1=zq 45 frest)∧Hid (Own w.heap.size wx w.heap.size xW)∧Hid (Own w.heap.size wx (w.heap.size+1) [.int .i64 fop,.int .i64 0,.int .i64 0,.int .i64 0,.int .i64 0,.string (xP (xq 45 frest)),.string ⟨#[]⟩])∧Hid (Below w.heap.size w wx))
  case first =>
   go_wp2_with fail
   go_loop [36,5] (fun i rv=>∃ k:Nat,i = .int .i64 k∧k≤r.size∧rv = .string r∧Hid ((45:UInt8) ∉ (bts r).take k)) (fun i _=>r.size - (intOf i).toNat)
   case atStart=>exact ⟨0,rfl,Nat.zero_le _,rfl,hid (by simp)⟩
   case round =>
    obtain ⟨k,rfl,hk,rfl,HN⟩:=hrel;obtain ⟨y0,y1,y2,y3,y4,y5,y6⟩:=O4.out.box.get7;have sf4:∀ j,wc.frozen? ⟨w.heap.size+1,j,none⟩=false:=O4.out.soft;have hlt4:=O4.out.box.1;by_cases hlt:k < r.size
    ·(have hk0:(0:Int)≤(k:Int):=by omega);(have hki:(k:Int) < (r.size:Int):=by omega);by_cases h45:r[k]=45
     ·have HBA:=hid (kJ hlt h45 HN.out);(have d1:((r[k].toNat:Int)==45)=true:=by rw [h45]; rfl);have HST:=hid (show r.extract (k+1) r.size=xP (xq 45 frest) from xE (by rw [zx,← HR.out]; exact HBA.out.2.symm));clear h45;(go_wp2_with fail);go_meet
      case rel =>
       refine ⟨r.extract 0 k,rfl,by rw [ByteArray.size_extract]; omega,hid (by rw [← HR.out]; exact HBA.out.1.symm),hid (O2.out.other hne24 _),hid ?_,hid (zR HB.out hl24 _)⟩;rw [← HST.out];exact O4.out.put (j:=5) (by simp) _
     ·have d1:((r[k].toNat:Int)==45)=false:=by
       rw [Bool.eq_false_iff];intro e;refine h45 (UInt8.toNat_inj.1 ?_);have:=mu e;show r[k].toNat=45;omega
      have HNX:=hid (show (45:UInt8) ∉ (bts r).take (k+1) by
       rw [v9 r k hlt,List.mem_append,not_or];refine ⟨HN.out,?_⟩;rw [List.mem_singleton]
       exact fun e=>h45 e.symm)
      clear h45;go_wp2_with fail
      go_round
      case rel=>exact ⟨k+1,by go_num,by omega,rfl,HNX⟩
      case measure=>simp [intOf]; omega
    ·(obtain rfl:k=r.size:=by omega);have HNN:=hid (show (45:UInt8) ∉ frest by have h:=HN.out; rw [yD,HR.out] at h; exact h);have HBN:=hid (wB HNN.out);(go_wp2_with fail);go_meet
     case rel=>exact ⟨r,rfl,hrs,hid (by rw [HBN.out.1]; exact HR.out),O2,hid (by rw [HBN.out.2]; exact O4.out),HB⟩
  case rest =>
   obtain ⟨r1,rfl,hr1s,HR1,O2,O4,HB⟩:=hcut;have HSP:=hid (fun u=>pu r1 u (by omega));rw [HR1.out] at HSP;have HLS:=hid (show lsX fop frest=if fop=9 then (zO (zq 45 frest)).dropLast else zO (zq 45 frest) from rfl);have hnb:=(zk 46 (bts r1) []).2;have hnp:=(zk 46 (bts r1) []).1;rw [HR1.out] at hnb hnp
   have hnb2:(zO (zq 45 frest)).length≤40000:=by
    (have h1:(zq 45 frest).length≤s.size:=by rw [← HR1.out,zF]; exact hr1s);exact Nat.le_trans hnb (by omega)
   have hnp2:1≤(zO (zq 45 frest)).length:=hnp;clear hnb hnp;have HSTAR:=hid (fun (h:fop=9) (h2:(zO (zq 45 frest)).getLast?≠some [42])=>HRO.out.trans (dX h h2));have HRS:=hid (fun (hs:fop=9→(zO (zq 45 frest)).getLast?=some [42]) (c:CompL) (h:uj fop frest=some c)=>HRO.out.trans (eY hs h));have HRN:=hid (fun (h:uj fop frest=none)=>HRO.out.trans (dN h));generalize zO (zq 45 frest)=ls at *;generalize hnl:ls.length=nl at *;have HNL:=hid hnl;clear hnl;have h4c:=O4.out.box.1;(go_wp2_with fail);refine (HSP.out _).mono ?_;rintro _ w2 ⟨g9,cap,rfl,hg,hgl,hcap,hcell,hb⟩;rw [HNL.out] at hcap;rw [HNL.out];have HH:=hid (show Held w2 g9 ls from ⟨hgl,hcell⟩);have O2:=hid (O2.out.below hb);have O4:=hid (O4.out.below hb);have HB:=hid (zC HB.out hb);(have hg94:w.heap.size+1≠g9:=by omega);(have hg92:w.heap.size≠g9:=by omega);clear hg hgl hcell hb HSP;obtain ⟨y0,y1,y2,y3,y4,y5,y6⟩:=O4.out.box.get7;have hlt4:=O4.out.box.1;have hgw:=HH.out.1;(go_upto_if 57 with fail);go_cut [9] from 57 to 118 (fun lv wx=>∃ m:Nat,lv = .slice (some ⟨g9,0,none⟩) m cap∧m≤nl∧Hid ((lsX fop frest).length=m)∧Hid (∀ j,j < m→w2.cell? ⟨g9,j,none⟩=some (.string (xP ((lsX fop frest).getD j []))))∧Hid (fop=9→ls.getLast?=some [42])∧wx=w2)
   case first =>
    by_cases h9:fop=9
    ·rw [show (fop==9)=true by simp [h9]];(have hl1:nl - 1 < ls.length:=by rw [HNL.out]; omega);have cl:w2.cell? ⟨g9,nl - 1,none⟩=some (.string (xP (ls.getD (nl - 1) []))):=HH.out.2 _ hl1
     have HLAST:=hid (show ls.getLast?=some (ls.getD (nl - 1) []) by
      rw [List.getLast?_eq_getElem?,HNL.out,List.getElem?_eq_getElem hl1,List.getD_eq_getElem?_getD,List.getElem?_eq_getElem hl1]; rfl)
     have HL1:=hid hl1;(have hm1:((nl:Int) - 1)=((nl - 1:Nat):Int):=by omega);have HSBL:=hid (show (xP (ls.getD (nl - 1) [])).toList=ls.getD (nl - 1) [] from zx _);by_cases hst:ls.getD (nl - 1) []=[42]
     ·(have d1:((xP (ls.getD (nl - 1) [])).toList==[42])=true:=by rw [HSBL.out,hst]; rfl);have HH9:=hid h9;have HST:=hid hst;clear h9 hst hl1;generalize hlw:xP (ls.getD (nl - 1) [])=lw at *;clear hlw;(have j0:(0:Int)≤(nl:Int) - 1:=by omega);(have j1:(nl:Int) - 1 < (nl:Int):=by omega);(go_wp2_with fail);go_meet
      case rel =>
       (have hlsx:lsX fop frest=ls.dropLast:=by rw [HLS.out,if_pos HH9.out]);refine ⟨nl - 1,rfl,by omega,hid (by rw [hlsx,List.length_dropLast,HNL.out]),hid (fun j hj=>?_),hid (fun _=>by rw [HLAST.out,HST.out]),rfl⟩;have:=HH.out.2 j (by rw [HNL.out]; omega);rw [this,hlsx,List.getD_eq_getElem?_getD,List.getD_eq_getElem?_getD,List.getElem?_dropLast,if_pos (by rw [HNL.out]; omega)];rfl
     ·have d1:((xP (ls.getD (nl - 1) [])).toList==[42])=false:=by
       rw [HSBL.out,Bool.eq_false_iff];intro e;exact hst (by simpa using e)
      have HNO:=hid (show ro=none from HSTAR.out h9 (by
       rw [HLAST.out];intro e;injection e with e
       exact hst e))
      clear h9 hst hl1;generalize hlw:xP (ls.getD (nl - 1) [])=lw at *;clear hlw;(have j0:(0:Int)≤(nl:Int) - 1:=by omega);(have j1:(nl:Int) - 1 < (nl:Int):=by omega);obtain ⟨x0,x1,x2,x3,x4,x5,x6⟩:=O2.out.box.get7;have sf2:∀ j,w2.frozen? ⟨w.heap.size,j,none⟩=false:=O2.out.soft;have hlt2:=O2.out.box.1;(go_wp2_with fail);refine zP ?_;intro w9 hw9;(have O9:Own w.heap.size w9 w.heap.size xW:=by rw [hw9]; exact O2.out.set7 _ _ _ _ _ _ _);(have B9:Below w.heap.size w w9:=by rw [hw9]; exact ze HB.out (Nat.le_refl _) _ _ _ _ _ _ _);clear hw9;obtain ⟨k0,k1,k2,k3,k4,k5,k6⟩:=O9.box.get7;refine bodyPost_ret (v := .tuple #[wl.val,.bool false]) (by simp [results,Tryz.results123,go_sem,k0,k1,k2,k3,k4,k5,k6,wl,xD]) rfl ?_;rw [HNO.out];exact tM B9
    ·rw [show (fop==9)=false by simp [h9]];(have hlsx:lsX fop frest=ls:=by rw [HLS.out,if_neg h9]);have HSTR:=hid (fun (h:fop=9)=>(absurd h h9:ls.getLast?=some [42]));have HLSX:=hid hlsx;clear h9 hlsx;(go_wp2_with fail);go_meet
     case rel=>exact ⟨nl,rfl,Nat.le_refl _,hid (by rw [HLSX.out]; exact HNL.out),hid (fun j hj=>by rw [HLSX.out]; exact HH.out.2 j (by rw [HNL.out]; exact hj)),HSTR,rfl⟩
   case rest =>
    obtain ⟨m,rfl,hmn,HM,HC,HSTR,hwx⟩:=hcut;subst hwx;have HRS2:=hid (fun (c:CompL) h=>HRS.out HSTR.out c h);have HBX:=hid (fI fop frest);have HGL:=hid HH.out.1;clear HSTAR HRS HLS HSTR HNL HH y0 y1 y2 y3 y4 y5 y6 hgw;generalize lsX fop frest=xs at *;generalize uj fop frest=bo at *;(have hcm:m≤cap:=by omega);by_cases h3:3 < m
    ·(have h3i:(3:Int) < (m:Int):=by omega);have HNO:=hid (show ro=none from HRN.out (by rw [HBX.out,kC,kp (by rw [HM.out]; exact h3)]));obtain ⟨x0,x1,x2,x3,x4,x5,x6⟩:=O2.out.box.get7;have sf2:∀ j,wc.frozen? ⟨w.heap.size,j,none⟩=false:=O2.out.soft;have hlt2:=O2.out.box.1;(go_wp2_with fail);refine zP ?_;intro w9 hw9;(have O9:Own w.heap.size w9 w.heap.size xW:=by rw [hw9]; exact O2.out.set7 _ _ _ _ _ _ _);(have B9:Below w.heap.size w w9:=by rw [hw9]; exact ze HB.out (Nat.le_refl _) _ _ _ _ _ _ _);clear hw9;obtain ⟨k0,k1,k2,k3,k4,k5,k6⟩:=O9.box.get7;refine bodyPost_ret (v := .tuple #[wl.val,.bool false]) (by simp [results,Tryz.results123,go_sem,k0,k1,k2,k3,k4,k5,k6,wl,xD]) rfl ?_;rw [HNO.out];exact tM B9
    ·(have h3i:¬ (3:Int) < (m:Int):=by omega);(have hm3:m≤3:=by omega);obtain ⟨y0,y1,y2,y3,y4,y5,y6⟩:=O4.out.box.get7;have sf4:∀ j,wc.frozen? ⟨w.heap.size+1,j,none⟩=false:=O4.out.soft;(go_upto_block 4 with fail);refine zI ?_;intro w3 hw3;have O4:=hid (show Own w.heap.size w3 (w.heap.size+1) [.int .i64 fop,.int .i64 m,.int .i64 0,.int .i64 0,.int .i64 0,.string (xP (xq 45 frest)),.string ⟨#[]⟩] by rw [hw3]; exact O4.out.put (j:=1) (by simp) _);have O2:=hid (show Own w.heap.size w3 w.heap.size xW by rw [hw3]; exact O2.out.other hne24 _);have hgl9:g9 < wc.heap.size:=HGL.out;have HC:=hid (show ∀ j,j < m→w3.cell? ⟨g9,j,none⟩=some (.string (xP (xs.getD j []))) from fun j hj=>by rw [hw3]; exact (vF hg94.symm _).trans (HC.out j hj));(have hgl9:g9 < w3.heap.size:=by rw [hw3,World.size_setCell]; exact hgl9);have HB:=hid (show Below w.heap.size w w3 by rw [hw3]; exact zR HB.out hl24 _);clear hw3 y0 y1 y2 y3 y4 y5 y6 sf4 hlt4
     have HBO:=hid (fun (h:okN xs m)=>(show bo=some ⟨fop,(m:Int),⟨zX xs m 0,zX xs m 1,zX xs m 2,xP (xq 45 frest),xP []⟩⟩ by
      have h2:=Zp (ls:=xs) (by rw [HM.out]; exact hm3) (by rw [HM.out]; exact h);rw [HM.out] at h2;rw [HBX.out,kC,h2]
      simp only [HM.out]))
     have hpb:(xP (xq 45 frest)).size≤30000:=by
      rw [oQ];have h1:=(qB 45 frest).2;(have h2:frest.length≤s.size:=by rw [← HR.out,zF]; exact hrs);omega
     generalize xP (xq 45 frest)=pb at *;go_cut [] from 82 to 118 (fun wx=>Hid (okN xs m)∧Hid (Own w.heap.size wx (w.heap.size+1) [.int .i64 fop,.int .i64 m,.int .i64 (zX xs m 0),.int .i64 (zX xs m 1),.int .i64 (zX xs m 2),.string pb,.string ⟨#[]⟩])∧Hid (Own w.heap.size wx w.heap.size xW)∧Hid (Below w.heap.size w wx))
     case first =>
      (go_wp2_with fail);go_loopw [80] (fun i wr=>∃ k:Nat,i = .int .i64 k∧k≤m∧Hid (okN xs k)∧Hid (Own w.heap.size wr (w.heap.size+1) [.int .i64 fop,.int .i64 m,.int .i64 (zX xs k 0),.int .i64 (zX xs k 1),.int .i64 (zX xs k 2),.string pb,.string ⟨#[]⟩])∧Hid (Own w.heap.size wr w.heap.size xW)∧Hid (∀ j,j < m→wr.cell? ⟨g9,j,none⟩=some (.string (xP (xs.getD j []))))∧g9 < wr.heap.size∧Hid (Below w.heap.size w wr)) (fun i _=>m - (intOf i).toNat)
      case atStart=>exact ⟨0,rfl,Nat.zero_le _,hid (fun j hj=>absurd hj (Nat.not_lt_zero _)),O4,O2,HC,hgl9,HB⟩
      case round =>
       obtain ⟨k,rfl,hk,HOK,O4,O2,HC,hg9,HB⟩:=hrel;by_cases hlt:k < m
       ·(have hk3:k=0∨k=1∨k=2:=by omega);have cx:=HC.out k hlt;have hlt4:=O4.out.box.1;have HNU:=hid (vV (xP (xs.getD k [])) wr);rw [zx] at HNU;generalize hnum:za (xs.getD k [])=nn at *;obtain ⟨i0,b0⟩:=nn;have HNUM:=hid hnum;clear hnum;generalize xP (xs.getD k [])=xb at *;(have k0:(0:Int)≤(k:Int):=by omega);(have k1:(k:Int) < (m:Int):=by omega);(have hkc:k < cap:=by omega);(go_wp2_with fail);refine HNU.out.mono ?_;rintro _ v1 ⟨rfl,hb⟩;have O4:=hid (O4.out.below hb);have O2:=hid (O2.out.below hb);have HC:=hid (show ∀ j,j < m→v1.cell? ⟨g9,j,none⟩=some (.string (xP (xs.getD j []))) from fun j hj=>(hb.cell (p:=⟨g9,j,none⟩) hg9).trans (HC.out j hj));have hg9:g9 < v1.heap.size:=Nat.lt_of_lt_of_le hg9 hb.size;have HB:=hid (zC HB.out hb);clear hb cx hlt4 HNU;cases b0
        ·have HNO:=hid (show ro=none from HRN.out (by rw [HBX.out,kC,fM (by rw [HM.out]; exact hlt) (by rw [HNUM.out])]));obtain ⟨x0,x1,x2,x3,x4,x5,x6⟩:=O2.out.box.get7;have sf2:∀ j,v1.frozen? ⟨w.heap.size,j,none⟩=false:=O2.out.soft;have hlt2:=O2.out.box.1;dsimp only;(go_wp2_with fail);refine zP ?_;intro w9 hw9;(have O9:Own w.heap.size w9 w.heap.size xW:=by rw [hw9]; exact O2.out.set7 _ _ _ _ _ _ _);(have B9:Below w.heap.size w w9:=by rw [hw9]; exact ze HB.out (Nat.le_refl _) _ _ _ _ _ _ _);clear hw9;obtain ⟨k0,k1,k2,k3,k4,k5,k6⟩:=O9.box.get7;refine bodyPost_ret (v := .tuple #[wl.val,.bool false]) (by simp [results,Tryz.results123,go_sem,k0,k1,k2,k3,k4,k5,k6,wl,xD]) rfl ?_;rw [HNO.out];exact tM B9
        ·have HOK2:=hid (show okN xs (k+1) from fun j hj=>by
          rcases Nat.lt_or_ge j k with h | h
          ·exact HOK.out j h
          ·obtain rfl:j=k:=by omega
           rw [HNUM.out])
         obtain ⟨y0,y1,y2,y3,y4,y5,y6⟩:=O4.out.box.get7;have sf4:∀ j,v1.frozen? ⟨w.heap.size+1,j,none⟩=false:=O4.out.soft;have hlt4:=O4.out.box.1;dsimp only;have HS4:=hid O4.out;rcases hk3 with rfl | rfl | rfl
         ·have HE:=hid (show zX xs 1 0=i0∧zX xs 1 1=zX xs 0 1∧zX xs 1 2=zX xs 0 2 by
          (have e0:zX xs 1 0=i0:=by simp only [zX]; rw [if_pos (by decide),HNUM.out]);(have e1:zX xs 1 1=zX xs 0 1:=by simp [zX]);have e2:zX xs 1 2=zX xs 0 2:=by simp [zX]
          exact ⟨e0,e1,e2⟩)
          (go_wp2_with fail);go_roundw
          case rel =>
           refine ⟨1,by go_num,by omega,HOK2,hid ?_,hid (O2.out.other hne24 _),hid (fun j hj=>(vF hg94.symm _).trans (HC.out j hj)),by rw [World.size_setCell]; exact hg9,hid (zR HB.out hl24 _)⟩;rw [HE.out.1,HE.out.2.1,HE.out.2.2];exact O4.out.put (j:=2) (by simp) _
          case measure=>simp [intOf]; omega
         ·have HE:=hid (show zX xs 2 0=zX xs 1 0∧zX xs 2 1=i0∧zX xs 2 2=zX xs 1 2 by
          (have e0:zX xs 2 0=zX xs 1 0:=by simp [zX]);(have e1:zX xs 2 1=i0:=by simp only [zX]; rw [if_pos (by decide),HNUM.out]);have e2:zX xs 2 2=zX xs 1 2:=by simp [zX]
          exact ⟨e0,e1,e2⟩)
          (go_wp2_with fail);go_roundw
          case rel =>
           refine ⟨2,by go_num,by omega,HOK2,hid ?_,hid (O2.out.other hne24 _),hid (fun j hj=>(vF hg94.symm _).trans (HC.out j hj)),by rw [World.size_setCell]; exact hg9,hid (zR HB.out hl24 _)⟩;rw [HE.out.1,HE.out.2.1,HE.out.2.2];exact O4.out.put (j:=3) (by simp) _
          case measure=>simp [intOf]; omega
         ·have HE:=hid (show zX xs 3 0=zX xs 2 0∧zX xs 3 1=zX xs 2 1∧zX xs 3 2=i0 by
          (have e0:zX xs 3 0=zX xs 2 0:=by simp [zX]);(have e1:zX xs 3 1=zX xs 2 1:=by simp [zX]);have e2:zX xs 3 2=i0:=by simp only [zX]; rw [if_pos (by decide),HNUM.out]
          exact ⟨e0,e1,e2⟩)
          (go_wp2_with fail);go_roundw
          case rel =>
           refine ⟨3,by go_num,by omega,HOK2,hid ?_,hid (O2.out.other hne24 _),hid (fun j hj=>(vF hg94.symm _).trans (HC.out j hj)),by rw [World.size_setCell]; exact hg9,hid (zR HB.out hl24 _)⟩;rw [HE.out.1,HE.out.2.1,HE.out.2.2];exact O4.out.put (j:=4) (by simp) _
          case measure=>simp [intOf]; omega
       ·(obtain rfl:k=m:=by omega);(have hnl:¬ (k:Int) < (k:Int):=by omega);(go_wp2_with fail);go_meet
        case rel=>exact ⟨HOK,O4,O2,HB⟩
     case rest =>
      obtain ⟨HOK,O4,O2,HB⟩:=hcut;have HRC:=hid (HRS2.out _ (HBO.out HOK.out));clear HBO HRS2 HOK HBX HRN;generalize zX xs m 0=a0 at *;generalize zX xs m 1=a1 at *;generalize zX xs m 2=a2 at *;have hcf:(⟨fop,(m:Int),⟨a0,a1,a2,pb,⟨#[]⟩⟩⟩:CompL).fit:=⟨by simp only; omega,Nat.zero_le _⟩;have HCF:=hid hcf;have HMAY:=hid (fun u=>mz ⟨fop,(m:Int),⟨a0,a1,a2,pb,⟨#[]⟩⟩⟩ u HCF.out);have HPRI:=hid (fun u (h:Below w.heap.size w u)=>nR ⟨fop,(m:Int),⟨a0,a1,a2,pb,⟨#[]⟩⟩⟩ u (HL.out.below h) HCF.out);have HRC:Hid (ro=if sL ⟨fop,(m:Int),⟨a0,a1,a2,pb,⟨#[]⟩⟩⟩&&decide (zh ⟨fop,(m:Int),⟨a0,a1,a2,pb,⟨#[]⟩⟩⟩=bts s) then some ⟨fop,(m:Int),⟨a0,a1,a2,pb,⟨#[]⟩⟩⟩ else none):=HRC;clear hcf;obtain ⟨y0,y1,y2,y3,y4,y5,y6⟩:=O4.out.box.get7;have hlt4:=O4.out.box.1;(go_wp2_with fail);refine (HMAY.out _).mono ?_;rintro _ w5 ⟨rfl,hb⟩;have O4:=hid (O4.out.below hb);have O2:=hid (O2.out.below hb);have HB:=hid (zC HB.out hb);clear hb y0 y1 y2 y3 y4 y5 y6 hlt4 HMAY;generalize hmx:sL ⟨fop,(m:Int),⟨a0,a1,a2,pb,⟨#[]⟩⟩⟩=mx at *;have HMX:=hid hmx;clear hmx;cases mx
      ·have HNO:=hid (show ro=none by rw [HRC.out]; rfl);obtain ⟨x0,x1,x2,x3,x4,x5,x6⟩:=O2.out.box.get7;have sf2:∀ j,w5.frozen? ⟨w.heap.size,j,none⟩=false:=O2.out.soft;have hlt2:=O2.out.box.1;(go_wp2_with fail);refine zP ?_;intro w9 hw9;(have O9:Own w.heap.size w9 w.heap.size xW:=by rw [hw9]; exact O2.out.set7 _ _ _ _ _ _ _);(have B9:Below w.heap.size w w9:=by rw [hw9]; exact ze HB.out (Nat.le_refl _) _ _ _ _ _ _ _);clear hw9;obtain ⟨k0,k1,k2,k3,k4,k5,k6⟩:=O9.box.get7;refine bodyPost_ret (v := .tuple #[wl.val,.bool false]) (by simp [results,Tryz.results123,go_sem,k0,k1,k2,k3,k4,k5,k6,wl,xD]) rfl ?_;rw [HNO.out];exact tM B9
      ·obtain ⟨y0,y1,y2,y3,y4,y5,y6⟩:=O4.out.box.get7;have hlt4:=O4.out.box.1;(go_wp2_with fail);refine (HPRI.out _ HB.out).mono ?_;rintro _ w6 ⟨tx,rfl,htx,hb⟩;have HTX:=hid htx;have O4:=hid (O4.out.below hb);have O2:=hid (O2.out.below hb);have HB:=hid (zC HB.out hb);clear hb y0 y1 y2 y3 y4 y5 y6 hlt4 htx HPRI;by_cases he:tx=s
       ·have HYES:=hid (show ro=some ⟨fop,(m:Int),⟨a0,a1,a2,pb,⟨#[]⟩⟩⟩ by rw [HRC.out,← HTX.out,he]; simp);(have d1:(tx.toList==s.toList)=true:=by rw [he]; exact beq_self_eq_true _);clear he;obtain ⟨y0,y1,y2,y3,y4,y5,y6⟩:=O4.out.box.get7;have hlt4:=O4.out.box.1;obtain ⟨x0,x1,x2,x3,x4,x5,x6⟩:=O2.out.box.get7;have sf2:∀ j,w6.frozen? ⟨w.heap.size,j,none⟩=false:=O2.out.soft;have hlt2:=O2.out.box.1;(go_wp2_with fail);refine zP ?_;intro w9 hw9;(have O9:Own w.heap.size w9 w.heap.size (CompL.cells ⟨fop,(m:Int),⟨a0,a1,a2,pb,⟨#[]⟩⟩⟩):=by rw [hw9]; exact O2.out.set7 _ _ _ _ _ _ _);(have B9:Below w.heap.size w w9:=by rw [hw9]; exact ze HB.out (Nat.le_refl _) _ _ _ _ _ _ _);clear hw9;obtain ⟨k0,k1,k2,k3,k4,k5,k6⟩:=O9.box.get7;refine bodyPost_ret (v := .tuple #[CompL.val ⟨fop,(m:Int),⟨a0,a1,a2,pb,⟨#[]⟩⟩⟩,.bool true]) (by simp [results,Tryz.results123,go_sem,k0,k1,k2,k3,k4,k5,k6]) rfl ?_;rw [HYES.out];exact ⟨_,rfl,fun u h=>(by injection h),B9⟩
       ·have HNO:=hid (show ro=none by
         rw [HRC.out,if_neg];rw [← HTX.out];simp only [Bool.true_and,decide_eq_true_eq]
         exact fun e=>he (xE e))
        have d1:(tx.toList==s.toList)=false:=by
         rw [Bool.eq_false_iff];intro e;exact he (xE (by simpa using e))
        clear he;obtain ⟨x0,x1,x2,x3,x4,x5,x6⟩:=O2.out.box.get7;have sf2:∀ j,w6.frozen? ⟨w.heap.size,j,none⟩=false:=O2.out.soft;have hlt2:=O2.out.box.1;(go_wp2_with fail);refine zP ?_;intro w9 hw9;(have O9:Own w.heap.size w9 w.heap.size xW:=by rw [hw9]; exact O2.out.set7 _ _ _ _ _ _ _);(have B9:Below w.heap.size w w9:=by rw [hw9]; exact ze HB.out (Nat.le_refl _) _ _ _ _ _ _ _);clear hw9;obtain ⟨k0,k1,k2,k3,k4,k5,k6⟩:=O9.box.get7;refine bodyPost_ret (v := .tuple #[wl.val,.bool false]) (by simp [results,Tryz.results123,go_sem,k0,k1,k2,k3,k4,k5,k6,wl,xD]) rfl ?_;rw [HNO.out];exact tM B9
end Go.Proofs.YtiffijoenkcpjaaGreatDoor
