import Derived.Test.YtiebekmefjbenaaGreatDoorZKb
set_option linter.unusedVariables false
set_option linter.unusedSimpArgs false
set_option maxRecDepth 100000
set_option maxHeartbeats 4000000
namespace Go.Proofs.YtiebekmefjbenaaGreatDoor
open Go.RowKit Go.Lib
theorem RS.drewJ {K:RK} {w:World} {ws:List ByteArray} {ns:List NodeL} {bad:Bool} (h:RS K w ws ns bad):RS K w.drew ws ns bad:=h.on (zM (zH _))
theorem uP (K:RK) (w:World) (x:ByteArray) (ws:List ByteArray) (ns:List NodeL) (bad:Bool) (h:RS K w ws ns bad) (hn:K.all.length≤1000000) :
 Calls Tryz.prog 233 #[cI K.w0,.string x] w fun e w'=>e = .returned (.bool (uU (bts x) ws))∧RS K w' (if uU (bts x) ws=true then ws.tail else ws) ns bad:=by
 obtain ⟨w0,A,c,all⟩:=K
 have HP:=hid h
 obtain ⟨p,v,hp,hl,ho,ht,hv⟩:=h.st
 dsimp only at hp hl ho ht hv hn
 have x0:=ho.box.2 0 _ rfl
 have x1:=ho.box.2 1 _ rfl
 have sf:∀ j,w.frozen? ⟨w0.heap.size,j,none⟩=false:=ho.soft
 have xl:=ho.box.1
 have HO:=hid ho
 have hS:KB w.heap.size w w.drew:=zM (zH _)
 clear h
 subst hp
 by_cases hlt:p < all.length
 ·obtain ⟨b,off,hA,-,-⟩:=Texts.cell ht hlt;subst hA;have HW:=hid (fun u (hb:KB w.heap.size w u)=>Texts.lay1 ((ht.kb HP.out.kb).kb hb) hlt);have HD:=hid (List.drop_eq_getElem_cons hlt);have HN:=hid (HP.out.next hlt ho hv);clear ht hv ho;(have hxn:∀ y:ByteArray,uU (bts x) (y::all.drop (p+1))=decide (bts y=bts x):=fun y=>rfl);(have hnb:uU (bts x) (all.drop p)=decide (bts all[p]=bts x):=by rw [HD.out]; rfl);rw [hnb];clear hxn hnb HD;generalize all[p]=y at *;generalize all.drop p=ws at *;generalize all.length=n at *;(have i0:(0:Int)≤(p:Int):=by omega);(have i1:(p:Int) < (n:Int):=by omega);by_cases he:bts y=bts x
  ·(have he2:(y.toList==x.toList)=true:=by rw [beq_iff_eq]; exact he);rw [decide_eq_true he];simp only [if_true];clear he;go_enter Tryz.func233,Tryz.ntmps233;(go_upto_region 1 with fail);(refine wpS (fun u=>KB w.heap.size w u) (.last [0,1,2,3,4,5,6,7,8,9,10,11,12,13,14,15,16,17,18,19,20,21,22,23]) fun iS=>?_);(have q0:=fun (z:SW fun u=>KB w.heap.size w u)=>(HO.out.kb z.ok).box.2 0 _ rfl);(have q1:=fun (z:SW fun u=>KB w.heap.size w u)=>(HO.out.kb z.ok).box.2 1 _ rfl);(have q2:=fun (z:SW fun u=>KB w.heap.size w u)=>(HO.out.kb z.ok).box.1);(have q3:=fun (z:SW fun u=>KB w.heap.size w u)=>(HW.out z.v z.ok).1);(have q4:=fun (z:SW fun u=>KB w.heap.size w u)=>(HW.out z.v z.ok).2);(with_reducible refine zJ ?_);simp only [zB,pka,pkb,pkc,pkd,pke,pkf];(repeat go_big_quiet_step (fail));refine wpQuiet_nil ?_;clear q0 q1 q2 q3 q4;(go_wp2_with fail);refine zP ?_;intro w9 hw9;go_ret;exact ⟨rfl,by first | (rw [hw9]; exact HN.out.drewJ) | (rw [hw9]; exact HN.out)⟩
  ·(have he2:(y.toList==x.toList)=false:=by rw [beq_eq_false_iff_ne]; exact he);rw [decide_eq_false he];simp only [Bool.false_eq_true,if_false];clear he HN;go_enter Tryz.func233,Tryz.ntmps233;(go_upto_region 1 with fail);(refine wpS (fun u=>KB w.heap.size w u) (.last [0,1,2,3,4,5,6,7,8,9,10,11,12,13,14,15,16,17,18,19,20,21,22,23]) fun iS=>?_);(have q0:=fun (z:SW fun u=>KB w.heap.size w u)=>(HO.out.kb z.ok).box.2 0 _ rfl);(have q1:=fun (z:SW fun u=>KB w.heap.size w u)=>(HO.out.kb z.ok).box.2 1 _ rfl);(have q2:=fun (z:SW fun u=>KB w.heap.size w u)=>(HO.out.kb z.ok).box.1);(have q3:=fun (z:SW fun u=>KB w.heap.size w u)=>(HW.out z.v z.ok).1);(have q4:=fun (z:SW fun u=>KB w.heap.size w u)=>(HW.out z.v z.ok).2);(with_reducible refine zJ ?_);simp only [zB,pka,pkb,pkc,pkd,pke,pkf];(repeat go_big_quiet_step (fail));refine wpQuiet_nil ?_;clear q0 q1 q2 q3 q4;(go_wp2_with fail);refine zP ?_;intro w9 hw9;go_ret;exact ⟨rfl,by first | (rw [hw9]; exact HP.out.drewJ) | (rw [hw9]; exact HP.out)⟩
 ·(obtain rfl:p=all.length:=by omega);have hz:all.drop all.length=[]:=List.drop_length;(have hnb:uU (bts x) (all.drop all.length)=false:=by rw [hz]; rfl);rw [hnb];simp only [Bool.false_eq_true,if_false];clear ht hv ho hnb hz hlt;generalize all.drop all.length=ws at *;generalize all.length=n at *;(have i1:¬ (n:Int) < (n:Int):=by omega);go_enter Tryz.func233,Tryz.ntmps233;(go_upto_region 1 with fail);(refine wpS (fun u=>KB w.heap.size w u) (.last [0,1,2,3,4,5,6,7,8,9,10,11,12,13,14,15,16,17,18,19,20,21,22,23]) fun iS=>?_);(have q0:=fun (z:SW fun u=>KB w.heap.size w u)=>(HO.out.kb z.ok).box.2 0 _ rfl);(have q1:=fun (z:SW fun u=>KB w.heap.size w u)=>(HO.out.kb z.ok).box.2 1 _ rfl);(have q2:=fun (z:SW fun u=>KB w.heap.size w u)=>(HO.out.kb z.ok).box.1);(with_reducible refine zJ ?_);simp only [zB,pka,pkb,pkc,pkd,pke,pkf];(repeat go_big_quiet_step (fail));refine wpQuiet_nil ?_;clear q0 q1 q2;(go_wp2_with fail);refine zP ?_;intro w9 hw9;go_ret;exact ⟨rfl,by first | (rw [hw9]; exact HP.out.drewJ) | (rw [hw9]; exact HP.out)⟩
theorem oX (K:RK) (w:World) (ws:List ByteArray) (ns:List NodeL) (bad:Bool) (h:RS K w ws ns bad) (hn:K.all.length≤1000000) :
 Calls Tryz.prog 276 #[cI K.w0] w fun e w'=>e = .returned (.string (wU ws))∧RS K w' ws.tail ns (bad || ws.isEmpty):=by
 obtain ⟨w0,A,c,all⟩:=K
 have HP:=hid h
 obtain ⟨p,v,hp,hl,ho,ht,hv⟩:=h.st
 dsimp only at hp hl ho ht hv hn
 have x0:=ho.box.2 0 _ rfl
 have x1:=ho.box.2 1 _ rfl
 have x3:=ho.box.2 3 _ rfl
 have sf:∀ j,w.frozen? ⟨w0.heap.size,j,none⟩=false:=ho.soft
 have xl:=ho.box.1
 have HO:=hid ho
 have hS:KB w.heap.size w w.drew:=zM (zH _)
 clear h
 subst hp
 by_cases hlt:p < all.length
 ·obtain ⟨b,off,hA,-,-⟩:=Texts.cell ht hlt;subst hA;have HT:=hid (ht.kb HP.out.kb);have HD:=hid (List.drop_eq_getElem_cons hlt);have HN:=hid (HP.out.next hlt ho hv);have HLT:=hid hlt;have hbb:b < w0.heap.size:=(Texts.lay1 ht hlt).1;clear ht hv ho;(have hnb:wU (all.drop p)=all[p]:=by rw [HD.out]; rfl);(have hem:(bad || (all.drop p).isEmpty)=bad:=by rw [HD.out]; exact Bool.or_false _);rw [hnb,hem];clear hnb hem HD;have HW0:=hid (fun u (hb:KB w.heap.size w u)=>Texts.lay1 (HT.out.kb hb) HLT.out);have hw0:=(Texts.lay1 HT.out hlt).2;have hw1:=(Texts.lay1 HT.out hlt).1;generalize all[p]=y at *;generalize all.drop p=ws at *;generalize all.length=n at *;(have i0:(0:Int)≤(p:Int):=by omega);(have i1:(p:Int) < (n:Int):=by omega);(have i2:¬ (n:Int)≤(p:Int):=by omega);go_enter Tryz.func276,Tryz.ntmps276;(go_upto_region 1 with fail);(refine wpS (fun u=>KB w.heap.size w u) (.last [0,1,2,3,4,5,6,7,8,9]) fun iS=>?_);(have q0:=fun (z:SW fun u=>KB w.heap.size w u)=>(HO.out.kb z.ok).box.2 0 _ rfl);(have q1:=fun (z:SW fun u=>KB w.heap.size w u)=>(HO.out.kb z.ok).box.2 1 _ rfl);(have q2:=fun (z:SW fun u=>KB w.heap.size w u)=>(HO.out.kb z.ok).box.1);(with_reducible refine zJ ?_);simp only [zB,pka,pkb,pkc,pkd,pke,pkf];(repeat go_big_quiet_step (fail));refine wpQuiet_nil ?_;clear q0 q1 q2 iS;(go_upto_region 5 with fail);refine zI ?_;intro w4 hw4;have HN4:=hid (show RS ⟨w0,some ⟨b,off,none⟩,c,all⟩ w4 ws.tail ns bad by first | (rw [hw4]; exact HN.out.drewJ) | (rw [hw4]; exact HN.out))
  have HW4:=hid (show KB w.heap.size w w4.drew∨True from .inr trivial)
  have hw4c:w4.cell? ⟨b,off+p,none⟩=some (.string y):=by
   have e:=HN4.out.kb.cell (p:=⟨b,off+p,none⟩) hbb;have e0:=HP.out.kb.cell (p:=⟨b,off+p,none⟩) hbb;exact e.trans (e0.symm.trans hw0)
  have hO4:Own w0.heap.size w4 w0.heap.size [.slice (some ⟨b,off,none⟩) n c,.int .i64 ((p:Int)+1),v,.bool bad]:=by
   have h4:=HO.out.put (j:=1) (by simp) (.int .i64 ((p:Int)+1))
   first | (rw [hw4]; exact (h4.kb (zM (zH _)))) | (rw [hw4]; exact h4)
  have HO4:=hid hO4;have hb4:b < w4.heap.size:=Nat.lt_trans hbb hO4.box.1;have hS:KB w4.heap.size w4 w4.drew:=zM (zH _);(have i3:(p:Int)+1 - 1=(p:Int):=by omega);clear hw4 hO4 x0 x1 x3 xl HW4 hw0 hw1;(refine wpS (fun u=>KB w4.heap.size w4 u) (.last [0,1,2,3,4,5,6,7,8,9,10,11]) fun iS=>?_);(have q0:=fun (z:SW fun u=>KB w4.heap.size w4 u)=>(HO4.out.kb z.ok).box.2 0 _ rfl);(have q1:=fun (z:SW fun u=>KB w4.heap.size w4 u)=>(HO4.out.kb z.ok).box.2 1 _ rfl);(have q2:=fun (z:SW fun u=>KB w4.heap.size w4 u)=>(HO4.out.kb z.ok).box.1);(have q3:=fun (z:SW fun u=>KB w4.heap.size w4 u)=>(Go.RowKit.Below.cell z.ok (p:=⟨b,off+p,none⟩) hb4).trans hw4c);(have q4:=fun (z:SW fun u=>KB w4.heap.size w4 u)=>Nat.lt_of_lt_of_le hb4 z.ok.size);(with_reducible refine zJ ?_);simp only [zB,pka,pkb,pkc,pkd,pke,pkf];(repeat go_big_quiet_step (fail));refine wpQuiet_nil ?_;clear q0 q1 q2 q3 q4;(go_wp2_with fail);(try go_ret);exact ⟨rfl,HN4.out.drewJ⟩
 ·have hz:all.drop p=[]:=List.drop_eq_nil_of_le (by omega);have HN:=hid (HP.out.worse);rw [hz] at HN;rw [hz];(have hge:all.length≤p:=by omega);clear ht hv ho hz hlt;generalize all.length=n at *;(have i1:(n:Int)≤(p:Int):=by omega);go_enter Tryz.func276,Tryz.ntmps276;(go_upto_region 1 with fail);(refine wpS (fun u=>KB w.heap.size w u) (.last [0,1,2,3,4,5,6,7,8,9]) fun iS=>?_);(have q0:=fun (z:SW fun u=>KB w.heap.size w u)=>(HO.out.kb z.ok).box.2 0 _ rfl);(have q1:=fun (z:SW fun u=>KB w.heap.size w u)=>(HO.out.kb z.ok).box.2 1 _ rfl);(have q2:=fun (z:SW fun u=>KB w.heap.size w u)=>(HO.out.kb z.ok).box.1);(with_reducible refine zJ ?_);simp only [zB,pka,pkb,pkc,pkd,pke,pkf];(repeat go_big_quiet_step (fail));refine wpQuiet_nil ?_;clear q0 q1 q2;(go_wp2_with fail);refine zP ?_;intro w9 hw9;go_ret;exact ⟨rfl,by first | (rw [hw9]; exact HN.out.drewJ) | (rw [hw9]; exact HN.out)⟩
theorem ti (K:RK) (w:World) (ws:List ByteArray) (ns:List NodeL) (bad:Bool) (n:NodeL) (h:RS K w ws ns bad) (hn:ns.length≤1000000):Calls Tryz.prog 234 #[cI K.w0,n.val] w fun e w' =>
 e = .returned (.int .i64 ns.length)∧RS K w' ws (ns++[n]) bad:=by
 obtain ⟨w0,A,c,all⟩:=K
 have HP:=hid h
 clear h
 go_enter Tryz.func234,Tryz.ntmps234
 go_upto_region 1 with fail
 refine zI ?_
 intro u1 hu
 have HX:=hid (show Box u1 w.heap.size n.cells by rw [hu]; exact Box.new w n.cells 237)
 have HP:=hid (HP.out.on (show KB w.heap.size w u1 by rw [hu]; exact zG _ _))
 clear hu
 generalize w.heap.size=g at *
 obtain ⟨p,v,hp,hl,ho,ht,hv⟩:=HP.out.st
 dsimp only at hp hl ho ht hv
 have HV:=hid hv
 have x1:=ho.box.2 2 _ rfl
 have sf:∀ j,u1.frozen? ⟨w0.heap.size,j,none⟩=false:=ho.soft
 have xl:=ho.box.1
 have y0:=HX.out.2 0 _ rfl
 have y1:=HX.out.2 1 _ rfl
 have y2:=HX.out.2 2 _ rfl
 have y3:=HX.out.2 3 _ rfl
 have y4:=HX.out.2 4 _ rfl
 have yl:=HX.out.1
 have hsz:w0.heap.size+1≤u1.heap.size:=xl
 have HO:=hid ho
 have HT:=hid ht
 clear ho ht hv
 have S1:=hid (show ns.length+1≤maxLen by unfold maxLen; omega)
 have S2:=hid (show (ns.length+1) * 48≤140737488355328 by omega)
 have S3:=hid (show w0.heap.size+1≤(u1.drew.alloc (.cells n.cells.toArray 237)).heap.size by rw [World.size_alloc]; show w0.heap.size+1≤u1.heap.size+1; omega)
 have S4:=hid (V0 u1.drew n 237)
 have S5:=hid (World.ownsRow.alloc (show u1.drew.ownsRow (w0.heap.size+1) 237 5 v ns.length (ns.flatMap NodeL.cells) from HV.out) (.cells n.cells.toArray 237))
 have HKW:=hid (show KB u1.heap.size u1 (u1.alloc (.cells n.cells.toArray 237)).drew from (Below.drew (zL _ _)).kb)
 have HOW:=hid (HO.out.kb HKW.out)
 go_region_law (refine hU Zt (.tmp 9) (.tmp 11) rfl rfl S5.out rfl S4.out (V4 n) S1.out S2.out S3.out ?_; intro v' w' h2 h3 h4; obtain ⟨A9,c9,rfl⟩:=xr h2; have HO2:=hid (mv HOW.out (Nat.lt_succ_self _) h3.kb); have z1:=HO2.out.box.2 2 _ rfl; have zf:∀ j,w'.frozen? ⟨w0.heap.size,j,none⟩=false:=HO2.out.soft; have zl:=HO2.out.box.1)
 all_goals
  refine XP ?_;intro w9 hw9;have kw:KB w0.heap.size w0 w':=Go.RowKit.Below.trans (zA HP.out.kb HKW.out) (Go.RowKit.Below.mono h3.kb (Nat.le_succ _))
  have H9:=hid (show RS ⟨w0,A,c,all⟩ w9 ws (ns++[n]) bad by
   rw [hw9]
   exact ⟨yV kw (Nat.le_refl _) _,p,_,hp,hl,by simpa using HO2.out.put (j:=2) (by simp) (.slice A9 (ns.length+1) c9),HT.out,tc (OwnL.snoc h2)⟩)
  have HO9:=hid (show Own w0.heap.size w9 w0.heap.size [.slice A all.length c,.int .i64 p,.slice A9 (ns.length+1) c9,.bool bad] by
   rw [hw9]; simpa using HO2.out.put (j:=2) (by simp) (.slice A9 (ns.length+1) c9))
  clear hw9 h2 h3 h4 z1 zf zl x1 sf xl y0 y1 y2 y3 y4 yl S1 S2 S3 S4 S5 HKW HOW HO HV kw HO2;have z1:=HO9.out.box.2 2 _ rfl;have zl:=HO9.out.box.1;generalize hm:ns.length=m at *;(go_wp2_with fail);go_ret;exact ⟨by first | (rw [hm]; done) | (rw [hm]; rfl) | rfl,H9.out⟩
theorem mK (k:Nat) (hk:k < 3) (w:World):Calls Tryz.prog 259 #[.int .i64 k] w fun e w'=>∃ x:ByteArray,e = .returned (.string x)∧bts x=MT.keyT k∧KB w.heap.size w w':=by
 match k,hk with
 | 0,_ =>
  show Calls _ _ #[.int .i64 0] _ _;go_enter Tryz.func259,Tryz.ntmps259;(go_wp2_with fail);go_ret;exact ⟨_,rfl,by decide +kernel,zG _ _⟩
 | 1,_ =>
  show Calls _ _ #[.int .i64 1] _ _;go_enter Tryz.func259,Tryz.ntmps259;(go_wp2_with fail);go_ret;exact ⟨_,rfl,by decide +kernel,zG _ _⟩
 | 2,_ =>
  show Calls _ _ #[.int .i64 2] _ _;go_enter Tryz.func259,Tryz.ntmps259;(go_wp2_with fail);go_ret;exact ⟨_,rfl,by decide +kernel,zG _ _⟩
theorem tW (s:ByteArray) (b:Bool) (w:World) (hs:s.size≤5000):Calls Tryz.prog 260 #[.string s,.bool b] w (nM w (MT.inB (bts s) b)):=by
 cases b
 ·go_enter Tryz.func260,Tryz.ntmps260;(go_wp2_with fail);go_ret;exact ⟨s,rfl,rfl,zH _⟩
 ·go_enter Tryz.func260,Tryz.ntmps260;(go_wp2_with fail);go_ret;exact ⟨_,rfl,by rw [zK,zK,bk2,bk3]; rfl,zH _⟩
def ow (w:List UInt8):Nat→Int
 | 0=>-1
 | i+1=>if MT.keyT i=w then (i:Int) else ow w i
theorem bJ (w:List UInt8):ow w 3=match tB w with | none=>-1 | some n=>(n:Int):=by
 unfold tB;simp only [ow];by_cases h0:w=MT.keyT 0
 ·subst h0; decide +kernel
 ·by_cases h1:w=MT.keyT 1
  ·subst h1; decide +kernel
  ·by_cases h2:w=MT.keyT 2
   ·subst h2; decide +kernel
   ·rw [if_neg (fun e=>h2 e.symm),if_neg (fun e=>h1 e.symm),if_neg (fun e=>h0 e.symm),if_neg h0,if_neg h1,if_neg h2]
def YJ:List ByteArray→Option (MT × zb)
 | []=>none
 | w::r=>tu (bts w) (r.map bts)
theorem YF (ws:List ByteArray):YJ ws=isR (bts (wU ws)) (wU ws.tail) (wU ws.tail.tail) false (ws.tail.tail.tail.map bts):=by
 rcases ws with _ | ⟨w,r⟩
 ·unfold isR;rw [if_neg (by simp),show bts (wU [])=[] from mi]; rfl
 ·exact au w r
theorem ZR {ws:List ByteArray} (h:zY (bts (wU ws.tail.tail))=true):(((false || ws.isEmpty) || ws.tail.isEmpty) || ws.tail.tail.isEmpty)=false:=by
 (have e0:zY (bts zc)=false:=by rw [show bts zc=[] from mi]; rfl);rcases ws with _ | ⟨x,_ | ⟨y,_ | ⟨z,r⟩⟩⟩
 ·exact absurd (e0.symm.trans h) (by simp)
 ·exact absurd (e0.symm.trans h) (by simp)
 ·exact absurd (e0.symm.trans h) (by simp)
 ·rfl
theorem bH (ws:List ByteArray):ws.tail.tail.tail.length≤ws.length:=by simp only [List.length_tail]; omega
theorem iG {k:List UInt8} {sg vl:ByteArray} {r:zb} (h:tB k=none∨zY (bts vl)=false∨(bts sg≠[61]∧bts sg≠[33,61])):isR k sg vl false r=none:=by
 unfold isR;rw [if_neg (by simp)];cases hk:tB k with
 | none=>rfl
 | some n =>
  simp only;rcases h with h | h | ⟨h1,h2⟩
  ·exact absurd (hk.symm.trans h) (by simp)
  ·rw [h]; rfl
  ·rw [if_neg h1,if_neg h2]; split<;>rfl
theorem bE (K:RK) (hK:K.all.length≤1000000) (w:World) (ws:List ByteArray) (ns:List NodeL) (h:RS K w ws ns false) (hn:ws.length+ns.length≤900000):Calls Tryz.prog 271 #[cI K.w0] w (qC K ws ns (YJ ws)):=by
 rw [YF];have HF:=hid (fun (x:Int) ws' ns' e w' (h1:e = .returned (.int .i64 x)) (h2:RS K w' ws' ns' true) (h3:ws'.length+ns'.length≤ws.length+ns.length) (h4:ws'.length≤ws.length)=>(show qC K ws ns none e w' from ⟨x,ws',ns',h1,h2,h3,h4⟩));have HG:=hid (fun t (ws':List ByteArray) e w' (h1:e = .returned (.int .i64 ((ns.length+t.size - 1:Nat):Int))) (h2:RS K w' ws' (ns++t.lay ns.length) false)=>(show qC K ws ns (some (t,ws'.map bts)) e w' from ⟨h1,ws',rfl,h2⟩));have HT1:=hid (oX K w ws ns false h hK);have HT2:=hid (fun u (h:RS K u ws.tail ns (false || ws.isEmpty))=>oX K u ws.tail ns _ h hK);have HT3:=hid (fun u (h:RS K u ws.tail.tail ns ((false || ws.isEmpty) || ws.tail.isEmpty))=>oX K u ws.tail.tail ns _ h hK);have HFU:=hid (fun h=>ZR (ws:=ws) h);have HL:=hid (bH ws);have HLN:=hid hn;(have HNS:ns.length≤900000:=by omega);generalize qC K ws ns=F at *;generalize wU ws=kw at *;generalize wU ws.tail=sg at *;generalize wU ws.tail.tail=vl at *;generalize (((false || ws.isEmpty) || ws.tail.isEmpty) || ws.tail.tail.isEmpty)=b3 at *;generalize ((false || ws.isEmpty) || ws.tail.isEmpty)=b2 at *;generalize (false || ws.isEmpty)=b1 at *;generalize ws.tail.tail.tail=ws3 at *;generalize ws.tail.tail=ws2 at *;generalize ws.tail=ws1 at *;clear h hn;go_enter Tryz.func271,Tryz.ntmps271;(go_wp2_with fail);refine HT1.out.mono ?_
 rintro _ w1 ⟨rfl,P1⟩;have HT2:=hid (HT2.out w1 P1);clear P1;(go_wp2_with fail);refine HT2.out.mono ?_;rintro _ w2 ⟨rfl,P2⟩;have HT3:=hid (HT3.out w2 P2);clear P2;(go_wp2_with fail);refine HT3.out.mono ?_;rintro _ w3 ⟨rfl,P3⟩;have P3:=hid P3;clear HT1 HT2 HT3;(go_upto_block 0 with fail);refine zI ?_;intro w4 hw4;have HO:=hid (show Own w3.heap.size w4 w3.heap.size (NodeL.cells ⟨1,0,0,ow (bts kw) 0,vl⟩) by rw [hw4]; exact Own.new w3 (NodeL.cells ⟨1,0,0,-1,vl⟩) 237 (Nat.le_refl _));have HB:=hid (show KB w3.heap.size w3 w4 by rw [hw4]; exact zG _ _);clear hw4;generalize hgg:w3.heap.size=g at *;have HGG:=hid hgg;clear hgg;(go_wp2_with fail);go_loopw [7] (fun i wr=>∃ j:Nat,i = .int .i64 j∧j≤3∧Hid (Own g wr g (NodeL.cells ⟨1,0,0,ow (bts kw) j,vl⟩))∧Hid (KB g w3 wr)) (fun i _=>3 - (intOf i).toNat)
 case atStart=>exact ⟨0,rfl,Nat.zero_le _,HO,HB⟩
 case round =>
  obtain ⟨j,rfl,hj,HO,HB⟩:=hrel;by_cases hlt:j < 3
  ·(have i1:(j:Int) < 3:=by omega);have HKEY:=hid (mK j hlt wr);(go_wp2_with fail);refine HKEY.out.mono ?_;rintro _ wk ⟨x,rfl,hx,hb⟩;have HO2:=hid (HO.out.kb hb);have HB2:=hid (show KB g w3 wk from Go.RowKit.Below.trans HB.out (Go.RowKit.Below.mono hb (Nat.le_of_lt HO.out.box.1)));clear hb;have x3:=HO2.out.box.2 3 _ rfl;have xl:=HO2.out.box.1;have sf:∀ q,wk.frozen? ⟨g,q,none⟩=false:=HO2.out.soft;by_cases he:MT.keyT j=bts kw
   ·(have he2:(x.toList==kw.toList)=true:=by rw [beq_iff_eq]; exact hx.trans he);have HS:=hid (show ow (bts kw) (j+1)=(j:Int) by rw [ow,if_pos he]);clear he hx;(go_wp2_with fail);go_roundw
    case rel=>exact ⟨j+1,by go_num,by omega,hid (by have:=HO2.out.put (j:=3) (by simp) (.int .i64 j); rw [HS.out]; simpa using this),hid (Go.RowKit.Below.setCell HB2.out (p:=⟨g,3,none⟩) (Nat.le_refl _) _)⟩
    case measure=>simp [intOf]<;>omega
   ·(have he2:(x.toList==kw.toList)=false:=by rw [beq_eq_false_iff_ne]; exact fun e=>he (hx.symm.trans e));have HS:=hid (show ow (bts kw) (j+1)=ow (bts kw) j by rw [ow,if_neg he]);clear he hx;(go_wp2_with fail);go_roundw
    case rel=>exact ⟨j+1,by go_num,by omega,hid (by rw [HS.out]; exact HO2.out),HB2⟩
    case measure=>simp [intOf]<;>omega
  ·(obtain rfl:j=3:=by omega);have P4:=hid (P3.out.on (show KB w3.heap.size w3 wr by rw [HGG.out]; exact HB.out));have HKA:=hid (bJ (bts kw));have HLL:=HL.out;have HNN:=HLN.out;obtain ⟨p4,v4,-,-,ho4,-⟩:=P4.out.st;have z3:=ho4.box.2 3 _ rfl;have zl:=ho4.box.1;have zf:wr.frozen? ⟨K.w0.heap.size,3,none⟩=false:=ho4.soft _;clear ho4;cases hko:tB (bts kw) with
   | none =>
    rw [hko] at HKA;simp only at HKA;have x3:=HO.out.box.2 3 _ rfl;rw [HKA.out] at x3;have xl:=HO.out.box.1;have HR:=hid (iG (sg:=sg) (vl:=vl) (r:=ws3.map bts) (.inl hko));clear hko;(go_wp2_with fail);(try rw [Exit.noGoto_ret]);(try go_ret);rw [HR.out];exact HF.out _ _ _ _ _ rfl P4.out.worse (by omega) HLL
   | some m =>
    rw [hko] at HKA;simp only at HKA;have hm3:=(qs hko).1;have hmk:=(qs hko).2;have HO:=hid (show Own g wr g (NodeL.cells ⟨1,0,0,m,vl⟩) by have:=HO.out; rw [HKA.out] at this; exact this);have x3:=HO.out.box.2 3 _ rfl;have xl:=HO.out.box.1;(have i0:¬ (m:Int) < 0:=by omega);have HW:=hid (xM vl wr);cases hw:zY (bts vl)
    ·rw [hw] at HW;have HR:=hid (iG (k:=bts kw) (sg:=sg) (vl:=vl) (r:=ws3.map bts) (.inr (.inl hw)));clear hw hko;(go_wp2_with fail);refine HW.out.mono ?_;rintro _ wv ⟨rfl,hbv⟩;have P5:=hid (P4.out.on hbv.kb);clear hbv z3 zl zf x3 xl;obtain ⟨p5,v5,-,-,ho5,-⟩:=P5.out.st;have z3:=ho5.box.2 3 _ rfl;have zl:=ho5.box.1;have zf:wv.frozen? ⟨K.w0.heap.size,3,none⟩=false:=ho5.soft _;clear ho5;(go_wp2_with fail);(try rw [Exit.noGoto_ret]);(try go_ret);rw [HR.out];exact HF.out _ _ _ _ _ rfl P5.out.worse (by omega) HLL
    ·rw [hw] at HW;have HB3:=hid (HFU.out hw);by_cases h61:bts sg=[61]
     ·have s1:(sg.toList==[61])=true:=by rw [beq_iff_eq]; exact h61
      have s2:(sg.toList==[33,61])=false:=by
       rw [beq_eq_false_iff_ne];intro e;have e2:=h61;simp only [bts] at e2;rw [e] at e2;simp at e2
      have HR:=hid (Xd (r:=ws3.map bts) hm3 hmk.symm h61 hw);clear hw hko h61;(go_wp2_with fail);refine HW.out.mono ?_;rintro _ wv ⟨rfl,hbv⟩;have P5:=hid (P4.out.on hbv.kb);have HO5:=hid (HO.out.kb hbv.kb);clear hbv z3 zl zf x3 xl;have y0:=HO5.out.box.2 0 _ rfl;have y1:=HO5.out.box.2 1 _ rfl;have y2:=HO5.out.box.2 2 _ rfl;have y3:=HO5.out.box.2 3 _ rfl;have y4:=HO5.out.box.2 4 _ rfl;have yl:=HO5.out.box.1;have HP:=hid (ti K wv ws3 ns b3 ⟨1,0,0,m,vl⟩ P5.out (by omega));rw [HB3.out] at HP;(go_wp2_with fail);refine HP.out.mono ?_;rintro _ wx ⟨rfl,P6⟩;have P6:=hid P6;(go_wp2_with fail);(try rw [Exit.noGoto_ret]);(try go_ret);rw [HR.out];exact HG.out _ _ _ _ rfl P6.out
     ·(have s1:(sg.toList==[61])=false:=by rw [beq_eq_false_iff_ne]; exact h61);by_cases h33:bts sg=[33,61]
      ·(have s2:(sg.toList==[33,61])=true:=by rw [beq_iff_eq]; exact h33);have HR:=hid (bu (r:=ws3.map bts) hm3 hmk.symm h33 hw);clear hw hko h61 h33;(go_wp2_with fail);refine HW.out.mono ?_;rintro _ wv ⟨rfl,hbv⟩;have P5:=hid (P4.out.on hbv.kb);have HO5:=hid (HO.out.kb hbv.kb);clear hbv z3 zl zf x3 xl;have y0:=HO5.out.box.2 0 _ rfl;have y1:=HO5.out.box.2 1 _ rfl;have y2:=HO5.out.box.2 2 _ rfl;have y3:=HO5.out.box.2 3 _ rfl;have y4:=HO5.out.box.2 4 _ rfl;have yl:=HO5.out.box.1;have HP:=hid (ti K wv ws3 ns b3 ⟨1,0,0,m,vl⟩ P5.out (by omega));rw [HB3.out] at HP;(go_wp2_with fail);refine HP.out.mono ?_;rintro _ wx ⟨rfl,P6⟩;have HP:=hid (ti K wx ws3 (ns++[⟨1,0,0,m,vl⟩]) false ⟨2,ns.length,0,0,zc⟩ P6 (by simp; omega));clear P6;(go_wp2_with fail);refine HP.out.mono ?_;rintro _ wy ⟨rfl,P7⟩;have P7:=hid P7;(go_wp2_with fail);(try rw [Exit.noGoto_ret]);(try go_ret);rw [HR.out];exact HG.out _ _ _ _ (by simp [MT.size]) (by have:=P7.out; simpa [MT.lay,MT.size] using this)
      ·(have s2:(sg.toList==[33,61])=false:=by rw [beq_eq_false_iff_ne]; exact h33);have HR:=hid (iG (k:=bts kw) (sg:=sg) (vl:=vl) (r:=ws3.map bts) (.inr (.inr ⟨h61,h33⟩)));clear hw hko h61 h33;(go_wp2_with fail);refine HW.out.mono ?_;rintro _ wv ⟨rfl,hbv⟩;have P5:=hid (P4.out.on hbv.kb);clear hbv z3 zl zf x3 xl;obtain ⟨p5,v5,-,-,ho5,-⟩:=P5.out.st;have z3:=ho5.box.2 3 _ rfl;have zl:=ho5.box.1;have zf:wv.frozen? ⟨K.w0.heap.size,3,none⟩=false:=ho5.soft _;clear ho5;(go_wp2_with fail);(try rw [Exit.noGoto_ret]);(try go_ret);rw [HR.out];exact HF.out _ _ _ _ _ rfl P5.out.worse (by omega) HLL
theorem qq {kw:List UInt8} {ws:List ByteArray} (h:uU kw ws=true):∃ y r,ws=y::r∧bts y=kw:=by
 rcases ws with _ | ⟨y,r⟩
 ·cases h
 ·exact ⟨y,r,rfl,by simpa [uU] using h⟩
theorem next_noQ {kw:List UInt8} {mk:MT→MT→MT} {part:zb→Option (MT × zb)} (a:MT) {ws:List ByteArray} (h:uU kw ws=false):xY kw mk part (ws.map bts).length a (ws.map bts)=some (a,ws.map bts):=by
 rcases ws with _ | ⟨y,r⟩
 ·rfl
 ·simp only [List.map_cons,List.length_cons,xY];exact if_neg (by simpa [uU] using h)
theorem dH (K:RK) (hK:K.all.length≤1000000) (part:zb→Option (MT × zb)) (n:Nat) (hp0:wP part) (hc0:od K 257 part n):od K 232 (vK part) n:=fun w ws ns bad h hn hl=>by
 have hp:wP (part):=hp0;have hc:od K 257 (part) n:=hc0;clear hp0 hc0;rw [show (if bad=true then none else vK part (ws.map bts))=if bad=true then none else vq o5 MT.both (part) (ws.map bts) from rfl];generalize (part)=sub at *;have HF:=hid (fun (x:Int) ws' ns' e w' (h1:e = .returned (.int .i64 x)) (h2:RS K w' ws' ns' true) (h3:ws'.length+ns'.length≤ws.length+ns.length) (h4:ws'.length≤ws.length)=>(show qC K ws ns none e w' from ⟨x,ws',ns',h1,h2,h3,h4⟩));have HG:=hid (fun t (ws':List ByteArray) e w' (h1:e = .returned (.int .i64 ((ns.length+t.size - 1:Nat):Int))) (h2:RS K w' ws' (ns++t.lay ns.length) false)=>(show qC K ws ns (some (t,ws'.map bts)) e w' from ⟨h1,ws',rfl,h2⟩));have HC:=hid hc;have HP:=hid hp;have HC1:=hid ((hc w ws ns bad h hn (by omega)).mono fun e w' h=>qK (kw:=o5) (mk:=MT.both) hp h);have HNX:=hid (fun u ws' ns' (h:RS K u ws' ns' false)=>uP K u ⟨#[97,110,100]⟩ ws' ns' false h hK);rw [show bts (⟨#[97,110,100]⟩:ByteArray)=o5 by decide +kernel] at HNX;have HLT:=hid hl;have HN:=hid hn;generalize (if bad=true then none else vq o5 MT.both sub (ws.map bts))=R at *;generalize qC K ws ns=F at *;clear hp hc h hn hl;go_enter Tryz.func232,Tryz.ntmps232;(go_wp2_with fail);refine HC1.out.mono ?_;rintro _ w1 ⟨x1,rfl,HS⟩;(go_wp2_with fail);go_loopw [3] (fun av wr=>∃ x:Int,av = .int .i64 x∧Hid (qi K ws ns o5 MT.both sub R x wr)) (fun _ wr=>YR K wr)
 case atStart=>exact ⟨x1,rfl,HS⟩
 case round =>
  obtain ⟨x,rfl,HS⟩:=hrel;rcases HS.out with ⟨a,ws',hx,hps,hw,hR⟩ | ⟨ws',ns',hps,hw1,hw2,hR⟩
  ·have HPS:=hid hps;have HX:=hid hx;have HR:=hid hR;have hLT:=HLT.out;have hNN:=HN.out;have ha:=a.size_pos;have HNW:=hid (HNX.out wr ws' _ hps);have hwl:=hps.left;obtain ⟨p4,v4,-,-,ho,-⟩:=hps.st;have x2:=ho.box.2 3 _ rfl;have xl:=ho.box.1;clear ho hps hx hR;cases hnw:uU o5 ws'
   ·rw [hnw] at HNW;simp only [Bool.false_eq_true,if_false] at HNW;have HS:=hid (HR.out.trans (next_noQ (mk:=MT.both) (part:=sub) a hnw));clear hnw;(go_wp2_with fail);refine HNW.out.mono ?_;rintro _ w2 ⟨rfl,P2⟩;have P2:=hid P2;(go_wp2_with fail);(try rw [Exit.noGoto_ret]);(try go_ret);rw [HS.out];exact HG.out _ _ _ _ (by rw [HX.out]; rfl) P2.out
   ·rw [hnw] at HNW;obtain ⟨y,r,rfl,hy⟩:=qq hnw;have HY:=hid hy;(have hwr:r.length+1+a.size≤ws.length:=by simpa [Nat.add_comm] using hw);have HWR:=hid hwr;simp only [if_true,List.tail_cons] at HNW;clear hnw hw hy;(go_wp2_with fail);refine HNW.out.mono ?_;rintro _ w2 ⟨rfl,P2⟩;have HCB:=hid ((HC.out w2 r _ false P2 (by omega) (by rw [List.length_append,MT.lay_len]; omega)).mono fun e w' h=>pW (op:=3) HP.out (fun a b=>rfl) (fun a b s=>rfl) HWR.out HR.out HY.out h);clear P2;(go_wp2_with fail);refine HCB.out.mono ?_;rintro _ w3 ⟨x3,rfl,ws3,ns3,b3,hl3,hl4,HP3,HN3⟩;have HPU:=hid (ti K w3 ws3 ns3 b3 ⟨3,x,x3,0,zc⟩ HP3.out (by omega));(go_wp2_with fail);refine HPU.out.mono ?_;rintro _ w4 ⟨rfl,P4⟩;have P4:=hid P4;(go_wp2_with fail);go_roundw
    case rel=>exact ⟨_,rfl,hid (HN3.out _ (by rw [← HX.out]; exact P4.out))⟩
    case measure =>
     rw [P4.out.left,hwl];simp only [List.length_cons]; omega
  ·have HPS:=hid hps;have HR:=hid hR;obtain ⟨p4,v4,-,-,ho,-⟩:=hps.st;have x2:=ho.box.2 3 _ rfl;have xl:=ho.box.1;clear ho hps hR;(go_wp2_with fail);(try rw [Exit.noGoto_ret]);(try go_ret);rw [HR.out];exact HF.out _ _ _ _ _ rfl HPS.out hw1 hw2
theorem qQ (K:RK) (hK:K.all.length≤1000000) (part:zb→Option (MT × zb)) (n:Nat) (hp0:wP part) (hc0:od K 257 part n):od K 200 (yI part) n:=fun w ws ns bad h hn hl=>by
 have hp:wP (vK part):=lM hp0;have hc:od K 232 (vK part) n:=dH K hK part n hp0 hc0;clear hp0 hc0;rw [show (if bad=true then none else yI part (ws.map bts))=if bad=true then none else vq Z5 MT.one (vK part) (ws.map bts) from rfl];generalize (vK part)=sub at *;have HF:=hid (fun (x:Int) ws' ns' e w' (h1:e = .returned (.int .i64 x)) (h2:RS K w' ws' ns' true) (h3:ws'.length+ns'.length≤ws.length+ns.length) (h4:ws'.length≤ws.length)=>(show qC K ws ns none e w' from ⟨x,ws',ns',h1,h2,h3,h4⟩));have HG:=hid (fun t (ws':List ByteArray) e w' (h1:e = .returned (.int .i64 ((ns.length+t.size - 1:Nat):Int))) (h2:RS K w' ws' (ns++t.lay ns.length) false)=>(show qC K ws ns (some (t,ws'.map bts)) e w' from ⟨h1,ws',rfl,h2⟩));have HC:=hid hc;have HP:=hid hp;have HC1:=hid ((hc w ws ns bad h hn (by omega)).mono fun e w' h=>qK (kw:=Z5) (mk:=MT.one) hp h);have HNX:=hid (fun u ws' ns' (h:RS K u ws' ns' false)=>uP K u ⟨#[111,114]⟩ ws' ns' false h hK);rw [show bts (⟨#[111,114]⟩:ByteArray)=Z5 by decide +kernel] at HNX;have HLT:=hid hl;have HN:=hid hn;generalize (if bad=true then none else vq Z5 MT.one sub (ws.map bts))=R at *;generalize qC K ws ns=F at *;clear hp hc h hn hl;go_enter Tryz.func200,Tryz.ntmps200;(go_wp2_with fail);refine HC1.out.mono ?_;rintro _ w1 ⟨x1,rfl,HS⟩;(go_wp2_with fail);go_loopw [3] (fun av wr=>∃ x:Int,av = .int .i64 x∧Hid (qi K ws ns Z5 MT.one sub R x wr)) (fun _ wr=>YR K wr)
 case atStart=>exact ⟨x1,rfl,HS⟩
 case round =>
  obtain ⟨x,rfl,HS⟩:=hrel;rcases HS.out with ⟨a,ws',hx,hps,hw,hR⟩ | ⟨ws',ns',hps,hw1,hw2,hR⟩
  ·have HPS:=hid hps;have HX:=hid hx;have HR:=hid hR;have hLT:=HLT.out;have hNN:=HN.out;have ha:=a.size_pos;have HNW:=hid (HNX.out wr ws' _ hps);have hwl:=hps.left;obtain ⟨p4,v4,-,-,ho,-⟩:=hps.st;have x2:=ho.box.2 3 _ rfl;have xl:=ho.box.1;clear ho hps hx hR;cases hnw:uU Z5 ws'
   ·rw [hnw] at HNW;simp only [Bool.false_eq_true,if_false] at HNW;have HS:=hid (HR.out.trans (next_noQ (mk:=MT.one) (part:=sub) a hnw));clear hnw;(go_wp2_with fail);refine HNW.out.mono ?_;rintro _ w2 ⟨rfl,P2⟩;have P2:=hid P2;(go_wp2_with fail);(try rw [Exit.noGoto_ret]);(try go_ret);rw [HS.out];exact HG.out _ _ _ _ (by rw [HX.out]; rfl) P2.out
   ·rw [hnw] at HNW;obtain ⟨y,r,rfl,hy⟩:=qq hnw;have HY:=hid hy;(have hwr:r.length+1+a.size≤ws.length:=by simpa [Nat.add_comm] using hw);have HWR:=hid hwr;simp only [if_true,List.tail_cons] at HNW;clear hnw hw hy;(go_wp2_with fail);refine HNW.out.mono ?_;rintro _ w2 ⟨rfl,P2⟩;have HCB:=hid ((HC.out w2 r _ false P2 (by omega) (by rw [List.length_append,MT.lay_len]; omega)).mono fun e w' h=>pW (op:=4) HP.out (fun a b=>rfl) (fun a b s=>rfl) HWR.out HR.out HY.out h);clear P2;(go_wp2_with fail);refine HCB.out.mono ?_;rintro _ w3 ⟨x3,rfl,ws3,ns3,b3,hl3,hl4,HP3,HN3⟩;have HPU:=hid (ti K w3 ws3 ns3 b3 ⟨4,x,x3,0,zc⟩ HP3.out (by omega));(go_wp2_with fail);refine HPU.out.mono ?_;rintro _ w4 ⟨rfl,P4⟩;have P4:=hid P4;(go_wp2_with fail);go_roundw
    case rel=>exact ⟨_,rfl,hid (HN3.out _ (by rw [← HX.out]; exact P4.out))⟩
    case measure =>
     rw [P4.out.left,hwl];simp only [List.length_cons]; omega
  ·have HPS:=hid hps;have HR:=hid hR;obtain ⟨p4,v4,-,-,ho,-⟩:=hps.st;have x2:=ho.box.2 3 _ rfl;have xl:=ho.box.1;clear ho hps hR;(go_wp2_with fail);(try rw [Exit.noGoto_ret]);(try go_ret);rw [HR.out];exact HF.out _ _ _ _ _ rfl HPS.out hw1 hw2
theorem jm (K:RK) (hK:K.all.length≤1000000):∀ n,od K 257 (wW n) n
 | 0=>fun w ws ns bad h hn hl=>absurd hn (Nat.not_lt_zero _)
 | n+1=>fun w ws ns bad h hn hl=>by
  have IH:=jm K hK n;have HI:=hid IH;have HO:=hid (qQ K hK (wW n) n (vv n) IH);clear IH;have HPS:=hid h;obtain ⟨p4,v4,-,-,ho,-⟩:=h.st;have x2:=ho.box.2 3 _ rfl;have xl:=ho.box.1;clear ho;have HF:=hid (fun (x:Int) ws' ns' e w' (h1:e = .returned (.int .i64 x)) (h2:RS K w' ws' ns' true) (h3:ws'.length+ns'.length≤ws.length+ns.length) (h4:ws'.length≤ws.length)=>(show qC K ws ns none e w' from ⟨x,ws',ns',h1,h2,h3,h4⟩));cases bad with
  | true =>
   rw [if_pos rfl];generalize qC K ws ns none=F at *;clear h;go_enter Tryz.func257,Tryz.ntmps257;go_wp2_with fail
   first | exact HF.out _ _ _ _ _ rfl HPS.out (Nat.le_refl _) (Nat.le_refl _) | (go_ret; exact HF.out _ _ _ _ _ rfl HPS.out (Nat.le_refl _) (Nat.le_refl _))
  | false =>
   rw [if_neg (by simp)];have HNX:=hid (uP K w ⟨#[110,111,116]⟩ ws ns false h hK);rw [show bts (⟨#[110,111,116]⟩:ByteArray)=cG by decide +kernel] at HNX;have HNP:=hid (fun u (h:RS K u ws ns false)=>uP K u ⟨#[40]⟩ ws ns false h hK);rw [show bts (⟨#[40]⟩:ByteArray)=[40] by decide +kernel] at HNP;clear h;cases hx:uU cG ws
   ·rw [hx] at HNX;simp only [Bool.false_eq_true,if_false] at HNX;cases hy:uU [40] ws
    ·rw [hy] at HNP;simp only [Bool.false_eq_true,if_false] at HNP;have HA:=hid (fun u (h:RS K u ws ns false)=>(bE K hK u ws ns h (by omega)).mono fun e w' h=>Yb h)
     have hz:wW (n+1) (ws.map bts)=YJ ws:=by
      rcases ws with _ | ⟨y,r⟩
      ·rfl
      ·rw [List.map_cons,wW,if_neg (by simpa [uU] using hx),if_neg (by simpa [uU] using hy)]; rfl
     rw [hz];clear hx hy hz;generalize qC K ws ns (YJ ws)=F at *;go_enter Tryz.func257,Tryz.ntmps257;(go_wp2_with fail);refine HNX.out.mono ?_;rintro _ w1 ⟨rfl,P1⟩;have HNP:=hid (HNP.out w1 P1);clear P1;(go_wp2_with fail);refine HNP.out.mono ?_;rintro _ w2 ⟨rfl,P2⟩;have HA:=hid (HA.out w2 P2);clear P2;(go_wp2_with fail);refine HA.out.mono ?_;rintro _ w3 ⟨x,rfl,H⟩;go_wp2_with fail
     first | exact H.out | (go_ret; exact H.out)
    ·rw [hy] at HNP;obtain ⟨y,r,rfl,h2⟩:=qq hy;simp only [if_true,List.tail_cons] at HNP;(have hn2:r.length < n:=by simp only [List.length_cons] at hn; omega);(have hl2:r.length+ns.length≤800000:=by simp only [List.length_cons] at hl; omega);have HBR:=hid (fun w1 (h:RS K w1 r ns false)=>(HO.out w1 r ns false h hn2 hl2).mono fun e w' h=>io (n:=n) h2 h);have HNC:=hid (fun u ws' ns' bad (h:RS K u ws' ns' bad)=>uP K u ⟨#[41]⟩ ws' ns' bad h hK);rw [show bts (⟨#[41]⟩:ByteArray)=[41] by decide +kernel] at HNC;clear hx hy h2;generalize qC K (y::r) ns (wW (n+1) ((y::r).map bts))=F at *;go_enter Tryz.func257,Tryz.ntmps257;(go_wp2_with fail);refine HNX.out.mono ?_;rintro _ w1 ⟨rfl,P1⟩;have HNP:=hid (HNP.out w1 P1);clear P1;(go_wp2_with fail);refine HNP.out.mono ?_;rintro _ w2 ⟨rfl,P2⟩;have HBR:=hid (HBR.out w2 P2);clear P2;(go_wp2_with fail);refine HBR.out.mono ?_;rintro _ w3 ⟨x,rfl,ws',ns',b2,hl3,hl4,HP2,HGO,HNO⟩;have HNC:=hid (HNC.out w3 ws' ns' b2 HP2.out);cases hc:uU [41] ws'
     ·rw [hc] at HNC;simp only [Bool.false_eq_true,if_false] at HNC;have HNO:=hid (fun u h=>HNO.out u h hc);clear hc;(go_wp2_with fail);refine HNC.out.mono ?_;rintro _ w5 ⟨rfl,P5⟩;have P5:=hid P5;obtain ⟨p5,v5,-,-,ho5,-⟩:=P5.out.st;have z3:=ho5.box.2 3 _ rfl;have zl:=ho5.box.1;have zf:w5.frozen? ⟨K.w0.heap.size,3,none⟩=false:=ho5.soft _;clear ho5;(go_wp2_with fail);(try rw [Exit.noGoto_ret]);(try go_ret);exact HNO.out _ P5.out.worse
     ·rw [hc] at HNC;simp only [if_true] at HNC;have HGO:=hid (fun u h=>HGO.out u h hc);clear hc;(go_wp2_with fail);refine HNC.out.mono ?_;rintro _ w5 ⟨rfl,P5⟩;have P5:=hid (HGO.out _ P5);(go_wp2_with fail);(try rw [Exit.noGoto_ret]);(try go_ret);exact P5.out
   ·rw [hx] at HNX;obtain ⟨y,r,rfl,h1⟩:=qq hx;simp only [if_true,List.tail_cons] at HNX;(have hn2:r.length < n:=by simp only [List.length_cons] at hn; omega);(have hl2:r.length+ns.length≤800000:=by simp only [List.length_cons] at hl; omega);have HNT:=hid (fun w1 (h:RS K w1 r ns false)=>(HI.out w1 r ns false h hn2 hl2).mono fun e w' h=>bh (n:=n) h1 h);clear hx h1;generalize qC K (y::r) ns (wW (n+1) ((y::r).map bts))=F at *;go_enter Tryz.func257,Tryz.ntmps257;(go_wp2_with fail);refine HNX.out.mono ?_;rintro _ w1 ⟨rfl,P1⟩;have HNT:=hid (HNT.out w1 P1);clear P1;(go_wp2_with fail);refine HNT.out.mono ?_;rintro _ w2 ⟨x,rfl,ws',ns',b2,hl3,HP2,HN2⟩;have HPU:=hid (ti K w2 ws' ns' b2 ⟨2,x,0,0,zc⟩ HP2.out (by omega));(go_wp2_with fail);refine HPU.out.mono ?_;rintro _ w3 ⟨rfl,P3⟩;have H:=hid (HN2.out _ P3);clear P3;go_wp2_with fail
    first | exact H.out | (go_ret; exact H.out)
end Go.Proofs.YtiebekmefjbenaaGreatDoor
