import Derived.Shelf.Strings.OnBuilder
import Derived.Test.YtiebekmefjbenaaGreatDoorZCi
set_option linter.unusedVariables false
set_option linter.unusedSimpArgs false
set_option maxRecDepth 100000
set_option maxHeartbeats 4000000
namespace Go.Proofs.YtiebekmefjbenaaGreatDoor
open Go.RowKit Go.Lib
open Rw
theorem bP (s:ByteArray) (w:World) (hs:s.size≤9223372036854775806):Calls Tryz.prog 238 #[.string s] w (UA w (zq 45 (bts s)) (xq 45 (bts s))):=by
 go_enter Tryz.func238,Tryz.ntmps238;go_wp2_with fail
 go_loop [4] (fun i=>∃ k:Nat,k≤s.size∧i = .int .i64 k∧Hid ((45:UInt8) ∉ (bts s).take k)) (fun i=>s.size - (intOf i).toNat)
 case atStart=>exact ⟨0,Nat.zero_le _,rfl,hid (by simp)⟩
 case round =>
  obtain ⟨k,hk,rfl,HN⟩:=hrel;by_cases hlt:k < s.size
  ·(have hk0:(0:Int)≤(k:Int):=by omega);(have hki:(k:Int) < (s.size:Int):=by omega);by_cases h45:s[k]=45
   ·have HBA:=hid (kJ hlt h45 HN.out);(have d1:((s[k].toNat:Int)==45)=true:=by rw [h45]; rfl);clear h45;(go_wp2_with fail);refine lH (.last [0,1,2,3,4,5,6,7,8]) (by kernel_rfl) (by intro _ _ d _ _ h; cases d<;>exact h) (by kernel_rfl) ?_;(have hlt2:(k:Int)+1≤(s.size:Int):=by omega);refine zJ ?_;simp only [zB,pka,pkb,pkc,pkd,pke,pkf];(repeat go_big_quiet_step (fail));refine wpQuiet_nil ?_;go_wp2_with fail
    go_ret2
    exact ⟨_,_,rfl,HBA.out.1.symm,HBA.out.2.symm,1,rfl⟩
   ·have d1:((s[k].toNat:Int)==45)=false:=by
     rw [Bool.eq_false_iff];intro e;refine h45 (UInt8.toNat_inj.1 ?_);have:=mu e;show s[k].toNat=45;omega
    have HNX:=hid (show (45:UInt8) ∉ (bts s).take (k+1) by
     rw [v9 s k hlt,List.mem_append,not_or];refine ⟨HN.out,?_⟩;rw [List.mem_singleton]
     exact fun e=>h45 e.symm)
    clear h45;go_wp2_with fail
    go_round
    case rel=>exact ⟨k+1,by omega,by go_num,HNX⟩
    case measure=>simp [intOf]; omega
  ·(obtain rfl:k=s.size:=by omega);have HBN:=hid (wB (by have h:=HN.out; rwa [yD] at h));go_wp2_with fail
   go_ret2
   exact ⟨s,⟨#[]⟩,rfl,HBN.out.1.symm,by rw [HBN.out.2]; exact zN [],0,rfl⟩
def YH (w:World) (o:Option (Int × Int × Int)) (e:Ending) (w':World):Prop:=∃ v:Ver,e = .returned (.tuple #[v.val,.bool o.isSome])∧(∀ u,o=some u→v=⟨u.1,u.2.1,u.2.2,⟨#[]⟩,⟨#[]⟩⟩)∧Below w.heap.size w w'
theorem Zi (g cap:Nat) (xs:List (List UInt8)) (w:World) (hx:∀ j,j < xs.length→w.cell? ⟨g,j,none⟩=some (.string (xP (xs.getD j [])))) (hg:g < w.heap.size) (hcap:xs.length≤cap) (hln:xs.length≤4398046511105) :
 Calls Tryz.prog 239 #[.slice (some ⟨g,0,none⟩) xs.length cap] w (YH w (vp xs)):=by
 have HC:=hid hx
 clear hx
 generalize hno:vp xs=no
 have HNO0:=hid hno
 clear hno
 generalize hm:xs.length=m at *
 have HM:=hid hm
 clear hm
 go_enter Tryz.func239,Tryz.ntmps239
 go_upto_region 2 with fail
 refine zI ?_
 intro w1 hw1
 have O2:=hid (show Own w.heap.size w1 w.heap.size xD.cells by rw [hw1]; exact (Own.new w xD.cells 27 (Nat.le_refl _)).alloc _)
 have O4:=hid (show Own w.heap.size w1 (w.heap.size+1) [.int .i64 0,.int .i64 0,.int .i64 0] by rw [hw1]; exact Own.new2 w _ [.int .i64 0,.int .i64 0,.int .i64 0] 260 (Nat.le_refl _))
 have HB:=hid (show Below w.heap.size w w1 by rw [hw1]; exact zC (zL _ _) (zL _ _))
 have hg1:g < w1.heap.size:=Nat.lt_of_lt_of_le hg HB.out.size
 have HC:=hid (show ∀ j,j < m→w1.cell? ⟨g,j,none⟩=some (.string (xP (xs.getD j []))) from fun j hj=>(HB.out.cell (p:=⟨g,j,none⟩) hg).trans (HC.out j hj))
 have hne24:w.heap.size≠w.heap.size+1:=by omega
 have hl24:w.heap.size≤w.heap.size+1:=by omega
 have hne9:g≠w.heap.size+1:=by omega
 clear hw1
 by_cases h3:3 < m
 ·(have h3i:(3:Int) < (m:Int):=by omega);have HNO:=hid (show no=none by rw [← HNO0.out,kp (by rw [HM.out]; exact h3)]);obtain ⟨x0,x1,x2,x3,x4⟩:=O2.out.box.get5;have sf2:∀ j,w1.frozen? ⟨w.heap.size,j,none⟩=false:=O2.out.soft;have hlt2:=O2.out.box.1;(go_wp2_with fail);refine zP ?_;intro w9 hw9;(have O9:Own w.heap.size w9 w.heap.size (xD.cells):=by rw [hw9]; exact O2.out.set5 _ _ _ _ _);(have B9:Below w.heap.size w w9:=by rw [hw9]; exact re HB.out (Nat.le_refl _) _ _ _ _ _);clear hw9;obtain ⟨k0,k1,k2,k3,k4⟩:=O9.box.get5;refine bodyPost_ret (v := .tuple #[xD.val,.bool false]) (by simp [results,Tryz.results239,go_sem,k0,k1,k2,k3,k4,xD]) rfl ?_;rw [HNO.out];exact ⟨xD,rfl,fun u h=>(by cases h),B9⟩
 ·(have h3i:¬ (3:Int) < (m:Int):=by omega);(have hm3:m≤3:=by omega);(go_upto_block 0 with fail);go_cut [] from 12 to 38 (fun wx=>Hid (okN xs m)∧Hid (Own w.heap.size wx (w.heap.size+1) [.int .i64 (zX xs m 0),.int .i64 (zX xs m 1),.int .i64 (zX xs m 2)])∧Hid (Own w.heap.size wx w.heap.size xD.cells)∧Hid (Below w.heap.size w wx))
  case first =>
   (go_wp2_with fail);go_loopw [5] (fun i wr=>∃ k:Nat,i = .int .i64 k∧k≤m∧Hid (okN xs k)∧Hid (Own w.heap.size wr (w.heap.size+1) [.int .i64 (zX xs k 0),.int .i64 (zX xs k 1),.int .i64 (zX xs k 2)])∧Hid (Own w.heap.size wr w.heap.size xD.cells)∧Hid (∀ j,j < m→wr.cell? ⟨g,j,none⟩=some (.string (xP (xs.getD j []))))∧g < wr.heap.size∧Hid (Below w.heap.size w wr)) (fun i _=>m - (intOf i).toNat)
   case atStart=>exact ⟨0,rfl,Nat.zero_le _,hid (fun j hj=>absurd hj (Nat.not_lt_zero _)),O4,O2,HC,hg1,HB⟩
   case round =>
    obtain ⟨k,rfl,hk,HOK,O4,O2,HC,hg9,HB⟩:=hrel;by_cases hlt:k < m
    ·(have hk3:k=0∨k=1∨k=2:=by omega);have cx:=HC.out k hlt;have HNU:=hid (wC (xP (xs.getD k [])) wr);rw [zx] at HNU;generalize hnum:za (xs.getD k [])=nn at *;obtain ⟨i0,b0⟩:=nn;have HNUM:=hid hnum;clear hnum;generalize xP (xs.getD k [])=xb at *;(have k0:(0:Int)≤(k:Int):=by omega);(have k1:(k:Int) < (m:Int):=by omega);(have hkc:k < cap:=by omega);(go_wp2_with fail);refine HNU.out.mono ?_;rintro _ v1 ⟨rfl,hb⟩;have O4:=hid (O4.out.below hb);have O2:=hid (O2.out.below hb);have HC:=hid (show ∀ j,j < m→v1.cell? ⟨g,j,none⟩=some (.string (xP (xs.getD j []))) from fun j hj=>(hb.cell (p:=⟨g,j,none⟩) hg9).trans (HC.out j hj));have hg9:g < v1.heap.size:=Nat.lt_of_lt_of_le hg9 hb.size;have HB:=hid (zC HB.out hb);clear hb cx HNU;cases b0
     ·have HNO:=hid (show no=none by rw [← HNO0.out,fM (by rw [HM.out]; exact hlt) (by rw [HNUM.out])]);dsimp only;obtain ⟨x0,x1,x2,x3,x4⟩:=O2.out.box.get5;have sf2:∀ j,v1.frozen? ⟨w.heap.size,j,none⟩=false:=O2.out.soft;have hlt2:=O2.out.box.1;(go_wp2_with fail);refine zP ?_;intro w9 hw9;(have O9:Own w.heap.size w9 w.heap.size (xD.cells):=by rw [hw9]; exact O2.out.set5 _ _ _ _ _);(have B9:Below w.heap.size w w9:=by rw [hw9]; exact re HB.out (Nat.le_refl _) _ _ _ _ _);clear hw9;obtain ⟨k0,k1,k2,k3,k4⟩:=O9.box.get5;refine bodyPost_ret (v := .tuple #[xD.val,.bool false]) (by simp [results,Tryz.results239,go_sem,k0,k1,k2,k3,k4,xD]) rfl ?_;rw [HNO.out];exact ⟨xD,rfl,fun u h=>(by cases h),B9⟩
     ·have HOK2:=hid (show okN xs (k+1) from fun j hj=>by
       rcases Nat.lt_or_ge j k with h | h
       ·exact HOK.out j h
       ·obtain rfl:j=k:=by omega
        rw [HNUM.out])
      obtain ⟨y0,y1,y2⟩:=(⟨O4.out.box.2 0 _ rfl,O4.out.box.2 1 _ rfl,O4.out.box.2 2 _ rfl⟩:v1.cell? ⟨w.heap.size+1,0,none⟩=some (.int .i64 (zX xs k 0))∧v1.cell? ⟨w.heap.size+1,1,none⟩=some (.int .i64 (zX xs k 1))∧v1.cell? ⟨w.heap.size+1,2,none⟩=some (.int .i64 (zX xs k 2)));have sf4:∀ j,v1.frozen? ⟨w.heap.size+1,j,none⟩=false:=O4.out.soft;have hlt4:=O4.out.box.1;dsimp only;rcases hk3 with rfl | rfl | rfl
      ·have HE:=hid (show zX xs 1 0=i0∧zX xs 1 1=zX xs 0 1∧zX xs 1 2=zX xs 0 2 by
        (have e0:zX xs 1 0=i0:=by simp only [zX]; rw [if_pos (by decide),HNUM.out]);(have e1:zX xs 1 1=zX xs 0 1:=by simp [zX]);have e2:zX xs 1 2=zX xs 0 2:=by simp [zX]
        exact ⟨e0,e1,e2⟩)
       (go_wp2_with fail);go_roundw
       case rel =>
        refine ⟨1,by go_num,by omega,HOK2,hid ?_,hid (O2.out.other hne24 _),hid (fun j hj=>(vF hne9 _).trans (HC.out j hj)),by rw [World.size_setCell]; exact hg9,hid (zR HB.out hl24 _)⟩;rw [HE.out.1,HE.out.2.1,HE.out.2.2];exact O4.out.put (j:=0) (by simp) _
       case measure=>simp [intOf]; omega
      ·have HE:=hid (show zX xs 2 0=zX xs 1 0∧zX xs 2 1=i0∧zX xs 2 2=zX xs 1 2 by
        (have e0:zX xs 2 0=zX xs 1 0:=by simp [zX]);(have e1:zX xs 2 1=i0:=by simp only [zX]; rw [if_pos (by decide),HNUM.out]);have e2:zX xs 2 2=zX xs 1 2:=by simp [zX]
        exact ⟨e0,e1,e2⟩)
       (go_wp2_with fail);go_roundw
       case rel =>
        refine ⟨2,by go_num,by omega,HOK2,hid ?_,hid (O2.out.other hne24 _),hid (fun j hj=>(vF hne9 _).trans (HC.out j hj)),by rw [World.size_setCell]; exact hg9,hid (zR HB.out hl24 _)⟩;rw [HE.out.1,HE.out.2.1,HE.out.2.2];exact O4.out.put (j:=1) (by simp) _
       case measure=>simp [intOf]; omega
      ·have HE:=hid (show zX xs 3 0=zX xs 2 0∧zX xs 3 1=zX xs 2 1∧zX xs 3 2=i0 by
        (have e0:zX xs 3 0=zX xs 2 0:=by simp [zX]);(have e1:zX xs 3 1=zX xs 2 1:=by simp [zX]);have e2:zX xs 3 2=i0:=by simp only [zX]; rw [if_pos (by decide),HNUM.out]
        exact ⟨e0,e1,e2⟩)
       (go_wp2_with fail);go_roundw
       case rel =>
        refine ⟨3,by go_num,by omega,HOK2,hid ?_,hid (O2.out.other hne24 _),hid (fun j hj=>(vF hne9 _).trans (HC.out j hj)),by rw [World.size_setCell]; exact hg9,hid (zR HB.out hl24 _)⟩;rw [HE.out.1,HE.out.2.1,HE.out.2.2];exact O4.out.put (j:=2) (by simp) _
       case measure=>simp [intOf]; omega
    ·(obtain rfl:k=m:=by omega);(have hnl:¬ (k:Int) < (k:Int):=by omega);(go_wp2_with fail);go_meet
     case rel=>exact ⟨HOK,O4,O2,HB⟩
  case rest =>
   obtain ⟨HOK,O4,O2,HB⟩:=hcut
   have HYES:=hid (show no=some (zX xs m 0,zX xs m 1,zX xs m 2) by
    have h2:=Zp (ls:=xs) (by rw [HM.out]; exact hm3) (by rw [HM.out]; exact HOK.out);rw [HM.out] at h2
    rw [← HNO0.out,h2])
   generalize zX xs m 0=a0 at *;generalize zX xs m 1=a1 at *;generalize zX xs m 2=a2 at *;obtain ⟨y0,y1,y2⟩:=(⟨O4.out.box.2 0 _ rfl,O4.out.box.2 1 _ rfl,O4.out.box.2 2 _ rfl⟩:wc.cell? ⟨w.heap.size+1,0,none⟩=some (.int .i64 a0)∧wc.cell? ⟨w.heap.size+1,1,none⟩=some (.int .i64 a1)∧wc.cell? ⟨w.heap.size+1,2,none⟩=some (.int .i64 a2));have hlt4:=O4.out.box.1;obtain ⟨x0,x1,x2,x3,x4⟩:=O2.out.box.get5;have sf2:∀ j,wc.frozen? ⟨w.heap.size,j,none⟩=false:=O2.out.soft;have hlt2:=O2.out.box.1;(go_wp2_with fail);refine zP ?_;intro w9 hw9;(have O9:Own w.heap.size w9 w.heap.size (Ver.cells ⟨a0,a1,a2,⟨#[]⟩,⟨#[]⟩⟩):=by rw [hw9]; exact O2.out.set5 _ _ _ _ _);(have B9:Below w.heap.size w w9:=by rw [hw9]; exact re HB.out (Nat.le_refl _) _ _ _ _ _);clear hw9;obtain ⟨k0,k1,k2,k3,k4⟩:=O9.box.get5;refine bodyPost_ret (v := .tuple #[Ver.val ⟨a0,a1,a2,⟨#[]⟩,⟨#[]⟩⟩,.bool true]) (by simp [results,Tryz.results239,go_sem,k0,k1,k2,k3,k4,xD]) rfl ?_;rw [HYES.out];exact ⟨_,rfl,fun u h=>(by injection h with h; rw [← h]),B9⟩
def jE (op:Int) (rest s:List UInt8):Option CompL:=match uj op rest with
 | none=>none
 | some c=>if sL c&&(decide (zh c=s) || decide (zh c=94::s)) then some c else none
theorem ew (s:List UInt8):rJ s=jE (xZ s).1 (xZ s).2 s:=rfl
theorem iD {op:Int} {rest s:List UInt8} (h:uj op rest=none):jE op rest s=none:=by unfold jE; rw [h]
theorem iX {op:Int} {rest s:List UInt8} {c:CompL} (h:uj op rest=some c):jE op rest s=if sL c&&(decide (zh c=s) || decide (zh c=94::s)) then some c else none:=by unfold jE; rw [h]
theorem bO {c:CompL} (h:sL c=true):zh c≠[]:=by
 have m:=yY.1 h;rw [xA m,um];split
 ·obtain ⟨d,q,e,_⟩:=rX c;rw [e]; simp
 ·rename_i h9
  obtain ⟨d,q,e,_⟩:=pG m h9;rw [e]; simp
theorem dg (s:List UInt8):(xZ s).2.length≤s.length:=by
 rw [pq];split
 ·split<;>simp
 ·have:∀ l:List Int,(xu s l).2.length≤s.length:=by
   intro l;induction l with
   | nil=>simp [xu]
   | cons a l ih =>
    rw [xu];split
    ·simp only [List.length_drop]; omega
    ·exact ih
  exact this tv
theorem iP (s:ByteArray) (w:World) (hs:s.size≤20000):Calls Tryz.prog 204 #[.string s] w (Xp w (wH (bts s))):=by
 have HRO:=hid ((aM (bts s)).symm.trans (ew (bts s)));have HSP:=hid (fun u=>j6 s u (by omega));have hrl:=dg (bts s);rw [zF] at hrl;generalize wH (bts s)=ro at *;generalize xZ (bts s)=rs at *;obtain ⟨op,rest⟩:=rs;dsimp only at HRO HSP hrl;have HLS:=hid (show lsX op rest=if op=9 then (zO (zq 45 rest)).dropLast else zO (zq 45 rest) from rfl);have HBX:=hid (fI op rest);have HRN:=hid (fun h=>HRO.out.trans (iD h));have HRS:=hid (fun (c:CompL) (h:uj op rest=some c)=>HRO.out.trans (iX h));clear HRO;go_enter Tryz.func204,Tryz.ntmps204;(go_wp2_with fail);refine rx ?_;intro w1 hw1;have O2:=hid (show Own w.heap.size w1 w.heap.size xW by rw [hw1]; exact Own.new w xW 88 (Nat.le_refl _));have HB:=hid (show Below w.heap.size w w1 by rw [hw1]; exact zL _ _);clear hw1;refine (HSP.out w1).mono ?_;rintro _ w2 ⟨r,rfl,hr,hb⟩;have HR:=hid hr;have O2:=hid (O2.out.below hb);have HB:=hid (zC HB.out hb);clear hr hb HSP;(have hrs:r.size≤s.size:=by rw [← zF,HR.out]; exact hrl);have HPR:=hid (bP r w2 (by omega));rw [HR.out] at HPR;(go_wp2_with fail);refine HPR.out.mono ?_;rintro _ w3 ⟨ah,tl,rfl,hah,htl,n3,hw3⟩;have HAH:=hid hah;have HTL:=hid htl;(have hb3:Below w2.heap.size w2 w3:=by rw [hw3]; exact ij (Below.refl _ _) _);have O2:=hid (O2.out.below hb3);have HB:=hid (zC HB.out hb3)
 (have hahs:ah.size≤s.size:=by rw [← zF,hah]; have:=(qB 45 rest).1; omega);(have htls:tl.size≤s.size:=by rw [← zF,htl]; have:=(qB 45 rest).2; omega);clear hah htl hw3 hb3 HPR;have HSPL:=hid (rS ah w3 (by omega));rw [HAH.out] at HSPL;have hnb:=(zk 46 (bts ah) []).2;have hnp:=(zk 46 (bts ah) []).1;rw [HAH.out] at hnb hnp
 have hnb2:(zO (zq 45 rest)).length≤40000:=by
  (have h1:(zq 45 rest).length≤s.size:=by rw [← HAH.out,zF]; exact hahs);exact Nat.le_trans hnb (by omega)
 have hnp2:1≤(zO (zq 45 rest)).length:=hnp;clear hnb hnp;generalize zO (zq 45 rest)=ls at *;generalize hnl:ls.length=nl at *;have HNL:=hid hnl;clear hnl;have h2c:=O2.out.box.1;(go_wp2_with fail);refine HSPL.out.mono ?_;rintro _ w4 ⟨g9,cap,rfl,hg,hgl,hcap,hcell,hb⟩;rw [HNL.out] at hcap;rw [HNL.out];have HH:=hid (show Held w4 g9 ls from ⟨hgl,hcell⟩);have O2:=hid (O2.out.below hb);have HB:=hid (zC HB.out hb);clear hg hgl hcell hb HSPL;(go_upto_if 26 with fail);go_cut [8] from 26 to 63 (fun lv wx=>∃ m:Nat,lv = .slice (some ⟨g9,0,none⟩) m cap∧m≤nl∧Hid ((lsX op rest).length=m)∧Hid (∀ j,j < m→w4.cell? ⟨g9,j,none⟩=some (.string (xP ((lsX op rest).getD j []))))∧wx=w4)
 case first =>
  by_cases h9:op=9
  ·rw [show (op==9)=true by simp [h9]];(have hlsx:lsX op rest=ls.dropLast:=by rw [HLS.out,if_pos h9]);have HLSX:=hid hlsx;(have j0:(0:Int)≤(nl:Int) - 1:=by omega);(have j1:(nl:Int) - 1≤(nl:Int):=by omega);clear h9 hlsx;(go_wp2_with fail);go_meet
   case rel =>
    refine ⟨nl - 1,rfl,by omega,hid (by rw [HLSX.out,List.length_dropLast,HNL.out]),hid (fun j hj=>?_),rfl⟩;have:=HH.out.2 j (by rw [HNL.out]; omega);rw [this,HLSX.out,List.getD_eq_getElem?_getD,List.getD_eq_getElem?_getD,List.getElem?_dropLast,if_pos (by rw [HNL.out]; omega)];rfl
  ·rw [show (op==9)=false by simp [h9]];(have hlsx:lsX op rest=ls:=by rw [HLS.out,if_neg h9]);have HLSX:=hid hlsx;clear h9 hlsx;(go_wp2_with fail);go_meet
   case rel=>exact ⟨nl,rfl,Nat.le_refl _,hid (by rw [HLSX.out]; exact HNL.out),hid (fun j hj=>by rw [HLSX.out]; exact HH.out.2 j (by rw [HNL.out]; exact hj)),rfl⟩
 case rest =>
  obtain ⟨m,rfl,hmn,HM,HC,hwx⟩:=hcut;subst hwx;have HNX:=hid (Zi g9 cap (lsX op rest) wc (fun j hj=>HC.out j (by rw [← HM.out]; exact hj)) HH.out.1 (by rw [HM.out]; omega) (by rw [HM.out]; omega));rw [HM.out] at HNX
  have HMK:=hid (show uj op rest=match vp (lsX op rest) with
   | none=>none
   | some n=>some ⟨op,(m:Int),⟨n.1,n.2.1,n.2.2,xP (xq 45 rest),xP []⟩⟩ by
   rw [HBX.out,kC]
   cases vp (lsX op rest) with
   | none=>rfl
   | some n=>simp only [HM.out])
  have HTB:=hid (show xP (xq 45 rest)=tl by rw [← HTL.out,sY]);rw [HTB.out] at HMK;clear HLS HBX HM HC HH HNL;generalize vp (lsX op rest)=no at *;generalize uj op rest=bo at *;(go_wp2_with fail);refine HNX.out.mono ?_;rintro _ w5 ⟨v,rfl,hv,hb⟩;have HV:=hid hv;have O2:=hid (O2.out.below hb);have HB:=hid (zC HB.out hb);clear hv hb HNX;generalize his:no.isSome=is at *;have HIS:=hid his;clear his;(go_upto_region 7 with fail);refine zI ?_;intro w6 hw6;have h25:w.heap.size < w5.heap.size:=O2.out.box.1;have O9:=hid (show Own w.heap.size w6 w5.heap.size v.cells by rw [hw6]; exact Own.new w5 v.cells 27 HB.out.size);have O2:=hid (show Own w.heap.size w6 w.heap.size xW by rw [hw6]; exact O2.out.alloc _);have HB:=hid (show Below w.heap.size w w6 by rw [hw6]; exact zC HB.out (zL _ _));clear hw6;generalize w5.heap.size=gv at *;cases is
  ·have HNO:=hid (show ro=none from HRN.out (by
    rw [HMK.out];cases no with
    | none=>rfl
    | some x=>have:=HIS.out; cases this))
   obtain ⟨x0,x1,x2,x3,x4,x5,x6⟩:=O2.out.box.get7;have sf2:∀ j,w6.frozen? ⟨w.heap.size,j,none⟩=false:=O2.out.soft;have hlt2:=O2.out.box.1;(go_wp2_with fail);refine zP ?_;intro w9 hw9;(have O9:Own w.heap.size w9 w.heap.size (xW):=by rw [hw9]; exact O2.out.set7 _ _ _ _ _ _ _);(have B9:Below w.heap.size w w9:=by rw [hw9]; exact ze HB.out (Nat.le_refl _) _ _ _ _ _ _ _);clear hw9;obtain ⟨k0,k1,k2,k3,k4,k5,k6⟩:=O9.box.get7;refine bodyPost_ret (v := .tuple #[wl.val,.int .i64 6]) (by simp [results,Tryz.results204,go_sem,k0,k1,k2,k3,k4,k5,k6,wl,xD]) rfl ?_;rw [HNO.out];exact ta B9
  ·have HSOME:Hid (∃ n:Int × Int × Int,no=some n):=hid (by
    cases no with
    | none=>have:=HIS.out; cases this
    | some x=>exact ⟨x,rfl⟩)
   obtain ⟨⟨a0,a1,a2⟩,hno⟩:=HSOME.out;have hv2:=HV.out _ hno;simp only at hv2;have HBO:=hid (show bo=some ⟨op,(m:Int),⟨a0,a1,a2,tl,⟨#[]⟩⟩⟩ by rw [HMK.out,hno]; rfl);subst hv2;clear hno HMK HIS HV HSOME;have HRC:=hid (HRS.out _ HBO.out);clear HRS HBO HRN;obtain ⟨y0,y1,y2,y3,y4⟩:=O9.out.box.get5;have sf9:∀ j,w6.frozen? ⟨gv,j,none⟩=false:=O9.out.soft;have hlt9:=O9.out.box.1;(go_upto_region 10 with fail);refine zI ?_;intro w7 hw7;have O9:=hid (show Own w.heap.size w7 gv (Ver.cells ⟨a0,a1,a2,tl,⟨#[]⟩⟩) by rw [hw7]; exact O9.out.put (j:=3) (by simp) _);have O2:=hid (show Own w.heap.size w7 w.heap.size xW by rw [hw7]; exact O2.out.other (Nat.ne_of_lt h25) _);have HB:=hid (show Below w.heap.size w w7 by rw [hw7]; exact zR HB.out O9.out.low _);clear hw7 y0 y1 y2 y3 y4 sf9 hlt9;obtain ⟨y0,y1,y2,y3,y4⟩:=O9.out.box.get5;have hlt9:=O9.out.box.1;have HPX:=hid (fun u=>sI ⟨op,(m:Int),⟨a0,a1,a2,tl,⟨#[]⟩⟩⟩ u ⟨by simp only; omega,Nat.zero_le _⟩);(go_wp2_with fail);refine rx ?_;intro w8 hw8;have O11:=hid (show Own w.heap.size w8 w7.heap.size (CompL.cells ⟨op,(m:Int),⟨a0,a1,a2,tl,⟨#[]⟩⟩⟩) by rw [hw8]; exact Own.new w7 (CompL.cells ⟨op,(m:Int),⟨a0,a1,a2,tl,⟨#[]⟩⟩⟩) 88 HB.out.size);have O2:=hid (show Own w.heap.size w8 w.heap.size xW by rw [hw8]; exact O2.out.alloc _);have HB:=hid (show Below w.heap.size w w8 by rw [hw8]; exact zC HB.out (zL _ _))
   clear hw8 y0 y1 y2 y3 y4 hlt9;generalize w7.heap.size=gc at *;refine (HPX.out _).mono ?_;rintro _ wd ⟨tx,rfl,htx,hb⟩;have HTX:=hid htx;have O2:=hid (O2.out.below hb);have O11:=hid (O11.out.below hb);have HB:=hid (zC HB.out hb);clear htx hb HPX;have HPN:=hid (fun h=>bO (c:=⟨op,(m:Int),⟨a0,a1,a2,tl,⟨#[]⟩⟩⟩) h);have HPM:=hid (show sL ⟨op,(m:Int),⟨a0,a1,a2,tl,⟨#[]⟩⟩⟩=false→zh ⟨op,(m:Int),⟨a0,a1,a2,tl,⟨#[]⟩⟩⟩=[] from fun h=>by rw [zh,h]; rfl);rw [← HTX.out] at HRC HPN HPM;generalize sL ⟨op,(m:Int),⟨a0,a1,a2,tl,⟨#[]⟩⟩⟩=mx at *;have h94:=b94 s;have H94:=hid h94;clear h94;rcases xy tx with ⟨e4,n4⟩ | e4
   ·have HMX:=hid (show mx=true by
     cases mx
     ·exact absurd (HPM.out rfl) n4
     ·rfl)
    by_cases h1:tx=s
    ·(have d1:(tx.toList==s.toList)=true:=by rw [h1]; exact beq_self_eq_true _);have HYES:=hid (show ro=some ⟨op,(m:Int),⟨a0,a1,a2,tl,⟨#[]⟩⟩⟩ by rw [HRC.out,HMX.out,h1]; simp);clear h1;obtain ⟨y0,y1,y2,y3,y4,y5,y6⟩:=O11.out.box.get7;have hlt11:=O11.out.box.1;obtain ⟨x0,x1,x2,x3,x4,x5,x6⟩:=O2.out.box.get7;have sf2:∀ j,wd.frozen? ⟨w.heap.size,j,none⟩=false:=O2.out.soft;have hlt2:=O2.out.box.1;(go_wp2_with fail);refine zP ?_;intro w9 hw9;(have O9:Own w.heap.size w9 w.heap.size (CompL.cells ⟨op,(m:Int),⟨a0,a1,a2,tl,⟨#[]⟩⟩⟩):=by rw [hw9]; exact O2.out.set7 _ _ _ _ _ _ _);(have B9:Below w.heap.size w w9:=by rw [hw9]; exact ze HB.out (Nat.le_refl _) _ _ _ _ _ _ _);clear hw9;obtain ⟨k0,k1,k2,k3,k4,k5,k6⟩:=O9.box.get7;refine bodyPost_ret (v := .tuple #[CompL.val ⟨op,(m:Int),⟨a0,a1,a2,tl,⟨#[]⟩⟩⟩,.int .i64 0]) (by simp [results,Tryz.results204,go_sem,k0,k1,k2,k3,k4,k5,k6,wl,xD]) rfl ?_;rw [HYES.out];exact ⟨_,rfl,fun u h=>(by injection h),B9⟩
    ·have d1:(tx.toList==s.toList)=false:=by
      rw [Bool.eq_false_iff];intro e;exact h1 (xE (by simpa using e))
     have hz94:(⟨#[94]⟩:ByteArray).size=1:=rfl;by_cases h2:tx=(⟨#[94]⟩:ByteArray)++s
     ·(have d2:(tx.toList==((⟨#[94]⟩:ByteArray)++s).toList)=true:=by rw [← h2]; exact beq_self_eq_true _);have HYES:=hid (show ro=some ⟨op,(m:Int),⟨a0,a1,a2,tl,⟨#[]⟩⟩⟩ by rw [HRC.out,HMX.out,h2,H94.out]; simp);clear h1 h2;obtain ⟨y0,y1,y2,y3,y4,y5,y6⟩:=O11.out.box.get7;have hlt11:=O11.out.box.1;obtain ⟨x0,x1,x2,x3,x4,x5,x6⟩:=O2.out.box.get7;have sf2:∀ j,wd.frozen? ⟨w.heap.size,j,none⟩=false:=O2.out.soft;have hlt2:=O2.out.box.1;(go_wp2_with fail);refine zP ?_;intro w9 hw9;(have O9:Own w.heap.size w9 w.heap.size (CompL.cells ⟨op,(m:Int),⟨a0,a1,a2,tl,⟨#[]⟩⟩⟩):=by rw [hw9]; exact O2.out.set7 _ _ _ _ _ _ _);(have B9:Below w.heap.size w w9:=by rw [hw9]; exact ze HB.out (Nat.le_refl _) _ _ _ _ _ _ _);clear hw9;obtain ⟨k0,k1,k2,k3,k4,k5,k6⟩:=O9.box.get7;refine bodyPost_ret (v := .tuple #[CompL.val ⟨op,(m:Int),⟨a0,a1,a2,tl,⟨#[]⟩⟩⟩,.int .i64 0]) (by simp [results,Tryz.results204,go_sem,k0,k1,k2,k3,k4,k5,k6,wl,xD]) rfl ?_;rw [HYES.out];exact ⟨_,rfl,fun u h=>(by injection h),B9⟩
     ·have d2:(tx.toList==((⟨#[94]⟩:ByteArray)++s).toList)=false:=by
       rw [Bool.eq_false_iff];intro e;exact h2 (xE (by simpa using e))
      have HNO:=hid (show ro=none by
       rw [HRC.out,if_neg];rw [← H94.out];simp only [Bool.and_eq_true,Bool.or_eq_true,decide_eq_true_eq,not_and,not_or]
       exact fun _=>⟨fun e=>h1 (xE e),fun e=>h2 (xE e)⟩)
      clear h1 h2;obtain ⟨x0,x1,x2,x3,x4,x5,x6⟩:=O2.out.box.get7;have sf2:∀ j,wd.frozen? ⟨w.heap.size,j,none⟩=false:=O2.out.soft;have hlt2:=O2.out.box.1;(go_wp2_with fail);refine zP ?_;intro w9 hw9;(have O9:Own w.heap.size w9 w.heap.size (xW):=by rw [hw9]; exact O2.out.set7 _ _ _ _ _ _ _);(have B9:Below w.heap.size w w9:=by rw [hw9]; exact ze HB.out (Nat.le_refl _) _ _ _ _ _ _ _);clear hw9;obtain ⟨k0,k1,k2,k3,k4,k5,k6⟩:=O9.box.get7;refine bodyPost_ret (v := .tuple #[wl.val,.int .i64 6]) (by simp [results,Tryz.results204,go_sem,k0,k1,k2,k3,k4,k5,k6,wl,xD]) rfl ?_;rw [HNO.out];exact ta B9
   ·have HNO:=hid (show ro=none by
     have:mx=false:=by
      cases mx
      ·rfl
      ·exact absurd e4 (HPN.out rfl)
     rw [HRC.out,this]; rfl)
    obtain ⟨x0,x1,x2,x3,x4,x5,x6⟩:=O2.out.box.get7;have sf2:∀ j,wd.frozen? ⟨w.heap.size,j,none⟩=false:=O2.out.soft;have hlt2:=O2.out.box.1;(go_wp2_with fail);refine zP ?_;intro w9 hw9;(have O9:Own w.heap.size w9 w.heap.size (xW):=by rw [hw9]; exact O2.out.set7 _ _ _ _ _ _ _);(have B9:Below w.heap.size w w9:=by rw [hw9]; exact ze HB.out (Nat.le_refl _) _ _ _ _ _ _ _);clear hw9;obtain ⟨k0,k1,k2,k3,k4,k5,k6⟩:=O9.box.get7;refine bodyPost_ret (v := .tuple #[wl.val,.int .i64 6]) (by simp [results,Tryz.results204,go_sem,k0,k1,k2,k3,k4,k5,k6,wl,xD]) rfl ?_;rw [HNO.out];exact ta B9
abbrev KB (B:Nat) (w w':World):Prop:=Go.RowKit.Below B w w'
def und (w:World):World:={ w with drawn:=0 }
theorem uf {B:Nat} {w w':World} (h:KB B w w'):Below B (und w) w':=⟨⟨h.os,h.tape,h.output,h.size,h.block⟩,Nat.zero_le _⟩
theorem Below.kb {B:Nat} {w w':World} (h:Below B w w'):KB B w w':=h.toBelow
theorem zA {w0 w1 w2:World} (h:KB w0.heap.size w0 w1) (k:KB w1.heap.size w1 w2):KB w0.heap.size w0 w2:=Go.RowKit.Below.trans h (Go.RowKit.Below.mono k h.size)
theorem zH (w:World):KB w.heap.size w w:=Go.RowKit.Below.refl _ _
theorem zG (w:World) (o:Obj):KB w.heap.size w (w.alloc o):=(zL w o).kb
theorem Box.kb {w w':World} {g:Nat} {cs:List Value} (h:Box w g cs) (hb:KB w.heap.size w w'):Box w' g cs:=Box.below (w:=und w) h (uf hb)
theorem Own.kb {B:Nat} {w w':World} {g:Nat} {cs:List Value} (h:Own B w g cs) (hb:KB w.heap.size w w'):Own B w' g cs:=Own.below (w:=und w) ⟨h.box,h.soft,h.low⟩ (uf hb)
theorem Laid.kb {w w':World} (h:Laid w) (hb:KB w.heap.size w w'):Laid w':=Laid.below (w:=und w) ⟨h.first,h.pow,h.maxl⟩ (uf hb)
theorem tG {w w':World} {base size n:Nat} {e:TypeId} {v:Value} {xs:List Value} (h:w.ownsRow base e size v n xs) (hb:KB w.heap.size w w'):w'.ownsRow base e size v n xs:=pC (w1:=und w) h (uf hb)
def yT (w:World) (b:Bool) (e:Ending) (w':World):Prop:=e = .returned (.bool b)∧KB w.heap.size w w'
def nM (w:World) (l:List UInt8) (e:Ending) (w':World):Prop:=∃ s:ByteArray,e = .returned (.string s)∧bts s=l∧KB w.heap.size w w'
def Lies {α:Type} (n:Nat) (f:α→List Value) (w:World) (A:Option Addr) (l:List α):Prop :=
 l=[]∨∃ b off,A=some ⟨b,off,none⟩∧b < w.heap.size∧∀ i (h:i < l.length) (j:Nat) (u:Value),(f l[i])[j]?=some u→w.cell? ⟨b,off+i * n+j,none⟩=some u
section
variable {α:Type} {n:Nat} {f:α→List Value} {w w':World} {A:Option Addr} {l:List α}
theorem Lies.below (h:Lies n f w A l) (hb:Below w.heap.size w w'):Lies n f w' A l:=by
 rcases h with h | ⟨b,off,rfl,hlt,hc⟩
 ·exact .inl h
 ·exact .inr ⟨b,off,rfl,Nat.lt_of_lt_of_le hlt hb.size,fun i hi j u hj=>(hb.cell (p:=⟨b,_,none⟩) hlt).trans (hc i hi j u hj)⟩
theorem Lies.kb (h:Lies n f w A l) (hb:KB w.heap.size w w'):Lies n f w' A l:=Lies.below (w:=und w) h (uf hb)
theorem Lies.at_ {k:Nat} (h:Lies n f w A l) (hk:k < l.length):∃ b off,A=some ⟨b,off,none⟩∧b < w.heap.size∧∀ (j:Nat) (u:Value),(f l[k])[j]?=some u→w.cell? ⟨b,off+k * n+j,none⟩=some u:=by
 rcases h with h | ⟨b,off,rfl,hlt,hc⟩
 ·subst h; simp at hk
 ·exact ⟨b,off,rfl,hlt,hc k hk⟩
theorem Lies.lay {b off k:Nat} (h:Lies n f w (some ⟨b,off,none⟩) l) (hk:k < l.length):b < w.heap.size∧∀ (j:Nat) (u:Value),(f l[k])[j]?=some u→w.cell? ⟨b,off+k * n+j,none⟩=some u:=by
 obtain ⟨b',off',e,h1,h2⟩:=h.at_ hk;(injection e with e);(injection e with e1 e2 e3);subst e1; subst e2;exact ⟨h1,h2⟩
end
abbrev rf (w:World) (A:Option Addr) (l:List CompL):Prop:=Lies 7 CompL.cells w A l
def Alts (w:World) (A:Option Addr) (r:List (List CompL)):Prop :=
 r=[]∨∃ b off,A=some ⟨b,off,none⟩∧b < w.heap.size∧∀ i (h:i < r.length),∃ Ai ci,w.cell? ⟨b,off+i,none⟩=some (.slice Ai r[i].length ci)∧rf w Ai r[i]
theorem Alts.below {w w':World} {A:Option Addr} {r:List (List CompL)} (h:Alts w A r) (hb:Below w.heap.size w w'):Alts w' A r:=by
 rcases h with h | ⟨b,off,rfl,hlt,hc⟩
 ·exact .inl h
 ·refine .inr ⟨b,off,rfl,Nat.lt_of_lt_of_le hlt hb.size,fun i hi=>?_⟩;obtain ⟨Ai,ci,h1,h2⟩:=hc i hi;exact ⟨Ai,ci,(hb.cell (p:=⟨b,_,none⟩) hlt).trans h1,h2.below hb⟩
theorem Alts.kb {w w':World} {A:Option Addr} {r:List (List CompL)} (h:Alts w A r) (hb:KB w.heap.size w w'):Alts w' A r:=Alts.below (w:=und w) h (uf hb)
theorem Alts.nil {w:World} {A:Option Addr}:Alts w A [] := .inl rfl
theorem Alts.at_ {w:World} {A:Option Addr} {r:List (List CompL)} {k:Nat} (h:Alts w A r) (hk:k < r.length) :
 ∃ b off Ai ci,A=some ⟨b,off,none⟩∧b < w.heap.size∧w.cell? ⟨b,off+k,none⟩=some (.slice Ai r[k].length ci)∧rf w Ai r[k]:=by
 rcases h with h | ⟨b,off,rfl,hlt,hc⟩
 ·subst h; simp at hk
 ·obtain ⟨Ai,ci,h1,h2⟩:=hc k hk;exact ⟨b,off,Ai,ci,rfl,hlt,h1,h2⟩
abbrev wL (A:Option Addr) (n c:Nat):Value := .agg #[.slice A n c]
def Z7 (r:List (List CompL)):Prop:=∀ a∈r,∀ c∈a,CompL.fit c
theorem oF (sep:List UInt8):∀ (ps:List (List UInt8)),Lib.join ps sep=zT sep ps
 | []=>rfl
 | [p]=>Lib.join_one p sep
 | p::q::r=>by
  have ih:=oF sep (q::r);rw [Lib.join_cons] at ih ⊢;rw [zT,← ih];simp [Lib.joinTail,Lib.join_cons]
theorem Tryz.extraJoin:Builder.Extra Tryz.prog Tryz.lays156_ren where
 sizeBuilder:=by kernel_rfl
 liesBuilder:=by kernel_rfl
 t5:=Tryz.underlying5
 a5:=Tryz.isAgg5
 z5:=Tryz.sizeOf5
 v5:=Tryz.zeroValue5
 infoByte:=by kernel_rfl
 cellsByte:=by kernel_rfl
 sizeByte:=by kernel_rfl
 neB5:=by decide
theorem oZ (g c:Nat) (ds:List ByteArray) (sep:ByteArray) (w:World) (hb:Box w g (ds.map Value.string)) (hc:ds.length≤c) (hn:ds.length≤1000000)
 (hlen:(zT (bts sep) (ds.map bts)).length≤140737488355328):Calls Tryz.prog 119 #[.slice (some ⟨g,0,none⟩) ds.length c,.string sep] w (nM w (zT (bts sep) (ds.map bts))):=by
 have e2:(bts:ByteArray→List UInt8)=fun x=>x.data.toList:=funext fun x=>by rw [bts,yX]
 have he:Lib.join (ds.map (·.data.toList)) sep.data.toList=zT (bts sep) (ds.map bts):=by rw [oF,e2]
 refine (Any.strings_Join Tryz.lays156 Tryz.extraJoin g 0 c ds sep w (fun j x hj=>?_) hb.1 (by omega) hc (by rw [he]; exact hlen)).mono ?_
 ·rw [Nat.zero_add];exact hb.2 j (.string x) (by rw [List.getElem?_map,hj]; rfl)
 ·rintro e w' ⟨rfl,h⟩;rw [he];exact ⟨_,rfl,zx _,h⟩
theorem xC (sep:List UInt8) (B:Nat):∀ (ps:List (List UInt8)),(∀ p∈ps,p.length≤B)→(zT sep ps).length≤(B+sep.length) * ps.length
 | [],_=>by simp [zT]
 | [p],h=>by
  have:=h p (by simp);simp only [zT,List.length_cons,List.length_nil,Nat.zero_add,Nat.mul_one]; omega
 | p::q::r,h=>by
  have h1:=h p (by simp);have h2:=xC sep B (q::r) (fun x hx=>h x (List.mem_cons_of_mem _ hx));(have e:(B+sep.length) * (p::q::r).length=(B+sep.length) * (q::r).length+(B+sep.length):=by rw [List.length_cons,Nat.mul_succ]);rw [e];simp only [zT,List.length_append];omega
theorem gb {v:Ver} (hm:yF v=true):(qU v).length≤37:=by
 obtain ⟨-,-,-,hp,-⟩:=yN hm;unfold qU;split
 ·simp
 ·rw [tI,Bool.or_eq_true] at hp;rcases hp with hp | hp
  ·exact absurd hp (by assumption)
  ·rw [fF,Bool.and_eq_true] at hp;have:=qr hp.1;simp only [List.length_cons]; omega
theorem aQ {c:CompL} (h:MayX c):∀ w∈yS c,w.length≤4:=by
 obtain ⟨f1,f2,f3,-,-⟩:=yN h.v;intro w hw;have:=List.mem_of_mem_take hw;simp only [List.mem_cons,List.not_mem_nil,or_false] at this;rcases this with e | e | e<;>rw [e]<;>exact uA (by assumption)
theorem aa (c:CompL):(yS c).length≤3:=by unfold yS; rw [List.length_take]; simp; omega
theorem bm (op:Int):(yh op).length≤2:=by
 unfold yh; repeat' split
 all_goals simp
theorem rU (c:CompL):(zh c).length≤60:=by
 unfold zh;split
 ·rename_i hm
  have M:=yY.1 hm;have h1:=aQ M;have h2:=aa c;have h3:=gb M.v;have h4:=bm c.op;unfold um;split
  ·have:=xC [46] 4 (yS c++[[42]]) (fun p hp=>by
    rcases List.mem_append.1 hp with h | h
    ·exact h1 p h
    ·simp only [List.mem_singleton] at h; rw [h]; decide)
   rw [List.length_append] at this;simp only [List.length_cons,List.length_nil] at this;omega
  ·have:=xC [46] 4 (yS c) h1;simp only [List.length_append,List.length_cons,List.length_nil] at this ⊢;omega
 ·simp
theorem fN (a:List CompL):(l9 a).length≤62 * a.length:=by
 have:=xC [44,32] 60 (a.map zh) (fun p hp=>by
  obtain ⟨c,-,rfl⟩:=List.mem_map.1 hp
  exact rU c)
 rw [List.length_map] at this;exact this
theorem dc {r:List (List CompL)} (h:∀ a∈r,a.length≤6):(xd r).length≤376 * r.length:=by
 have:=xC [32,124,124,32] 372 (r.map l9) (fun p hp=>by
  obtain ⟨a,ha,rfl⟩:=List.mem_map.1 hp;have:=fN a;have:=h a ha
  omega)
 rw [List.length_map] at this;exact this
def jt (sep:List UInt8) (l:List (List UInt8)) (k:Nat):List UInt8:=zT sep (l.take k)
theorem V6 (sep:List UInt8) (l:List (List UInt8)):jt sep l 0=[]:=rfl
theorem XY (sep:List UInt8) (l:List (List UInt8)):jt sep l l.length=zT sep l:=by rw [jt,List.take_length]
theorem l5 (sep:List UInt8) (x:List UInt8):∀ (l:List (List UInt8)),l≠[]→zT sep (l++[x])=zT sep l++(sep++x)
 | [],h=>absurd rfl h
 | [p],_=>by simp [zT]
 | p::q::r,_=>by
  have ih:=l5 sep x (q::r) (by simp);show p++sep++zT sep ((q::r)++[x])=p++sep++zT sep (q::r)++(sep++x);rw [ih]; simp
theorem Z1 (sep:List UInt8) {l:List (List UInt8)} {k:Nat} (h:k < l.length):jt sep l (k+1)=(jt sep l k++if 0 < k then sep else [])++l[k]:=by
 unfold jt;rw [List.take_succ_eq_append_getElem h];rcases Nat.eq_zero_or_pos k with rfl | h0
 ·simp [zT]
 ·rw [if_pos h0,l5 sep _ _ (fun e=>by have:=congrArg List.length e; rw [List.length_take,List.length_nil] at this; omega)]; simp
end Go.Proofs.YtiebekmefjbenaaGreatDoor
