import Derived.Deep.RegionLaw
import Derived.Test.YtiffijoenkcpjaaGreatDoorYJb
set_option linter.unusedVariables false
set_option linter.unusedSimpArgs false
set_option maxRecDepth 100000
set_option maxHeartbeats 2000000
namespace Go.Proofs.YtiffijoenkcpjaaGreatDoor
open Go.RowKit Go.Lib
theorem VT (n:NodeL):n.cells.length=5:=rfl
theorem V4 (n:NodeL):∀ u∈n.cells,u.oneCell'=true:=by
 intro u hu;simp only [NodeL.cells,List.mem_cons,List.not_mem_nil,or_false] at hu;rcases hu with rfl | rfl | rfl | rfl | rfl<;>rfl
theorem Tryz.info278:(Tryz.prog.info? 278).map (fun i=>(i.zero,i.size,i.bytes))=some (some (NodeL.val ⟨0,0,0,0,zc⟩),5,48):=by kernel_rfl
theorem Zt:EK Tryz.prog 205 278 5 48 := .mk' _ Tryz.underlying205 Tryz.info278 rfl (by omega)
theorem yV {w w1:World} (h:KB w.heap.size w w1) {k j:Nat} (hk:w.heap.size≤k) (v:Value):KB w.heap.size w (w1.setCell ⟨k,j,none⟩ v):=Go.RowKit.Below.setCell h (p:=⟨k,j,none⟩) hk v
structure PS (w0 w:World) (ws:List ByteArray) (ns:List NodeL) (bad:Bool):Prop where
 kb:KB w0.heap.size w0 w
 st:∃ A c v,Own w0.heap.size w w0.heap.size [.slice A ws.length c,v,.bool bad]∧Texts w0 A ws∧ws.length≤c∧OwnL 278 5 NodeL.cells w (w0.heap.size+1) v ns
abbrev cI (w0:World):Value := .pointer (some ⟨w0.heap.size,0,none⟩)
def wU:List ByteArray→ByteArray
 | []=>zc
 | x::_=>x
theorem cN (w0 w:World) (ws:List ByteArray) (ns:List NodeL) (bad:Bool) (h:PS w0 w ws ns bad) (hn:ws.length≤1000000):Calls Tryz.prog 232 #[cI w0] w fun e w'=>e = .returned (.string (wU ws))∧w=w':=by
 obtain ⟨A,c,v,ho,ht,hc,-⟩:=h.st;have x0:=ho.box.2 0 _ rfl;have xl:=ho.box.1
 match ws,ht,hc,hn with
 | [],_,_,_ =>
  go_enter Tryz.func232,Tryz.ntmps232;(go_wp2_with fail);go_ret;exact ⟨rfl,rfl⟩
 | x::ws,ht,hc,hn =>
  obtain ⟨b,off,hA,hbl,hcell⟩:=Texts.cell (ht.kb h.kb) (k:=0) (by simp);subst hA;simp only [Nat.add_zero,List.getElem_cons_zero] at hcell;(have hl:((x::ws).length:Int)=(ws.length:Int)+1:=by simp);generalize hw:(x::ws).length=n at *;(have hn0:(0:Int) < (n:Int):=by omega);(have hne:((n:Int)==0)=false:=by rw [beq_eq_false_iff_ne]; omega);go_enter Tryz.func232,Tryz.ntmps232;(go_wp2_with fail);go_ret;exact ⟨rfl,rfl⟩
theorem tc {w:World} {p j:Nat} {v x:Value} {ns:List NodeL} (h:OwnL 278 5 NodeL.cells w (p+1) v ns):OwnL 278 5 NodeL.cells (w.setCell ⟨p,j,none⟩ x) (p+1) v ns :=
 oR (o:=j) (vs:=[x]) h (fun e=>by have:=(h.lt _ e).1; omega)
theorem PS.worse {w0 w:World} {ws:List ByteArray} {ns:List NodeL} {bad:Bool} (h:PS w0 w ws ns bad):PS w0 (w.setCell ⟨w0.heap.size,2,none⟩ (.bool true)) ws ns true:=by
 obtain ⟨A,c,v,ho,ht,hc,hv⟩:=h.st;exact ⟨yV h.kb (Nat.le_refl _) _,A,c,v,by simpa using ho.put (j:=2) (by simp) (.bool true),ht,hc,tc hv⟩
theorem PS.next {w0 w:World} {x:ByteArray} {ws:List ByteArray} {ns:List NodeL} {bad:Bool} {A:Option Addr} {c c':Nat} {A':Option Addr} {v:Value} (h:PS w0 w (x::ws) ns bad)
 (ho:Own w0.heap.size w w0.heap.size [.slice A (x::ws).length c,v,.bool bad]) (hv:OwnL 278 5 NodeL.cells w (w0.heap.size+1) v ns) (ht:Texts w0 A' ws) (hc:ws.length≤c') :
 PS w0 (w.setCell ⟨w0.heap.size,0,none⟩ (.slice A' ws.length c')) ws ns bad :=
 ⟨yV h.kb (Nat.le_refl _) _,A',c',v,by simpa using ho.put (j:=0) (by simp) (.slice A' ws.length c'),ht,hc,tc hv⟩
theorem eT {w:World} {b off:Nat} {x:ByteArray} {l:List ByteArray} (h:Texts w (some ⟨b,off,none⟩) (x::l)):Texts w (some ⟨b,off+1,none⟩) l:=by
 rcases h with h | ⟨b',off',e,hl,hc⟩
 ·cases h
 ·(injection e with e);(injection e with e1 e2 e3);subst e1; subst e2;refine .inr ⟨b,off+1,rfl,hl,fun i hi=>?_⟩;have:=hc (i+1) (by simpa using hi);simp only [Nat.mul_one,List.getElem_cons_succ] at this ⊢
  rwa [show off+1+i=off+(i+1) by omega]
theorem Y2 (w0 w:World) (ws:List ByteArray) (ns:List NodeL) (bad:Bool) (h:PS w0 w ws ns bad) (hn:ws.length≤1000000):Calls Tryz.prog 233 #[cI w0] w fun e w' =>
 e = .returned (.string (wU ws))∧if bts (wU ws)=[] then PS w0 w' ws ns true else PS w0 w' ws.tail ns bad:=by
 have HN:=hid (cN w0 w ws ns bad h hn)
 have HP:=hid h
 obtain ⟨A,c,v,ho,ht,hc,hv⟩:=h.st
 have HO:=hid ho
 have HV:=hid hv
 have HT:=hid ht
 have x0:=ho.box.2 0 _ rfl
 have x2:=ho.box.2 2 _ rfl
 have sf:∀ j,w.frozen? ⟨w0.heap.size,j,none⟩=false:=ho.soft
 have xl:=ho.box.1
 clear ho ht hv
 by_cases he:bts (wU ws)=[]
 ·have he2:(wU ws).toList=[]:=he;(have he3:((wU ws).toList==([]:List UInt8))=true:=by rw [he2]; rfl);go_enter Tryz.func233,Tryz.ntmps233;(go_wp2_with fail);refine HN.out.mono ?_;rintro _ _ ⟨rfl,rfl⟩;(go_wp2_with fail);go_ret;exact ⟨by rw [show wU ws=⟨#[]⟩ from xE (by rw [he]; exact mi.symm)]; rfl,by first | (rw [if_pos he]; exact HP.out.worse) | exact HP.out.worse⟩
 ·rcases ws with _ | ⟨x,ws⟩
  ·exact absurd mi he
  ·simp only [wU] at he HN;obtain ⟨b,off,hA,-,-⟩:=Texts.cell HT.out (k:=0) (by simp);subst hA;have he2:x.toList≠[]:=he;(have he3:(x.toList==([]:List UInt8))=false:=by simpa using he2);have hl:(x::ws).length=ws.length+1:=rfl;have HNX:=hid (fun A' c' (hA':Texts w0 A' ws) (hc':ws.length≤c')=>HP.out.next HO.out HV.out hA' hc');have HTT:=hid (eT HT.out);have HZ:=hid (fun (h0:ws.length=0) (A':Option Addr)=>show Texts w0 A' ws from .inl (List.eq_nil_of_length_eq_zero h0));have hc1:ws.length+1≤c:=hc;have hem:¬ bts (wU (x::ws))=[]:=he;rw [hl] at x0;clear HO hc hl hn he2 h;generalize ws.length=n at *;(have i1:(1:Int)≤(n:Int)+1:=by omega);(have i2:(n:Int)+1≤(c:Int):=by omega);by_cases hc2:c=1
   ·(obtain rfl:n=0:=by omega);subst hc2;go_enter Tryz.func233,Tryz.ntmps233;(go_wp2_with fail);refine HN.out.mono ?_;rintro _ _ ⟨rfl,rfl⟩;(go_wp2_with fail);refine zP ?_;intro w9 hw9;go_ret;exact ⟨rfl,by first | (rw [if_neg hem,hw9]; exact HNX.out _ _ (HZ.out (by first | rfl | trivial) _) (Nat.le_refl _)) | (rw [hw9]; exact HNX.out _ _ (HZ.out (by first | rfl | trivial) _) (Nat.le_refl _))⟩
   ·go_enter Tryz.func233,Tryz.ntmps233;(go_wp2_with fail);refine HN.out.mono ?_;rintro _ _ ⟨rfl,rfl⟩;(go_wp2_with fail);refine zP ?_;intro w9 hw9;go_ret;exact ⟨rfl,by first | (rw [if_neg hem,hw9]; exact HNX.out _ _ HTT.out (by omega)) | (rw [hw9]; exact HNX.out _ _ HTT.out (by omega))⟩
theorem XP {F:World→Prop} {w:World} (h:∀ w',w'=w→F w'):F w:=h w rfl
theorem PS.on {w0 w w':World} {ws:List ByteArray} {ns:List NodeL} {bad:Bool} (h:PS w0 w ws ns bad) (hb:KB w.heap.size w w'):PS w0 w' ws ns bad:=by
 obtain ⟨A,c,v,ho,ht,hc,hv⟩:=h.st;exact ⟨zA h.kb hb,A,c,v,ho.kb hb,ht,hc,hv.kb hb⟩
theorem mv {B B0:Nat} {w w':World} {g:Nat} {cs:List Value} (h:Own B0 w g cs) (hg:g < B) (hb:KB B w w'):Own B0 w' g cs :=
 ⟨⟨Nat.lt_of_lt_of_le h.box.1 hb.size,fun j u hj=>(Go.RowKit.Below.cell hb (p:=⟨g,j,none⟩) hg).trans (h.box.2 j u hj)⟩,fun j=>(Go.RowKit.Below.frozen hb (p:=⟨g,j,none⟩) hg).trans (h.soft j),h.low⟩
theorem V0 (w:World) (n:NodeL) (T:TypeId):tw (w.alloc (.cells n.cells.toArray T)) (some ⟨w.heap.size,0,none⟩) 1 5 n.cells:=by
 refine ⟨rfl,(fun h=>by cases h),fun ad h j u hj=>?_⟩;(injection h with h);subst h;have:=(Box.new w n.cells T).2 j u hj;unfold Addr.add;split
 ·rename_i e; subst e; exact this
 ·simpa using this
theorem sy (w0 w:World) (ws:List ByteArray) (ns:List NodeL) (bad:Bool) (n:NodeL) (h:PS w0 w ws ns bad) (hn:ns.length≤1000000):Calls Tryz.prog 234 #[cI w0,n.val] w fun e w' =>
 e = .returned (.int .i64 ns.length)∧PS w0 w' ws (ns++[n]) bad:=by
 have HP:=hid h
 clear h
 go_enter Tryz.func234,Tryz.ntmps234
 go_upto_region 1 with fail
 refine zI ?_
 intro u1 hu
 have HX:=hid (show Box u1 w.heap.size n.cells by rw [hu]; exact Box.new w n.cells 278)
 have HP:=hid (HP.out.on (show KB w.heap.size w u1 by rw [hu]; exact zG _ _))
 clear hu
 generalize w.heap.size=g at *
 obtain ⟨A,c,v,ho,ht,hc,hv⟩:=HP.out.st
 have HV:=hid hv
 have x1:=ho.box.2 1 _ rfl
 have sf:∀ j,u1.frozen? ⟨w0.heap.size,j,none⟩=false:=ho.soft
 have xl:=ho.box.1
 have y0:=HX.out.2 0 _ rfl
 have y1:=HX.out.2 1 _ rfl
 have y2:=HX.out.2 2 _ rfl
 have y3:=HX.out.2 3 _ rfl
 have y4:=HX.out.2 4 _ rfl
 have yl:=HX.out.1
 have hsz:w0.heap.size+1≤u1.heap.size:=xl
 have HO:=hid ho
 have HT:=hid ht
 clear ho ht hv
 have S1:=hid (show ns.length+1≤maxLen by unfold maxLen; omega)
 have S2:=hid (show (ns.length+1) * 48≤140737488355328 by omega)
 have S3:=hid (show w0.heap.size+1≤(u1.drew.alloc (.cells n.cells.toArray 278)).heap.size by rw [World.size_alloc]; show w0.heap.size+1≤u1.heap.size+1; omega)
 have S4:=hid (V0 u1.drew n 278)
 have S5:=hid (World.ownsRow.alloc (show u1.drew.ownsRow (w0.heap.size+1) 278 5 v ns.length (ns.flatMap NodeL.cells) from HV.out) (.cells n.cells.toArray 278))
 have HKW:=hid (show KB u1.heap.size u1 (u1.alloc (.cells n.cells.toArray 278)).drew from (Below.drew (zL _ _)).kb)
 have HOW:=hid (HO.out.kb HKW.out)
 go_region_law (refine hU Zt (.tmp 9) (.tmp 11) rfl rfl S5.out rfl S4.out (V4 n) S1.out S2.out S3.out ?_; intro v' w' h2 h3 h4; obtain ⟨A9,c9,rfl⟩:=xr h2; have HO2:=hid (mv HOW.out (Nat.lt_succ_self _) h3.kb); have z1:=HO2.out.box.2 1 _ rfl; have zf:∀ j,w'.frozen? ⟨w0.heap.size,j,none⟩=false:=HO2.out.soft; have zl:=HO2.out.box.1)
 all_goals
  refine XP ?_;intro w9 hw9;have kw:KB w0.heap.size w0 w':=Go.RowKit.Below.trans (zA HP.out.kb HKW.out) (Go.RowKit.Below.mono h3.kb (Nat.le_succ _))
  have H9:=hid (show PS w0 w9 ws (ns++[n]) bad by
   rw [hw9]
   exact ⟨yV kw (Nat.le_refl _) _,A,c,_,by simpa using HO2.out.put (j:=1) (by simp) (.slice A9 (ns.length+1) c9),HT.out,hc,tc (OwnL.snoc h2)⟩)
  have HO9:=hid (show Own w0.heap.size w9 w0.heap.size [.slice A ws.length c,.slice A9 (ns.length+1) c9,.bool bad] by
   rw [hw9]; simpa using HO2.out.put (j:=1) (by simp) (.slice A9 (ns.length+1) c9))
  clear hw9 h2 h3 h4 z1 zf zl x1 sf xl y0 y1 y2 y3 y4 yl S1 S2 S3 S4 S5 HKW HOW HO HV kw HO2;have z1:=HO9.out.box.2 1 _ rfl;have zl:=HO9.out.box.1;generalize hm:ns.length=m at *;(go_wp2_with fail);go_ret;exact ⟨by first | (rw [hm]; done) | (rw [hm]; rfl) | rfl,H9.out⟩
def yE (w0:World) (ws:List ByteArray) (ns:List NodeL) (r:Option (MT × zb)):Ending→World→Prop:=fun e w'=>match r with
 | some (t,r)=>e = .returned (.int .i64 ((ns.length+t.size - 1:Nat):Int))∧∃ ws',ws'.map bts=r∧PS w0 w' ws' (ns++t.lay ns.length) false
 | none=>∃ (n:Int) (ws':List ByteArray) (ns':List NodeL),e = .returned (.int .i64 n)∧PS w0 w' ws' ns' true∧ws'.length+ns'.length≤ws.length+ns.length∧ws'.length≤ws.length
def tkW (p:List ByteArray × Bool):List ByteArray × Bool:=if bts (wU p.1)=[] then (p.1,true) else (p.1.tail,p.2)
theorem rB (w0 w:World) (ws:List ByteArray) (ns:List NodeL) (bad:Bool) (h:PS w0 w ws ns bad) (hn:ws.length≤1000000):Calls Tryz.prog 233 #[cI w0] w fun e w' =>
 e = .returned (.string (wU ws))∧PS w0 w' (tkW (ws,bad)).1 ns (tkW (ws,bad)).2:=by
 refine (Y2 w0 w ws ns bad h hn).mono ?_
 rintro e w' ⟨h1,h2⟩
 refine ⟨h1,?_⟩
 unfold tkW
 by_cases he:bts (wU ws)=[]
 ·rw [if_pos he] at h2 ⊢; exact h2
 ·rw [if_neg he] at h2 ⊢; exact h2
theorem g7 (p:List ByteArray × Bool):(tkW p).1.length≤p.1.length:=by
 unfold tkW;split
 ·exact Nat.le_refl _
 ·simp
def isR (k:List UInt8) (sg vl:ByteArray) (bad:Bool) (r:zb):Option (MT × zb):=if bad=true then none else match tB k with
 | none=>none
 | some n=>if zY (bts vl)=true then (if bts sg=[61] then some (.is n vl,r) else if bts sg=[33,61] then some (.not (.is n vl),r) else none) else none
theorem lq {k:List UInt8} {n:Nat} (hn:n < 3) (h:MT.keyT n=k):tB k=some n:=by
 subst h
 match n,hn with
 | 0,_=>rfl
 | 1,_=>rfl
 | 2,_=>rfl
theorem XD {k:List UInt8} {sg vl:ByteArray} {bad:Bool} {r:zb} (h:∀ j,j < 3→¬ (MT.keyT j=k∧bad=false∧(bts sg=[61]∨bts sg=[33,61])∧zY (bts vl)=true)):isR k sg vl bad r=none:=by
 unfold isR;split
 ·rfl
 ·rename_i hb
  cases hk:tB k with
  | none=>rfl
  | some n =>
   obtain ⟨h3,he⟩:=qs hk;have h4:=h n h3;simp only;split
   ·rename_i hw
    split
    ·rename_i h5; exact absurd ⟨he.symm,by simpa using hb,.inl h5,hw⟩ h4
    ·split
     ·rename_i h5; exact absurd ⟨he.symm,by simpa using hb,.inr h5,hw⟩ h4
     ·rfl
   ·rfl
theorem Xd {k:List UInt8} {sg vl:ByteArray} {r:zb} {n:Nat} (hn:n < 3) (h:MT.keyT n=k) (hs:bts sg=[61]) (hw:zY (bts vl)=true):isR k sg vl false r=some (.is n vl,r):=by
 unfold isR;rw [if_neg (by simp),lq hn h];simp only;rw [if_pos hw,if_pos hs]
theorem bu {k:List UInt8} {sg vl:ByteArray} {r:zb} {n:Nat} (hn:n < 3) (h:MT.keyT n=k) (hs:bts sg=[33,61]) (hw:zY (bts vl)=true):isR k sg vl false r=some (.not (.is n vl),r):=by
 unfold isR;rw [if_neg (by simp),lq hn h];simp only;rw [if_pos hw,if_neg (by rw [hs]; simp),if_pos hs]
theorem Xs (k:List UInt8) (ws:List ByteArray) (bad:Bool):(if bad=true then none else tu k (ws.map bts)) =
 isR k (wU ws) (wU (tkW (ws,bad)).1) (tkW (tkW (ws,bad))).2 ((tkW (tkW (ws,bad))).1.map bts):=by
 unfold isR
 have e0:bts zc=[]:=mi
 have t2:∀ (l:List ByteArray) ,(tkW (tkW (l,true))).2=true:=fun l=>by
  (have:∀ l,(tkW (l,true)).2=true:=fun l=>by unfold tkW; split<;>rfl);have h2:tkW (l,true)=((tkW (l,true)).1,true):=Prod.ext rfl (this l);rw [h2]; exact this _
 have t1:∀ (l:List ByteArray) ,(tkW (l,true)).2=true:=fun l=>by unfold tkW; split<;>rfl
 cases bad with
 | true=>rw [if_pos rfl,if_pos (t2 ws)]
 | false =>
  rw [if_neg (by simp)]
  rcases ws with _ | ⟨x,ws⟩
  ·(have h1:tkW ([],false)=([],true):=by unfold tkW; rw [if_pos (show bts (wU [])=[] from e0)]);rw [h1,if_pos (t1 _)]; rfl
  ·by_cases hx:bts x=[]
   ·(have h1:tkW (x::ws,false)=(x::ws,true):=by unfold tkW; rw [if_pos (show bts (wU (x::ws))=[] from hx)]);rw [h1,if_pos (t1 _)];rcases ws with _ | ⟨y,ws⟩
    ·rfl
    ·simp only [List.map_cons,tu,hx];cases tB k with
     | none=>rfl
     | some n=>simp
   ·(have h1:tkW (x::ws,false)=(ws,false):=by unfold tkW; rw [if_neg (show ¬ bts (wU (x::ws))=[] from hx)]; rfl);rw [h1];rcases ws with _ | ⟨y,ws⟩
    ·(have h2:tkW ([],false)=([],true):=by unfold tkW; rw [if_pos (show bts (wU [])=[] from e0)]);rw [h2,if_pos rfl]; rfl
    ·by_cases hy:bts y=[]
     ·(have h2:tkW (y::ws,false)=(y::ws,true):=by unfold tkW; rw [if_pos (show bts (wU (y::ws))=[] from hy)]);rw [h2,if_pos rfl];simp only [List.map_cons,tu,hy];cases tB k with
      | none=>rfl
      | some n=>rfl
     ·(have h2:tkW (y::ws,false)=(ws,false):=by unfold tkW; rw [if_neg (show ¬ bts (wU (y::ws))=[] from hy)]; rfl);rw [h2,if_neg (by simp)];simp only [List.map_cons,tu,wU,sY];cases tB k with
      | none=>rfl
      | some n=>rfl
abbrev j5:List Value:=[.string ⟨#[111,115]⟩,.string ⟨#[97,114,99,104]⟩,.string ⟨#[97,98,105]⟩]
theorem je (w:World) (k:Nat) (hk:k < 3):∃ x:ByteArray,bts x=MT.keyT k∧(w.alloc (.cells j5.toArray 9)).cell? ⟨w.heap.size,k,none⟩=some (.string x):=by
 have hb:=(Box.new w j5 9).2
 match k,hk with
 | 0,_=>exact ⟨_,by decide +kernel,hb 0 _ rfl⟩
 | 1,_=>exact ⟨_,by decide +kernel,hb 1 _ rfl⟩
 | 2,_=>exact ⟨_,by decide +kernel,hb 2 _ rfl⟩
theorem mT (w:World):Calls Tryz.prog 236 #[] w fun e w'=>e = .returned (.slice (some ⟨w.heap.size,0,none⟩) 3 3)∧w'=w.alloc (.cells j5.toArray 9):=by
 go_enter Tryz.func236,Tryz.ntmps236;(go_wp2_with fail);go_ret;exact ⟨rfl,rfl⟩
theorem PS.alloc {w0 w:World} {ws:List ByteArray} {ns:List NodeL} {bad:Bool} (h:PS w0 w ws ns bad) (o:Obj):PS w0 (w.alloc o) ws ns bad:=h.on (zG _ _)
theorem XZ (w0 w:World) (key:ByteArray) (ws:List ByteArray) (ns:List NodeL) (bad:Bool) (h:PS w0 w ws ns bad) (hn:ws.length+ns.length≤900000):Calls Tryz.prog 250 #[cI w0,.string key] w
 (yE w0 ws ns (if bad=true then none else tu (bts key) (ws.map bts))):=by
 rw [Xs]
 have HF:=hid (fun (x:Int) ws' ns' e w' (h1:e = .returned (.int .i64 x)) (h2:PS w0 w' ws' ns' true) (h3:ws'.length+ns'.length≤ws.length+ns.length) (h4:ws'.length≤ws.length)=>(show yE w0 ws ns none e w' from ⟨x,ws',ns',h1,h2,h3,h4⟩))
 have HG:=hid (fun t (ws':List ByteArray) e w' (h1:e = .returned (.int .i64 ((ns.length+t.size - 1:Nat):Int))) (h2:PS w0 w' ws' (ns++t.lay ns.length) false)=>(show yE w0 ws ns (some (t,ws'.map bts)) e w' from ⟨h1,ws',rfl,h2⟩))
 have HT1:=hid (rB w0 w ws ns bad h (by omega))
 have hl1:=g7 (ws,bad)
 have hl2:=g7 (tkW (ws,bad))
 have HT2:=hid (fun w' (h:PS w0 w' (tkW (ws,bad)).1 ns (tkW (ws,bad)).2)=>rB w0 w' _ ns _ h (by have:(tkW (ws,bad)).1.length≤ws.length:=hl1; omega))
 have hl:(tkW (tkW (ws,bad))).1.length≤ws.length:=Nat.le_trans hl2 hl1
 clear hl1 hl2
 generalize yE w0 ws ns=F at *
 generalize hp1:tkW (ws,bad)=p1 at *
 have HP2:tkW (p1.1,p1.2)=tkW p1:=rfl
 rw [HP2] at HT2
 generalize tkW p1=p2 at *
 obtain ⟨ws1,b1⟩:=p1
 obtain ⟨ws2,b2⟩:=p2
 simp only at *
 generalize hsg:wU ws=sg at *
 generalize hvl:wU ws1=vl at *
 clear hsg hvl hp1 HP2 h
 go_enter Tryz.func250,Tryz.ntmps250
 go_wp2_with fail
 refine HT1.out.mono ?_
 rintro _ w1 ⟨rfl,P1⟩
 go_wp2_with fail
 refine (HT2.out w1 P1).mono ?_
 rintro _ w2 ⟨rfl,P2⟩
 have P2:=hid P2
 clear P1 HT1 HT2
 go_wp2_with fail
 refine (mT w2).mono ?_
 rintro _ _ ⟨rfl,rfl⟩
 have P3:=hid (P2.out.alloc (.cells j5.toArray 9))
 have HKC:=hid (je w2)
 have kl:=(Box.new w2 j5 9).1
 generalize w2.heap.size=g at *
 generalize w2.alloc (.cells j5.toArray 9)=w3 at *
 have HKL:=hid kl
 clear kl P2
 go_wp2_with fail
 go_loopw [16] (fun i wr=>∃ k:Nat,i = .int .i64 k∧k≤3∧Hid (∀ j,j < k→¬ (MT.keyT j=bts key∧b2=false∧(bts sg=[61]∨bts sg=[33,61])∧zY (bts vl)=true))∧Hid (KB w3.heap.size w3 wr)) (fun i _=>3 - (intOf i).toNat)
 case atStart=>exact ⟨0,rfl,Nat.zero_le _,hid (fun j hj=>absurd hj (Nat.not_lt_zero _)),hid (zH _)⟩
 case round =>
  obtain ⟨k,rfl,hk,HN,HB⟩:=hrel;have P4:=hid (P3.out.on HB.out);obtain ⟨A4,c4,v4,ho,-⟩:=P4.out.st;have x2:=ho.box.2 2 _ rfl;have xl:=ho.box.1;have sf:wr.frozen? ⟨w0.heap.size,2,none⟩=false:=ho.soft _;clear ho;by_cases hlt:k < 3
  ·obtain ⟨x,hx,hc⟩:=HKC.out k hlt;(have i1:(k:Int) < 3:=by omega);(have i0:(0:Int)≤(k:Int):=by omega);have hc:=(Go.RowKit.Below.cell HB.out (p:=⟨g,k,none⟩) HKL.out).trans hc;have hgl:=Nat.lt_of_lt_of_le HKL.out (Go.RowKit.Below.size HB.out)
   have HS:=hid (fun (h:¬ (MT.keyT k=bts key∧b2=false∧(bts sg=[61]∨bts sg=[33,61])∧zY (bts vl)=true))=>(show ∀ j,j < k+1→¬ (MT.keyT j=bts key∧b2=false∧(bts sg=[61]∨bts sg=[33,61])∧zY (bts vl)=true) from fun j hj=>by
    rcases Nat.lt_or_ge j k with h1 | h1
    ·exact HN.out j h1
    ·obtain rfl:j=k:=by omega
     exact h))
   by_cases he:MT.keyT k=bts key
   ·(have he2:(x.toList==key.toList)=true:=by rw [beq_iff_eq]; exact hx.trans he);have HE:=hid he;clear he hx;cases b2
    ·by_cases h61:bts sg=[61]
     ·have s1:(sg.toList==[61])=true:=by rw [beq_iff_eq]; exact h61
      have s2:(sg.toList==[33,61])=false:=by
       rw [beq_eq_false_iff_ne];intro e;have e2:=h61;simp only [bts] at e2;rw [e] at e2;simp at e2
      have H61:=hid h61;have HW:=hid (wS vl wr);clear h61;cases hw:zY (bts vl)
      ·rw [hw] at HW HS;clear hw;(go_wp2_with fail);refine HW.out.mono ?_;rintro _ wv ⟨rfl,hbv⟩;have HBV:=hid hbv.kb;clear hbv;(go_wp2_with fail);go_roundw
       case rel=>exact ⟨k+1,by go_num,by omega,hid (HS.out (by simp)),hid (zA HB.out HBV.out)⟩
       case measure=>simp [intOf]<;>omega
      ·have HR:=hid (Xd (r:=ws2.map bts) hlt HE.out H61.out hw);rw [hw] at HW;clear hw;(go_wp2_with fail);refine HW.out.mono ?_;rintro _ wv ⟨rfl,hbv⟩;have P5:=hid (P4.out.on hbv.kb);clear hbv;have HP:=hid (sy w0 wv ws2 ns false ⟨1,0,0,k,vl⟩ P5.out (by omega));(go_wp2_with fail);refine HP.out.mono ?_;rintro _ wx ⟨rfl,P6⟩;have P6:=hid P6;(go_wp2_with fail);(try rw [Exit.noGoto_ret]);(try go_ret);rw [HR.out];exact HG.out _ _ _ _ rfl P6.out
     ·(have s1:(sg.toList==[61])=false:=by rw [beq_eq_false_iff_ne]; exact h61);by_cases h33:bts sg=[33,61]
      ·(have s2:(sg.toList==[33,61])=true:=by rw [beq_iff_eq]; exact h33);have H33:=hid h33;have HW:=hid (wS vl wr);clear h61 h33;cases hw:zY (bts vl)
       ·rw [hw] at HW HS;clear hw;(go_wp2_with fail);refine HW.out.mono ?_;rintro _ wv ⟨rfl,hbv⟩;have HBV:=hid hbv.kb;clear hbv;(go_wp2_with fail);go_roundw
        case rel=>exact ⟨k+1,by go_num,by omega,hid (HS.out (by simp)),hid (zA HB.out HBV.out)⟩
        case measure=>simp [intOf]<;>omega
       ·have HR:=hid (bu (r:=ws2.map bts) hlt HE.out H33.out hw);rw [hw] at HW;clear hw;(go_wp2_with fail);refine HW.out.mono ?_;rintro _ wv ⟨rfl,hbv⟩;have P5:=hid (P4.out.on hbv.kb);clear hbv;have HP:=hid (sy w0 wv ws2 ns false ⟨1,0,0,k,vl⟩ P5.out (by omega));(go_wp2_with fail);refine HP.out.mono ?_;rintro _ wx ⟨rfl,P6⟩;have HP:=hid (sy w0 wx ws2 (ns++[⟨1,0,0,k,vl⟩]) false ⟨2,ns.length,0,0,zc⟩ P6 (by simp; omega));clear P6;(go_wp2_with fail);refine HP.out.mono ?_;rintro _ wy ⟨rfl,P7⟩;have P7:=hid P7;(go_wp2_with fail);(try rw [Exit.noGoto_ret]);(try go_ret);rw [HR.out];exact HG.out _ _ _ _ (by simp [MT.size]) (by have:=P7.out; simpa [MT.lay,MT.size] using this)
      ·(have s2:(sg.toList==[33,61])=false:=by rw [beq_eq_false_iff_ne]; exact h33);have HX:=hid (HS.out (by rintro ⟨-,-,h | h,-⟩; exact h61 h; exact h33 h));clear h61 h33;(go_wp2_with fail);go_roundw
       case rel=>exact ⟨k+1,by go_num,by omega,hid (by have:=HX.out; simpa using this),HB⟩
       case measure=>simp [intOf]<;>omega
    ·have HX:=hid (HS.out (by rintro ⟨-,h,-⟩; cases h));(go_wp2_with fail);go_roundw
     case rel=>exact ⟨k+1,by go_num,by omega,HX,HB⟩
     case measure=>simp [intOf]<;>omega
   ·(have he2:(x.toList==key.toList)=false:=by rw [beq_eq_false_iff_ne]; exact fun e=>he (hx.symm.trans e));have HX:=hid (HS.out (fun h=>he h.1));clear he hx;(go_wp2_with fail);go_roundw
    case rel=>exact ⟨k+1,by go_num,by omega,HX,HB⟩
    case measure=>simp [intOf]<;>omega
  ·(obtain rfl:k=3:=by omega);have HR:=hid (XD (r:=ws2.map bts) HN.out);(go_wp2_with fail);(try rw [Exit.noGoto_ret]);(try go_ret);rw [HR.out];exact HF.out _ _ _ _ _ rfl P4.out.worse (by omega) hl
end Go.Proofs.YtiffijoenkcpjaaGreatDoor
