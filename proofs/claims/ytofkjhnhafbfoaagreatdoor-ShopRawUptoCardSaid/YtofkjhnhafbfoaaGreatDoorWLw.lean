import Derived.Test.YtofkjhnhafbfoaaGreatDoorWLt
set_option linter.unusedVariables false
set_option linter.unusedSimpArgs false
set_option maxRecDepth 100000
set_option maxHeartbeats 2000000
namespace Go.Proofs.YtofkjhnhafbfoaaGreatDoor
open Go.RowKit Go.Lib
open Rw
def RV (es:List EntryL) (i j:Nat):Prop:=∃ x y,es[i]?=some x∧es[j]?=some y∧xX x.rc.v y.rc.v < 0
theorem lC (es:List EntryL) (i:Nat):∀ l:List Nat,(fT es i l).Perm (i::l)
 | []=>List.Perm.refl _
 | k::r=>by
  rw [fT];split
  ·split
   ·exact ((lC es i r).cons k).trans (List.Perm.swap i k r)
   ·exact List.Perm.refl _
  ·exact List.Perm.refl _
theorem WJ {es:List EntryL} {i k:Nat} {l:List Nat}:k∈fT es i l↔k=i∨k∈l:=by
 rw [(lC es i l).mem_iff,List.mem_cons]
theorem aC {es:List EntryL} (V:∀ (i:Nat) x,es[i]?=some x→yF x.rc.v=true) {i j k:Nat} (h1:RV es i j) (h2:RV es j k):RV es i k:=by
 obtain ⟨x,y,e1,e2,h⟩:=h1;obtain ⟨y',z,e3,e4,h'⟩:=h2;rw [e2] at e3;(injection e3 with e3);subst e3;exact ⟨x,z,e1,e4,pt (V _ _ e1) (V _ _ e2) (V _ _ e4) h h'⟩
theorem az {es:List EntryL} (V:∀ (i:Nat) x,es[i]?=some x→yF x.rc.v=true) {i j:Nat} (h1:RV es i j) (h2:RV es j i):False:=by
 obtain ⟨x,z,e1,e2,h⟩:=aC V h1 h2;rw [e1] at e2;(injection e2 with e2);subst e2;rw [pD (V _ _ e1)] at h;omega
theorem kU {es:List EntryL} (V:∀ (i:Nat) x,es[i]?=some x→yF x.rc.v=true) {i:Nat}:∀ {l:List Nat},l.Pairwise (RV es)→(∀ k∈l,RV es k i∨RV es i k)→(fT es i l).Pairwise (RV es)
 | [],_,_=>by rw [fT]; exact List.pairwise_singleton _ _
 | k::r,h,ht=>by
  rw [List.pairwise_cons] at h;rcases ht k (by simp) with q | q
  ·obtain ⟨x,y,e1,e2,e3⟩:=id q;rw [fT,e1,e2];dsimp only;rw [if_pos e3,List.pairwise_cons];refine ⟨fun a ha=>?_,kU V h.2 fun a ha=>ht a (by simp [ha])⟩;rcases WJ.1 ha with rfl | ha
   ·exact q
   ·exact h.1 a ha
  ·have hn:fT es i (k::r)=i::k::r:=by
    obtain ⟨x,y,e1,e2,e3⟩:=id q;rw [fT,e2,e1];dsimp only;rw [if_neg];intro e4;exact az V q ⟨y,x,e2,e1,e4⟩
   rw [hn,List.pairwise_cons,List.pairwise_cons];refine ⟨fun a ha=>?_,h⟩;rcases List.mem_cons.1 ha with rfl | ha
   ·exact q
   ·exact aC V q (h.1 a ha)
theorem ao {es:List EntryL} (V:∀ (i:Nat) x,es[i]?=some x→yF x.rc.v=true):∀ (ps acc:List Nat),acc.Pairwise (RV es)→(acc++ps).Pairwise (fun a b=>RV es a b∨RV es b a)→(ps.foldl (fun l i=>fT es i l) acc).Perm (acc++ps)∧(ps.foldl (fun l i=>fT es i l) acc).Pairwise (RV es)
 | [],acc,h,_=>by
  rw [List.foldl_nil,List.append_nil];exact ⟨List.Perm.refl _,h⟩
 | p::ps,acc,h,ht=>by
  rw [List.foldl_cons];(have h1:∀ k∈acc,RV es k p∨RV es p k:=fun k hk=>(List.pairwise_append.1 ht).2.2 k hk p (by simp));have hp:=lC es p acc;have hpp:(fT es p acc++ps).Perm (acc++p::ps):=(hp.append_right ps).trans (List.perm_middle.symm);obtain ⟨g1,g2⟩:=ao V ps (fT es p acc) (kU V h h1) ((hpp.pairwise_iff (fun h=>h.symm)).2 ht);exact ⟨g1.trans hpp,g2⟩
theorem gM {R:Nat→Nat→Prop}:∀ {l m:List Nat},l.Perm m→l.Pairwise R→m.Pairwise R→(∀ a b,R a b→R b a→False)→l=m
 | [],m,h,_,_,_=>by rw [List.nil_perm.1 h]
 | a::l,[],h,_,_,_=>by simp at h
 | a::l,b::m,h,h1,h2,hx=>by
  rw [List.pairwise_cons] at h1 h2
  have e:a=b:=by
   have ha:a∈b::m:=h.mem_iff.1 (by simp);have hb:b∈a::l:=h.mem_iff.2 (by simp);rcases List.mem_cons.1 ha with e | ha
   ·exact e
   ·rcases List.mem_cons.1 hb with e | hb
    ·exact e.symm
    ·exact (hx _ _ (h1.1 b hb) (h2.1 a ha)).elim
  subst e;rw [gM (List.Perm.cons_inv h) h1.2 h2.2 hx]
theorem uL {nm:ByteArray}:∀ {l:List EntryL} {i j:Nat},j∈z8 nm i l→i≤j∧∃ h:j - i < l.length,yH l[j - i].rc.name nm=true
 | [],i,j,h=>by simp [z8] at h
 | x::l,i,j,h=>by
  rw [z8] at h
  have go:j∈z8 nm (i+1) l→i≤j∧∃ h:j - i < (x::l).length,yH (x::l)[j - i].rc.name nm=true:=fun h=>by
   obtain ⟨h1,h2,h3⟩:=uL h;refine ⟨by omega,by simp; omega,?_⟩;(have e:j - i=j - (i+1)+1:=by omega);simp only [e,List.getElem_cons_succ];exact h3
  split at h
  ·rename_i hx
   rcases List.mem_cons.1 h with rfl | h
   ·refine ⟨Nat.le_refl _,by simp,?_⟩;simp only [Nat.sub_self,List.getElem_cons_zero];exact hx
   ·exact go h
  ·exact go h
theorem sJ {nm:ByteArray}:∀ {l:List EntryL} {i:Nat},(z8 nm i l).Pairwise (· < ·)
 | [],i=>by rw [z8]; exact List.Pairwise.nil
 | x::l,i=>by
  rw [z8];split
  ·rw [List.pairwise_cons];exact ⟨fun a ha=>by have:=(uL ha).1; omega,sJ⟩
  ·exact sJ
theorem qN {s:ShelfL} (h:zQ z7 s=true) (nm:ByteArray):(z8 nm 0 s.entries).Pairwise (fun a b=>RV s.entries a b∨RV s.entries b a):=by
 refine (List.Pairwise.and_mem.1 sJ).imp ?_;rintro a b ⟨ha,hb,hab⟩;obtain ⟨-,h1,h2⟩:=uL ha;obtain ⟨-,h3,h4⟩:=uL hb;simp only [Nat.sub_zero] at h1 h2 h3 h4;have hn:bts s.entries[a].rc.name=bts s.entries[b].rc.name:=(qw.1 h2).trans (qw.1 h4).symm;have hne:=il h hab h3 hn;by_cases hc:xX s.entries[b].rc.v s.entries[a].rc.v < 0
 ·exact .inr ⟨_,_,List.getElem?_eq_getElem h3,List.getElem?_eq_getElem h1,hc⟩
 ·exact .inl ⟨_,_,List.getElem?_eq_getElem h1,List.getElem?_eq_getElem h3,bV (tQ h h1) (tQ h h3) hc hne⟩
theorem pd {s:ShelfL} (h:zQ z7 s=true):∀ (i:Nat) x,s.entries[i]?=some x→yF x.rc.v=true:=fun i x e=>by
 obtain ⟨hi,rfl⟩:=List.getElem?_eq_some_iff.1 e;exact tQ h hi
theorem gG {s:ShelfL} (h:zQ z7 s=true) (nm:ByteArray):(tP s nm).Perm (z8 nm 0 s.entries)∧(tP s nm).Pairwise (RV s.entries):=by
 rw [tP,if_pos h];have:=ao (pd h) (z8 nm 0 s.entries) [] List.Pairwise.nil (by rw [List.nil_append]; exact qN h nm)
 rwa [List.nil_append] at this
theorem ZU {s:ShelfL} (h:zQ z7 s=true) {nm:ByteArray} {d:List Nat} (hp:d.Perm (z8 nm 0 s.entries)) (hs:d.Pairwise fun a b=>∀ x y,s.entries[a]?=some x→s.entries[b]?=some y→0≤xX y.rc.v x.rc.v):d=tP s nm:=by
 obtain ⟨k1,k2⟩:=gG h nm;(refine gM (hp.trans k1.symm) ?_ k2 fun a b=>az (pd h));have ha:=(hp.pairwise_iff (fun h=>h.symm)).2 (qN h nm);refine (ha.and hs).imp ?_;rintro a b ⟨h1,h2⟩;rcases h1 with q | ⟨x,y,e1,e2,e3⟩
 ·exact q
 ·have:=h2 y x e2 e1;omega
theorem hJ {l m:List ShelfL} {k:Nat} (h:k < m.length):wj l k (m.drop k)=(zQ z7 m[k]&&decide (¬ zd (fun x=>yH x.name m[k].name) 0 l < (k:Int))&&wj l (k+1) (m.drop (k+1))):=by
 rw [List.drop_eq_getElem_cons h,wj]
theorem el {l m:List ShelfL} {k:Nat} (h:m.length≤k):wj l k (m.drop k)=true:=by
 rw [List.drop_eq_nil_of_le h,wj]
theorem eW {l m:List PinL} {k:Nat} (h:k < m.length):sU l k (m.drop k)=(zg (bts m[k].name)&&zg (bts m[k].shelf)&&vt l k m[k]&&sU l (k+1) (m.drop (k+1))):=by
 rw [List.drop_eq_getElem_cons h,sU]
theorem ZP {l m:List PinL} {k:Nat} (h:m.length≤k):sU l k (m.drop k)=true:=by
 rw [List.drop_eq_nil_of_le h,sU]
theorem mh {l:List PinL} {j:Nat} (h:j < l.length) (p:PinL):vt l (j+1) p=Op.bytesLess (bts l[j].name) (bts p.name):=by
 rw [vt,List.getElem?_eq_getElem h]
theorem sD (A:Option Addr) (c:Nat) (l:List ShelfL) (w:World) (hL:Laid w) (hA:xc w A l) (hn:l.length≤9223372036854775807) (hok:∀ s∈l,EntsOk s.entries):Calls Tryz.prog 33 #[.slice A l.length c] w (yT w (zw l)):=by
 have eg:∀ args w,(callFunc 72 args).run Tryz.prog w = .ok (.enter 72 args) w:=enters_of Tryz.func72 (by kernel_rfl) rfl;(have hmf:∀ (fn:Fn) (first cap:Array Value) (w:World),(Instr.makeFunc fn first cap).run Tryz.prog w = .ok (.func fn first cap) w:=fun _ _ _ _=>rfl);have HA:=hid hA;have HL:=hid hL;have HOK:=hid hok;have HR1:=hid (fun (h:4 < l.length)=>show zw l=false by rw [zw,decide_eq_false (by omega)]; rfl);have HR2:=hid (fun (h:¬ 4 < l.length)=>show zw l=wj l 0 l by rw [zw,decide_eq_true (by omega)]; rfl);have HFS:=hid (fun (nm:ByteArray) (B:Option Addr) (m d g:Nat) u (hb:KB w.heap.size w u) (hg:Box u g [.string nm,.slice B m d])=>sC 72 #[.pointer (some ⟨g,0,none⟩)] (fun x=>yH x.name nm) A c l u (hA.kb ShelfAt.stays hb) hn eg (fun x A' c' u2 _ hu _ _=>Xz x.name nm A' B x.entries.length c' m d g u2 (hg.kb hu)));clear hA hL hok eg;generalize zw l=res at *;generalize hnn:l.length=n at *;have HN:=hid hnn;clear hnn;by_cases h4:4 < n
 ·(have i1:decide ((4:Int) < (n:Int))=true:=by rw [decide_eq_true_iff]; omega);(have i2:(4:Int) < (n:Int):=by omega);have HE:=hid (HR1.out h4);go_enter Tryz.func33,Tryz.ntmps33;(go_wp2_with fail);(try rw [Exit.noGoto_ret]);(try go_ret);exact ⟨by rw [HE.out]<;>rfl,zH _⟩
 ·(have i1:decide ((4:Int) < (n:Int))=false:=by rw [decide_eq_false_iff_not]; omega);(have i2:¬ (4:Int) < (n:Int):=by omega);have HR:=hid (HR2.out h4);clear HR1 HR2;go_enter Tryz.func33,Tryz.ntmps33;(go_upto_block 0 with fail);(go_wp2_with fail);go_loopw [10] (fun i wr=>∃ k:Nat,i = .int .i64 (k:Int)∧k≤n∧Hid (res=wj l k (l.drop k))∧Hid (KB w.heap.size w wr)) (fun i _=>n - (intOf i).toNat)
  case atStart=>exact ⟨0,rfl,Nat.zero_le _,HR,hid (zH _)⟩
  case round =>
   obtain ⟨k,rfl,hk,HD,HB⟩:=hrel;by_cases hlt:k < n
   ·(have hlt':k < l.length:=by rw [HN.out]; exact hlt);obtain ⟨b,off,A',c',hA,hbl,c0,c1,hE,hc'⟩:=qh (HA.out.kb ShelfAt.stays HB.out) hlt';subst hA;have HS:=hid (hJ (l:=l) hlt');(have k0:(0:Int)≤(k:Int):=by omega);(have k1:(k:Int) < (n:Int):=by omega);have HO:=hid (HOK.out _ (List.getElem_mem hlt'));generalize l[k]=x at *;have HM:=hid (fun u (hu:KB wr.heap.size wr u)=>kr x A' c' u (HL.out.kb (zA HB.out hu)) (hE.kb EntryAt.stays hu) HO.out hc');generalize zQ z7 x=q1 at *;obtain ⟨xn,xe⟩:=x;dsimp only [ShelfL.val] at c0 c1 HM HS;clear hE hc' HO;have HF:=hid (fun u (hu:KB wr.heap.size wr u) (hg:Box u wr.heap.size [.string xn,.slice A' xe.length c'])=>HFS.out xn A' xe.length c' wr.heap.size u (zA HB.out hu) hg);generalize zd (fun x:ShelfL=>yH x.name xn) 0 l=q2 at *;generalize xe.length=m at *;(go_upto_region 6 with fail);refine zI ?_;intro u1 hu;have HB1:=hid (show KB wr.heap.size wr u1 by rw [hu]; exact zG _ _);have HX:=hid (show Box u1 wr.heap.size [.string xn,.slice A' m c'] by rw [hu]; exact Box.new wr [.string xn,.slice A' m c'] 24);clear hu;have x0:=HX.out.2 0 _ rfl;have x1:=HX.out.2 1 _ rfl;have xl:=HX.out.1;cases q1
    ·have HE:=hid (show res=false by rw [HD.out,HS.out]<;>rfl);(go_wp2_with fail);refine (HM.out u1 HB1.out).mono ?_;rintro _ u2 ⟨rfl,hb⟩;have HB2:=hid (zA HB.out (zA HB1.out hb));clear hb;(go_wp2_with fail);(try rw [Exit.noGoto_ret]);(try go_ret);exact ⟨by rw [HE.out]<;>rfl,HB2.out⟩
    ·(go_wp2_with fail);refine (HM.out u1 HB1.out).mono ?_;rintro _ u2 ⟨rfl,hb⟩;have HB2:=hid (zA HB1.out hb);have HX2:=hid (HX.out.kb hb);clear hb x0 x1 xl;(go_wp2_with fail);refine (HF.out u2 HB2.out HX2.out).mono ?_;rintro _ u3 ⟨rfl,hb⟩;have HB3:=hid (zA HB.out (zA HB2.out hb));clear hb;by_cases hq:q2 < (k:Int)
     ·have d1:decide (q2 < (k:Int))=true:=decide_eq_true hq;have HE:=hid (show res=false by rw [HD.out,HS.out,decide_eq_false (by omega)]<;>rfl);(go_wp2_with fail);(try rw [Exit.noGoto_ret]);(try go_ret);exact ⟨by rw [HE.out]<;>rfl,HB3.out⟩
     ·have d1:decide (q2 < (k:Int))=false:=decide_eq_false hq;have HE:=hid (show res=wj l (k+1) (l.drop (k+1)) by rw [HD.out,HS.out,decide_eq_true (by omega)]<;>rfl);(go_wp2_with fail);go_roundw
      case rel=>exact ⟨k+1,by go_num,by omega,HE,HB3⟩
      case measure=>simp [intOf]<;>omega
   ·(obtain rfl:k=n:=by omega);(have k1:¬ (k:Int) < (k:Int):=by omega);have HE:=hid (show res=true by rw [HD.out,el (by rw [HN.out]; exact Nat.le_refl _)]);(go_wp2_with fail);(try rw [Exit.noGoto_ret]);(try go_ret);exact ⟨by rw [HE.out]<;>rfl,HB.out⟩
theorem jH (A:Option Addr) (c:Nat) (l:List PinL) (w:World) (hA:Z6 w A l) (hn:l.length≤9223372036854775807):Calls Tryz.prog 61 #[.slice A l.length c] w (yT w (wG l)):=by
 have HA:=hid hA;clear hA;generalize hnn:l.length=n at *;have HN:=hid hnn;clear hnn;go_enter Tryz.func61,Tryz.ntmps61;(go_upto_block 0 with fail);(go_wp2_with fail);go_loopw [7] (fun i wr=>∃ k:Nat,i = .int .i64 (k:Int)∧k≤n∧Hid (wG l=sU l k (l.drop k))∧Hid (KB w.heap.size w wr)) (fun i _=>n - (intOf i).toNat)
 case atStart=>exact ⟨0,rfl,Nat.zero_le _,hid rfl,hid (zH _)⟩
 case round =>
  obtain ⟨k,rfl,hk,HD,HB⟩:=hrel;by_cases hlt:k < n
  ·(have hlt':k < l.length:=by rw [HN.out]; exact hlt);obtain ⟨b,off,hA,hbl0,c0,c1⟩:=aJ (HA.out.kb PinAt.stays HB.out) hlt';have HAK:=hid (HA.out.kb PinAt.stays HB.out);subst hA;have HBL:=hid hbl0;have HS:=hid (eW (l:=l) hlt');rcases k with _ | j
   ·(have k1:(0:Int) < (n:Int):=by omega);have HS2:=hid (show vt l 0 l[0]=true from rfl);replace HS:=hid (HS.out.trans (by rw [HS2.out]));clear HS2 HAK;rw [Nat.zero_mul,Nat.add_zero] at c0 c1;generalize l[0]=p at *;obtain ⟨pn,ps⟩:=p;dsimp only at c0 c1 HS;have HN1:=hid (fun u=>vS pn u);have HN2:=hid (fun u=>vS ps u);generalize zg (bts pn)=a at *;generalize zg (bts ps)=b2 at *;(go_upto_region 4 with fail);refine zI ?_;intro u1 hu;have HB1:=hid (show KB wr.heap.size wr u1 by rw [hu]; exact zG _ _);have HX:=hid (show Box u1 wr.heap.size [.string pn,.string ps] by rw [hu]; exact Box.new wr [.string pn,.string ps] 91);clear hu;have hS:KB u1.heap.size u1 u1.drew:=zM (zH _);(refine wpS (fun u=>KB u1.heap.size u1 u) (.call [0,1] 2 (.call [3,4,5,6] 7 (.last [8,9,10,11,12,13,14,15,16,17,18,19,20,21,22,23,24]))) fun iS=>?_);(have x0:=fun (z:SW fun u=>KB u1.heap.size u1 u)=>(HX.out.kb z.ok).2 0 (.string pn) rfl);(have x1:=fun (z:SW fun u=>KB u1.heap.size u1 u)=>(HX.out.kb z.ok).2 1 (.string ps) rfl);(have xl:=fun (z:SW fun u=>KB u1.heap.size u1 u)=>(HX.out.kb z.ok).1);cases a
    ·(with_reducible refine zD ?_);simp only [zB,pka,pkb,pkc,pkd,pke,pkf];(repeat go_big_quiet_step (fail));refine wpQuiet_nil ?_;(go_wp2_with fail);refine (HN1.out _).mono ?_;rintro _ u2 ⟨rfl,hb⟩;have HB2:=hid (show KB u1.heap.size u1 u2 from Go.RowKit.Below.trans hS hb.kb);clear hb;(go_wp2_with fail);refine zE (HB2.out) ?_;(with_reducible refine zD ?_);simp only [zB,pka,pkb,pkc,pkd,pke,pkf];(repeat go_big_quiet_step (fail));refine wpQuiet_nil ?_;(go_wp2_with fail);refine zE HB2.out ?_;(with_reducible refine zJ ?_);simp only [zB,pka,pkb,pkc,pkd,pke,pkf];(repeat go_big_quiet_step (fail));refine wpQuiet_nil ?_;clear x0 x1 xl iS;have HE:=hid (show wG l=false by rw [HD.out,HS.out]<;>rfl);(go_wp2_with fail);(try rw [Exit.noGoto_ret]);(try go_ret);exact ⟨by rw [HE.out]<;>rfl,zA HB.out (zA HB1.out HB2.out)⟩
    ·(with_reducible refine zD ?_);simp only [zB,pka,pkb,pkc,pkd,pke,pkf];(repeat go_big_quiet_step (fail));refine wpQuiet_nil ?_;(go_wp2_with fail);refine (HN1.out _).mono ?_;rintro _ u2 ⟨rfl,hb⟩;have HB2:=hid (show KB u1.heap.size u1 u2 from Go.RowKit.Below.trans hS hb.kb);clear hb;(go_wp2_with fail);refine zE (HB2.out) ?_;(with_reducible refine zD ?_);simp only [zB,pka,pkb,pkc,pkd,pke,pkf];(repeat go_big_quiet_step (fail));refine wpQuiet_nil ?_;(go_wp2_with fail);refine (HN2.out _).mono ?_;rintro _ u3 ⟨rfl,hb⟩;have HB3:=hid (show KB u1.heap.size u1 u3 from zA HB2.out hb.kb);clear hb;(go_wp2_with fail);refine zE (HB3.out) ?_;cases b2
     ·(with_reducible refine zJ ?_);simp only [zB,pka,pkb,pkc,pkd,pke,pkf];(repeat go_big_quiet_step (fail));refine wpQuiet_nil ?_;clear x0 x1 xl iS;have HE:=hid (show wG l=false by rw [HD.out,HS.out]<;>rfl);(go_wp2_with fail);(try rw [Exit.noGoto_ret]);(try go_ret);exact ⟨by rw [HE.out]<;>rfl,zA HB.out (zA HB1.out HB3.out)⟩
     ·have HE:=hid (show wG l=sU l (0+1) (l.drop (0+1)) by rw [HD.out,HS.out]<;>rfl);(with_reducible refine zJ ?_);simp only [zB,pka,pkb,pkc,pkd,pke,pkf];(repeat go_big_quiet_step (fail));refine wpQuiet_nil ?_;clear x0 x1 xl iS;(go_wp2_with fail);go_roundw
      case rel=>exact ⟨0+1,by go_num,by omega,HE,hid (zA HB.out (zA HB1.out HB3.out))⟩
      case measure=>simp [intOf]<;>omega
   ·have ek:((j+1:Nat):Int)=(j:Int)+1:=rfl;rw [ek];clear ek;(have k0:(0:Int)≤(j:Int):=by omega);(have k1:(j:Int)+1 < (n:Int):=by omega);(have k2:(j:Int) < (n:Int):=by omega);have hj:j < l.length:=Nat.lt_of_succ_lt hlt';have HCJ:=hid (RowOf.lay HAK.out hj).2.1;have HS2:=hid (mh hj l[j+1]);replace HS:=hid (HS.out.trans (by rw [HS2.out]));clear HS2 HAK;generalize l[j+1]=p at *;generalize l[j]=p0 at *;obtain ⟨pn,ps⟩:=p;obtain ⟨ln,ls⟩:=p0;dsimp only at c0 c1 HS HCJ;have HN1:=hid (fun u=>vS pn u);have HN2:=hid (fun u=>vS ps u);generalize zg (bts pn)=a at *;generalize zg (bts ps)=b2 at *;(go_upto_region 4 with fail);refine zI ?_;intro u1 hu;have HB1:=hid (show KB wr.heap.size wr u1 by rw [hu]; exact zG _ _);have HX:=hid (show Box u1 wr.heap.size [.string pn,.string ps] by rw [hu]; exact Box.new wr [.string pn,.string ps] 91);have HPC:=hid (show u1.cell? ⟨b,off+j * 2,none⟩=some (.string ln) by rw [hu]; exact zU HBL.out (zG _ _) HCJ.out);have HPL:=hid (show b < u1.heap.size from Nat.lt_of_lt_of_le HBL.out HB1.out.size);clear hu;have hS:KB u1.heap.size u1 u1.drew:=zM (zH _);(refine wpS (fun u=>KB u1.heap.size u1 u) (.call [0,1] 2 (.call [3,4,5,6] 7 (.last [8,9,10,11,12,13,14,15,16,17,18,19,20,21,22,23,24]))) fun iS=>?_);have x0:=fun (z:SW fun u=>KB u1.heap.size u1 u)=>(HX.out.kb z.ok).2 0 (.string pn) rfl
    (have x1:=fun (z:SW fun u=>KB u1.heap.size u1 u)=>(HX.out.kb z.ok).2 1 (.string ps) rfl);(have xl:=fun (z:SW fun u=>KB u1.heap.size u1 u)=>(HX.out.kb z.ok).1);(have cp:=fun (z:SW fun u=>KB u1.heap.size u1 u)=>zU HPL.out z.ok HPC.out);(have cpl:=fun (z:SW fun u=>KB u1.heap.size u1 u)=>Nat.lt_of_lt_of_le HPL.out z.ok.size);cases a
    ·(with_reducible refine zD ?_);simp only [zB,pka,pkb,pkc,pkd,pke,pkf];(repeat go_big_quiet_step (fail));refine wpQuiet_nil ?_;(go_wp2_with fail);refine (HN1.out _).mono ?_;rintro _ u2 ⟨rfl,hb⟩;have HB2:=hid (show KB u1.heap.size u1 u2 from Go.RowKit.Below.trans hS hb.kb);clear hb;(go_wp2_with fail);refine zE (HB2.out) ?_;(with_reducible refine zD ?_);simp only [zB,pka,pkb,pkc,pkd,pke,pkf];(repeat go_big_quiet_step (fail));refine wpQuiet_nil ?_;(go_wp2_with fail);refine zE HB2.out ?_;(with_reducible refine zJ ?_);simp only [zB,pka,pkb,pkc,pkd,pke,pkf];(repeat go_big_quiet_step (fail));refine wpQuiet_nil ?_;clear x0 x1 xl iS cp cpl;have HE:=hid (show wG l=false by rw [HD.out,HS.out]<;>rfl);(go_wp2_with fail);(try rw [Exit.noGoto_ret]);(try go_ret);exact ⟨by rw [HE.out]<;>rfl,zA HB.out (zA HB1.out HB2.out)⟩
    ·(with_reducible refine zD ?_);simp only [zB,pka,pkb,pkc,pkd,pke,pkf];(repeat go_big_quiet_step (fail));refine wpQuiet_nil ?_;(go_wp2_with fail);refine (HN1.out _).mono ?_;rintro _ u2 ⟨rfl,hb⟩;have HB2:=hid (show KB u1.heap.size u1 u2 from Go.RowKit.Below.trans hS hb.kb);clear hb;(go_wp2_with fail);refine zE (HB2.out) ?_;(with_reducible refine zD ?_);simp only [zB,pka,pkb,pkc,pkd,pke,pkf];(repeat go_big_quiet_step (fail));refine wpQuiet_nil ?_;(go_wp2_with fail);refine (HN2.out _).mono ?_;rintro _ u3 ⟨rfl,hb⟩;have HB3:=hid (show KB u1.heap.size u1 u3 from zA HB2.out hb.kb);clear hb;(go_wp2_with fail);refine zE (HB3.out) ?_;cases b2
     ·(with_reducible refine zJ ?_);simp only [zB,pka,pkb,pkc,pkd,pke,pkf];(repeat go_big_quiet_step (fail));refine wpQuiet_nil ?_;clear x0 x1 xl iS cp cpl;have HE:=hid (show wG l=false by rw [HD.out,HS.out]<;>rfl);(go_wp2_with fail);(try rw [Exit.noGoto_ret]);(try go_ret);exact ⟨by rw [HE.out]<;>rfl,zA HB.out (zA HB1.out HB3.out)⟩
     ·cases hbl:Op.bytesLess (bts ln) (bts pn)
      ·have hbl2:Op.bytesLess ln.toList pn.toList=false:=hbl;replace HS:=hid (HS.out.trans (by rw [hbl]<;>rfl));clear hbl;(with_reducible refine zJ ?_);simp only [zB,pka,pkb,pkc,pkd,pke,pkf];(repeat go_big_quiet_step (fail));refine wpQuiet_nil ?_;clear x0 x1 xl iS cp cpl;have HE:=hid (show wG l=false by rw [HD.out,HS.out]<;>rfl);(go_wp2_with fail);(try rw [Exit.noGoto_ret]);(try go_ret);exact ⟨by rw [HE.out]<;>rfl,zA HB.out (zA HB1.out HB3.out)⟩
      ·have hbl2:Op.bytesLess ln.toList pn.toList=true:=hbl;replace HS:=hid (HS.out.trans (by rw [hbl]<;>rfl));clear hbl;have HE:=hid (show wG l=sU l (j+1+1) (l.drop (j+1+1)) by rw [HD.out,HS.out]<;>rfl);(with_reducible refine zJ ?_);simp only [zB,pka,pkb,pkc,pkd,pke,pkf];(repeat go_big_quiet_step (fail));refine wpQuiet_nil ?_;clear x0 x1 xl iS cp cpl;(go_wp2_with fail);go_roundw
       case rel=>exact ⟨j+1+1,by go_num,by omega,HE,hid (zA HB.out (zA HB1.out HB3.out))⟩
       case measure=>simp [intOf]<;>omega
  ·(obtain rfl:k=n:=by omega);(have k1:¬ (k:Int) < (k:Int):=by omega);have HE:=hid (show wG l=true by rw [HD.out,ZP (by rw [HN.out]; exact Nat.le_refl _)]);(go_wp2_with fail);(try rw [Exit.noGoto_ret]);(try go_ret);exact ⟨by rw [HE.out]<;>rfl,HB.out⟩
abbrev cT (x:Nat):List Value:=[.int .i64 (x:Int)]
theorem aX (x:Nat):(cT x).length=1:=rfl
theorem Zc (x:Nat):∀ u∈cT x,u.oneCell'=true:=by
 intro u hu;(rcases List.mem_singleton.1 hu with rfl);rfl
abbrev UD (w:World) (base:Nat) (v:Value) (l:List Nat):Prop:=OwnL 3 1 cT w base v l
theorem ZW {w:World} {A:Option Addr} {l:List Nat} (h:Lies 1 cT w A l):pz w A (tp l):=by
 rcases h with h | ⟨b,off,rfl,hlt,hc⟩
 ·exact .inl (by rw [h]; rfl)
 ·refine .inr ⟨b,off,rfl,hlt,fun i hi=>?_⟩;(have hi':i < l.length:=by simpa [tp] using hi);have:=hc i hi' 0 _ rfl;rw [Nat.add_zero] at this;unfold IntAtJ;rw [this];simp [tp]
def Vv (w:World) (d:List Nat) (e:Ending) (w':World):Prop:=∃ A c,e = .returned (.slice A d.length c)∧pz w' A (tp d)∧KB w.heap.size w w'
theorem hN {nm:ByteArray} {l:List EntryL} {k:Nat} (h:k < l.length):z8 nm k (l.drop k)=if yH l[k].rc.name nm then k::z8 nm (k+1) (l.drop (k+1)) else z8 nm (k+1) (l.drop (k+1)):=by
 rw [List.drop_eq_getElem_cons h,z8]
theorem dR {nm:ByteArray} {l:List EntryL} {k:Nat} (h:l.length≤k):z8 nm k (l.drop k)=[]:=by
 rw [List.drop_eq_nil_of_le h,z8]
theorem YN (snm:ByteArray) (A:Option Addr) (n c:Nat) (l:List EntryL) (i j:Nat) (hi:i < l.length) (hj:j < l.length) (hn:l.length=n) (hn2:n≤9223372036854775807) (g:Nat) (w:World) (hg:Box w g [.string snm,.slice A n c]) (hE:yL w A l) (hf:∀ x∈l,x.rc.v.fit):Calls Tryz.prog 74 #[.int .i64 (i:Int),.int .i64 (j:Int),.pointer (some ⟨g,0,none⟩)] w (sB w (xX l[i].rc.v l[j].rc.v)):=by
 have HC:=hid (fun u=>qO l[i].rc.v l[j].rc.v u (hf _ (List.getElem_mem hi)) (hf _ (List.getElem_mem hj)));obtain ⟨b,off,hd1,hA,-,h1⟩:=v7 hE hi;obtain ⟨b',off',hd2,hA',-,h2⟩:=v7 hE hj;subst hA;(injection hA' with hA');(injection hA' with e1 e2 e3);subst e1; subst e2;have H1:=hid h1;have H2:=hid h2;have HG:=hid hg;(have i0:(0:Int)≤(i:Int):=by omega);(have i1:(i:Int) < (n:Int):=by omega);(have j0:(0:Int)≤(j:Int):=by omega);(have j1:(j:Int) < (n:Int):=by omega);clear hE hf h1 h2 hg hn;generalize l[i]=x at *;generalize l[j]=y at *;generalize xX x.rc.v y.rc.v=r at *;go_enter Tryz.func74,Tryz.ntmps74;(go_upto_region 1 with fail);have hS:Below w.heap.size w w.drew:=Below.drew (Below.refl _ _);(refine wpS (fun u=>Below w.heap.size w u) (.call [0,1,2,3,4,5,6,7,8,9,10,11,12,13] 14 (.last [15])) fun iS=>?_);(have g1:=fun (z:(SW fun u=>Below w.heap.size w u))=>(HG.out.kb z.ok.kb).2 1 (.slice (some ⟨b,off,none⟩) n c) rfl);(have gl:=fun (z:(SW fun u=>Below w.heap.size w u))=>(HG.out.kb z.ok.kb).1);(have c1:=fun (z:(SW fun u=>Below w.heap.size w u))=>(H1.out.kb z.ok.kb).c1);(have d1:=fun (z:(SW fun u=>Below w.heap.size w u))=>(H2.out.kb z.ok.kb).c1);(have c2:=fun (z:(SW fun u=>Below w.heap.size w u))=>(H1.out.kb z.ok.kb).c2);(have d2:=fun (z:(SW fun u=>Below w.heap.size w u))=>(H2.out.kb z.ok.kb).c2);have c3:=fun (z:(SW fun u=>Below w.heap.size w u))=>(H1.out.kb z.ok.kb).c3
 (have d3:=fun (z:(SW fun u=>Below w.heap.size w u))=>(H2.out.kb z.ok.kb).c3);(have c4:=fun (z:(SW fun u=>Below w.heap.size w u))=>(H1.out.kb z.ok.kb).c4);(have d4:=fun (z:(SW fun u=>Below w.heap.size w u))=>(H2.out.kb z.ok.kb).c4);(have c5:=fun (z:(SW fun u=>Below w.heap.size w u))=>(H1.out.kb z.ok.kb).c5);(have d5:=fun (z:(SW fun u=>Below w.heap.size w u))=>(H2.out.kb z.ok.kb).c5);(have cl:=fun (z:(SW fun u=>Below w.heap.size w u))=>(H1.out.kb z.ok.kb).lt);(with_reducible refine zD ?_);simp only [zB,pka,pkb,pkc,pkd,pke,pkf];(repeat go_big_quiet_step (fail));refine wpQuiet_nil ?_;(go_wp2_with fail);refine (HC.out _).mono ?_;rintro _ u2 ⟨rfl,hb⟩;have HB2:=hid (zC hS hb);clear hb;(go_wp2_with fail);refine zE (HB2.out) ?_;(with_reducible refine zJ ?_);simp only [zB,pka,pkb,pkc,pkd,pke,pkf];(repeat go_big_quiet_step (fail));refine wpQuiet_nil ?_;clear g1 gl c1 c2 c3 c4 c5 d1 d2 d3 d4 d5 cl iS;(go_wp2_with fail);(try rw [Exit.noGoto_ret]);(try go_ret);exact ⟨rfl,HB2.out⟩
theorem eu (s:ShelfL) (A:Option Addr) (c:Nat) (nm:ByteArray) (w:World) (hL:Laid w) (hE:yL w A s.entries) (hok:EntsOk s.entries) (hc:s.entries.length≤c) (h64:zQ z7 s=true→s.entries.length≤64):Calls Tryz.prog 37 #[s.val A c,.string nm] w (Vv w (tP s nm)):=by
 have eg:∀ args w,(callFunc 74 args).run Tryz.prog w = .ok (.enter 74 args) w:=enters_of Tryz.func74 (by kernel_rfl) rfl;have EG:=hid eg;(have hmf:∀ (fn:Fn) (first cap:Array Value) (w:World),(Instr.makeFunc fn first cap).run Tryz.prog w = .ok (.func fn first cap) w:=fun _ _ _ _=>rfl);have HM:=hid (fun u (hb:KB w.heap.size w u)=>kr s A c u (hL.kb hb) (hE.kb EntryAt.stays hb) hok hc);have HE:=hid hE;have HOK:=hid hok;have H64:=hid h64;have HR1:=hid (fun (h:zQ z7 s=false)=>show tP s nm=[] by rw [tP,h]; rfl);have HR2:=hid (fun (h:zQ z7 s=true) (d:List Nat) hp hs=>ZU (nm:=nm) (d:=d) h hp hs);have HV:=hid (fun (h:zQ z7 s=true)=>pd h);clear hE hok eg h64;generalize tP s nm=res at *;generalize zQ z7 s=ms at *;obtain ⟨snm,l⟩:=s;dsimp only [ShelfL.val] at *;generalize hnn:l.length=n at *;have HN:=hid hnn;clear hnn;go_enter Tryz.func37,Tryz.ntmps37;(go_upto_region 1 with fail);refine zI ?_;intro u1 hu;have HX:=hid (show Box u1 w.heap.size [.string snm,.slice A n c] by rw [hu]; exact Box.new w [.string snm,.slice A n c] 24);have HB1:=hid (show KB w.heap.size w u1 by rw [hu]; exact zG _ _);clear hu;have x0:=HX.out.2 0 _ rfl;have x1:=HX.out.2 1 _ rfl;have xl:=HX.out.1;replace HM:=hid (HM.out u1 HB1.out);cases ms
 ·have HR:=hid (HR1.out rfl);(go_wp2_with fail);refine HM.out.mono ?_;rintro _ u2 ⟨rfl,hb⟩;have HB2:=hid (zA HB1.out hb);clear hb x0 x1 xl;(go_wp2_with fail);(try rw [Exit.noGoto_ret]);(try go_ret);rw [HR.out];exact ⟨none,0,rfl,.inl rfl,HB2.out⟩
 ·have h64:n≤64:=H64.out rfl;replace HR2:=hid (HR2.out rfl);replace HV:=hid (HV.out rfl);clear HR1 H64;(go_wp2_with fail);refine HM.out.mono ?_;rintro _ u2 ⟨rfl,hb⟩;have HB2:=hid (zA HB1.out hb);replace HX:=hid (HX.out.kb hb);clear hb x0 x1 xl;have x1:=HX.out.2 1 _ rfl;have xl:=HX.out.1;(go_upto_block 0 with fail);(go_wp2_with fail);clear x1 xl;go_loopw [14,5] (fun i v ww=>∃ k:Nat,i = .int .i64 (k:Int)∧k≤n∧∃ acc:List Nat,Hid (z8 nm 0 l=acc++z8 nm k (l.drop k))∧Hid (UD ww u2.heap.size v acc)∧Hid (acc.length≤k)∧Hid (KB u2.heap.size u2 ww)) (fun i _ _=>n - (intOf i).toNat)
  case atStart=>exact ⟨0,rfl,Nat.zero_le _,[],hid rfl,hid (World.ownsRow_nil _ _ _ _),hid (Nat.le_refl _),hid (zH _)⟩
  case round =>
   (rename World=>wr);obtain ⟨k,rfl,hk,acc,HD,HO,HAL,HB⟩:=hrel;have HBW:=hid (zA HB2.out HB.out);by_cases hlt:k < n
   ·(have hlt':k < l.length:=by rw [HN.out]; exact hlt);obtain ⟨b,off,hd,hA,-,⟨c0,c1,c2,c3,c4,c5,c6,c7,c8,c9,c10,cl⟩⟩:=v7 (HE.out.kb EntryAt.stays HBW.out) hlt';subst hA;have HS:=hid (hN (nm:=nm) hlt');(have k0:(0:Int)≤(k:Int):=by omega);(have k1:(k:Int) < (n:Int):=by omega);generalize l[k]=x at *;obtain ⟨⟨rn,rv,rne,rba,rfe⟩,rs,ry⟩:=x;dsimp only at c0 c1 c2 c3 c4 c5 c6 c7 c8 c9 c10 HS;generalize rne.length=n1 at *;generalize rba.length=n2 at *;generalize rfe.length=n3 at *;(go_upto_region 7 with fail);refine zI ?_;intro u5 hu;have HY:=hid (show Box u5 wr.heap.size [.string rn,.int .i64 rv.maj,.int .i64 rv.min,.int .i64 rv.pat,.string rv.pre,.string rv.bld,.slice hd.A n1 hd.ca,.slice hd.B n2 hd.cb,.slice hd.F n3 hd.cf,.int .u64 rs,.bool ry] by rw [hu]; exact Box.new wr [.string rn,.int .i64 rv.maj,.int .i64 rv.min,.int .i64 rv.pat,.string rv.pre,.string rv.bld,.slice hd.A n1 hd.ca,.slice hd.B n2 hd.cb,.slice hd.F n3 hd.cf,.int .u64 rs,.bool ry] 35);have HB5:=hid (show KB wr.heap.size wr u5 by rw [hu]; exact zG _ _);clear hu c0 c1 c2 c3 c4 c5 c6 c7 c8 c9 c10 cl;have HO5:=hid (OwnL.kb HO.out HB5.out);have HBX:=hid (zA HB.out HB5.out);clear HO;have hsz:=HBX.out.size;generalize wr.heap.size=gq at *;have y0:=HY.out.2 0 _ rfl;have yl:=HY.out.1;by_cases hq:bts rn=bts nm
    ·(have e1:(rn.toList==nm.toList)=true:=by rw [beq_iff_eq]; exact hq);have HD2:=hid (show z8 nm 0 l=(acc++[k])++z8 nm (k+1) (l.drop (k+1)) by rw [HD.out,HS.out,if_pos (qw.2 hq)]; simp);clear hq;(go_wp2_with (at_builtin; refine zW mO rfl (.tmp 24) (.tmp 26) rfl rfl (tG HO5.out (zG _ _)) rfl (uN _ (cT k) 3 1 rfl) (Zc k) (by have:=HAL.out; unfold maxLen; omega) (by have:=HAL.out; omega) (by rw [World.size_alloc]; omega) ?_; intro v3 w3 h3 hb3 _; have H3:=hid h3; have HB3':=hid hb3.kb; clear h3 hb3));go_roundw
     case rel=>exact ⟨k+1,by go_num,by omega,acc++[k],HD2,hid (OwnL.snoc H3.out),hid (by have:=HAL.out; simp; omega),hid (Go.RowKit.Below.trans (uX HBX.out hsz _) HB3'.out)⟩
     case measure=>simp [intOf]<;>omega
    ·(have e1:(rn.toList==nm.toList)=false:=by rw [beq_eq_false_iff_ne]; exact hq);have HD2:=hid (show z8 nm 0 l=acc++z8 nm (k+1) (l.drop (k+1)) by rw [HD.out,HS.out,if_neg (by intro h; exact hq (qw.1 h))]);clear hq;(go_wp2_with fail);go_roundw
     case rel=>exact ⟨k+1,by go_num,by omega,acc,HD2,HO5,hid (by have:=HAL.out; omega),HBX⟩
     case measure=>simp [intOf]<;>omega
   ·(obtain rfl:k=n:=by omega);(have k1:¬ (k:Int) < (k:Int):=by omega);have HP:=hid (show z8 nm 0 l=acc by rw [HD.out,dR (by rw [HN.out]; exact Nat.le_refl _),List.append_nil]);obtain ⟨A2,cap,hv,hli,hbase,-⟩:=OwnL.lies aX HO.out;subst hv;have HLI:=hid (ZW hli);have HALL:=HAL.out;have hub:w.heap.size≤u2.heap.size:=HB2.out.size;rcases Nat.eq_zero_or_pos acc.length with h0 | h0
    ·have ha:acc=[]:=List.eq_nil_of_length_eq_zero h0;subst ha;have HE2:=hid (show res=[] from (HR2.out [] (by rw [HP.out]) List.Pairwise.nil).symm);have HSN:=hid (fun f=>dI A2 cap f wr);clear hli hbase;dsimp only [List.length_nil] at *;(go_wp2_with fail);refine (HSN.out _).mono ?_;rintro _ _ ⟨rfl,rfl⟩;(go_wp2_with fail);(try rw [Exit.noGoto_ret]);(try go_ret);rw [HE2.out];exact ⟨A2,cap,rfl,.inl rfl,HBW.out⟩
    ·obtain ⟨g,cap2,hv2,hgb,hgl,-,-⟩:=vN HO.out h0;(have hA2:A2=some ⟨g,0,none⟩:=by injection hv2);(have hcc:cap=cap2:=by injection hv2);subst hA2;subst hcc;have HSF:=hid (show ∀ j,wr.frozen? ⟨g,j,none⟩=false from HO.out.frozenAt);have HBX:=hid (show Box wr w.heap.size [.string snm,.slice A k c] from HX.out.kb HB.out)
     have HSO:=hid (ec l 74 #[.pointer (some ⟨w.heap.size,0,none⟩)] g cap acc wr h0 (fun i hi=>by rw [← HP.out] at hi; have:=(uL hi).2.1; omega) HV.out HLI.out HSF.out hgl (by omega) EG.out
      (fun u hu i j hi hj=>by
       have hkb:KB u2.heap.size u2 u:=Go.RowKit.Below.trans HB.out (Go.RowKit.Below.mono hu hgb)
       exact YN snm A k c l i j hi hj HN.out (by omega) w.heap.size u (HX.out.kb hkb) ((HE.out.kb EntryAt.stays HB2.out).kb EntryAt.stays hkb) HOK.out.fit))
     have HFIN:=hid (fun (d:List Nat) hp hs=>(HR2.out d (by rw [HP.out]; exact hp) hs).symm);clear hli hbase hv2;generalize hal:acc.length=al at *;have HAC:=hid hal;clear hal;(go_wp2_with fail);refine HSO.out.mono ?_;rintro _ u6 ⟨rfl,d,hp,hs,hin,hb⟩;have HB6:=hid (show KB w.heap.size w u6 from Go.RowKit.Below.trans HBW.out (Go.RowKit.Below.mono hb (Nat.le_trans hub hgb)));have HE2:=hid (HFIN.out d hp hs);have HDL:=hid hp.length_eq;have HIN:=hid hin;clear hp hs hin hb;(go_wp2_with fail);(try rw [Exit.noGoto_ret]);(try go_ret);rw [HE2.out];exact ⟨some ⟨g,0,none⟩,cap,by rw [HDL.out,HAC.out]<;>rfl,HIN.out,HB6.out⟩
def dO (w:World) (r:Int × Int) (e:Ending) (w':World):Prop:=e = .returned (.tuple #[.int .i64 r.1,.int .i64 r.2])∧KB w.heap.size w w'
def sw (w:World) (r:Int × List Nat × Int) (e:Ending) (w':World):Prop:=∃ A c,e = .returned (.tuple #[.int .i64 r.1,.slice A r.2.1.length c,.int .i64 r.2.2])∧pz w' A (tp r.2.1)∧KB w.heap.size w w'
theorem XS {l:List ShelfL} {p:List PinL} {nm:ByteArray} (h:zw l=false):xQ l p nm=(0,1):=by rw [xQ,h]; rfl
theorem Xa {l:List ShelfL} {p:List PinL} {nm:ByteArray} (h:zw l=true) (h2:wG p=false):xQ l p nm=(0,15):=by rw [xQ,h,h2]; rfl
theorem Xe {l:List ShelfL} {p:List PinL} {nm:ByteArray} (h:zw l=true) (h2:wG p=true) {k:Nat} {t:PinL} (ht:p[k]?=some t) (h3:zd (fun x:PinL=>yH x.name nm) 0 p=(k:Int)):xQ l p nm=if zd (fun x:ShelfL=>yH x.name t.shelf) 0 l < 0 then (0,12) else (zd (fun x:ShelfL=>yH x.name t.shelf) 0 l,0):=by
 rw [xQ,h,h2,h3,Int.toNat_natCast,ht,decide_eq_true (by omega)];rfl
theorem XV {l:List ShelfL} {p:List PinL} {nm:ByteArray} (h:zw l=true) (h2:wG p=true) (h3:zd (fun x:PinL=>yH x.name nm) 0 p < 0):xQ l p nm=if zd (ni nm) 0 l < 0 then (0,9) else (zd (ni nm) 0 l,0):=by
 rw [xQ,h,h2,decide_eq_false (by omega)];simp only [Bool.not_true,Bool.false_eq_true,if_false];split
 ·rename_i h; simp at h
 ·rfl
theorem vw (A:Option Addr) (c:Nat) (l:List ShelfL) (B:Option Addr) (d:Nat) (p:List PinL) (nm:ByteArray) (w:World) (hL:Laid w) (hA:xc w A l) (hn:l.length≤9223372036854775807) (hok:∀ s∈l,EntsOk s.entries) (hP:Z6 w B p) (hpn:p.length≤9223372036854775807):Calls Tryz.prog 29 #[.slice A l.length c,.slice B p.length d,.string nm] w (dO w (xQ l p nm)):=by
 have eg1:∀ args w,(callFunc 63 args).run Tryz.prog w = .ok (.enter 63 args) w:=enters_of Tryz.func63 (by kernel_rfl) rfl;have eg2:∀ args w,(callFunc 65 args).run Tryz.prog w = .ok (.enter 65 args) w:=enters_of Tryz.func65 (by kernel_rfl) rfl;have eg3:∀ args w,(callFunc 66 args).run Tryz.prog w = .ok (.enter 66 args) w:=enters_of Tryz.func66 (by kernel_rfl) rfl;(have hmf:∀ (fn:Fn) (first cap:Array Value) (w:World),(Instr.makeFunc fn first cap).run Tryz.prog w = .ok (.func fn first cap) w:=fun _ _ _ _=>rfl);have HM:=hid (fun u (hb:KB w.heap.size w u)=>sD A c l u (hL.kb hb) (hA.kb ShelfAt.stays hb) hn hok);have HPN:=hid (fun u (hb:KB w.heap.size w u)=>jH B d p u (hP.kb PinAt.stays hb) hpn);have HF1:=hid (fun g u (hb:KB w.heap.size w u) (hg:Box u g [.string nm])=>ZX 63 #[.pointer (some ⟨g,0,none⟩)] (fun x=>yH x.name nm) B d p u (hP.kb PinAt.stays hb) hpn eg1 (fun x u2 _ hu=>WM x.name x.shelf nm g u2 (hg.kb hu)));have HF2:=hid (fun (k:Nat) (t:PinL) (ht:p[k]?=some t) g1 g2 u (hb:KB w.heap.size w u) (h1:Box u g1 [.slice B p.length d]) (h2:Box u g2 [.int .i64 (k:Int)])=>sC 65 #[.pointer (some ⟨g1,0,none⟩),.pointer (some ⟨g2,0,none⟩)] (fun x=>yH x.name t.shelf) A c l u (hA.kb ShelfAt.stays hb) hn eg2 (fun x A' c' u2 _ hu _ _=>Xo x.name A' B x.entries.length c' d p k t ht g1 g2 u2 (h1.kb hu) (h2.kb hu) ((hP.kb PinAt.stays hb).kb PinAt.stays hu) hpn))
 have HF3:=hid (fun g u (hb:KB w.heap.size w u) (hg:Box u g [.string nm])=>sC 66 #[.pointer (some ⟨g,0,none⟩)] (ni nm) A c l u (hA.kb ShelfAt.stays hb) hn eg3 (fun x A' c' u2 hx hu hE _=>X3 x.name nm A' x.entries c' g u2 hE (hok x hx).len (hg.kb hu)));have HFA:=hid (fun h=>XS (l:=l) (p:=p) (nm:=nm) h);have HFB:=hid (fun h h2=>Xa (l:=l) (p:=p) (nm:=nm) h h2);have HFC:=hid (fun h h2 (k:Nat) (t:PinL) (ht:p[k]?=some t) h3=>Xe (l:=l) (p:=p) (nm:=nm) h h2 ht h3);have HFD:=hid (fun h h2 h3=>XV (l:=l) (p:=p) (nm:=nm) h h2 h3);have HPR:=hid (uT (q:=fun x:PinL=>yH x.name nm) p 0);clear hL hA hok hP eg1 eg2 eg3;generalize zw l=ms at *;generalize wG p=po at *;generalize zd (fun x:PinL=>yH x.name nm) 0 p=pk at *;generalize hfi:zd (ni nm) 0 l=fj at *;clear hfi;generalize l.length=n at *;generalize hm0:p.length=m at *;have HM0:=hid hm0;clear hm0;go_enter Tryz.func29,Tryz.ntmps29;(go_upto_region 1 with fail);refine zI ?_;intro u1 hu;have HB0:=hid (show KB w.heap.size w (w.alloc (.cells #[.slice B m d] 55)) from zG _ _);have HX:=hid (show Box u1 w.heap.size [.slice B m d] by rw [hu]; exact (Box.new w [.slice B m d] 55).kb (zG _ _));have HY:=hid (show Box u1 (w.heap.size+1) [.string nm] by rw [hu]; have:=Box.new (w.alloc (.cells #[.slice B m d] 55)) [.string nm] 9; rwa [World.size_alloc] at this);have HB1:=hid (show KB w.heap.size w u1 by rw [hu]; exact zA HB0.out (zG _ _))
 clear hu HB0;generalize w.heap.size+1=q2 at *;replace HM:=hid (HM.out u1 HB1.out);cases ms
 ·have HE:=hid (HFA.out rfl);(go_wp2_with fail);refine HM.out.mono ?_;rintro _ u2 ⟨rfl,hb⟩;have HB2:=hid (zA HB1.out hb);clear hb;(go_wp2_with fail);(try rw [Exit.noGoto_ret]);(try go_ret2);exact ⟨by rw [HE.out]<;>rfl,HB2.out⟩
 ·(go_wp2_with fail);refine HM.out.mono ?_;rintro _ u2 ⟨rfl,hb⟩;have HB2:=hid (zA HB1.out hb);have HX2:=hid (HX.out.kb hb);have HY2:=hid (HY.out.kb hb);clear hb;have x0:=HX2.out.2 0 _ rfl;have xl:=HX2.out.1;replace HPN:=hid (HPN.out u2 HB2.out);cases po
  ·have HE:=hid (HFB.out (by first | rfl | trivial) rfl);(go_wp2_with fail);refine HPN.out.mono ?_;rintro _ u3 ⟨rfl,hb⟩;have HB3:=hid (zA HB2.out hb);clear hb x0 xl;(go_wp2_with fail);(try rw [Exit.noGoto_ret]);(try go_ret2);exact ⟨by rw [HE.out]<;>rfl,HB3.out⟩
  ·replace HFC:=hid (HFC.out (by first | rfl | trivial) rfl);replace HFD:=hid (HFD.out (by first | rfl | trivial) rfl);(go_wp2_with fail);refine HPN.out.mono ?_;rintro _ u3 ⟨rfl,hb⟩;have HB3:=hid (zA HB2.out hb);have HX3:=hid (HX2.out.kb hb);have HY3:=hid (HY2.out.kb hb);clear hb x0 xl HFA HFB HPN;have x0:=HX3.out.2 0 _ rfl;have xl:=HX3.out.1;(go_wp2_with fail);refine (HF1.out q2 u3 HB3.out HY3.out).mono ?_;rintro _ u4 ⟨rfl,hb⟩;have HB4:=hid (zA HB3.out hb);have HX4:=hid (HX3.out.kb hb);have HY4:=hid (HY3.out.kb hb);clear hb x0 xl HF1;(go_upto_region 6 with fail);refine zI ?_;intro u5 hu;have HZ:=hid (show Box u5 u4.heap.size [.int .i64 pk] by rw [hu]; exact Box.new u4 [.int .i64 pk] 3);(have hb:KB u4.heap.size u4 u5:=by rw [hu]; exact zG _ _);have HB5:=hid (zA HB4.out hb);have HX5:=hid (HX4.out.kb hb);have HY5:=hid (HY4.out.kb hb);clear hu hb;have z0:=HZ.out.2 0 _ rfl;have zl:=HZ.out.1;by_cases hp:pk < 0
   ·(have d0:decide ((0:Int)≤pk)=false:=by rw [decide_eq_false_iff_not]; omega);(have d2:¬ (0:Int)≤pk:=by omega);have HR:=hid (HFD.out hp);clear hp HFC;(go_wp2_with fail);refine (HF3.out q2 u5 HB5.out HY5.out).mono ?_;rintro _ u6 ⟨rfl,hb⟩;have HB6:=hid (zA HB5.out hb);clear hb z0 zl;by_cases hq:fj < 0
    ·have d1:decide (fj < 0)=true:=decide_eq_true hq;have HE:=hid (show xQ l p nm=(0,9) by rw [HR.out,if_pos hq]);clear HR;(go_wp2_with fail);(try rw [Exit.noGoto_ret]);(try go_ret2);exact ⟨by rw [HE.out]<;>rfl,HB6.out⟩
    ·have d1:decide (fj < 0)=false:=decide_eq_false hq;have HE:=hid (show xQ l p nm=(fj,0) by rw [HR.out,if_neg hq]);clear HR;(go_wp2_with fail);(try rw [Exit.noGoto_ret]);(try go_ret2);exact ⟨by rw [HE.out]<;>rfl,HB6.out⟩
   ·(have d0:decide ((0:Int)≤pk)=true:=by rw [decide_eq_true_iff]; omega);(have d2:(0:Int)≤pk:=by omega);obtain ⟨k,rfl⟩:∃ k:Nat,pk=(k:Int):=⟨pk.toNat,by omega⟩;(have hk:k < p.length:=by rw [HM0.out]; have:=HPR.out; omega);have ht:=List.getElem?_eq_getElem hk;generalize p[k]=t at *;have HR:=hid (HFC.out k t ht rfl);have HC:=hid (HF2.out k t ht w.heap.size u4.heap.size u5 HB5.out HX5.out HZ.out);clear hp HFD HPR ht hk;generalize zd (fun x:ShelfL=>yH x.name t.shelf) 0 l=fi at *;(go_wp2_with fail);refine HC.out.mono ?_;rintro _ u6 ⟨rfl,hb⟩;have HB6:=hid (zA HB5.out hb);clear hb z0 zl;by_cases hq:fi < 0
    ·have d1:decide (fi < 0)=true:=decide_eq_true hq;have HE:=hid (show xQ l p nm=(0,12) by rw [HR.out,if_pos hq]);clear HR;(go_wp2_with fail);(try rw [Exit.noGoto_ret]);(try go_ret2);exact ⟨by rw [HE.out]<;>rfl,HB6.out⟩
    ·have d1:decide (fi < 0)=false:=decide_eq_false hq;have HE:=hid (show xQ l p nm=(fi,0) by rw [HR.out,if_neg hq]);clear HR;(go_wp2_with fail);(try rw [Exit.noGoto_ret]);(try go_ret2);exact ⟨by rw [HE.out]<;>rfl,HB6.out⟩
theorem X4 {l:List ShelfL} {p:List PinL} {nm:ByteArray} (h:(xQ l p nm).2=0):∃ k:Nat,k < l.length∧(xQ l p nm).1=(k:Int)∧zw l=true:=by
 cases h1:zw l
 ·rw [XS h1] at h; cases h
 ·cases h2:wG p
  ·rw [Xa h1 h2] at h; cases h
  ·have hc:∀ q:ShelfL→Bool,∀ en:Int,en≠0→(if zd q 0 l < 0 then ((0:Int),en) else (zd q 0 l,0)).2=0→∃ k:Nat,k < l.length∧(if zd q 0 l < 0 then ((0:Int),en) else (zd q 0 l,0)).1=(k:Int):=fun q en hen h=>by
    split at h
    ·exact absurd h hen
    ·rename_i hq
     rw [if_neg hq];have:=uT (q:=q) l 0;exact ⟨(zd q 0 l).toNat,by omega,by dsimp only; omega⟩
   by_cases h3:zd (fun x:PinL=>yH x.name nm) 0 p < 0
   ·rw [XV h1 h2 h3] at h ⊢;obtain ⟨k,e1,e2⟩:=hc _ 9 (by decide) h;exact ⟨k,e1,e2,rfl⟩
   ·have:=uT (q:=fun x:PinL=>yH x.name nm) p 0;(have hk:(zd (fun x:PinL=>yH x.name nm) 0 p).toNat < p.length:=by omega);rw [Xe h1 h2 (List.getElem?_eq_getElem hk) (by omega)] at h ⊢;obtain ⟨k,e1,e2⟩:=hc _ 12 (by decide) h;exact ⟨k,e1,e2,rfl⟩
theorem kP {s:ShelfL} (h:zQ z7 s=true):s.entries.length≤64:=by
 rw [zQ,Bool.and_eq_true,Bool.and_eq_true,decide_eq_true_eq] at h;exact h.1.2
theorem Yt {l:List ShelfL} {p:List PinL} {nm:ByteArray} (h:(xQ l p nm).2≠0):zm l p nm=(0,[],(xQ l p nm).2):=by rw [zm,if_neg h]
theorem Ya {l:List ShelfL} {p:List PinL} {nm:ByteArray} {k:Nat} {s:ShelfL} (hs:l[k]?=some s) (h:xQ l p nm=((k:Int),0)):zm l p nm=((k:Int),tP s nm,0):=by
 rw [zm,h,if_pos rfl];dsimp only;rw [Int.toNat_natCast,hs]
theorem qL (A:Option Addr) (c:Nat) (l:List ShelfL) (B:Option Addr) (d:Nat) (p:List PinL) (nm:ByteArray) (w:World) (hL:Laid w) (hA:xc w A l) (hn:l.length≤9223372036854775807) (hok:∀ s∈l,EntsOk s.entries) (hP:Z6 w B p) (hpn:p.length≤9223372036854775807):Calls Tryz.prog 31 #[.slice A l.length c,.slice B p.length d,.string nm] w (sw w (zm l p nm)):=by
 have HF:=hid (vw A c l B d p nm w hL hA hn hok hP hpn);have HA:=hid hA;have HLS:=hid (fun (k:Nat) (s:ShelfL) (hs:l[k]?=some s) A' c' u (hb:KB w.heap.size w u) (hE:yL u A' s.entries) (hc:s.entries.length≤c')=>eu s A' c' nm u (hL.kb hb) hE (hok _ (List.mem_of_getElem? hs)) hc kP);have HFA:=hid (fun h=>X4 (l:=l) (p:=p) (nm:=nm) h);have HLE:=hid (fun h=>Yt (l:=l) (p:=p) (nm:=nm) h);have HLH:=hid (fun (k:Nat) (s:ShelfL) (hs:l[k]?=some s) h=>Ya (l:=l) (p:=p) (nm:=nm) hs h);clear hL hA hok hP;unfold dO at HF;generalize zm l p nm=res at *;generalize xQ l p nm=fr at *;obtain ⟨fi,fe⟩:=fr;dsimp only at HF HFA HLE;generalize p.length=m at *;generalize hnn:l.length=n at *;have HN:=hid hnn;clear hnn;go_enter Tryz.func31,Tryz.ntmps31;(go_wp2_with fail);refine HF.out.mono ?_;rintro _ u1 ⟨rfl,hb⟩;have HB1:=hid hb;clear hb HF;by_cases he:fe=0
 ·subst he;obtain ⟨k,hk,h2,-⟩:=HFA.out rfl;obtain rfl:=h2;(have hk':k < l.length:=by rw [HN.out]; exact hk);have hs:=List.getElem?_eq_getElem hk';have HE:=hid (HLH.out k _ hs rfl);obtain ⟨b,off,A',c',hAA,hbl,c0,c1,hEn,hc'⟩:=qh (HA.out.kb ShelfAt.stays HB1.out) hk';subst hAA;(have k0:(0:Int)≤(k:Int):=by omega);(have k1:(k:Int) < (n:Int):=by omega);have HC:=hid (HLS.out k _ hs A' c' u1 HB1.out hEn hc');clear hEn hc' HFA HLE HLH HLS hs;generalize tP l[k] nm=ls at *;generalize l[k]=x at *;clear hk';obtain ⟨xn,xe⟩:=x;dsimp only [ShelfL.val] at c0 c1 HC;generalize xe.length=xm at *;(go_wp2_with fail);refine HC.out.mono ?_;rintro _ u2 ⟨A2,c2,rfl,hi,hb⟩;have HB2:=hid (zA HB1.out hb);have HI:=hid hi;clear hb hi c0 c1 hbl;generalize hll:ls.length=ll at *;have HLL:=hid hll;clear hll;(go_wp2_with fail);(try rw [Exit.noGoto_ret]);(try go_ret3);rw [HE.out];exact ⟨A2,c2,by rw [HLL.out]<;>rfl,HI.out,HB2.out⟩
 ·(have e0:(fe != 0)=true:=by rw [bne_iff_ne]; exact he);have HE:=hid (HLE.out he);clear he;(go_wp2_with fail);(try rw [Exit.noGoto_ret]);(try go_ret3);rw [HE.out];exact ⟨none,0,rfl,.inl rfl,HB1.out⟩
end Go.Proofs.YtofkjhnhafbfoaaGreatDoor
