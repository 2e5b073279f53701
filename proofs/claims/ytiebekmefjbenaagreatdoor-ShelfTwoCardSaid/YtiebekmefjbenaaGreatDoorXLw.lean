import Derived.Test.YtiebekmefjbenaaGreatDoorXLo
set_option linter.unusedVariables false
set_option linter.unusedSimpArgs false
set_option maxRecDepth 100000
set_option maxHeartbeats 2000000
namespace Go.Proofs.YtiebekmefjbenaaGreatDoor
open Go.RowKit Go.Lib
open Rw
def RV (es:List EntryL) (i j:Nat):Prop:=∃ x y,es[i]?=some x∧es[j]?=some y∧xX x.rc.v y.rc.v < 0
theorem lC (es:List EntryL) (i:Nat):∀ l:List Nat,(fT es i l).Perm (i::l)
 | []=>List.Perm.refl _
 | k::r=>by
  rw [fT];split
  ·split
   ·exact ((lC es i r).cons k).trans (List.Perm.swap i k r)
   ·exact List.Perm.refl _
  ·exact List.Perm.refl _
theorem WJ {es:List EntryL} {i k:Nat} {l:List Nat}:k∈fT es i l↔k=i∨k∈l:=by
 rw [(lC es i l).mem_iff,List.mem_cons]
theorem aC {es:List EntryL} (V:∀ (i:Nat) x,es[i]?=some x→yF x.rc.v=true) {i j k:Nat} (h1:RV es i j) (h2:RV es j k):RV es i k:=by
 obtain ⟨x,y,e1,e2,h⟩:=h1;obtain ⟨y',z,e3,e4,h'⟩:=h2;rw [e2] at e3;(injection e3 with e3);subst e3;exact ⟨x,z,e1,e4,pt (V _ _ e1) (V _ _ e2) (V _ _ e4) h h'⟩
theorem az {es:List EntryL} (V:∀ (i:Nat) x,es[i]?=some x→yF x.rc.v=true) {i j:Nat} (h1:RV es i j) (h2:RV es j i):False:=by
 obtain ⟨x,z,e1,e2,h⟩:=aC V h1 h2;rw [e1] at e2;(injection e2 with e2);subst e2;rw [pD (V _ _ e1)] at h;omega
theorem kU {es:List EntryL} (V:∀ (i:Nat) x,es[i]?=some x→yF x.rc.v=true) {i:Nat}:∀ {l:List Nat},l.Pairwise (RV es)→(∀ k∈l,RV es k i∨RV es i k)→(fT es i l).Pairwise (RV es)
 | [],_,_=>by rw [fT]; exact List.pairwise_singleton _ _
 | k::r,h,ht=>by
  rw [List.pairwise_cons] at h;rcases ht k (by simp) with q | q
  ·obtain ⟨x,y,e1,e2,e3⟩:=id q;rw [fT,e1,e2];dsimp only;rw [if_pos e3,List.pairwise_cons];refine ⟨fun a ha=>?_,kU V h.2 fun a ha=>ht a (by simp [ha])⟩;rcases WJ.1 ha with rfl | ha
   ·exact q
   ·exact h.1 a ha
  ·have hn:fT es i (k::r)=i::k::r:=by
    obtain ⟨x,y,e1,e2,e3⟩:=id q;rw [fT,e2,e1];dsimp only;rw [if_neg];intro e4;exact az V q ⟨y,x,e2,e1,e4⟩
   rw [hn,List.pairwise_cons,List.pairwise_cons];refine ⟨fun a ha=>?_,h⟩;rcases List.mem_cons.1 ha with rfl | ha
   ·exact q
   ·exact aC V q (h.1 a ha)
theorem ao {es:List EntryL} (V:∀ (i:Nat) x,es[i]?=some x→yF x.rc.v=true):∀ (ps acc:List Nat),acc.Pairwise (RV es)→(acc++ps).Pairwise (fun a b=>RV es a b∨RV es b a)→(ps.foldl (fun l i=>fT es i l) acc).Perm (acc++ps)∧(ps.foldl (fun l i=>fT es i l) acc).Pairwise (RV es)
 | [],acc,h,_=>by
  rw [List.foldl_nil,List.append_nil];exact ⟨List.Perm.refl _,h⟩
 | p::ps,acc,h,ht=>by
  rw [List.foldl_cons];(have h1:∀ k∈acc,RV es k p∨RV es p k:=fun k hk=>(List.pairwise_append.1 ht).2.2 k hk p (by simp));have hp:=lC es p acc;have hpp:(fT es p acc++ps).Perm (acc++p::ps):=(hp.append_right ps).trans (List.perm_middle.symm);obtain ⟨g1,g2⟩:=ao V ps (fT es p acc) (kU V h h1) ((hpp.pairwise_iff (fun h=>h.symm)).2 ht);exact ⟨g1.trans hpp,g2⟩
theorem gM {R:Nat→Nat→Prop}:∀ {l m:List Nat},l.Perm m→l.Pairwise R→m.Pairwise R→(∀ a b,R a b→R b a→False)→l=m
 | [],m,h,_,_,_=>by rw [List.nil_perm.1 h]
 | a::l,[],h,_,_,_=>by simp at h
 | a::l,b::m,h,h1,h2,hx=>by
  rw [List.pairwise_cons] at h1 h2
  have e:a=b:=by
   have ha:a∈b::m:=h.mem_iff.1 (by simp);have hb:b∈a::l:=h.mem_iff.2 (by simp);rcases List.mem_cons.1 ha with e | ha
   ·exact e
   ·rcases List.mem_cons.1 hb with e | hb
    ·exact e.symm
    ·exact (hx _ _ (h1.1 b hb) (h2.1 a ha)).elim
  subst e;rw [gM (List.Perm.cons_inv h) h1.2 h2.2 hx]
theorem uL {nm:ByteArray}:∀ {l:List EntryL} {i j:Nat},j∈z8 nm i l→i≤j∧∃ h:j - i < l.length,yH l[j - i].rc.name nm=true
 | [],i,j,h=>by simp [z8] at h
 | x::l,i,j,h=>by
  rw [z8] at h
  have go:j∈z8 nm (i+1) l→i≤j∧∃ h:j - i < (x::l).length,yH (x::l)[j - i].rc.name nm=true:=fun h=>by
   obtain ⟨h1,h2,h3⟩:=uL h;refine ⟨by omega,by simp; omega,?_⟩;(have e:j - i=j - (i+1)+1:=by omega);simp only [e,List.getElem_cons_succ];exact h3
  split at h
  ·rename_i hx
   rcases List.mem_cons.1 h with rfl | h
   ·refine ⟨Nat.le_refl _,by simp,?_⟩;simp only [Nat.sub_self,List.getElem_cons_zero];exact hx
   ·exact go h
  ·exact go h
theorem sJ {nm:ByteArray}:∀ {l:List EntryL} {i:Nat},(z8 nm i l).Pairwise (· < ·)
 | [],i=>by rw [z8]; exact List.Pairwise.nil
 | x::l,i=>by
  rw [z8];split
  ·rw [List.pairwise_cons];exact ⟨fun a ha=>by have:=(uL ha).1; omega,sJ⟩
  ·exact sJ
theorem qN {s:ShelfL} (h:zQ z7 s=true) (nm:ByteArray):(z8 nm 0 s.entries).Pairwise (fun a b=>RV s.entries a b∨RV s.entries b a):=by
 refine (List.Pairwise.and_mem.1 sJ).imp ?_;rintro a b ⟨ha,hb,hab⟩;obtain ⟨-,h1,h2⟩:=uL ha;obtain ⟨-,h3,h4⟩:=uL hb;simp only [Nat.sub_zero] at h1 h2 h3 h4;have hn:bts s.entries[a].rc.name=bts s.entries[b].rc.name:=(qw.1 h2).trans (qw.1 h4).symm;have hne:=il h hab h3 hn;by_cases hc:xX s.entries[b].rc.v s.entries[a].rc.v < 0
 ·exact .inr ⟨_,_,List.getElem?_eq_getElem h3,List.getElem?_eq_getElem h1,hc⟩
 ·exact .inl ⟨_,_,List.getElem?_eq_getElem h1,List.getElem?_eq_getElem h3,bV (tQ h h1) (tQ h h3) hc hne⟩
theorem pd {s:ShelfL} (h:zQ z7 s=true):∀ (i:Nat) x,s.entries[i]?=some x→yF x.rc.v=true:=fun i x e=>by
 obtain ⟨hi,rfl⟩:=List.getElem?_eq_some_iff.1 e;exact tQ h hi
theorem gG {s:ShelfL} (h:zQ z7 s=true) (nm:ByteArray):(tP s nm).Perm (z8 nm 0 s.entries)∧(tP s nm).Pairwise (RV s.entries):=by
 rw [tP,if_pos h];have:=ao (pd h) (z8 nm 0 s.entries) [] List.Pairwise.nil (by rw [List.nil_append]; exact qN h nm)
 rwa [List.nil_append] at this
theorem ZU {s:ShelfL} (h:zQ z7 s=true) {nm:ByteArray} {d:List Nat} (hp:d.Perm (z8 nm 0 s.entries)) (hs:d.Pairwise fun a b=>∀ x y,s.entries[a]?=some x→s.entries[b]?=some y→0≤xX y.rc.v x.rc.v):d=tP s nm:=by
 obtain ⟨k1,k2⟩:=gG h nm;(refine gM (hp.trans k1.symm) ?_ k2 fun a b=>az (pd h));have ha:=(hp.pairwise_iff (fun h=>h.symm)).2 (qN h nm);refine (ha.and hs).imp ?_;rintro a b ⟨h1,h2⟩;rcases h1 with q | ⟨x,y,e1,e2,e3⟩
 ·exact q
 ·have:=h2 y x e2 e1;omega
abbrev cT (x:Nat):List Value:=[.int .i64 (x:Int)]
theorem aX (x:Nat):(cT x).length=1:=rfl
theorem Zc (x:Nat):∀ u∈cT x,u.oneCell'=true:=by
 intro u hu;(rcases List.mem_singleton.1 hu with rfl);rfl
abbrev UD (w:World) (base:Nat) (v:Value) (l:List Nat):Prop:=OwnL 3 1 cT w base v l
theorem ZW {w:World} {A:Option Addr} {l:List Nat} (h:Lies 1 cT w A l):pz w A (tp l):=by
 rcases h with h | ⟨b,off,rfl,hlt,hc⟩
 ·exact .inl (by rw [h]; rfl)
 ·refine .inr ⟨b,off,rfl,hlt,fun i hi=>?_⟩;(have hi':i < l.length:=by simpa [tp] using hi);have:=hc i hi' 0 _ rfl;rw [Nat.add_zero] at this;unfold IntAtJ;rw [this];simp [tp]
def Vv (w:World) (d:List Nat) (e:Ending) (w':World):Prop:=∃ A c,e = .returned (.slice A d.length c)∧pz w' A (tp d)∧KB w.heap.size w w'
theorem hN {nm:ByteArray} {l:List EntryL} {k:Nat} (h:k < l.length):z8 nm k (l.drop k)=if yH l[k].rc.name nm then k::z8 nm (k+1) (l.drop (k+1)) else z8 nm (k+1) (l.drop (k+1)):=by
 rw [List.drop_eq_getElem_cons h,z8]
theorem dR {nm:ByteArray} {l:List EntryL} {k:Nat} (h:l.length≤k):z8 nm k (l.drop k)=[]:=by
 rw [List.drop_eq_nil_of_le h,z8]
theorem YN (snm:ByteArray) (A:Option Addr) (n c:Nat) (l:List EntryL) (i j:Nat) (hi:i < l.length) (hj:j < l.length) (hn:l.length=n) (hn2:n≤9223372036854775807) (g:Nat) (w:World) (hg:Box w g [.string snm,.slice A n c]) (hE:yL w A l) (hf:∀ x∈l,x.rc.v.fit):Calls Tryz.prog 39 #[.int .i64 (i:Int),.int .i64 (j:Int),.pointer (some ⟨g,0,none⟩)] w (sB w (xX l[i].rc.v l[j].rc.v)):=by
 have HC:=hid (fun u=>qO l[i].rc.v l[j].rc.v u (hf _ (List.getElem_mem hi)) (hf _ (List.getElem_mem hj)));obtain ⟨b,off,hd1,hA,-,h1⟩:=v7 hE hi;obtain ⟨b',off',hd2,hA',-,h2⟩:=v7 hE hj;subst hA;(injection hA' with hA');(injection hA' with e1 e2 e3);subst e1; subst e2;have H1:=hid h1;have H2:=hid h2;have HG:=hid hg;(have i0:(0:Int)≤(i:Int):=by omega);(have i1:(i:Int) < (n:Int):=by omega);(have j0:(0:Int)≤(j:Int):=by omega);(have j1:(j:Int) < (n:Int):=by omega);clear hE hf h1 h2 hg hn;generalize l[i]=x at *;generalize l[j]=y at *;generalize xX x.rc.v y.rc.v=r at *;go_enter Tryz.func39,Tryz.ntmps39;(go_upto_region 1 with fail);have hS:Below w.heap.size w w.drew:=Below.drew (Below.refl _ _);(refine wpS (fun u=>Below w.heap.size w u) (.call [0,1,2,3,4,5,6,7,8,9,10,11,12,13] 14 (.last [15])) fun iS=>?_);(have g1:=fun (z:(SW fun u=>Below w.heap.size w u))=>(HG.out.kb z.ok.kb).2 1 (.slice (some ⟨b,off,none⟩) n c) rfl);(have gl:=fun (z:(SW fun u=>Below w.heap.size w u))=>(HG.out.kb z.ok.kb).1);(have c1:=fun (z:(SW fun u=>Below w.heap.size w u))=>(H1.out.kb z.ok.kb).c1);(have d1:=fun (z:(SW fun u=>Below w.heap.size w u))=>(H2.out.kb z.ok.kb).c1);(have c2:=fun (z:(SW fun u=>Below w.heap.size w u))=>(H1.out.kb z.ok.kb).c2);(have d2:=fun (z:(SW fun u=>Below w.heap.size w u))=>(H2.out.kb z.ok.kb).c2);have c3:=fun (z:(SW fun u=>Below w.heap.size w u))=>(H1.out.kb z.ok.kb).c3
 (have d3:=fun (z:(SW fun u=>Below w.heap.size w u))=>(H2.out.kb z.ok.kb).c3);(have c4:=fun (z:(SW fun u=>Below w.heap.size w u))=>(H1.out.kb z.ok.kb).c4);(have d4:=fun (z:(SW fun u=>Below w.heap.size w u))=>(H2.out.kb z.ok.kb).c4);(have c5:=fun (z:(SW fun u=>Below w.heap.size w u))=>(H1.out.kb z.ok.kb).c5);(have d5:=fun (z:(SW fun u=>Below w.heap.size w u))=>(H2.out.kb z.ok.kb).c5);(have cl:=fun (z:(SW fun u=>Below w.heap.size w u))=>(H1.out.kb z.ok.kb).lt);(with_reducible refine zD ?_);simp only [zB,pka,pkb,pkc,pkd,pke,pkf];(repeat go_big_quiet_step (fail));refine wpQuiet_nil ?_;(go_wp2_with fail);refine (HC.out _).mono ?_;rintro _ u2 ⟨rfl,hb⟩;have HB2:=hid (zC hS hb);clear hb;(go_wp2_with fail);refine zE (HB2.out) ?_;(with_reducible refine zJ ?_);simp only [zB,pka,pkb,pkc,pkd,pke,pkf];(repeat go_big_quiet_step (fail));refine wpQuiet_nil ?_;clear g1 gl c1 c2 c3 c4 c5 d1 d2 d3 d4 d5 cl iS;(go_wp2_with fail);(try rw [Exit.noGoto_ret]);(try go_ret);exact ⟨rfl,HB2.out⟩
theorem eu (s:ShelfL) (A:Option Addr) (c:Nat) (nm:ByteArray) (w:World) (hL:Laid w) (hE:yL w A s.entries) (hok:EntsOk s.entries) (hc:s.entries.length≤c) (h64:zQ z7 s=true→s.entries.length≤64):Calls Tryz.prog 19 #[s.val A c,.string nm] w (Vv w (tP s nm)):=by
 have eg:∀ args w,(callFunc 39 args).run Tryz.prog w = .ok (.enter 39 args) w:=enters_of Tryz.func39 (by kernel_rfl) rfl;have EG:=hid eg;(have hmf:∀ (fn:Fn) (first cap:Array Value) (w:World),(Instr.makeFunc fn first cap).run Tryz.prog w = .ok (.func fn first cap) w:=fun _ _ _ _=>rfl);have HM:=hid (fun u (hb:KB w.heap.size w u)=>kr s A c u (hL.kb hb) (hE.kb EntryAt.stays hb) hok hc);have HE:=hid hE;have HOK:=hid hok;have H64:=hid h64;have HR1:=hid (fun (h:zQ z7 s=false)=>show tP s nm=[] by rw [tP,h]; rfl);have HR2:=hid (fun (h:zQ z7 s=true) (d:List Nat) hp hs=>ZU (nm:=nm) (d:=d) h hp hs);have HV:=hid (fun (h:zQ z7 s=true)=>pd h);clear hE hok eg h64;generalize tP s nm=res at *;generalize zQ z7 s=ms at *;obtain ⟨snm,l⟩:=s;dsimp only [ShelfL.val] at *;generalize hnn:l.length=n at *;have HN:=hid hnn;clear hnn;go_enter Tryz.func19,Tryz.ntmps19;(go_upto_region 1 with fail);refine zI ?_;intro u1 hu;have HX:=hid (show Box u1 w.heap.size [.string snm,.slice A n c] by rw [hu]; exact Box.new w [.string snm,.slice A n c] 25);have HB1:=hid (show KB w.heap.size w u1 by rw [hu]; exact zG _ _);clear hu;have x0:=HX.out.2 0 _ rfl;have x1:=HX.out.2 1 _ rfl;have xl:=HX.out.1;replace HM:=hid (HM.out u1 HB1.out);cases ms
 ·have HR:=hid (HR1.out rfl);(go_wp2_with fail);refine HM.out.mono ?_;rintro _ u2 ⟨rfl,hb⟩;have HB2:=hid (zA HB1.out hb);clear hb x0 x1 xl;(go_wp2_with fail);(try rw [Exit.noGoto_ret]);(try go_ret);rw [HR.out];exact ⟨none,0,rfl,.inl rfl,HB2.out⟩
 ·have h64:n≤64:=H64.out rfl;replace HR2:=hid (HR2.out rfl);replace HV:=hid (HV.out rfl);clear HR1 H64;(go_wp2_with fail);refine HM.out.mono ?_;rintro _ u2 ⟨rfl,hb⟩;have HB2:=hid (zA HB1.out hb);replace HX:=hid (HX.out.kb hb);clear hb x0 x1 xl;have x1:=HX.out.2 1 _ rfl;have xl:=HX.out.1;(go_upto_block 0 with fail);(go_wp2_with fail);clear x1 xl;go_loopw [14,5] (fun i v ww=>∃ k:Nat,i = .int .i64 (k:Int)∧k≤n∧∃ acc:List Nat,Hid (z8 nm 0 l=acc++z8 nm k (l.drop k))∧Hid (UD ww u2.heap.size v acc)∧Hid (acc.length≤k)∧Hid (KB u2.heap.size u2 ww)) (fun i _ _=>n - (intOf i).toNat)
  case atStart=>exact ⟨0,rfl,Nat.zero_le _,[],hid rfl,hid (World.ownsRow_nil _ _ _ _),hid (Nat.le_refl _),hid (zH _)⟩
  case round =>
   (rename World=>wr);obtain ⟨k,rfl,hk,acc,HD,HO,HAL,HB⟩:=hrel;have HBW:=hid (zA HB2.out HB.out);by_cases hlt:k < n
   ·(have hlt':k < l.length:=by rw [HN.out]; exact hlt);obtain ⟨b,off,hd,hA,-,⟨c0,c1,c2,c3,c4,c5,c6,c7,c8,c9,c10,cl⟩⟩:=v7 (HE.out.kb EntryAt.stays HBW.out) hlt';subst hA;have HS:=hid (hN (nm:=nm) hlt');(have k0:(0:Int)≤(k:Int):=by omega);(have k1:(k:Int) < (n:Int):=by omega);generalize l[k]=x at *;obtain ⟨⟨rn,rv,rne,rba,rfe⟩,rs,ry⟩:=x;dsimp only at c0 c1 c2 c3 c4 c5 c6 c7 c8 c9 c10 HS;generalize rne.length=n1 at *;generalize rba.length=n2 at *;generalize rfe.length=n3 at *;(go_upto_region 7 with fail);refine zI ?_;intro u5 hu;have HY:=hid (show Box u5 wr.heap.size [.string rn,.int .i64 rv.maj,.int .i64 rv.min,.int .i64 rv.pat,.string rv.pre,.string rv.bld,.slice hd.A n1 hd.ca,.slice hd.B n2 hd.cb,.slice hd.F n3 hd.cf,.int .u64 rs,.bool ry] by rw [hu]; exact Box.new wr [.string rn,.int .i64 rv.maj,.int .i64 rv.min,.int .i64 rv.pat,.string rv.pre,.string rv.bld,.slice hd.A n1 hd.ca,.slice hd.B n2 hd.cb,.slice hd.F n3 hd.cf,.int .u64 rs,.bool ry] 55);have HB5:=hid (show KB wr.heap.size wr u5 by rw [hu]; exact zG _ _);clear hu c0 c1 c2 c3 c4 c5 c6 c7 c8 c9 c10 cl;have HO5:=hid (OwnL.kb HO.out HB5.out);have HBX:=hid (zA HB.out HB5.out);clear HO;have hsz:=HBX.out.size;generalize wr.heap.size=gq at *;have y0:=HY.out.2 0 _ rfl;have yl:=HY.out.1;by_cases hq:bts rn=bts nm
    ·(have e1:(rn.toList==nm.toList)=true:=by rw [beq_iff_eq]; exact hq);have HD2:=hid (show z8 nm 0 l=(acc++[k])++z8 nm (k+1) (l.drop (k+1)) by rw [HD.out,HS.out,if_pos (qw.2 hq)]; simp);clear hq;(go_wp2_with (at_builtin; refine zW mO rfl (.tmp 24) (.tmp 26) rfl rfl (tG HO5.out (zG _ _)) rfl (uN _ (cT k) 3 1 rfl) (Zc k) (by have:=HAL.out; unfold maxLen; omega) (by have:=HAL.out; omega) (by rw [World.size_alloc]; omega) ?_; intro v3 w3 h3 hb3 _; have H3:=hid h3; have HB3':=hid hb3.kb; clear h3 hb3));go_roundw
     case rel=>exact ⟨k+1,by go_num,by omega,acc++[k],HD2,hid (OwnL.snoc H3.out),hid (by have:=HAL.out; simp; omega),hid (Go.RowKit.Below.trans (uX HBX.out hsz _) HB3'.out)⟩
     case measure=>simp [intOf]<;>omega
    ·(have e1:(rn.toList==nm.toList)=false:=by rw [beq_eq_false_iff_ne]; exact hq);have HD2:=hid (show z8 nm 0 l=acc++z8 nm (k+1) (l.drop (k+1)) by rw [HD.out,HS.out,if_neg (by intro h; exact hq (qw.1 h))]);clear hq;(go_wp2_with fail);go_roundw
     case rel=>exact ⟨k+1,by go_num,by omega,acc,HD2,HO5,hid (by have:=HAL.out; omega),HBX⟩
     case measure=>simp [intOf]<;>omega
   ·(obtain rfl:k=n:=by omega);(have k1:¬ (k:Int) < (k:Int):=by omega);have HP:=hid (show z8 nm 0 l=acc by rw [HD.out,dR (by rw [HN.out]; exact Nat.le_refl _),List.append_nil]);obtain ⟨A2,cap,hv,hli,hbase,-⟩:=OwnL.lies aX HO.out;subst hv;have HLI:=hid (ZW hli);have HALL:=HAL.out;have hub:w.heap.size≤u2.heap.size:=HB2.out.size;rcases Nat.eq_zero_or_pos acc.length with h0 | h0
    ·have ha:acc=[]:=List.eq_nil_of_length_eq_zero h0;subst ha;have HE2:=hid (show res=[] from (HR2.out [] (by rw [HP.out]) List.Pairwise.nil).symm);have HSN:=hid (fun f=>dI A2 cap f wr);clear hli hbase;dsimp only [List.length_nil] at *;(go_wp2_with fail);refine (HSN.out _).mono ?_;rintro _ _ ⟨rfl,rfl⟩;(go_wp2_with fail);(try rw [Exit.noGoto_ret]);(try go_ret);rw [HE2.out];exact ⟨A2,cap,rfl,.inl rfl,HBW.out⟩
    ·obtain ⟨g,cap2,hv2,hgb,hgl,-,-⟩:=vN HO.out h0;(have hA2:A2=some ⟨g,0,none⟩:=by injection hv2);(have hcc:cap=cap2:=by injection hv2);subst hA2;subst hcc;have HSF:=hid (show ∀ j,wr.frozen? ⟨g,j,none⟩=false from HO.out.frozenAt);have HBX:=hid (show Box wr w.heap.size [.string snm,.slice A k c] from HX.out.kb HB.out)
     have HSO:=hid (ec l 39 #[.pointer (some ⟨w.heap.size,0,none⟩)] g cap acc wr h0 (fun i hi=>by rw [← HP.out] at hi; have:=(uL hi).2.1; omega) HV.out HLI.out HSF.out hgl (by omega) EG.out
      (fun u hu i j hi hj=>by
       have hkb:KB u2.heap.size u2 u:=Go.RowKit.Below.trans HB.out (Go.RowKit.Below.mono hu hgb)
       exact YN snm A k c l i j hi hj HN.out (by omega) w.heap.size u (HX.out.kb hkb) ((HE.out.kb EntryAt.stays HB2.out).kb EntryAt.stays hkb) HOK.out.fit))
     have HFIN:=hid (fun (d:List Nat) hp hs=>(HR2.out d (by rw [HP.out]; exact hp) hs).symm);clear hli hbase hv2;generalize hal:acc.length=al at *;have HAC:=hid hal;clear hal;(go_wp2_with fail);refine HSO.out.mono ?_;rintro _ u6 ⟨rfl,d,hp,hs,hin,hb⟩;have HB6:=hid (show KB w.heap.size w u6 from Go.RowKit.Below.trans HBW.out (Go.RowKit.Below.mono hb (Nat.le_trans hub hgb)));have HE2:=hid (HFIN.out d hp hs);have HDL:=hid hp.length_eq;have HIN:=hid hin;clear hp hs hin hb;(go_wp2_with fail);(try rw [Exit.noGoto_ret]);(try go_ret);rw [HE2.out];exact ⟨some ⟨g,0,none⟩,cap,by rw [HDL.out,HAC.out]<;>rfl,HIN.out,HB6.out⟩
theorem kP {s:ShelfL} (h:zQ z7 s=true):s.entries.length≤64:=by
 rw [zQ,Bool.and_eq_true,Bool.and_eq_true,decide_eq_true_eq] at h;exact h.1.2
end Go.Proofs.YtiebekmefjbenaaGreatDoor
