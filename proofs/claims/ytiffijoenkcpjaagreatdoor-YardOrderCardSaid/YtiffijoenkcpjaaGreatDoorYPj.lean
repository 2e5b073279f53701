import Derived.Test.YtiffijoenkcpjaaGreatDoorYLob
import Derived.Test.YtiffijoenkcpjaaGreatDoorYPh
set_option linter.unusedVariables false
set_option linter.unusedSimpArgs false
set_option maxRecDepth 100000
set_option maxHeartbeats 4000000
namespace Go.Proofs.YtiffijoenkcpjaaGreatDoor
open Go.RowKit Go.Lib Go.Shelf Go.Sort
open Rw
instance:Inhabited PinL:=⟨⟨⟨#[]⟩,⟨#[]⟩⟩⟩
abbrev cmpP (x y:PinL):Int:=mc (bts x.name) (bts y.name)
theorem pins2_any (x y:PinL) (w:World):Calls Tryz.prog 28 #[.agg #[.string x.name,.string x.shelf],.agg #[.string y.name,.string y.shelf]] w (sB w (cmpP x y)):=by
 have HBN:=hid (zC (zL w (.cells #[.string x.name,.string x.shelf] 53)) (zL _ (.cells #[.string y.name,.string y.shelf] 53)));have HC:=hid (fun u=>Y7 x.name y.name u);go_enter Tryz.func28,Tryz.ntmps28;(go_wp2_with fail);refine (HC.out _).mono ?_;rintro _ _ ⟨rfl,rfl⟩;(go_wp2_with fail);go_ret;exact ⟨rfl,HBN.out⟩
theorem cmpLaysP (blk off size:Nat) (w:World):CmpLays Tryz.prog 28 #[] pinCells 2 (fun x y:PinL=>cmpP x y) blk off size w :=
 fun _ _ _ _ x y=>(pins2_any x y _).mono fun _ _ ⟨he,hb⟩=>⟨he,below_grow hb⟩
theorem swoPin:SWO (ltOf fun x y:PinL=>cmpP x y) where
 irrefl x:=by simp [ltOf,cmpP,mc,oD]
 trans x y z h1 h2:=by
  simp only [ltOf,decide_eq_true_eq] at *;exact oT.2 (nk _ _ _ (oT.1 h1) (oT.1 h2))
 ntrans x y z h1 h2:=by
  simp only [ltOf,decide_eq_false_iff_not] at *;intro h;have h:=oT.1 h;(have n1:Op.bytesLess (bts x.name) (bts y.name)=false:=by rw [Bool.eq_false_iff]; exact fun k=>h1 (oT.2 k));(have n2:Op.bytesLess (bts y.name) (bts z.name)=false:=by rw [Bool.eq_false_iff]; exact fun k=>h2 (oT.2 k));cases k1:Op.bytesLess (bts y.name) (bts x.name)
  ·rw [sX _ _ n1 k1] at h;rw [h] at n2; cases n2
  ·rw [nk _ _ _ k1 h] at n2; cases n2
theorem isAggP:∀ w,(isAgg (Tryz.sortPin_ren.t 24)).run Tryz.prog w = .ok true w:=Tryz.isAgg53
theorem sizeOfP:∀ w,(Go.sizeOf (Tryz.sortPin_ren.t 24)).run Tryz.prog w = .ok 2 w:=Tryz.sizeOf53
theorem pcell_at (s:PinL) (j:Nat) (h:j < 2):∃ u,(pinCells s)[j]?=some u∧(pinCells s)[j]! =u:=by
 (have hl:j < (pinCells s).length:=by simpa using h);exact ⟨(pinCells s)[j],List.getElem?_eq_getElem hl,getElem!_pos (pinCells s) j hl⟩
theorem pinsK_of {w:World} {g:Nat} {d:Array PinL} (h:HoldsK pinCells 2 w g 0 d) (hg:g < w.heap.size):Lies 2 pinCells w (some ⟨g,0,none⟩) d.toList:=by
 refine .inr ⟨g,0,rfl,hg,fun i hi j u hj=>?_⟩;have hi':i < d.size:=by simpa using hi
 have hj2:j < 2:=by
  rcases Nat.lt_or_ge j 2 with h' | h'
  ·exact h'
  ·rw [List.getElem?_eq_none (by simp; omega)] at hj; cases hj
 have hk:=(h (i * 2+j) (by rw [size_flatK]; omega)).1;rw [get_flatK pinCells 2 d (i * 2+j) (by omega)] at hk;(have e1:(i * 2+j) / 2=i:=by omega);(have e2:(i * 2+j) % 2=j:=by omega);rw [e1,e2,getElem!_pos d i hi'] at hk;rw [Array.getElem_toList] at hj;obtain ⟨u',hu1,hu2⟩:=pcell_at d[i] j hj2;rw [hu1] at hj;(injection hj with hj);subst hj;(have e4:0+i * 2+j=0+(i * 2+j):=by omega);rw [e4,hk,hu2];rfl
theorem holdsP_of {w:World} {g:Nat} {l:List PinL} (h:Lies 2 pinCells w (some ⟨g,0,none⟩) l) (hs:Soft w g):HoldsK pinCells 2 w g 0 l.toArray:=by
 intro t ht;rw [size_flatK] at ht;(have hlen:l.toArray.size=l.length:=by simp);rw [hlen] at ht;refine ⟨?_,hs _⟩;rw [get_flatK pinCells 2 _ t (by rw [hlen]; exact ht)];(have hi:t / 2 < l.length:=by omega);rcases h with rfl | ⟨b,off,e,hlt,hc⟩
 ·simp at hi
 ·(injection e with e; injection e with e1 e2 e3; subst e1; subst e2);obtain ⟨u,hu1,hu2⟩:=pcell_at l[t / 2] (t % 2) (Nat.mod_lt _ (by omega));have:=hc (t / 2) hi (t % 2) u hu1;(have e4:0+t / 2 * 2+t % 2=0+t:=by omega);rw [e4] at this;(have e5:l.toArray[t / 2]! =l[t / 2]:=by rw [getElem!_pos l.toArray (t / 2) (by rw [hlen]; exact hi),List.getElem_toArray]);rw [this,e5,hu2];rfl
theorem below_sortPin {w:World} {g n:Nat} {d:Array PinL} {os:Array Obj} (hg:g < w.heap.size):Below g w (sortWorldK pinCells 2 w g 0 n d os):=by
 refine ⟨⟨rfl,rfl,rfl,?_,fun k hk=>?_⟩,Nat.le_add_right _ _⟩
 ·exact size_sortWorldK_c pinCells 2 w g 0 n d os
 ·show ((w.heap.modify g _)++os)[k]?=_;rw [Array.getElem?_append_left (by simp; omega),Array.getElem?_modify,if_neg (by omega)]
def SortedP (w:World) (base:Nat) (v:Value) (l:List PinL) (e:Ending) (w':World):Prop :=
 e = .returned (.tuple #[])∧∃ (m:List PinL) (A:Option Addr) (c:Nat),v = .slice A m.length c∧m.Perm l∧m.Pairwise (fun a b=>¬ cmpP b a < 0)∧Z6 w' A m∧KB base w w'
theorem psort_some (g cap:Nat) (l:List PinL) (w:World) (h:Lies 2 pinCells w (some ⟨g,0,none⟩) l) (hs:Soft w g) (hg:g < w.heap.size) (hln:l.length≤4398046511104) :
 Calls Tryz.prog 27 #[.slice (some ⟨g,0,none⟩) l.length cap,.func (.func 28) #[] #[]] w (SortedP w g (.slice (some ⟨g,0,none⟩) l.length cap) l):=by
 have eg:∀ args w,(callFunc 28 args).run Tryz.prog w = .ok (.enter 28 args) w:=enters_of Tryz.func28 (by kernel_rfl) rfl
 have hd:l.toArray.size=l.length:=by simp
 have hH:=holdsP_of h hs
 have hv:l.toArray.toList=l:=by simp
 generalize l.toArray=d at hd hH hv
 have hcon:=AnyQ.slices_SortFunc Tryz.sortPin 2 isAggP sizeOfP pinCells (fun _=>rfl) (fun x v hv=>pc_one x v hv) (fun x y=>cmpP x y) swoPin 28 #[] g 0 cap d w eg (cmpLaysP g 0 d.size w) hH hg (by omega)
 change Calls Tryz.prog 27 _ _ _ at hcon
 rw [hd] at hcon
 refine hcon.mono ?_
 rintro e w' ⟨rfl,d',n,os,hp,hso,rfl⟩
 obtain ⟨p1,_,p3⟩:=hp
 have q1:d'.extract 0 l.length=d':=by rw [← hd,← p1]; exact Array.extract_size
 have q2:d.extract 0 l.length=d:=by rw [← hd]; exact Array.extract_size
 rw [q1,q2,hv] at p3
 have hH':=holdsK_sortWorldK pinCells 2 w g 0 n d d' os hg hH p1
 refine ⟨rfl,d'.toList,some ⟨g,0,none⟩,cap,?_,p3,?_,lies_pins (pinsK_of hH' (Nat.lt_of_lt_of_le hg (size_sortWorldK_c pinCells 2 w g 0 n d' os))),(below_sortPin hg).toBelow⟩
 ·rw [p3.length_eq]
 ·rw [List.pairwise_iff_getElem];intro i j hi hj hij;(have hi':i < d'.size:=by simpa using hi);(have hj':j < d'.size:=by simpa using hj);have:=hso i j (Nat.zero_le _) hij (by rw [← hd,← p1]; exact hj');rw [getElem!_pos d' i hi',getElem!_pos d' j hj'] at this;simp only [ltOf,decide_eq_false_iff_not] at this;simpa only [Array.getElem_toList] using this
theorem psort_none (A:Option Addr) (cap:Nat) (w:World):Calls Tryz.prog 27 #[.slice A 0 cap,.func (.func 28) #[] #[]] w fun e w'=>e = .returned (.tuple #[])∧w'=w:=by
 have:=AnyF.slices_SortFunc_none (P:=Tryz.prog) (ρ:=Tryz.sortPin_ren) { Tryz.sortPin with } A cap (.func (.func 28) #[] #[]) w;exact this
theorem sorted_is {o m:List PinL} (ha:Apart o) (hp:m.Perm o) (hs:m.Pairwise fun a b=>¬ cmpP b a < 0):m=sortP o:=by
 obtain ⟨s1,s2⟩:=sortP_ok ha;have hm:Apart m:=(hp.symm.pairwise_iff (fun h=>Ne.symm h)).1 ha;(refine rise_one ((hm.and hs).imp ?_) s1 fun x=>by rw [hp.mem_iff,s2.mem_iff]);rintro a b ⟨h1,h2⟩;unfold lessP;cases k:Op.bytesLess (bts a.name) (bts b.name)
 ·(have:Op.bytesLess (bts b.name) (bts a.name)=false:=by rw [Bool.eq_false_iff]; exact fun q=>h2 (oT.2 q));exact absurd (xE (sX _ _ k this)) h1
 ·rfl
theorem psort_any (base:Nat) (v:Value) (o:List PinL) (w:World) (h:OwnL 53 2 pinCells w base v o) (hb:base≤w.heap.size) (hln:o.length≤400000) (ha:Apart o) :
 Calls Tryz.prog 27 #[v,.func (.func 28) #[] #[]] w fun e w'=>e = .returned (.tuple #[])∧∃ (A:Option Addr) (c:Nat),v = .slice A (sortP o).length c∧Z6 w' A (sortP o)∧KB base w w':=by
 obtain ⟨A,c,hv,hli,hbk,hcap⟩:=OwnL.lies pc_len h
 by_cases h0:o.length=0
 ·have:o=[]:=List.eq_nil_of_length_eq_zero h0;subst this;rw [hv];exact (psort_none A c w).mono fun e w' ⟨he,hw⟩=>by subst hw; exact ⟨he,A,c,rfl,.inl rfl,Go.RowKit.Below.mono (zH _) hb⟩
 ·obtain ⟨g,c2,hv2,hg,hlt,hc2,-⟩:=vN h (by omega)
  have hs:Soft w g:=by
   intro j;rw [hv2] at h;exact World.ownsRow.frozenAt h j
  rw [hv2] at hv;(injection hv with e1 e2 e3);rw [← e1] at hli;rw [hv2];refine (psort_some g c2 o w hli hs hlt (by omega)).mono ?_;rintro e w' ⟨he,m,A',c',hv',hp,hso,hpi,hb'⟩;have hm:=sorted_is ha hp hso;subst hm;exact ⟨he,A',c',hv',hpi,hb'.mono hg⟩
theorem pins_drop {l:List ManL} {k:Nat} (h:k < l.length):allPins (l.drop k)=l[k].pins++allPins (l.drop (k+1)):=by
 rw [List.drop_eq_getElem_cons h,allPins,List.flatMap_cons]; rfl
theorem yard_pins {l:List ManL} (h:(checkY l).1=0):l.length≤4∧∀ m∈l,m.pins.length≤8:=by
 rw [checkY] at h;split at h
 ·cases h
 ·split at h
  ·cases h
  ·rename_i h4
   refine ⟨by omega,fun m hm=>?_⟩;have:=yardE_all (l:=l) l.length 0 (by omega) (by rw [List.drop_zero]; exact h) m (by rw [List.drop_zero]; exact hm);by_cases hr:(z5 m.rc).1=0
   ·by_cases h8:8 < m.pins.length∨8 < m.holds.length
    ·rw [checkM_2 hr h8] at this; cases this
    ·omega
   ·rw [checkM_1 hr] at this; exact absurd this hr
theorem apart_snoc {out:List PinL} {p:PinL} (h:Apart out) (hn:zd (isP p.name) 0 out < 0):Apart (out++[p]):=List.pairwise_append.2 ⟨h,List.pairwise_singleton _ _,fun x hx y hy=>by rcases List.mem_singleton.1 hy with rfl; exact find_no hn x hx⟩
def YPinsK (w:World) (p:List PinL × Int) (e:Ending) (w':World):Prop:=∃ A c,e = .returned (.tuple #[.slice A p.1.length c,.int .i64 p.2])∧Z6 w' A p.1∧KB w.heap.size w w'
theorem ypins_any (A:Option Addr) (c:Nat) (l:List ManL) (w:World) (hL:Laid w) (hA:Mans w A l) (hn:l.length≤9223372036854775807) (hc:l.length≤c) (hf:∀ m∈l,ManFit m):Calls Tryz.prog 9 #[.slice A l.length c] w (YPinsK w (pinsY l)):=by
 have HCY:=hid (ycheck_any A c l w hL hA hn hc hf);have HA:=hid hA;have HR1:=hid (fun h:(checkY l).1≠0=>show pinsY l=([],(checkY l).1) by rw [pinsY,if_pos h]);have HR2:=hid (fun (h:(checkY l).1=0) (o:List PinL) (ho:addAll [] (allPins l)=some o)=>show pinsY l=(sortP o,0) by rw [pinsY,if_neg (fun k=>k h),ho]);have HR3:=hid (fun (h:(checkY l).1=0) (ho:addAll [] (allPins l)=none)=>show pinsY l=([],15) by rw [pinsY,if_neg (fun k=>k h),ho]);have HYL:=hid (fun h=>yard_pins (l:=l) h);clear hL hA hf;unfold uK at HCY;generalize checkY l=cy at *;generalize pinsY l=res at *;obtain ⟨e,at_⟩:=cy;dsimp only at HCY HR1 HR2 HR3 HYL;generalize hnn:l.length=n at *;have HN:=hid hnn;clear hnn;go_enter Tryz.func9,Tryz.ntmps9;(go_wp2_with fail);refine HCY.out.mono ?_;rintro _ w1 ⟨rfl,hb⟩;have HB1:=hid hb;clear hb HCY;by_cases he:e=0
 ·(have e0:(e != 0)=false:=by rw [he]; rfl);obtain ⟨hn4,hp8⟩:=HYL.out he;have HP8:=hid hp8;have HR2':=hid (HR2.out he);have HR3':=hid (HR3.out he);clear he hp8 HYL HR1 HR2 HR3;(have hmf:∀ (fn:Fn) (first cap:Array Value) (w:World),(Instr.makeFunc fn first cap).run Tryz.prog w = .ok (.func fn first cap) w:=fun _ _ _ _=>rfl);(go_upto_block 0 with fail);(go_wp2_with fail);go_loopw [22,6] (fun i v ww=>∃ (k:Nat) (out:List PinL),i = .int .i64 (k:Int)∧k≤n∧Hid (out.length≤8 * k)∧Hid (Apart out)∧Hid (OwnL 53 2 pinCells ww w.heap.size v out)∧Hid (KB w.heap.size w ww)∧Hid (addAll [] (allPins l)=addAll out (allPins (l.drop k)))) (fun i _ _=>n - (intOf i).toNat)
  case atStart=>exact ⟨0,[],rfl,Nat.zero_le _,hid (Nat.zero_le _),hid List.Pairwise.nil,hid (World.ownsRow_nil _ _ _ _),HB1,hid (by rw [List.drop_zero])⟩
  case round =>
   clear HB1;(rename World=>wr);obtain ⟨k,out,rfl,hk,HOL,HAP,HO,HB,HE⟩:=hrel;(have k0:(0:Int)≤(k:Int):=by omega);by_cases hlt:k < n
   ·(have k1:(k:Int) < (n:Int):=by omega);(have hlt':k < l.length:=by rw [HN.out]; exact hlt);obtain ⟨b,off,hd,hA,hml,hce⟩:=man_at HA.out hlt';have HML:=hid hml.pins;have hnp:=HP8.out _ (List.getElem_mem hlt');have HE2:=hid (HE.out.trans (by rw [pins_drop hlt']));have HCE:=hid (hce.kb HB.out);subst hA;clear hml hce HE;generalize l[k]=x at *;obtain ⟨⟨rn,rv,rne,rba,rfe⟩,ps,hs⟩:=x;obtain ⟨rh,P,cp,Q,ch⟩:=hd;dsimp only at HML hnp HE2;obtain ⟨c0,c1,c2,c3,c4,c5,c6,c7,c8,c9,c10,cl⟩:=HCE.out;dsimp only at c0 c1 c2 c3 c4 c5 c6 c7 c8 c9 c10;clear HCE;generalize rne.length=n1 at *;generalize rba.length=n2 at *;generalize rfe.length=n3 at *;generalize hs.length=n5 at *;generalize hps:ps.length=np at *;have HNP:=hid hps;clear hps;(go_upto_region 8 with fail);refine zI ?_;intro u1 hu;(have hb:KB wr.heap.size wr u1:=by rw [hu]; exact zG _ _);have HM1:=hid (show Box u1 wr.heap.size [.string rn,.int .i64 rv.maj,.int .i64 rv.min,.int .i64 rv.pat,.string rv.pre,.string rv.bld,.slice rh.A n1 rh.ca,.slice rh.B n2 rh.cb,.slice rh.F n3 rh.cf,.slice P np cp,.slice Q n5 ch] by rw [hu]; exact Box.new wr [.string rn,.int .i64 rv.maj,.int .i64 rv.min,.int .i64 rv.pat,.string rv.pre,.string rv.bld,.slice rh.A n1 rh.ca,.slice rh.B n2 rh.cb,.slice rh.F n3 rh.cf,.slice P np cp,.slice Q n5 ch] 36);have HO1:=hid (HO.out.kb hb);have HB1:=hid (zA HB.out hb);clear hu hb c0 c1 c2 c3 c4 c5 c6 c7 c8 c9 c10 cl HO HB
    generalize wr.heap.size=g8 at *;have x9:=HM1.out.2 9 _ rfl;have xl:=HM1.out.1;(go_upto_block 2 with fail);(go_wp2_with fail);clear x9 xl HM1;go_loopw [29,6] (fun i v ww=>∃ (j:Nat) (out:List PinL),i = .int .i64 (j:Int)∧j≤np∧Hid (out.length≤8 * k+j)∧Hid (Apart out)∧Hid (OwnL 53 2 pinCells ww w.heap.size v out)∧Hid (KB w.heap.size w ww)∧Hid (addAll [] (allPins l)=addAll out (ps.drop j++allPins (l.drop (k+1))))) (fun i _ _=>np - (intOf i).toNat)
    case atStart=>exact ⟨0,out,rfl,Nat.zero_le _,HOL,HAP,HO1,HB1,hid (by rw [List.drop_zero]; exact HE2.out)⟩
    case round =>
     clear HOL HAP HO1 HB1 HE2;clear out;(rename World=>ur);obtain ⟨j,out,rfl,hj,HOL,HAP,HO,HB,HE⟩:=hrel;(have j0:(0:Int)≤(j:Int):=by omega);by_cases hjl:j < np
     ·(have j1:(j:Int) < (np:Int):=by omega);(have hjl':j < ps.length:=by rw [HNP.out]; exact hjl);obtain ⟨hb0,ho0,hP,hbl,d0,d1⟩:=aJ (HML.out.kb PinAt.stays HB.out) hjl';subst hP;have HEF:=hid (HE.out.trans (by rw [List.drop_eq_getElem_cons hjl',List.cons_append]));clear HE;generalize ps[j]=p at *;obtain ⟨pn,psh⟩:=p;dsimp only at d0 d1 HEF;obtain ⟨OA,oc,hv,hli,-,hcap⟩:=OwnL.lies pc_len HO.out;subst hv;have HLI:=hid (lies_pins hli);clear hli;(go_upto_region 11 with fail);refine zI ?_;intro u2 hu;(have hb:KB ur.heap.size ur u2:=by rw [hu]; exact zG _ _);have HH:=hid (show Box u2 ur.heap.size [.string pn,.string psh] by rw [hu]; exact Box.new ur [.string pn,.string psh] 53);have HO2:=hid (HO.out.kb hb);have HB2:=hid (zA HB.out hb);have HLI2:=hid (HLI.out.kb PinAt.stays hb);clear hu hb d0 d1 hbl HO HB HLI;generalize ur.heap.size=g12 at *;have HIX:=hid (index_pin 26 #[.pointer (some ⟨g12,0,none⟩)] (isP pn) OA oc out u2 HLI2.out (by have:=HOL.out; omega) enter_pins1 (fun x u _ hu=>pins1_any x.name x.shelf pn psh g12 u (HH.out.kb hu)));have HN1:=hid (fun h=>addP_new (out:=out) (p:=⟨pn,psh⟩) h);have HN2:=hid (fun (q:Nat) (x:PinL) h h2=>addP_old (out:=out) (p:=⟨pn,psh⟩) (x:=x) (k:=q) h h2);have HAS:=hid (fun h=>apart_snoc (p:=⟨pn,psh⟩) HAP.out h);have hfr:=uT (q:=isP pn) out 0;dsimp only at HN1 HN2 HAS;generalize zd (isP pn) 0 out=f at *;generalize hol:out.length=ol at *
      have HOO:=hid hol;clear hol;(go_wp2_with fail);refine HIX.out.mono ?_;rintro _ u3 ⟨rfl,hb⟩;have HH3:=hid (HH.out.kb hb);have HO3:=hid (HO2.out.kb hb);have HB3:=hid (zA HB2.out hb);have HLI3:=hid (HLI2.out.kb PinAt.stays hb);have hsz3:w.heap.size≤u3.heap.size:=HB3.out.size;clear hb HIX HH HO2 HB2 HLI2;have x0:=HH3.out.2 0 _ rfl;have x1:=HH3.out.2 1 _ rfl;have xl:=HH3.out.1;by_cases hf:f < 0
      ·have f1:decide (f < 0)=true:=decide_eq_true hf;have HEG:=hid (HEF.out.trans (by rw [addAll,HN1.out hf]));have HAP2:=hid (HAS.out hf);clear hf HN1 HN2 HAS HEF;have hO3:OwnL 53 2 pinCells u3 w.heap.size (.slice OA ol oc) out:=HO3.out;have hO3':=hO3;unfold OwnL at hO3';rw [HOO.out] at hO3';(go_wp2_with (at_builtin; refine wI EKpins rfl (.tmp 38) (.tmp 40) rfl (pinCells ⟨pn,psh⟩) hO3' rfl rfl rfl (pc_one _) (by have:=HOL.out; unfold maxLen; omega) (by have:=HOL.out; omega) hsz3 ?_; intro v' w' h2 h3 h4 h5));rw [← HOO.out] at h2;have HON:=hid (OwnL.snoc h2);go_roundw
       case rel=>exact ⟨j+1,out++[⟨pn,psh⟩],by go_num,by omega,hid (by rw [List.length_append,List.length_singleton,HOO.out]; have:=HOL.out; omega),HAP2,HON,hid (Go.RowKit.Below.trans HB3.out h3.kb),HEG⟩
       case measure=>simp [intOf]<;>omega
      ·have f1:decide (f < 0)=false:=decide_eq_false hf;obtain ⟨q,rfl⟩:∃ q:Nat,f=(q:Int):=⟨f.toNat,by omega⟩;(have hq:q < out.length:=by rw [HOO.out]; omega);(have q0:(0:Int)≤(q:Int):=by omega);(have q1:(q:Int) < (ol:Int):=by rw [HOO.out] at hq; omega);have HN3:=hid (HN2.out q out[q] rfl (List.getElem?_eq_getElem hq));obtain ⟨b4,o4,hA4,hbl4,z0,z1⟩:=aJ HLI3.out hq;subst hA4;clear hf hfr HN1 HN2 HAS;generalize out[q]=y at *;obtain ⟨yn,ys⟩:=y;dsimp only at z0 z1 HN3;by_cases hs:ys.toList=psh.toList
       ·(have e1:(ys.toList==psh.toList)=true:=by rw [beq_iff_eq]; exact hs);(have e2:(ys.toList != psh.toList)=false:=by rw [bne,e1]; rfl);have HEG:=hid (HEF.out.trans (by rw [addAll,HN3.out,if_pos (show yH ys psh=true from e1)]));clear hs HEF HN3;(go_upto_region 14 with fail);have hS:KB u3.heap.size u3 u3.drew:=zM (zH _);(refine wpS (fun u=>KB u3.heap.size u3 u) (.last [0,1,2,3,4,5,6,7]) fun iS=>?_);(have y1:=fun (z:SW fun u=>KB u3.heap.size u3 u)=>zU hbl4 z.ok z1);(have yl:=fun (z:SW fun u=>KB u3.heap.size u3 u)=>Nat.lt_of_lt_of_le hbl4 z.ok.size);(have p1:=fun (z:SW fun u=>KB u3.heap.size u3 u)=>(HH3.out.kb z.ok).2 1 (.string psh) rfl);(have pl:=fun (z:SW fun u=>KB u3.heap.size u3 u)=>(HH3.out.kb z.ok).1);clear x0 x1 xl z0 z1;(with_reducible refine zJ ?_);simp only [zB,pka,pkb,pkc,pkd,pke,pkf];(repeat go_big_quiet_step (fail));refine wpQuiet_nil ?_;clear y1 yl p1 pl iS;have HOD:=hid (HO3.out.kb hS);have HBD:=hid (zA HB3.out hS);clear hS;(go_wp2_with fail);go_roundw
        case rel=>exact ⟨j+1,out,by go_num,by omega,hid (by rw [HOO.out]; have:=HOL.out; omega),HAP,HOD,HBD,HEG⟩
        case measure=>simp [intOf]<;>omega
       ·(have e1:(ys.toList==psh.toList)=false:=by rw [beq_eq_false_iff_ne]; exact hs);(have e2:(ys.toList != psh.toList)=true:=by rw [bne,e1]; rfl);have HRE:=hid (HR3'.out (HEF.out.trans (by rw [addAll,HN3.out,if_neg (by rw [yH,e1]; decide)])));clear hs HEF HN3;(go_upto_region 14 with fail);have hS:KB u3.heap.size u3 u3.drew:=zM (zH _);(refine wpS (fun u=>KB u3.heap.size u3 u) (.last [0,1,2,3,4,5,6,7]) fun iS=>?_);(have y1:=fun (z:SW fun u=>KB u3.heap.size u3 u)=>zU hbl4 z.ok z1);(have yl:=fun (z:SW fun u=>KB u3.heap.size u3 u)=>Nat.lt_of_lt_of_le hbl4 z.ok.size);(have p1:=fun (z:SW fun u=>KB u3.heap.size u3 u)=>(HH3.out.kb z.ok).2 1 (.string psh) rfl);(have pl:=fun (z:SW fun u=>KB u3.heap.size u3 u)=>(HH3.out.kb z.ok).1);clear x0 x1 xl z0 z1;(with_reducible refine zJ ?_);simp only [zB,pka,pkb,pkc,pkd,pke,pkf];(repeat go_big_quiet_step (fail));refine wpQuiet_nil ?_;clear y1 yl p1 pl iS;(go_wp2_with fail);(try rw [Exit.noGoto_ret]);(try (first | go_ret | go_ret2 | go_end0));exact ⟨none,0,by rw [HRE.out]<;>rfl,by rw [HRE.out]; exact .inl rfl,zA HB3.out hS⟩
     ·(obtain rfl:j=np:=by omega);(have j1:¬ (j:Int) < (j:Int):=by omega);have HEG:=hid (HE.out.trans (by rw [List.drop_eq_nil_of_le (by rw [HNP.out]; exact Nat.le_refl _),List.nil_append]));clear HE;(go_wp2_with fail);go_roundw
      case rel=>exact ⟨k+1,out,by go_num,by omega,hid (by have:=HOL.out; omega),HAP,HO,HB,HEG⟩
      case measure=>simp [intOf]<;>omega
   ·(obtain rfl:k=n:=by omega);(have k1:¬ (k:Int) < (k:Int):=by omega);have HRE:=hid (HR2'.out out (HE.out.trans (by rw [List.drop_eq_nil_of_le (by rw [HN.out]; exact Nat.le_refl _)]; rfl)));have HST:=hid (psort_any w.heap.size _ out wr HO.out HB.out.size (by have:=HOL.out; omega) HAP.out);(go_wp2_with fail);refine HST.out.mono ?_;rintro _ u9 ⟨rfl,OA,oc,hv,hpi,hb⟩;subst hv;have HPI:=hid hpi;have HB9:=hid (Go.RowKit.Below.trans HB.out hb);clear hpi hb HST;generalize hsl:(sortP out).length=sl at *;have HSL:=hid hsl;clear hsl;(go_wp2_with fail);(try rw [Exit.noGoto_ret]);(try (first | go_ret | go_ret2 | go_end0));exact ⟨OA,oc,by rw [HRE.out]; dsimp only; rw [HSL.out]<;>rfl,by rw [HRE.out]; exact HPI.out,HB9.out⟩
 ·(have e0:(e != 0)=true:=by rw [bne_iff_ne]; exact he);have HRE:=hid (HR1.out he);clear he HYL HR1 HR2 HR3;(go_wp2_with fail);(try rw [Exit.noGoto_ret]);(try (first | go_ret | go_ret2 | go_end0));exact ⟨none,0,by rw [HRE.out]<;>rfl,by rw [HRE.out]; exact .inl rfl,HB1.out⟩
end Go.Proofs.YtiffijoenkcpjaaGreatDoor
