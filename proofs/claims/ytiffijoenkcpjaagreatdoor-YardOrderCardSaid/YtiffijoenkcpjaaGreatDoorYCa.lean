import Derived.Lib.TrimByte
import Derived.Test.YtiffijoenkcpjaaGreatDoorYTa
set_option linter.unusedVariables false
set_option linter.unusedSimpArgs false
namespace Go.Proofs.YtiffijoenkcpjaaGreatDoor
open Go.RowKit Go.Lib
open Rw
structure CompL where
 op:Int
 parts:Int
 v:Ver
abbrev CompL.cells (c:CompL):List Value:=[.int .i64 c.op,.int .i64 c.parts,.int .i64 c.v.maj,.int .i64 c.v.min,.int .i64 c.v.pat,.string c.v.pre,.string c.v.bld]
abbrev CompL.val (c:CompL):Value := .agg #[.int .i64 c.op,.int .i64 c.parts,.int .i64 c.v.maj,.int .i64 c.v.min,.int .i64 c.v.pat,.string c.v.pre,.string c.v.bld]
def CompL.fit (c:CompL):Prop:=c.v.fit
def wl:CompL:=⟨0,0,xD⟩
def X6 (op parts:Int):Bool:=if op=9 then decide (0≤parts∧parts≤2) else decide (1≤parts∧parts≤3)
def sL (c:CompL):Bool:=decide (1≤c.op∧c.op≤9)&&yF c.v&&(bts c.v.bld).isEmpty&&X6 c.op c.parts&&(decide (3≤c.parts) || (bts c.v.pre).isEmpty) &&
 (decide (0 < c.parts) || decide (c.v.maj=0))&&(decide (1 < c.parts) || decide (c.v.min=0))&&(decide (2 < c.parts) || decide (c.v.pat=0))
structure MayX (c:CompL):Prop where
 op:1≤c.op∧c.op≤9
 v:yF c.v=true
 bld:bts c.v.bld=[]
 many:(c.op=9∧0≤c.parts∧c.parts≤2)∨(c.op≠9∧1≤c.parts∧c.parts≤3)
 pre:c.parts < 3→bts c.v.pre=[]
 maj:c.parts < 1→c.v.maj=0
 min:c.parts < 2→c.v.min=0
 pat:c.parts < 3→c.v.pat=0
theorem jZ {op parts:Int}:X6 op parts=true↔(op=9∧0≤parts∧parts≤2)∨(op≠9∧1≤parts∧parts≤3):=by
 unfold X6;split<;>simp_all
theorem yY {c:CompL}:sL c=true↔MayX c:=by
 constructor
 ·intro h;simp only [sL,Bool.and_eq_true,Bool.or_eq_true,decide_eq_true_eq,List.isEmpty_iff] at h;obtain ⟨⟨⟨⟨⟨⟨⟨h1,h2⟩,h3⟩,h4⟩,h5⟩,h6⟩,h7⟩,h8⟩:=h;exact ⟨h1,h2,h3,jZ.1 h4,fun e=>h5.resolve_left (by omega),fun e=>h6.resolve_left (by omega),fun e=>h7.resolve_left (by omega),fun e=>h8.resolve_left (by omega)⟩
 ·rintro ⟨h1,h2,h3,h4,h5,h6,h7,h8⟩;simp only [sL,Bool.and_eq_true,Bool.or_eq_true,decide_eq_true_eq,List.isEmpty_iff];refine ⟨⟨⟨⟨⟨⟨⟨h1,h2⟩,h3⟩,jZ.2 h4⟩,?_⟩,?_⟩,?_⟩,?_⟩
  ·by_cases e:3≤c.parts
   ·exact .inl e
   ·exact .inr (h5 (by omega))
  ·by_cases e:0 < c.parts
   ·exact .inl e
   ·exact .inr (h6 (by omega))
  ·by_cases e:1 < c.parts
   ·exact .inl e
   ·exact .inr (h7 (by omega))
  ·by_cases e:2 < c.parts
   ·exact .inl e
   ·exact .inr (h8 (by omega))
def yh (op:Int):List UInt8:=if op=1 then [61] else if op=2 then [33,61] else if op=3 then [60] else if op=4 then [60,61] else if op=5 then [62] else if op=6 then [62,61] else if op=7 then [94] else if op=8 then [126] else []
def yS (c:CompL):List (List UInt8):=[vR c.v.maj,vR c.v.min,vR c.v.pat].take c.parts.toNat
def um (c:CompL):List UInt8:=if c.op=9 then zT [46] (yS c++[[42]]) else yh c.op++(zT [46] (yS c)++qU c.v)
def zh (c:CompL):List UInt8:=if sL c then um c else []
def tv:List Int:=[2,4,6,1,3,5,7,8]
def xu (s:List UInt8):List Int→Int × List UInt8
 | []=>(9,s)
 | op::r=>if Lib.hasPrefix s (yh op) then (op,s.drop (yh op).length) else xu s r
def vp:List (List UInt8)→Option (Int × Int × Int)
 | []=>some (0,0,0)
 | [a]=>if (za a).2 then some ((za a).1,0,0) else none
 | [a,b]=>if (za a).2&&(za b).2 then some ((za a).1,(za b).1,0) else none
 | [a,b,c]=>if (za a).2&&((za b).2&&(za c).2) then some ((za a).1,(za b).1,(za c).1) else none
 | _=>none
def kC (op:Int) (l:List (List UInt8)) (pre:List UInt8):Option CompL:=match vp l with
 | none=>none
 | some n=>some ⟨op,l.length,⟨n.1,n.2.1,n.2.2,xP pre,xP []⟩⟩
def uj (op:Int) (rest:List UInt8):Option CompL:=kC op (if op=9 then (zO (zq 45 rest)).dropLast else zO (zq 45 rest)) (xq 45 rest)
def sM (s:List UInt8):Option CompL:=if (xu s tv).1=9∧(zO (zq 45 (xu s tv).2)).getLast?≠some [42] then none else
 match uj (xu s tv).1 (xu s tv).2 with
 | none=>none
 | some c=>if sL c&&decide (zh c=s) then some c else none
def wH (s:List UInt8):Option CompL:=match sM s with
 | some c=>some c
 | none=>sM (94::s)
theorem xA {c:CompL} (h:MayX c):zh c=um c:=by rw [zh,yY.2 h,if_pos rfl]
theorem sF {s:List UInt8} {c:CompL} (h:sM s=some c):MayX c∧zh c=s:=by
 unfold sM at h;split at h
 ·cases h
 ·split at h
  ·cases h
  ·split at h
   ·rename_i hc
    simp only [Bool.and_eq_true,decide_eq_true_eq] at hc;(injection h with h);subst h;exact ⟨yY.1 hc.1,hc.2⟩
   ·cases h
theorem qW {s:List UInt8} {c:CompL} (h:wH s=some c):MayX c∧(zh c=s∨zh c=94::s):=by
 unfold wH at h;split at h
 ·rename_i d hd
  (injection h with h);subst h;have:=sF hd;exact ⟨this.1,.inl this.2⟩
 ·have:=sF h;exact ⟨this.1,.inr this.2⟩
theorem uA {n:Int} (h:wV n=true):(vR n).length≤4:=by
 simp only [wV,decide_eq_true_eq] at h;exact rZ (by omega)
theorem bc {s:List UInt8} {c:CompL} (h:wH s=some c) (hs:s.length≤4398046511000):c.fit:=by
 obtain ⟨h1,h2⟩:=qW h
 have hl:(zh c).length≤4398046511001:=by
  rcases h2 with e | e
  ·rw [e]; omega
  ·rw [e,List.length_cons]; omega
 refine ⟨?_,by rw [← zF,h1.bld]; simp⟩;rw [← zF];by_cases h9:c.op=9
 ·rw [h1.pre (by have:=h1.many; omega)]; simp
 ·rw [xA h1,um,if_neg h9] at hl;simp only [List.length_append] at hl
  have:(bts c.v.pre).length≤(qU c.v).length:=by
   unfold qU;split
   ·rename_i e; rw [List.isEmpty_iff.1 e]; simp
   ·simp
  omega
def highN (v:Ver):Nat→CutL
 | 0=>ig
 | n+1=>if (bumpL v n).2 then ⟨0,(bumpL v n).1,false⟩ else highN v n
def turnsX (c:CompL):Nat:=if c.v.maj≠0 then 0 else if c.v.min≠0 then 1 else if c.v.pat≠0 then 2 else (c.parts - 1).toNat
def lowX (c:CompL):CutL:=⟨0,c.v,false⟩
def behindX (c:CompL):CutL:=if c.parts < 3 then highN c.v c.parts.toNat else ⟨0,c.v,true⟩
def spanX (c:CompL):SpanL :=
 if c.op=1∨c.op=2 then ⟨lowX c,behindX c⟩ else if c.op=3 then ⟨rR,lowX c⟩ else if c.op=4 then ⟨rR,behindX c⟩ else if c.op=5 then ⟨behindX c,ig⟩ else if c.op=6 then ⟨lowX c,ig⟩ else
 if c.op=7 then ⟨lowX c,highN c.v (turnsX c+1)⟩ else if c.op=8 then ⟨lowX c,highN c.v (min (c.parts - 1) 1+1).toNat⟩ else if c.parts=0 then ⟨rR,ig⟩ else ⟨lowX c,highN c.v c.parts.toNat⟩
def rowX (s:SpanL):List SpanL:=if Xc s.fr s.til < 0 then [s] else []
def regionX (c:CompL):List SpanL:=if sL c then (if c.op=2 then rnotL (rowX (spanX c)) else rowX (spanX c)) else []
def zeroB:ByteArray:=⟨#[48]⟩
def leastX (v:Ver):Ver:=⟨v.maj,v.min,v.pat,zeroB,⟨#[]⟩⟩
def zoneS (c:CompL):SpanL:=⟨⟨0,leastX c.v,false⟩,⟨0,relV c.v,false⟩⟩
def zoneX (c:CompL):List SpanL:=if sL c&&!(bts c.v.pre).isEmpty then [zoneS c] else []
def relA (l:List CompL):List SpanL:=l.foldl (fun o c=>randL o (regionX c)) wholeL
def zoneA (l:List CompL):List SpanL:=l.foldl (fun o c=>rorL o (zoneX c)) []
def altS (l:List CompL):List SpanL × List SpanL:=(smakeL (relA l) (randL (relA l) (zoneA l))).1
def orG (l:List (List SpanL × List SpanL)):List SpanL × List SpanL:=l.foldl (fun o s=>orS o.1 o.2 s.1 s.2) ([],[])
theorem cmpC_self0 (a:CutL):Xc a a=0:=by
 cases h:fB a
 ·rw [Xc,if_pos (.inl h)]
 ·exact cmpC_self a h
theorem growTo_half (c:List CutL) (p:CutL→CutL→Bool):∀ k,2 * (growTo c p k).length≤k+1∧((∀ s,(growTo c p k).getLast?=some s→Xc s.til (nthC c k)≠0)→2 * (growTo c p k).length≤k)
 | 0=>by simp [growTo]
 | k+1=>by
  obtain ⟨h1,h2⟩:=growTo_half c p k;unfold growTo;split
  ·rcases List.eq_nil_or_concat (growTo c p k) with e | ⟨m,q,e⟩
   ·rw [e];refine ⟨by simp [growR],fun h=>?_⟩;exact absurd (cmpC_self0 _) (h ⟨nthC c k,nthC c (k+1)⟩ (by simp [growR]))
   ·rw [List.concat_eq_append] at e;rw [e] at h1 h2 ⊢;by_cases hc:Xc q.til (nthC c k)=0
    ·rw [growR_eq hc];simp only [List.length_append,List.length_singleton] at h1 ⊢;refine ⟨by omega,fun h=>?_⟩;exact absurd (cmpC_self0 _) (h ⟨q.fr,nthC c (k+1)⟩ (by simp))
    ·rw [growR_ne hc];have:=h2 (fun s hs=>by simp at hs; subst hs; exact hc);simp only [List.length_append,List.length_singleton] at this ⊢;refine ⟨by omega,fun h=>?_⟩;exact absurd (cmpC_self0 _) (h ⟨nthC c k,nthC c (k+1)⟩ (by simp))
  ·exact ⟨by omega,fun _=>by omega⟩
theorem growAll_half {l:List SpanL} (p:CutL→CutL→Bool) (hf:fitL l):(growAll (cutsL l) p).length≤1+l.length:=by
 have h1:=(growTo_half (cutsL l) p ((cutsL l).length - 1)).1;have h2:=(cutsL_good hf).2;rw [growAll]; omega
theorem randL_len {a b:List SpanL} (ha:fitL a) (hb:fitL b):(randL a b).length≤1+(a.length+b.length):=by
 rw [randL];split
 ·have:=growAll_half (bothIn a b) (fitL_app ha hb)
  rwa [List.length_append] at this
 ·simp
theorem rmakeL_len {a:List SpanL} (ha:fitL a):(rmakeL a).1.length≤1+a.length:=by
 rw [rmakeL];split
 ·exact growAll_half _ ha
 ·simp
theorem rorL_len {a b:List SpanL} (ha:fitL a) (hb:fitL b):(rorL a b).length≤1+(a.length+b.length):=by
 rw [rorL];split
 ·have:=rmakeL_len (fitL_app ha hb)
  rwa [List.length_append] at this
 ·simp
theorem rnotL_len {a:List SpanL} (ha:fitL a):(rnotL a).length≤1+a.length:=by
 rw [rnotL];split
 ·exact growAll_half _ ha
 ·simp
theorem fit_nil0:fitL []:=fun i hi=>by simp at hi
theorem fit_one {s:SpanL} (h:s.fit):fitL [s]:=fun i hi=>by
 (have:i=0:=by simp at hi; omega);subst this; exact h
theorem rowX_good {s:SpanL} (h:s.fit):fitL (rowX s)∧(rowX s).length≤1:=by
 unfold rowX;split
 ·exact ⟨fit_one h,by simp⟩
 ·exact ⟨fit_nil0,by simp⟩
theorem verfit_rel (a b c:Int):(⟨a,b,c,⟨#[]⟩,⟨#[]⟩⟩:Ver).fit:=⟨Nat.zero_le _,Nat.zero_le _⟩
theorem lastC_fit0:ig.fit:=verfit_rel 0 0 0
theorem firstC_fit0:rR.fit:=verfit_rel 0 0 0
theorem bumpL_fit (v:Ver) (p:Int):(bumpL v p).1.fit:=by
 unfold bumpL;split
 ·unfold bumpV;split
  ·exact verfit_rel _ _ _
  ·split<;>exact verfit_rel _ _ _
 ·exact verfit_rel 0 0 0
theorem highN_fit (v:Ver):∀ n,(highN v n).fit
 | 0=>lastC_fit0
 | n+1=>by
  unfold highN;split
  ·exact bumpL_fit v n
  ·exact highN_fit v n
theorem behindX_fit {c:CompL} (h:c.fit):(behindX c).fit:=by
 unfold behindX;split
 ·exact highN_fit _ _
 ·exact h
theorem spanX_fit {c:CompL} (h:c.fit):(spanX c).fit:=by
 have h1:(lowX c).fit:=h;have h2:=behindX_fit h;have h3:=lastC_fit0;have h4:=firstC_fit0;unfold spanX
 repeat' split
 all_goals first
  | exact ⟨h1,h2⟩ | exact ⟨h4,h1⟩ | exact ⟨h4,h2⟩ | exact ⟨h2,h3⟩ | exact ⟨h1,h3⟩ | exact ⟨h4,h3⟩ | exact ⟨h1,highN_fit _ _⟩
theorem regionX_good {c:CompL} (h:c.fit):fitL (regionX c)∧(regionX c).length≤2:=by
 have h1:=rowX_good (spanX_fit h);unfold regionX;split
 ·split
  ·have h2:=rnotL_good h1.1;have h3:=rnotL_len h1.1;exact ⟨h2.1,by omega⟩
  ·exact ⟨h1.1,by omega⟩
 ·exact ⟨fit_nil0,by simp⟩
theorem zoneX_good (c:CompL):fitL (zoneX c)∧(zoneX c).length≤1:=by
 unfold zoneX;split
 ·exact ⟨fit_one ⟨⟨(show (1:Nat)≤4398046511104 by decide),Nat.zero_le _⟩,verfit_rel _ _ _⟩,by simp⟩
 ·exact ⟨fit_nil0,by simp⟩
theorem whole_fit0:fitL wholeL:=fit_one ⟨firstC_fit0,lastC_fit0⟩
theorem relA_from:∀ (l:List CompL) (o:List SpanL),fitL o→(∀ c∈l,c.fit)→fitL (l.foldl (fun o c=>randL o (regionX c)) o)∧(l.foldl (fun o c=>randL o (regionX c)) o).length≤o.length+3 * l.length
 | [],o,ho,_=>⟨ho,by simp⟩
 | c::l,o,ho,h=>by
  have h1:=regionX_good (h c (by simp));have h2:=randL_good ho h1.1;have h3:=randL_len ho h1.1;have h4:=relA_from l _ h2.1 (fun x hx=>h x (List.mem_cons_of_mem _ hx));rw [List.foldl_cons];exact ⟨h4.1,by simp only [List.length_cons]; omega⟩
theorem zoneA_from:∀ (l:List CompL) (o:List SpanL),fitL o→fitL (l.foldl (fun o c=>rorL o (zoneX c)) o)∧(l.foldl (fun o c=>rorL o (zoneX c)) o).length≤o.length+2 * l.length
 | [],o,ho=>⟨ho,by simp⟩
 | c::l,o,ho=>by
  have h1:=zoneX_good c;have h2:=rorL_good ho h1.1;have h3:=rorL_len ho h1.1;have h4:=zoneA_from l _ h2.1;rw [List.foldl_cons];exact ⟨h4.1,by simp only [List.length_cons]; omega⟩
theorem relA_good {l:List CompL} (h:∀ c∈l,c.fit):fitL (relA l)∧(relA l).length≤1+3 * l.length:=relA_from l wholeL whole_fit0 h
theorem zoneA_good (l:List CompL):fitL (zoneA l)∧(zoneA l).length≤2 * l.length:=by
 have:=zoneA_from l [] fit_nil0;simpa [zoneA] using this
theorem altS_good {l:List CompL} (h:∀ c∈l,c.fit):fitL (altS l).1∧fitL (altS l).2∧(altS l).1.length≤3+6 * l.length∧(altS l).2.length≤2+5 * l.length:=by
 have h1:=relA_good h;have h2:=zoneA_good l;have h3:=randL_good h1.1 h2.1;have h4:=randL_len h1.1 h2.1;have h5:=smake_good h1.1 h3.1;exact ⟨h5.1,h5.2.1,by have:=h5.2.2.1; unfold altS; omega,by have:=h5.2.2.2; unfold altS; omega⟩
theorem orS_good {l m p q:List SpanL} (hl:fitL l) (hm:fitL m) (hp:fitL p) (hq:fitL q):fitL (orS l m p q).1∧fitL (orS l m p q).2∧(orS l m p q).1.length≤1+(l.length+p.length)∧(orS l m p q).2.length≤1+(m.length+q.length):=by
 unfold orS;split
 ·exact ⟨(rorL_good hl hp).1,(rorL_good hm hq).1,rorL_len hl hp,rorL_len hm hq⟩
 ·exact ⟨fit_nil0,fit_nil0,by simp,by simp⟩
theorem cmpC_lt_may {a b:CutL} (h:Xc a b < 0):lt a b:=by
 cases h1:fB a
 ·rw [Xc,if_pos (.inl h1)] at h; omega
 ·cases h2:fB b
  ·rw [Xc,if_pos (.inr h2)] at h; omega
  ·exact ⟨h1,h2,h⟩
theorem one_valid {s:SpanL} (h:lt s.fr s.til):Val [s]:=by
 rw [← mayR_val,mayR_iff];intro j hj;(have:j=0:=by simp at hj; omega);subst this;refine ⟨?_,fun h=>absurd h (Nat.lt_irrefl _)⟩;show iJ s=true;rw [iJ,h.1,h.2.1];simpa using h.2.2
theorem rowX_val (s:SpanL):Val (rowX s):=by
 unfold rowX;split
 ·rename_i h; exact one_valid (cmpC_lt_may h)
 ·exact nil_val
theorem regionX_val (c:CompL):Val (regionX c):=by
 unfold regionX;split
 ·split
  ·exact v_not (rowX_val _)
  ·exact rowX_val _
 ·exact nil_val
theorem relA_val_from:∀ (l:List CompL) (o:List SpanL),Val o→Val (l.foldl (fun o c=>randL o (regionX c)) o)
 | [],_,h=>h
 | c::l,o,h=>relA_val_from l _ (v_and h (regionX_val c))
theorem relA_val (l:List CompL):Val (relA l):=relA_val_from l wholeL whole_val
theorem l7 (b:UInt8) (cur l:List UInt8):zV b cur l≠[]:=by
 have:=(zk b l cur).1;intro e; rw [e] at this; simp at this
theorem xz (b:UInt8):∀ (l cur:List UInt8),zT [b] (zV b cur l)=cur++l
 | [],cur=>by simp [zV,zT]
 | c::r,cur=>by
  unfold zV;split
  ·rename_i h
   subst h;cases hs:zV c [] r with
   | nil=>exact absurd hs (l7 _ _ _)
   | cons q t =>
    have:=xz c r [];rw [hs] at this;simp only [zT,this];simp
  ·rw [xz b r (cur++[c])]; simp
theorem oj (b:UInt8):∀ (l cur:List UInt8),b ∉ cur→∀ p∈zV b cur l,b ∉ p
 | [],cur,h,p,hp=>by simp [zV] at hp; subst hp; exact h
 | c::r,cur,h,p,hp=>by
  unfold zV at hp;split at hp
  ·rcases List.mem_cons.1 hp with e | e
   ·subst e; exact h
   ·exact oj b r [] (by simp) p e
  ·rename_i hc
   exact oj b r (cur++[c]) (by simp [h]; exact fun e=>hc e.symm) p hp
theorem nu (b:UInt8) (l:List UInt8):Lib.split l [b]=zV b [] l:=by
 have h:=dY (sep:=[b]) (by simp) (l7 b [] l) (fun p hp=>Z9 (oj b l [] (by simp) p hp));rw [xz,List.nil_append] at h;exact h
def yZ:List UInt8→List UInt8→List (List UInt8)
 | cur,[]=>[cur]
 | cur,[a]=>[cur++[a]]
 | cur,a::b::r=>if a=124∧b=124 then cur::yZ [] r else yZ (cur++[a]) (b::r)
theorem fA:∀ (l cur:List UInt8),yZ cur l≠[]
 | [],cur=>by simp [yZ]
 | [a],cur=>by simp [yZ]
 | a::b::r,cur=>by
  unfold yZ;split
  ·simp
  ·exact fA (b::r) _
def py (sep:List UInt8):List (List UInt8)→Prop
 | []=>False
 | [p]=>Lib.index p sep=-1
 | p::q::r=>Lib.index (p++sep++zT sep (q::r)) sep=p.length∧py sep (q::r)
theorem rA {sep:List UInt8} (hs:sep≠[]):∀ (ps:List (List UInt8)),py sep ps→∀ fuel,ps.length≤fuel→Lib.countFrom sep fuel (zT sep ps)=ps.length - 1
 | [],h,_,_=>h.elim
 | [p],h,fuel+1,_=>by
  have h:Lib.index p sep=-1:=h;rw [zT,Lib.countFrom,h]; rfl
 | p::q::r,h,fuel+1,hf=>by
  have hi:=h.1;rw [zT,Lib.countFrom,hi];(have:((p.length:Int)==-1)=false:=by simp);rw [this,Int.toNat_natCast,qk,rA hs (q::r) h.2 fuel (by simpa using hf)];simp only [List.length_cons,Bool.false_eq_true,if_false]; omega
theorem t5 {sep:List UInt8}:∀ (ps:List (List UInt8)),py sep ps→Lib.splitK sep 0 (ps.length - 1) (zT sep ps)=ps
 | [],h=>h.elim
 | [p],_=>rfl
 | p::q::r,h=>by
  have hi:=h.1;(have e:(p::q::r).length - 1=((q::r).length - 1)+1:=by simp);rw [e,zT,Lib.splitK,hi];(have:((p.length:Int)==-1)=false:=by simp);rw [this,Int.toNat_natCast,qk,Nat.add_zero,t5 (q::r) h.2];simp only [Bool.false_eq_true,if_false,List.append_assoc,List.take_left]
theorem mw {sep:List UInt8} (hs:sep≠[]) {ps:List (List UInt8)} (h:py sep ps):Lib.split (zT sep ps) sep=ps:=by
 unfold Lib.split Lib.count;rw [rA hs ps h _ (oO hs ps),t5 ps h]
theorem gf {s sub:List UInt8} {j:Nat} (h0:0 < sub.length) (h:s.length < j+sub.length):Lib.occAt s sub j=false:=by
 rw [Bool.eq_false_iff]; intro ho;unfold Lib.occAt at ho;rw [List.isPrefixOf_iff_prefix] at ho;have:=ho.length_le;rw [List.length_drop] at this;omega
theorem qu:∀ (l cur:List UInt8),(∀ j,j < cur.length→Lib.occAt (cur++l) [124,124] j=false)→py [124,124] (yZ cur l)∧zT [124,124] (yZ cur l)=cur++l
 | [],cur,h=>by
  refine ⟨?_,by simp [yZ,zT]⟩;show Lib.index cur [124,124]=-1;(refine Lib.index_none fun j hj=>?_);by_cases k:j < cur.length
  ·have:=h j k; rwa [List.append_nil] at this
  ·exact gf (by simp) (by simp; omega)
 | [a],cur,h=>by
  refine ⟨?_,by simp [yZ,zT]⟩;show Lib.index (cur++[a]) [124,124]=-1;(refine Lib.index_none fun j hj=>?_);by_cases k:j < cur.length
  ·exact h j k
  ·exact gf (by simp) (by simp; omega)
 | a::b::r,cur,h=>by
  unfold yZ;split
  ·rename_i hc
   obtain ⟨rfl,rfl⟩:=hc;obtain ⟨h1,h2⟩:=qu r [] (fun j hj=>absurd hj (Nat.not_lt_zero _));cases hs:yZ [] r with
   | nil=>exact absurd hs (fA _ _)
   | cons q t =>
    rw [hs] at h1 h2;refine ⟨⟨?_,h1⟩,?_⟩
    ·rw [h2,List.nil_append];refine Lib.index_first (by simp only [List.length_append]; omega) (XX cur _ r) (fun j hj=>?_);have:=h j hj;simpa using this
    ·simp only [zT,h2]; simp
  ·rename_i hc
   have:=qu (b::r) (cur++[a]) (fun j hj=>by
    (have e:cur++[a]++b::r=cur++a::b::r:=by simp);rw [e];by_cases k:j < cur.length
    ·exact h j k
    ·(have:j=cur.length:=by simp at hj; omega);subst this;unfold Lib.occAt;rw [List.drop_left];simp only [List.isPrefixOf,Bool.and_true,Bool.and_eq_false_imp,beq_iff_eq];intro e1;rw [Bool.eq_false_iff];intro e2
     exact hc ⟨e1.symm,(by simpa using e2:(124:UInt8)=b).symm⟩)
   rw [List.append_assoc] at this;exact this
theorem dC (l:List UInt8):Lib.split l [124,124]=yZ [] l:=by
 obtain ⟨h1,h2⟩:=qu l [] (fun j hj=>absurd hj (Nat.not_lt_zero _));have h:=mw (by simp) h1
 rwa [h2,List.nil_append] at h
theorem vX {p:UInt8→Bool}:∀ {l:List UInt8} (m:List UInt8),l.dropWhile p≠[]→(l++m).dropWhile p=l.dropWhile p++m
 | [],_,h=>absurd rfl h
 | a::l,m,h=>by
  rw [List.cons_append,List.dropWhile_cons,List.dropWhile_cons] at *;split
  ·rename_i hp; rw [if_pos hp] at h; exact vX m h
  ·simp
theorem vJ {p:UInt8→Bool}:∀ {l:List UInt8} (m:List UInt8),l.dropWhile p=[]→(l++m).dropWhile p=m.dropWhile p
 | [],_,_=>rfl
 | a::l,m,h=>by
  rw [List.cons_append,List.dropWhile_cons];rw [List.dropWhile_cons] at h;split
  ·rename_i hp; rw [if_pos hp] at h; exact vJ m h
  ·rename_i hp; rw [if_neg hp] at h; cases h
theorem xB (l:List UInt8) (a c:UInt8):Lib.trimRightB (l++[a]) c=if a==c then Lib.trimRightB l c else l++[a]:=by
 unfold Lib.trimRightB;rw [List.reverse_append,List.reverse_singleton,List.singleton_append,List.dropWhile_cons];split
 ·rfl
 ·simp
theorem kT (c:UInt8):∀ (l:List UInt8),Lib.trimRightB (Lib.trimLeftB l c) c=Lib.trimB l c:=by
 intro l;induction hn:l.length generalizing l with
 | zero =>
  have:l=[]:=List.eq_nil_of_length_eq_zero hn;subst this; rfl
 | succ n ih =>
  obtain ⟨m,a,rfl⟩:∃ m a,l=m++[a]:=⟨l.dropLast,l.getLast (by intro e; rw [e] at hn; simp at hn),(List.dropLast_concat_getLast _).symm⟩;(have hm:m.length=n:=by simpa using hn);have ih:=ih m hm;unfold Lib.trimB at ih ⊢;rw [xB];by_cases hd:Lib.trimLeftB m c=[]
  ·have e:Lib.trimLeftB (m++[a]) c=Lib.trimLeftB [a] c:=vJ _ hd;rw [e];by_cases ha:a==c
   ·rw [if_pos ha,← ih,hd];simp [Lib.trimLeftB,ha,Lib.trimRightB]
   ·rw [if_neg ha,e];(have:Lib.trimLeftB [a] c=[]++[a]:=by simp [Lib.trimLeftB,ha]);rw [this,xB,if_neg ha]
  ·have e:Lib.trimLeftB (m++[a]) c=Lib.trimLeftB m c++[a]:=vX _ hd;rw [e,xB];by_cases ha:a==c
   ·rw [if_pos ha,if_pos ha,ih]
   ·rw [if_neg ha,if_neg ha,e]
def eF (a:List CompL):Bool:=decide (1≤a.length∧a.length≤6)&&a.all sL
def tD (r:List (List CompL)):Bool:=decide (1≤r.length∧r.length≤6)&&r.all eF
def l9 (a:List CompL):List UInt8:=zT [44,32] (a.map zh)
def xd (r:List (List CompL)):List UInt8:=zT [32,124,124,32] (r.map l9)
def bD (r:List (List CompL)):Bool:=tD r&&decide ((xd r).length≤96)
def qE (r:List (List CompL)):List UInt8:=if bD r then xd r else []
def setG (r:List (List CompL)):List SpanL × List SpanL:=if bD r then orG (r.map altS) else ([],[])
def yq:List (List UInt8)→Option (List CompL)
 | []=>some []
 | x::r=>match wH (Lib.trimB x 32) with
  | none=>none
  | some c=>match yq r with
   | none=>none
   | some l=>some (c::l)
def vg:List (List UInt8)→Option (List (List CompL))
 | []=>some []
 | x::r=>match yq (zV 44 [] x) with
  | none=>none
  | some c=>match vg r with
   | none=>none
   | some l=>some (c::l)
def yB (s:List UInt8):List (List CompL) × Int:=if 96 < s.length then ([],3) else match vg (yZ [] s) with
 | none=>([],6)
 | some r=>if tD r then (if (xd r).length≤96 then (r,0) else ([],3)) else ([],6)
def ofG (s:List UInt8):(List SpanL × List SpanL) × Int:=if (yB s).2=0 then (setG (yB s).1,0) else (([],[]),(yB s).2)
structure FewA (a:List CompL):Prop where
 ne:a≠[]
 le:a.length≤6
 may:∀ c∈a,MayX c
theorem gy {a:List CompL}:eF a=true↔FewA a:=by
 rw [eF,Bool.and_eq_true,decide_eq_true_eq,List.all_eq_true];refine ⟨fun ⟨h1,h2⟩=>⟨fun e=>by subst e; simp at h1,h1.2,fun c hc=>yY.1 (h2 c hc)⟩,fun ⟨h1,h2,h3⟩=>⟨⟨List.length_pos_iff.2 h1,h2⟩,fun c hc=>yY.2 (h3 c hc)⟩⟩
structure FewG (r:List (List CompL)):Prop where
 ne:r≠[]
 le:r.length≤6
 may:∀ a∈r,FewA a
theorem eJ {r:List (List CompL)}:tD r=true↔FewG r:=by
 rw [tD,Bool.and_eq_true,decide_eq_true_eq,List.all_eq_true];refine ⟨fun ⟨h1,h2⟩=>⟨fun e=>by subst e; simp at h1,h1.2,fun c hc=>gy.1 (h2 c hc)⟩,fun ⟨h1,h2,h3⟩=>⟨⟨List.length_pos_iff.2 h1,h2⟩,fun c hc=>gy.2 (h3 c hc)⟩⟩
theorem parseG_sound {s:List UInt8} (h:(yB s).2=0):bD (yB s).1=true:=by
 unfold yB at h ⊢;split
 ·rename_i h1; rw [if_pos h1] at h; cases h
 ·rename_i h1
  rw [if_neg h1] at h;split
  ·rename_i h2; rw [h2] at h; cases h
  ·rename_i r h2
   rw [h2] at h;simp only at h;split
   ·rename_i h3
    rw [if_pos h3] at h;split
    ·rename_i h4
     rw [bD,h3];simpa using h4
    ·rename_i h4; rw [if_neg h4] at h; cases h
   ·rename_i h3; rw [if_neg h3] at h; cases h
theorem parseG_cases (s:List UInt8):((yB s).2=0∧bD (yB s).1=true)∨((yB s).2≠0∧yB s=([],(yB s).2)∧((yB s).2=3∨(yB s).2=6)):=by
 by_cases h:(yB s).2=0
 ·exact .inl ⟨h,parseG_sound h⟩
 ·refine .inr ⟨h,?_⟩;unfold yB at h ⊢;split
  ·exact ⟨rfl,.inl rfl⟩
  ·rename_i h1
   rw [if_neg h1] at h;split
   ·exact ⟨rfl,.inr rfl⟩
   ·rename_i r h2
    rw [h2] at h;simp only at h;split
    ·rename_i h3
     rw [if_pos h3] at h;split
     ·rename_i h4; rw [if_pos h4] at h; exact absurd rfl h
     ·exact ⟨rfl,.inl rfl⟩
    ·exact ⟨rfl,.inr rfl⟩
theorem b48:bts zeroB=[48]:=zx [48]
theorem split48:zO [48]=[[48]]:=by decide +kernel
theorem least_may {v:Ver} (h:yF v=true):yF (leastX v)=true:=by
 obtain ⟨h1,h2,h3,-,-⟩:=yN h;(have h4:tI (bts zeroB)=true:=by rw [b48]; decide +kernel);have h5:oz (bts (⟨#[]⟩:ByteArray))=true:=jj mi;simp only [yF,leastX,h1,h2,h3,h4,h5,Bool.and_self]
theorem rel_may {v:Ver} (h:yF v=true):isRel (relV v):=by
 obtain ⟨h1,h2,h3,-,-⟩:=yN h;simp only [wV,decide_eq_true_eq] at h1 h2 h3;exact ⟨rel_ok ⟨h1,h2,h3⟩,mi⟩
theorem cmpTag_zero {t:List UInt8} (h:tC t=true) (hn:yx t=true):z6 [48] t≤0:=by
 unfold z6;(have e:zr [48]=true:=by decide +kernel);rw [e];cases hk:zr t
 ·simp
 ·simp only [Bool.and_self,if_true];(have e2:(za [48]).1=0:=by decide +kernel);rw [e2]
  have h0:0≤(za t).1:=by
   rw [yx,hk] at hn;have:=(num_back (by simpa using hn)).2;simp only [wV,decide_eq_true_eq] at this;exact this.1
  unfold xT;split
  ·omega
  ·rw [if_neg (by omega)]; omega
theorem cmpPre_zero {l:List UInt8} (h:fF l=true):xS [48] l≤0:=by
 unfold xS;split
 ·omega
 ·rw [if_neg (by simp)];split
  ·omega
  ·rw [split48];rw [fF,Bool.and_eq_true,uI,Bool.and_eq_true,decide_eq_true_eq] at h;cases hs:zO l with
   | nil=>exact absurd hs (l7 _ _ _)
   | cons t ts =>
    rw [hs] at h;simp only [List.all_cons,Bool.and_eq_true] at h;have h1:=cmpTag_zero h.1.2.1 h.2.1;rw [yG];split
    ·exact h1
    ·cases ts with
     | nil=>decide
     | cons u us=>simp only [yG,xT,List.length_nil,List.length_cons]; split<;>omega
theorem least_le {v u:Ver} (hv:yF v=true) (hu:yF u=true) (hp:bts u.pre≠[]):xX (leastX v) u≤0↔zu v u≤0:=by
 rw [Ze (least_may hv) hu];have e:zu (leastX v) u=zu v u:=rfl;rw [e];split
 ·rfl
 ·rename_i h
  (have h0:zu v u=0:=by omega);obtain ⟨-,-,-,k,-⟩:=yN hu;rw [tI,Bool.or_eq_true] at k;have:=cmpPre_zero (k.resolve_left (by simpa using hp));rw [show bts (leastX v).pre=[48] from b48];omega
theorem zone_mem {c:CompL} {u:Ver} (hc:yF c.v=true) (hu:yF u=true) (hp:bts u.pre≠[]):(le (zoneS c).fr (befC u)∧lt (befC u) (zoneS c).til)↔zu c.v u=0:=by
 have h1:le (zoneS c).fr (befC u)↔zu c.v u≤0:=(bef_le_bef (v:=leastX c.v) (least_may hc) hu).trans (least_le hc hu hp);have hr:=rel_may hc;have h2:le (zoneS c).til (befC u)↔xX (relV c.v) u≤0:=bef_le_bef (v:=relV c.v) hr.1 hu;have h3:lt (befC u) (zoneS c).til↔¬ le (zoneS c).til (befC u):=⟨fun k j=>k.not_le j,fun k=>lt_of_not_le (befC_may hu) (befC_may (v:=relV c.v) hr.1) k⟩;have h4:=cmpV_pre_rel hu hr hp;have h5:=pU hu hr.1;have h6:zu u (relV c.v)=zu u c.v:=rfl;have h7:=@jS u c.v;have h8:=@jS c.v u;have h9:=@ve u c.v;have h10:=@ve c.v u;rw [h1,h3,h2];constructor
 ·rintro ⟨a,b⟩;have b1:xX u (relV c.v) < 0:=h5.2 (by omega);(have b2:zu u c.v≤0:=by rw [← h6]; exact h4.1 b1);by_cases e:zu c.v u=0
  ·exact e
  ·exfalso;(have k1:zu c.v u < 0:=by omega);have:=h7.2 k1;omega
 ·intro e;have e2:zu u c.v=0:=h9.2 ⟨(h10.1 e).1.symm,(h10.1 e).2.1.symm,(h10.1 e).2.2.symm⟩;refine ⟨by omega,?_⟩;have:xX u (relV c.v) < 0:=h4.2 (by rw [h6]; omega);have:=h5.1 this;omega
theorem zone_lt {c:CompL} (hc:yF c.v=true):lt (zoneS c).fr (zoneS c).til:=by
 have hl:=least_may hc;(have hp:bts (leastX c.v).pre≠[]:=by rw [show bts (leastX c.v).pre=[48] from b48]; simp);have h:=(zone_mem (u:=leastX c.v) hc hl hp).2 (ve.2 ⟨rfl,rfl,rfl⟩);exact h.2
theorem zoneX_val (c:CompL):Val (zoneX c):=by
 unfold zoneX;split
 ·rename_i h
  rw [Bool.and_eq_true] at h;exact one_valid (zone_lt (yY.1 h.1).v)
 ·exact nil_val
theorem zoneA_val_from:∀ (l:List CompL) (o:List SpanL),Val o→Val (l.foldl (fun o c=>rorL o (zoneX c)) o)
 | [],_,h=>h
 | c::l,o,h=>zoneA_val_from l _ (v_or h (zoneX_val c))
theorem zoneA_val (l:List CompL):Val (zoneA l):=zoneA_val_from l [] nil_val
theorem altS_val (l:List CompL):ValS (altS l).1 (altS l).2:=smake_val (relA_val l) (v_and (relA_val l) (zoneA_val l))
end Go.Proofs.YtiffijoenkcpjaaGreatDoor
