import Derived.Lib.TrimByte
import Derived.Test.YtiebekmefjbenaaGreatDoorZTa
set_option linter.unusedVariables false
set_option linter.unusedSimpArgs false
namespace Go.Proofs.YtiebekmefjbenaaGreatDoor
open Go.RowKit Go.Lib
open Rw
structure CompL where
 op:Int
 parts:Int
 v:Ver
abbrev CompL.cells (c:CompL):List Value:=[.int .i64 c.op,.int .i64 c.parts,.int .i64 c.v.maj,.int .i64 c.v.min,.int .i64 c.v.pat,.string c.v.pre,.string c.v.bld]
abbrev CompL.val (c:CompL):Value := .agg #[.int .i64 c.op,.int .i64 c.parts,.int .i64 c.v.maj,.int .i64 c.v.min,.int .i64 c.v.pat,.string c.v.pre,.string c.v.bld]
def CompL.fit (c:CompL):Prop:=c.v.fit
def wl:CompL:=⟨0,0,xD⟩
def X6 (op parts:Int):Bool:=if op=9 then decide (0≤parts∧parts≤2) else decide (1≤parts∧parts≤3)
def sL (c:CompL):Bool:=decide (1≤c.op∧c.op≤9)&&yF c.v&&(bts c.v.bld).isEmpty&&X6 c.op c.parts&&(decide (3≤c.parts) || (bts c.v.pre).isEmpty) &&
 (decide (0 < c.parts) || decide (c.v.maj=0))&&(decide (1 < c.parts) || decide (c.v.min=0))&&(decide (2 < c.parts) || decide (c.v.pat=0))
structure MayX (c:CompL):Prop where
 op:1≤c.op∧c.op≤9
 v:yF c.v=true
 bld:bts c.v.bld=[]
 many:(c.op=9∧0≤c.parts∧c.parts≤2)∨(c.op≠9∧1≤c.parts∧c.parts≤3)
 pre:c.parts < 3→bts c.v.pre=[]
 maj:c.parts < 1→c.v.maj=0
 min:c.parts < 2→c.v.min=0
 pat:c.parts < 3→c.v.pat=0
theorem jZ {op parts:Int}:X6 op parts=true↔(op=9∧0≤parts∧parts≤2)∨(op≠9∧1≤parts∧parts≤3):=by
 unfold X6;split<;>simp_all
theorem yY {c:CompL}:sL c=true↔MayX c:=by
 constructor
 ·intro h;simp only [sL,Bool.and_eq_true,Bool.or_eq_true,decide_eq_true_eq,List.isEmpty_iff] at h;obtain ⟨⟨⟨⟨⟨⟨⟨h1,h2⟩,h3⟩,h4⟩,h5⟩,h6⟩,h7⟩,h8⟩:=h;exact ⟨h1,h2,h3,jZ.1 h4,fun e=>h5.resolve_left (by omega),fun e=>h6.resolve_left (by omega),fun e=>h7.resolve_left (by omega),fun e=>h8.resolve_left (by omega)⟩
 ·rintro ⟨h1,h2,h3,h4,h5,h6,h7,h8⟩;simp only [sL,Bool.and_eq_true,Bool.or_eq_true,decide_eq_true_eq,List.isEmpty_iff];refine ⟨⟨⟨⟨⟨⟨⟨h1,h2⟩,h3⟩,jZ.2 h4⟩,?_⟩,?_⟩,?_⟩,?_⟩
  ·by_cases e:3≤c.parts
   ·exact .inl e
   ·exact .inr (h5 (by omega))
  ·by_cases e:0 < c.parts
   ·exact .inl e
   ·exact .inr (h6 (by omega))
  ·by_cases e:1 < c.parts
   ·exact .inl e
   ·exact .inr (h7 (by omega))
  ·by_cases e:2 < c.parts
   ·exact .inl e
   ·exact .inr (h8 (by omega))
def yh (op:Int):List UInt8:=if op=1 then [61] else if op=2 then [33,61] else if op=3 then [60] else if op=4 then [60,61] else if op=5 then [62] else if op=6 then [62,61] else if op=7 then [94] else if op=8 then [126] else []
def yS (c:CompL):List (List UInt8):=[vR c.v.maj,vR c.v.min,vR c.v.pat].take c.parts.toNat
def um (c:CompL):List UInt8:=if c.op=9 then zT [46] (yS c++[[42]]) else yh c.op++(zT [46] (yS c)++qU c.v)
def zh (c:CompL):List UInt8:=if sL c then um c else []
def tv:List Int:=[2,4,6,1,3,5,7,8]
def xu (s:List UInt8):List Int→Int × List UInt8
 | []=>(9,s)
 | op::r=>if Lib.hasPrefix s (yh op) then (op,s.drop (yh op).length) else xu s r
def vp:List (List UInt8)→Option (Int × Int × Int)
 | []=>some (0,0,0)
 | [a]=>if (za a).2 then some ((za a).1,0,0) else none
 | [a,b]=>if (za a).2&&(za b).2 then some ((za a).1,(za b).1,0) else none
 | [a,b,c]=>if (za a).2&&((za b).2&&(za c).2) then some ((za a).1,(za b).1,(za c).1) else none
 | _=>none
def kC (op:Int) (l:List (List UInt8)) (pre:List UInt8):Option CompL:=match vp l with
 | none=>none
 | some n=>some ⟨op,l.length,⟨n.1,n.2.1,n.2.2,xP pre,xP []⟩⟩
def uj (op:Int) (rest:List UInt8):Option CompL:=kC op (if op=9 then (zO (zq 45 rest)).dropLast else zO (zq 45 rest)) (xq 45 rest)
def sM (s:List UInt8):Option CompL:=if (xu s tv).1=9∧(zO (zq 45 (xu s tv).2)).getLast?≠some [42] then none else
 match uj (xu s tv).1 (xu s tv).2 with
 | none=>none
 | some c=>if sL c&&decide (zh c=s) then some c else none
def wH (s:List UInt8):Option CompL:=match sM s with
 | some c=>some c
 | none=>sM (94::s)
def xZ (s:List UInt8):Int × List UInt8:=if (xu s tv).1=9 then (if s.getLast?=some 42 then (9,s) else (7,s)) else xu s tv
def rJ (s:List UInt8):Option CompL:=match uj (xZ s).1 (xZ s).2 with
 | none=>none
 | some c=>if sL c&&(decide (zh c=s) || decide (zh c=94::s)) then some c else none
theorem dm {x:List UInt8} (h:(45:UInt8) ∉ x) (v:Ver):zq 45 (x++qU v)=x∧xq 45 (x++qU v)=bts v.pre:=by
 unfold qU;split
 ·rename_i e
  rw [List.append_nil];have:=wB h;exact ⟨this.1,by rw [this.2,List.isEmpty_iff.1 e]⟩
 ·exact rG h
theorem lE {c:CompL} {w:List UInt8} (h:w∈yS c):∃ n:Int,w=vR n:=by
 have:=List.mem_of_mem_take h;simp only [List.mem_cons,List.not_mem_nil,or_false] at this;rcases this with h | h | h
 ·exact ⟨_,h⟩
 ·exact ⟨_,h⟩
 ·exact ⟨_,h⟩
theorem nL {c:CompL} (h:MayX c):c.parts=0∨c.parts=1∨c.parts=2∨c.parts=3:=by have:=h.many; omega
theorem XN {c:CompL} (h:c.parts=0):yS c=[]:=by rw [yS,h]; rfl
theorem XT {c:CompL} (h:c.parts=1):yS c=[vR c.v.maj]:=by rw [yS,h]; rfl
theorem XQ {c:CompL} (h:c.parts=2):yS c=[vR c.v.maj,vR c.v.min]:=by rw [yS,h]; rfl
theorem XU {c:CompL} (h:c.parts=3):yS c=[vR c.v.maj,vR c.v.min,vR c.v.pat]:=by rw [yS,h]; rfl
theorem fJ {c:CompL} (h:MayX c):((yS c).length:Int)=c.parts:=by
 rcases nL h with e | e | e | e
 ·rw [XN e,e]; rfl
 ·rw [XT e,e]; rfl
 ·rw [XQ e,e]; rfl
 ·rw [XU e,e]; rfl
theorem be {c:CompL} (h:MayX c) (h9:c.op≠9):yS c≠[]:=by
 intro e;have h1:=fJ h;rw [e] at h1;have:=h.many;simp at h1;omega
theorem Zf {c:CompL} (h:MayX c):vp (yS c)=some (c.v.maj,c.v.min,c.v.pat):=by
 obtain ⟨f1,f2,f3,-,-⟩:=yN h.v;rcases nL h with e | e | e | e
 ·rw [XN e,h.maj (by omega),h.min (by omega),h.pat (by omega)]; rfl
 ·rw [XT e,h.min (by omega),h.pat (by omega)]; simp only [vp,rV f1,if_true]
 ·rw [XQ e,h.pat (by omega)]; simp only [vp,rV f1,rV f2,Bool.and_self,if_true]
 ·rw [XU e]; simp only [vp,rV f1,rV f2,rV f3,Bool.and_self,if_true]
theorem jT {c:CompL} (h:MayX c):kC c.op (yS c) (bts c.v.pre)=some c:=by
 rw [kC,Zf h];simp only [fJ h,sY];(have:xP []=c.v.bld:=by rw [← h.bld,sY]);rw [this]
theorem qf {b:UInt8}:∀ {ws:List (List UInt8)},b≠46→(∀ w∈ws,b ∉ w)→b ∉ zT [46] ws
 | [],_,_=>by simp [zT]
 | [w],_,h=>by simpa [zT] using h
 | w::u::r,hb,h=>by
  (have e:zT [46] (w::u::r)=w++46::zT [46] (u::r):=by rw [zT]; simp);rw [e,List.mem_append,List.mem_cons,not_or,not_or];exact ⟨h w (by simp),hb,qf hb (fun x hx=>h x (List.mem_cons_of_mem _ hx))⟩
theorem oH {b:UInt8} (hb:b.toNat < 48∨57 < b.toNat) (c:CompL):∀ w∈yS c,b ∉ w:=by
 intro w hw;obtain ⟨n,rfl⟩:=lE hw;exact Wl hb n
theorem cB {c:CompL} (h:MayX c) (h9:c.op≠9):zO (zT [46] (yS c))=yS c:=sP (be h h9) (oH (by decide) c)
theorem pO (c:CompL):zO (zT [46] (yS c++[[42]]))=yS c++[[42]]:=by
 refine sP (by simp) (fun w hw=>?_);rcases List.mem_append.1 hw with h | h
 ·exact oH (by decide) c w h
 ·simp only [List.mem_singleton] at h; subst h; decide
theorem bj (c:CompL):(45:UInt8) ∉ zT [46] (yS c):=qf (by decide) (oH (by decide) c)
theorem nY (c:CompL):(45:UInt8) ∉ zT [46] (yS c++[[42]]):=by
 refine qf (by decide) (fun w hw=>?_);rcases List.mem_append.1 hw with h | h
 ·exact oH (by decide) c w h
 ·simp only [List.mem_singleton] at h; subst h; decide
theorem pp {c:CompL} (h:MayX c) (h9:c.op≠9):uj c.op (zT [46] (yS c)++qU c.v)=some c:=by
 obtain ⟨e1,e2⟩:=dm (bj c) c.v;rw [uj,e1,e2,if_neg h9,cB h h9,jT h]
theorem nw {c:CompL} (h:MayX c) (h9:c.op=9):uj 9 (zT [46] (yS c++[[42]]))=some c:=by
 obtain ⟨e1,e2⟩:=wB (nY c);have hp:bts c.v.pre=[]:=h.pre (by have:=h.many; omega);have:=jT h;rw [hp,h9] at this;rw [uj,e1,e2,if_pos rfl,pO,List.dropLast_concat,this]
theorem lZ (n:Int):∃ d r,vR n=d::r∧zz d=true:=by
 have h1:=ak n.toNat;have h2:=iR n.toNat;rw [vR];cases e:decDigits n.toNat with
 | nil=>exact absurd e h1
 | cons d r=>rw [e] at h2; simp at h2; exact ⟨d,r,rfl,h2.1⟩
theorem nO {d:UInt8} {r:List UInt8}:∀ (ws:List (List UInt8)),∃ q,zT [46] ((d::r)::ws)=d::q
 | []=>⟨r,rfl⟩
 | u::t=>⟨r++46::zT [46] (u::t),by rw [zT]; simp⟩
def nr (d:UInt8):Prop:=d≠33∧d≠60∧d≠61∧d≠62∧d≠94∧d≠126
theorem ka {d:UInt8} (h:zz d=true):nr d:=by
 simp only [zz,decide_eq_true_eq] at h;refine ⟨?_,?_,?_,?_,?_,?_⟩<;>(intro e; subst e; revert h; decide)
theorem pG {c:CompL} (h:MayX c) (h9:c.op≠9):∃ d q,zT [46] (yS c)=d::q∧nr d:=by
 cases e:yS c with
 | nil=>exact absurd e (be h h9)
 | cons w ws =>
  obtain ⟨n,rfl⟩:=lE (c:=c) (w:=w) (by rw [e]; simp);obtain ⟨d,r,e1,hd⟩:=lZ n;rw [e1];obtain ⟨q,hq⟩:=nO (d:=d) (r:=r) ws;exact ⟨d,q,hq,ka hd⟩
theorem rX (c:CompL):∃ d q,zT [46] (yS c++[[42]])=d::q∧nr d:=by
 cases e:yS c with
 | nil=>exact ⟨42,[],rfl,by unfold nr; decide⟩
 | cons w ws =>
  obtain ⟨n,rfl⟩:=lE (c:=c) (w:=w) (by rw [e]; simp);obtain ⟨d,r,e1,hd⟩:=lZ n;rw [e1];obtain ⟨q,hq⟩:=nO (d:=d) (r:=r) (ws++[[42]]);exact ⟨d,q,hq,ka hd⟩
theorem jq {d:UInt8} {q:List UInt8} (h:nr d):xu (d::q) tv=(9,d::q):=by
 obtain ⟨h1,h2,h3,h4,h5,h6⟩:=h;simp [xu,tv,yh,Lib.hasPrefix,List.isPrefixOf,h1.symm,h2.symm,h3.symm,h4.symm,h5.symm,h6.symm]
theorem aE {d:UInt8} {q:List UInt8} (h:nr d) {op:Int} (ho:1≤op∧op≤8):xu (yh op++d::q) tv=(op,d::q):=by
 obtain ⟨h1,h2,h3,h4,h5,h6⟩:=h
 rcases (show op=1∨op=2∨op=3∨op=4∨op=5∨op=6∨op=7∨op=8 by omega) with e | e | e | e | e | e | e | e<;>subst e <;>
  simp [xu,tv,yh,Lib.hasPrefix,List.isPrefixOf,h1.symm,h2.symm,h3.symm,h4.symm,h5.symm,h6.symm]
theorem lX {c:CompL} (h:MayX c) (h9:c.op≠9):xu (um c) tv=(c.op,zT [46] (yS c)++qU c.v):=by
 obtain ⟨d,q,e,hd⟩:=pG h h9;rw [um,if_neg h9,e,List.cons_append];exact aE hd (by have:=h.op; omega)
theorem nN {c:CompL} (h9:c.op=9):xu (um c) tv=(9,zT [46] (yS c++[[42]])):=by
 obtain ⟨d,q,e,hd⟩:=rX c;rw [um,if_pos h9,e];exact jq hd
theorem xA {c:CompL} (h:MayX c):zh c=um c:=by rw [zh,yY.2 h,if_pos rfl]
theorem Zd (c:CompL):(zT [46] (yS c++[[42]])).getLast?=some 42:=by
 by_cases h:yS c=[]
 ·rw [h]; rfl
 ·rw [jD 46 h (by simp),zT];simp
theorem nW {c:CompL} (h:MayX c):sM (zh c)=some c:=by
 rw [xA h,sM];by_cases h9:c.op=9
 ·have hb:=(wB (nY c)).1;rw [nN h9];simp only;rw [hb,pO,if_neg (by simp),nw h h9];simp only;rw [yY.2 h,xA h,if_pos (by simp)]
 ·rw [lX h h9];simp only;rw [if_neg (by intro e; exact h9 e.1),pp h h9];simp only;rw [yY.2 h,xA h,if_pos (by simp)]
theorem sF {s:List UInt8} {c:CompL} (h:sM s=some c):MayX c∧zh c=s:=by
 unfold sM at h;split at h
 ·cases h
 ·split at h
  ·cases h
  ·split at h
   ·rename_i hc
    simp only [Bool.and_eq_true,decide_eq_true_eq] at hc;(injection h with h);subst h;exact ⟨yY.1 hc.1,hc.2⟩
   ·cases h
theorem kz {s:List UInt8} {c:CompL} (h:rJ s=some c):MayX c∧(zh c=s∨zh c=94::s):=by
 unfold rJ at h;split at h
 ·cases h
 ·split at h
  ·rename_i hc
   simp only [Bool.and_eq_true,Bool.or_eq_true,decide_eq_true_eq] at hc;(injection h with h);subst h;exact ⟨yY.1 hc.1,hc.2⟩
  ·cases h
theorem p7 {c:CompL} (h:MayX c):rJ (zh c)=some c:=by
 rw [rJ];by_cases h9:c.op=9
 ·have e:xZ (zh c)=(9,zT [46] (yS c++[[42]])):=by
   rw [xZ,xA h,nN h9,if_pos rfl,um,if_pos h9,Zd,if_pos rfl]
  rw [e];simp only;rw [nw h h9];simp only;rw [yY.2 h,if_pos (by simp)]
 ·have e:xZ (zh c)=(c.op,zT [46] (yS c)++qU c.v):=by
   rw [xZ,xA h,lX h h9,if_neg h9]
  rw [e];simp only;rw [pp h h9];simp only;rw [yY.2 h,if_pos (by simp)]
theorem Y0 {v:Ver} (h:yF v=true):(42:UInt8) ∉ qU v:=by
 obtain ⟨-,-,-,hp,-⟩:=yN h;unfold qU;split
 ·simp
 ·rw [List.mem_cons,not_or];exact ⟨by decide,fun e=>X7 (b:=42) (by decide) (WS hp e)⟩
theorem bA {c:CompL} (h:MayX c):(zT [46] (yS c)++qU c.v).getLast?≠some 42:=by
 intro e;have:=List.mem_of_getLast? e;rw [List.mem_append] at this;rcases this with k | k
 ·exact qf (by decide) (oH (by decide) c) k
 ·exact Y0 h.v k
theorem Wb {c:CompL} (h:MayX c) {s:List UInt8} (e:um c=94::s):c.op=7∧s=zT [46] (yS c)++qU c.v:=by
 by_cases h9:c.op=9
 ·obtain ⟨d,q,e1,hd⟩:=rX c;rw [um,if_pos h9,e1] at e;(injection e with e2 e3);exact absurd e2 hd.2.2.2.2.1
 ·rw [um,if_neg h9] at e;have ho:=h.op;(rcases (show c.op=1∨c.op=2∨c.op=3∨c.op=4∨c.op=5∨c.op=6∨c.op=7∨c.op=8 by omega) with k | k | k | k | k | k | k | k<;>rw [k] at e<;>simp [yh] at e);exact ⟨k,e.symm⟩
theorem lc {c:CompL} (h:MayX c) {s:List UInt8} (e:zh c=94::s):rJ s=some c:=by
 have e0:=e;rw [xA h] at e;obtain ⟨h7,rfl⟩:=Wb h e;obtain ⟨d,q,e1,hd⟩:=pG h (by omega)
 have ef:xu (zT [46] (yS c)++qU c.v) tv=(9,zT [46] (yS c)++qU c.v):=by
  rw [e1,List.cons_append]; exact jq hd
 have es:xZ (zT [46] (yS c)++qU c.v)=(7,zT [46] (yS c)++qU c.v):=by
  rw [xZ,ef,if_pos rfl,if_neg (bA h)]
 have hb:=pp h (by omega);rw [h7] at hb;rw [rJ,es];simp only;rw [hb];simp only;rw [yY.2 h,if_pos (by simp [e0])]
theorem qW {s:List UInt8} {c:CompL} (h:wH s=some c):MayX c∧(zh c=s∨zh c=94::s):=by
 unfold wH at h;split at h
 ·rename_i d hd
  (injection h with h);subst h;have:=sF hd;exact ⟨this.1,.inl this.2⟩
 ·have:=sF h;exact ⟨this.1,.inr this.2⟩
theorem iK {c:CompL} (h:MayX c):wH (zh c)=some c:=by rw [wH,nW h]
theorem aM (s:List UInt8):rJ s=wH s:=by
 cases h:rJ s with
 | some c =>
  obtain ⟨h1,h2⟩:=kz h;rcases h2 with e | e
  ·rw [← e,iK h1]
  ·have hn:sM s=none:=by
    cases k:sM s with
    | none=>rfl
    | some d =>
     obtain ⟨d1,d2⟩:=sF k;have:=p7 d1;rw [d2,h] at this;(injection this with this);subst this;rw [d2] at e;have:=congrArg List.length e;simp at this
   rw [wH,hn,← e,nW h1]
 | none =>
  cases k:wH s with
  | none=>rfl
  | some d =>
   obtain ⟨d1,d2⟩:=qW k;rcases d2 with e | e
   ·have:=p7 d1;rw [e,h] at this;cases this
   ·rw [lc d1 e] at h;cases h
theorem uA {n:Int} (h:wV n=true):(vR n).length≤4:=by
 simp only [wV,decide_eq_true_eq] at h;exact rZ (by omega)
theorem bc {s:List UInt8} {c:CompL} (h:wH s=some c) (hs:s.length≤4398046511000):c.fit:=by
 obtain ⟨h1,h2⟩:=qW h
 have hl:(zh c).length≤4398046511001:=by
  rcases h2 with e | e
  ·rw [e]; omega
  ·rw [e,List.length_cons]; omega
 refine ⟨?_,by rw [← zF,h1.bld]; simp⟩;rw [← zF];by_cases h9:c.op=9
 ·rw [h1.pre (by have:=h1.many; omega)]; simp
 ·rw [xA h1,um,if_neg h9] at hl;simp only [List.length_append] at hl
  have:(bts c.v.pre).length≤(qU c.v).length:=by
   unfold qU;split
   ·rename_i e; rw [List.isEmpty_iff.1 e]; simp
   ·simp
  omega
theorem l7 (b:UInt8) (cur l:List UInt8):zV b cur l≠[]:=by
 have:=(zk b l cur).1;intro e; rw [e] at this; simp at this
theorem xz (b:UInt8):∀ (l cur:List UInt8),zT [b] (zV b cur l)=cur++l
 | [],cur=>by simp [zV,zT]
 | c::r,cur=>by
  unfold zV;split
  ·rename_i h
   subst h;cases hs:zV c [] r with
   | nil=>exact absurd hs (l7 _ _ _)
   | cons q t =>
    have:=xz c r [];rw [hs] at this;simp only [zT,this];simp
  ·rw [xz b r (cur++[c])]; simp
theorem oj (b:UInt8):∀ (l cur:List UInt8),b ∉ cur→∀ p∈zV b cur l,b ∉ p
 | [],cur,h,p,hp=>by simp [zV] at hp; subst hp; exact h
 | c::r,cur,h,p,hp=>by
  unfold zV at hp;split at hp
  ·rcases List.mem_cons.1 hp with e | e
   ·subst e; exact h
   ·exact oj b r [] (by simp) p e
  ·rename_i hc
   exact oj b r (cur++[c]) (by simp [h]; exact fun e=>hc e.symm) p hp
theorem nu (b:UInt8) (l:List UInt8):Lib.split l [b]=zV b [] l:=by
 have h:=dY (sep:=[b]) (by simp) (l7 b [] l) (fun p hp=>Z9 (oj b l [] (by simp) p hp));rw [xz,List.nil_append] at h;exact h
def yZ:List UInt8→List UInt8→List (List UInt8)
 | cur,[]=>[cur]
 | cur,[a]=>[cur++[a]]
 | cur,a::b::r=>if a=124∧b=124 then cur::yZ [] r else yZ (cur++[a]) (b::r)
theorem fA:∀ (l cur:List UInt8),yZ cur l≠[]
 | [],cur=>by simp [yZ]
 | [a],cur=>by simp [yZ]
 | a::b::r,cur=>by
  unfold yZ;split
  ·simp
  ·exact fA (b::r) _
def py (sep:List UInt8):List (List UInt8)→Prop
 | []=>False
 | [p]=>Lib.index p sep=-1
 | p::q::r=>Lib.index (p++sep++zT sep (q::r)) sep=p.length∧py sep (q::r)
theorem rA {sep:List UInt8} (hs:sep≠[]):∀ (ps:List (List UInt8)),py sep ps→∀ fuel,ps.length≤fuel→Lib.countFrom sep fuel (zT sep ps)=ps.length - 1
 | [],h,_,_=>h.elim
 | [p],h,fuel+1,_=>by
  have h:Lib.index p sep=-1:=h;rw [zT,Lib.countFrom,h]; rfl
 | p::q::r,h,fuel+1,hf=>by
  have hi:=h.1;rw [zT,Lib.countFrom,hi];(have:((p.length:Int)==-1)=false:=by simp);rw [this,Int.toNat_natCast,qk,rA hs (q::r) h.2 fuel (by simpa using hf)];simp only [List.length_cons,Bool.false_eq_true,if_false]; omega
theorem t5 {sep:List UInt8}:∀ (ps:List (List UInt8)),py sep ps→Lib.splitK sep 0 (ps.length - 1) (zT sep ps)=ps
 | [],h=>h.elim
 | [p],_=>rfl
 | p::q::r,h=>by
  have hi:=h.1;(have e:(p::q::r).length - 1=((q::r).length - 1)+1:=by simp);rw [e,zT,Lib.splitK,hi];(have:((p.length:Int)==-1)=false:=by simp);rw [this,Int.toNat_natCast,qk,Nat.add_zero,t5 (q::r) h.2];simp only [Bool.false_eq_true,if_false,List.append_assoc,List.take_left]
theorem mw {sep:List UInt8} (hs:sep≠[]) {ps:List (List UInt8)} (h:py sep ps):Lib.split (zT sep ps) sep=ps:=by
 unfold Lib.split Lib.count;rw [rA hs ps h _ (oO hs ps),t5 ps h]
theorem gf {s sub:List UInt8} {j:Nat} (h0:0 < sub.length) (h:s.length < j+sub.length):Lib.occAt s sub j=false:=by
 rw [Bool.eq_false_iff]; intro ho;unfold Lib.occAt at ho;rw [List.isPrefixOf_iff_prefix] at ho;have:=ho.length_le;rw [List.length_drop] at this;omega
theorem qu:∀ (l cur:List UInt8),(∀ j,j < cur.length→Lib.occAt (cur++l) [124,124] j=false)→py [124,124] (yZ cur l)∧zT [124,124] (yZ cur l)=cur++l
 | [],cur,h=>by
  refine ⟨?_,by simp [yZ,zT]⟩;show Lib.index cur [124,124]=-1;(refine Lib.index_none fun j hj=>?_);by_cases k:j < cur.length
  ·have:=h j k; rwa [List.append_nil] at this
  ·exact gf (by simp) (by simp; omega)
 | [a],cur,h=>by
  refine ⟨?_,by simp [yZ,zT]⟩;show Lib.index (cur++[a]) [124,124]=-1;(refine Lib.index_none fun j hj=>?_);by_cases k:j < cur.length
  ·exact h j k
  ·exact gf (by simp) (by simp; omega)
 | a::b::r,cur,h=>by
  unfold yZ;split
  ·rename_i hc
   obtain ⟨rfl,rfl⟩:=hc;obtain ⟨h1,h2⟩:=qu r [] (fun j hj=>absurd hj (Nat.not_lt_zero _));cases hs:yZ [] r with
   | nil=>exact absurd hs (fA _ _)
   | cons q t =>
    rw [hs] at h1 h2;refine ⟨⟨?_,h1⟩,?_⟩
    ·rw [h2,List.nil_append];refine Lib.index_first (by simp only [List.length_append]; omega) (XX cur _ r) (fun j hj=>?_);have:=h j hj;simpa using this
    ·simp only [zT,h2]; simp
  ·rename_i hc
   have:=qu (b::r) (cur++[a]) (fun j hj=>by
    (have e:cur++[a]++b::r=cur++a::b::r:=by simp);rw [e];by_cases k:j < cur.length
    ·exact h j k
    ·(have:j=cur.length:=by simp at hj; omega);subst this;unfold Lib.occAt;rw [List.drop_left];simp only [List.isPrefixOf,Bool.and_true,Bool.and_eq_false_imp,beq_iff_eq];intro e1;rw [Bool.eq_false_iff];intro e2
     exact hc ⟨e1.symm,(by simpa using e2:(124:UInt8)=b).symm⟩)
   rw [List.append_assoc] at this;exact this
theorem dC (l:List UInt8):Lib.split l [124,124]=yZ [] l:=by
 obtain ⟨h1,h2⟩:=qu l [] (fun j hj=>absurd hj (Nat.not_lt_zero _));have h:=mw (by simp) h1
 rwa [h2,List.nil_append] at h
theorem vX {p:UInt8→Bool}:∀ {l:List UInt8} (m:List UInt8),l.dropWhile p≠[]→(l++m).dropWhile p=l.dropWhile p++m
 | [],_,h=>absurd rfl h
 | a::l,m,h=>by
  rw [List.cons_append,List.dropWhile_cons,List.dropWhile_cons] at *;split
  ·rename_i hp; rw [if_pos hp] at h; exact vX m h
  ·simp
theorem vJ {p:UInt8→Bool}:∀ {l:List UInt8} (m:List UInt8),l.dropWhile p=[]→(l++m).dropWhile p=m.dropWhile p
 | [],_,_=>rfl
 | a::l,m,h=>by
  rw [List.cons_append,List.dropWhile_cons];rw [List.dropWhile_cons] at h;split
  ·rename_i hp; rw [if_pos hp] at h; exact vJ m h
  ·rename_i hp; rw [if_neg hp] at h; cases h
theorem xB (l:List UInt8) (a c:UInt8):Lib.trimRightB (l++[a]) c=if a==c then Lib.trimRightB l c else l++[a]:=by
 unfold Lib.trimRightB;rw [List.reverse_append,List.reverse_singleton,List.singleton_append,List.dropWhile_cons];split
 ·rfl
 ·simp
theorem kT (c:UInt8):∀ (l:List UInt8),Lib.trimRightB (Lib.trimLeftB l c) c=Lib.trimB l c:=by
 intro l;induction hn:l.length generalizing l with
 | zero =>
  have:l=[]:=List.eq_nil_of_length_eq_zero hn;subst this; rfl
 | succ n ih =>
  obtain ⟨m,a,rfl⟩:∃ m a,l=m++[a]:=⟨l.dropLast,l.getLast (by intro e; rw [e] at hn; simp at hn),(List.dropLast_concat_getLast _).symm⟩;(have hm:m.length=n:=by simpa using hn);have ih:=ih m hm;unfold Lib.trimB at ih ⊢;rw [xB];by_cases hd:Lib.trimLeftB m c=[]
  ·have e:Lib.trimLeftB (m++[a]) c=Lib.trimLeftB [a] c:=vJ _ hd;rw [e];by_cases ha:a==c
   ·rw [if_pos ha,← ih,hd];simp [Lib.trimLeftB,ha,Lib.trimRightB]
   ·rw [if_neg ha,e];(have:Lib.trimLeftB [a] c=[]++[a]:=by simp [Lib.trimLeftB,ha]);rw [this,xB,if_neg ha]
  ·have e:Lib.trimLeftB (m++[a]) c=Lib.trimLeftB m c++[a]:=vX _ hd;rw [e,xB];by_cases ha:a==c
   ·rw [if_pos ha,if_pos ha,ih]
   ·rw [if_neg ha,if_neg ha,e]
def eF (a:List CompL):Bool:=decide (1≤a.length∧a.length≤6)&&a.all sL
def tD (r:List (List CompL)):Bool:=decide (1≤r.length∧r.length≤6)&&r.all eF
def l9 (a:List CompL):List UInt8:=zT [44,32] (a.map zh)
def xd (r:List (List CompL)):List UInt8:=zT [32,124,124,32] (r.map l9)
def bD (r:List (List CompL)):Bool:=tD r&&decide ((xd r).length≤96)
def qE (r:List (List CompL)):List UInt8:=if bD r then xd r else []
def yq:List (List UInt8)→Option (List CompL)
 | []=>some []
 | x::r=>match wH (Lib.trimB x 32) with
  | none=>none
  | some c=>match yq r with
   | none=>none
   | some l=>some (c::l)
def vg:List (List UInt8)→Option (List (List CompL))
 | []=>some []
 | x::r=>match yq (zV 44 [] x) with
  | none=>none
  | some c=>match vg r with
   | none=>none
   | some l=>some (c::l)
def yB (s:List UInt8):List (List CompL) × Int:=if 96 < s.length then ([],3) else match vg (yZ [] s) with
 | none=>([],6)
 | some r=>if tD r then (if (xd r).length≤96 then (r,0) else ([],3)) else ([],6)
structure FewA (a:List CompL):Prop where
 ne:a≠[]
 le:a.length≤6
 may:∀ c∈a,MayX c
theorem gy {a:List CompL}:eF a=true↔FewA a:=by
 rw [eF,Bool.and_eq_true,decide_eq_true_eq,List.all_eq_true];refine ⟨fun ⟨h1,h2⟩=>⟨fun e=>by subst e; simp at h1,h1.2,fun c hc=>yY.1 (h2 c hc)⟩,fun ⟨h1,h2,h3⟩=>⟨⟨List.length_pos_iff.2 h1,h2⟩,fun c hc=>yY.2 (h3 c hc)⟩⟩
structure FewG (r:List (List CompL)):Prop where
 ne:r≠[]
 le:r.length≤6
 may:∀ a∈r,FewA a
theorem eJ {r:List (List CompL)}:tD r=true↔FewG r:=by
 rw [tD,Bool.and_eq_true,decide_eq_true_eq,List.all_eq_true];refine ⟨fun ⟨h1,h2⟩=>⟨fun e=>by subst e; simp at h1,h1.2,fun c hc=>gy.1 (h2 c hc)⟩,fun ⟨h1,h2,h3⟩=>⟨⟨List.length_pos_iff.2 h1,h2⟩,fun c hc=>gy.2 (h3 c hc)⟩⟩
end Go.Proofs.YtiebekmefjbenaaGreatDoor
