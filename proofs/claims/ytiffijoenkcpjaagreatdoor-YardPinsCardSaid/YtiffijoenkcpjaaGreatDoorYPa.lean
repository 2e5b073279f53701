import Derived.Test.YtiffijoenkcpjaaGreatDoorYDm
import Derived.Test.YtiffijoenkcpjaaGreatDoorYLo
import Derived.Test.YtiffijoenkcpjaaGreatDoorYOa
set_option linter.unusedVariables false
set_option linter.unusedSimpArgs false
namespace Go.Proofs.YtiffijoenkcpjaaGreatDoor
open Go.RowKit Go.Lib
open Rw
structure HoldL where
 name:ByteArray
 rng:ByteArray
def HoldAt (w:World) (b o:Nat) (x:HoldL):Prop:=w.cell? ⟨b,o,none⟩=some (.string x.name)∧w.cell? ⟨b,o+1,none⟩=some (.string x.rng)
theorem HoldAt.stays:o0 HoldAt:=fun _ _ _ _ _ hl hb ⟨h1,h2⟩=>⟨zU hl hb h1,zU hl hb h2⟩
abbrev HoldsW (w:World) (A:Option Addr) (l:List HoldL):Prop:=RowOf 2 HoldAt w A l
theorem hold_at {w:World} {A:Option Addr} {l:List HoldL} {k:Nat} (h:HoldsW w A l) (hk:k < l.length):∃ b off,A=some ⟨b,off,none⟩∧b < w.heap.size∧w.cell? ⟨b,off+k * 2,none⟩=some (.string l[k].name)∧w.cell? ⟨b,off+k * 2+1,none⟩=some (.string l[k].rng):=by
 obtain ⟨b,off,hA,hl,h1,h2⟩:=h.at_ hk;exact ⟨b,off,hA,hl,h1,h2⟩
structure ManL where
 rc:RecL
 pins:List PinL
 holds:List HoldL
structure ManH where
 r:RecH
 P:Option Addr
 cp:Nat
 H:Option Addr
 ch:Nat
abbrev ManL.cells (m:ManL) (h:ManH):List Value:=[.string m.rc.name,.int .i64 m.rc.v.maj,.int .i64 m.rc.v.min,.int .i64 m.rc.v.pat,.string m.rc.v.pre,.string m.rc.v.bld,.slice h.r.A m.rc.needs.length h.r.ca,.slice h.r.B m.rc.bars.length h.r.cb,.slice h.r.F m.rc.feats.length h.r.cf,.slice h.P m.pins.length h.cp,.slice h.H m.holds.length h.ch]
abbrev ManL.val (m:ManL) (h:ManH):Value := .agg #[.string m.rc.name,.int .i64 m.rc.v.maj,.int .i64 m.rc.v.min,.int .i64 m.rc.v.pat,.string m.rc.v.pre,.string m.rc.v.bld,.slice h.r.A m.rc.needs.length h.r.ca,.slice h.r.B m.rc.bars.length h.r.cb,.slice h.r.F m.rc.feats.length h.r.cf,.slice h.P m.pins.length h.cp,.slice h.H m.holds.length h.ch]
structure ManLies (w:World) (h:ManH) (m:ManL):Prop where
 rc:RecLies w h.r m.rc
 pins:Z6 w h.P m.pins
 holds:HoldsW w h.H m.holds
 lp:m.pins.length≤9223372036854775807
 lh:m.holds.length≤9223372036854775807
theorem ManLies.kb {w w':World} {h:ManH} {m:ManL} (k:ManLies w h m) (hb:KB w.heap.size w w'):ManLies w' h m:=⟨k.rc.kb hb,k.pins.kb PinAt.stays hb,k.holds.kb HoldAt.stays hb,k.lp,k.lh⟩
structure ManFit (m:ManL):Prop where
 v:m.rc.v.fit
 small:∀ f∈m.rc.feats,yP f
def ManAt (w:World) (b o:Nat) (x:ManL):Prop:=∃ h:ManH,ManLies w h x∧∀ (j:Nat) (u:Value),(x.cells h)[j]?=some u→w.cell? ⟨b,o+j,none⟩=some u
theorem ManAt.stays:o0 ManAt:=fun _ _ _ _ _ hl hb ⟨h,h1,h2⟩=>⟨h,h1.kb hb,fun j u hj=>zU hl hb (h2 j u hj)⟩
abbrev Mans (w:World) (A:Option Addr) (l:List ManL):Prop:=RowOf 11 ManAt w A l
structure CellsM (w:World) (b o:Nat) (x:ManL) (h:ManH):Prop where
 c0:w.cell? ⟨b,o,none⟩=some (.string x.rc.name)
 c1:w.cell? ⟨b,o+1,none⟩=some (.int .i64 x.rc.v.maj)
 c2:w.cell? ⟨b,o+2,none⟩=some (.int .i64 x.rc.v.min)
 c3:w.cell? ⟨b,o+3,none⟩=some (.int .i64 x.rc.v.pat)
 c4:w.cell? ⟨b,o+4,none⟩=some (.string x.rc.v.pre)
 c5:w.cell? ⟨b,o+5,none⟩=some (.string x.rc.v.bld)
 c6:w.cell? ⟨b,o+6,none⟩=some (.slice h.r.A x.rc.needs.length h.r.ca)
 c7:w.cell? ⟨b,o+7,none⟩=some (.slice h.r.B x.rc.bars.length h.r.cb)
 c8:w.cell? ⟨b,o+8,none⟩=some (.slice h.r.F x.rc.feats.length h.r.cf)
 c9:w.cell? ⟨b,o+9,none⟩=some (.slice h.P x.pins.length h.cp)
 c10:w.cell? ⟨b,o+10,none⟩=some (.slice h.H x.holds.length h.ch)
 lt:b < w.heap.size
theorem CellsM.kb {w w':World} {b o:Nat} {x:ManL} {h:ManH} (k:CellsM w b o x h) (hb:KB w.heap.size w w'):CellsM w' b o x h :=
 ⟨zU k.lt hb k.c0,zU k.lt hb k.c1,zU k.lt hb k.c2,zU k.lt hb k.c3,zU k.lt hb k.c4,zU k.lt hb k.c5,zU k.lt hb k.c6,zU k.lt hb k.c7,zU k.lt hb k.c8,zU k.lt hb k.c9,zU k.lt hb k.c10,Nat.lt_of_lt_of_le k.lt hb.size⟩
theorem man_at {w:World} {A:Option Addr} {l:List ManL} {k:Nat} (h:Mans w A l) (hk:k < l.length):∃ b off,∃ hd:ManH,A=some ⟨b,off,none⟩∧ManLies w hd l[k]∧CellsM w b (off+k * 11) l[k] hd:=by
 obtain ⟨b,off,hA,hl,hd,h1,h2⟩:=h.at_ hk;exact ⟨b,off,hd,hA,h1,⟨h2 0 _ rfl,h2 1 _ rfl,h2 2 _ rfl,h2 3 _ rfl,h2 4 _ rfl,h2 5 _ rfl,h2 6 _ rfl,h2 7 _ rfl,h2 8 _ rfl,h2 9 _ rfl,h2 10 _ rfl,hl⟩⟩
def pinBad (l:List PinL) (i:Nat) (p:PinL):Bool:=!zg (bts p.name) || !zg (bts p.shelf) || !vt l i p
def pinsE (l:List PinL):Nat→List PinL→Int × Int
 | _,[]=>(0,0)
 | i,p::r=>if pinBad l i p then (15,(i:Int)) else pinsE l (i+1) r
def holdAhead (l:List HoldL) (i:Nat) (p:HoldL):Bool:=match i with
 | 0=>true
 | j+1=>match l[j]? with
  | some q=>Op.bytesLess (bts q.name) (bts p.name)
  | none=>true
def holdE (l:List HoldL) (i:Nat) (p:HoldL):Int:=if !zg (bts p.name) || !holdAhead l i p then 4 else if xI (bts p.rng) then 0 else 6
def holdsE (l:List HoldL):Nat→List HoldL→Int × Int
 | _,[]=>(0,0)
 | i,p::r=>if holdE l i p=0 then holdsE l (i+1) r else (holdE l i p,(i:Int))
def checkM (m:ManL):Int × Int :=
 if (z5 m.rc).1≠0 then z5 m.rc else if 8 < m.pins.length∨8 < m.holds.length then (3,0) else
 if (pinsE m.pins 0 m.pins).1≠0 then pinsE m.pins 0 m.pins else holdsE m.holds 0 m.holds
theorem pinsE_drop {l m:List PinL} {k:Nat} (h:k < m.length):pinsE l k (m.drop k)=if pinBad l k m[k] then (15,(k:Int)) else pinsE l (k+1) (m.drop (k+1)):=by
 rw [List.drop_eq_getElem_cons h,pinsE]
theorem pinsE_end {l m:List PinL} {k:Nat} (h:m.length≤k):pinsE l k (m.drop k)=(0,0):=by
 rw [List.drop_eq_nil_of_le h,pinsE]
theorem holdsE_drop {l m:List HoldL} {k:Nat} (h:k < m.length):holdsE l k (m.drop k)=if holdE l k m[k]=0 then holdsE l (k+1) (m.drop (k+1)) else (holdE l k m[k],(k:Int)):=by
 rw [List.drop_eq_getElem_cons h,holdsE]
theorem holdsE_end {l m:List HoldL} {k:Nat} (h:m.length≤k):holdsE l k (m.drop k)=(0,0):=by
 rw [List.drop_eq_nil_of_le h,holdsE]
def isN (nm:ByteArray) (m:ManL):Bool:=yH m.rc.name nm
def yardE (l:List ManL):Nat→List ManL→Int × Int
 | _,[]=>(0,0)
 | i,m::r=>if (checkM m).1≠0 then ((checkM m).1,(i:Int)) else if 0≤zd (isN m.rc.name) 0 (l.take i) then (8,(i:Int)) else yardE l (i+1) r
def checkY (l:List ManL):Int × Int:=if l.length=0 then (9,0) else if 4 < l.length then (3,0) else yardE l 0 l
theorem yardE_drop {l m:List ManL} {k:Nat} (h:k < m.length):yardE l k (m.drop k)=if (checkM m[k]).1≠0 then ((checkM m[k]).1,(k:Int)) else if 0≤zd (isN m[k].rc.name) 0 (l.take k) then (8,(k:Int)) else yardE l (k+1) (m.drop (k+1)):=by
 rw [List.drop_eq_getElem_cons h,yardE]
theorem yardE_end {l m:List ManL} {k:Nat} (h:m.length≤k):yardE l k (m.drop k)=(0,0):=by
 rw [List.drop_eq_nil_of_le h,yardE]
def memberY (l:List ManL) (nm:ByteArray):Int:=if (checkY l).1≠0 then -1 else zd (isN nm) 0 l
def isP (nm:ByteArray) (p:PinL):Bool:=yH p.name nm
def addP (out:List PinL) (p:PinL):Option (List PinL) :=
 match out[(zd (isP p.name) 0 out).toNat]?,decide (zd (isP p.name) 0 out < 0) with
 | _,true=>some (out++[p])
 | some x,false=>if yH x.shelf p.shelf then some out else none
 | none,false=>none
def addAll:List PinL→List PinL→Option (List PinL)
 | out,[]=>some out
 | out,p::r=>match addP out p with
  | some o=>addAll o r
  | none=>none
def allPins (l:List ManL):List PinL:=l.flatMap (·.pins)
def insP (p:PinL):List PinL→List PinL
 | []=>[p]
 | x::r=>if Op.bytesLess (bts x.name) (bts p.name) then x::insP p r else p::x::r
def sortP (l:List PinL):List PinL:=l.foldl (fun o p=>insP p o) []
def pinsY (l:List ManL):List PinL × Int:=if (checkY l).1≠0 then ([],(checkY l).1) else match addAll [] (allPins l) with
 | some o=>(sortP o,0)
 | none=>([],15)
def holdsOf (l:List ManL) (nm:ByteArray):List HoldL:=l.flatMap fun m=>m.holds.filter fun h=>yH h.name nm
def heldGo (s:List SpanL × List SpanL) (l:List HoldL):List SpanL × List SpanL:=l.foldl (fun s h=>andS s.1 s.2 (ofG (bts h.rng)).1.1 (ofG (bts h.rng)).1.2) s
def heldY (l:List ManL) (nm:ByteArray):(List SpanL × List SpanL) × Int:=if (checkY l).1≠0 then (([],[]),(checkY l).1) else (heldGo (wholeL,wholeL) (holdsOf l nm),0)
abbrev ofV (h:HoldL):List SpanL × List SpanL:=(ofG (bts h.rng)).1
theorem held_cons (s:List SpanL × List SpanL) (h:HoldL) (l:List HoldL):heldGo s (h::l)=heldGo (andS s.1 s.2 (ofV h).1 (ofV h).2) l:=rfl
theorem held_mem:∀ (l:List HoldL) {s:List SpanL × List SpanL},ValS s.1 s.2→ValS (heldGo s l).1 (heldGo s l).2∧(∀ x,mem (heldGo s l).1 x↔mem s.1 x∧∀ h∈l,mem (ofV h).1 x)∧(∀ x,mem (heldGo s l).2 x↔mem s.2 x∧∀ h∈l,mem (ofV h).2 x)
 | [],s,h=>⟨h,fun x=>by simp [heldGo],fun x=>by simp [heldGo]⟩
 | a::l,s,h=>by
  have k:=(ofG_good (bts a.rng)).val;rw [held_cons,andS_val h k];obtain ⟨h1,h2,h3⟩:=held_mem l (s:=(randL s.1 (ofV a).1,randL s.2 (ofV a).2)) (h.and k);refine ⟨h1,fun x=>?_,fun x=>?_⟩
  ·rw [h2,m_and h.rel k.rel,List.forall_mem_cons,and_assoc]
  ·rw [h3,m_and h.pre k.pre,List.forall_mem_cons,and_assoc]
theorem held_same {l m:List HoldL} {s:List SpanL × List SpanL} (hs:ValS s.1 s.2) (h:∀ x,x∈l↔x∈m):heldGo s l=heldGo s m:=by
 obtain ⟨a1,a2,a3⟩:=held_mem l hs;obtain ⟨b1,b2,b3⟩:=held_mem m hs;refine Prod.ext ?_ ?_
 ·exact Val.ext _ _ a1.rel b1.rel fun x=>by rw [a2,b2]; simp only [h]
 ·exact Val.ext _ _ a1.pre b1.pre fun x=>by rw [a3,b3]; simp only [h]
theorem held_good:∀ (l:List HoldL) {s:List SpanL × List SpanL} {n:Nat},SGood n s→SGood (n+251 * l.length) (heldGo s l)
 | [],s,n,h=>h
 | a::l,s,n,h=>by
  have k:=ofG_good (bts a.rng);rw [held_cons,List.length_cons];refine (held_good l (n:=n+251) (s:=andS s.1 s.2 (ofV a).1 (ofV a).2) ?_).mono (by omega);rw [andS_val h.val k.val];have g1:=randL_len h.f1 k.f1;have g2:=randL_len h.f2 k.f2;have:=h.l1; have:=h.l2; have:=k.l1; have:=k.l2;exact ⟨(randL_good h.f1 k.f1).1,(randL_good h.f2 k.f2).1,by dsimp only; omega,by dsimp only; omega,h.val.and k.val⟩
theorem whole_good:SGood 1 (wholeL,wholeL):=⟨whole_fit0,whole_fit0,Nat.le_refl _,Nat.le_refl _,ValS.whole⟩
theorem held_within {l m:List HoldL} {s:List SpanL × List SpanL} (hs:ValS s.1 s.2) (h:∀ x,x∈m→x∈l):withinS (heldGo s l).1 (heldGo s l).2 (heldGo s m).1 (heldGo s m).2=true:=by
 obtain ⟨a1,a2,a3⟩:=held_mem l hs;obtain ⟨b1,b2,b3⟩:=held_mem m hs
 have e1:withinR (heldGo s l).1 (heldGo s m).1=true:=by
  (refine (Rw.within_iff a1.rel b1.rel).2 fun x k=>?_);rw [b2];have:=(a2 x).1 k;exact ⟨this.1,fun y hy=>this.2 y (h y hy)⟩
 have e2:withinR (heldGo s l).2 (heldGo s m).2=true:=by
  (refine (Rw.within_iff a1.pre b1.pre).2 fun x k=>?_);rw [b3];have:=(a3 x).1 k;exact ⟨this.1,fun y hy=>this.2 y (h y hy)⟩
 rw [withinS_val a1 b1,e1,e2];rfl
theorem held_has {l:List HoldL} {v:Ver} (hv:yF v=true):hasS (heldGo (wholeL,wholeL) l).1 (heldGo (wholeL,wholeL) l).2 v=l.all fun h=>hasS (ofV h).1 (ofV h).2 v:=by
 obtain ⟨a1,a2,a3⟩:=held_mem l (s:=(wholeL,wholeL)) ValS.whole
 have hw:mem wholeL (befC v):=by
  have:=(hasS_mem ValS.whole hv).1 (all_has hv);unfold sideS at this;split at this<;>exact this
 rw [Bool.eq_iff_iff,hasS_mem a1 hv,List.all_eq_true];unfold sideS;split
 ·rename_i e
  rw [a2];refine ⟨fun k h hh=>?_,fun k=>⟨hw,fun h hh=>?_⟩⟩
  ·rw [hasS_mem (ofG_good _).val hv,sideS,if_pos e];exact k.2 h hh
  ·have:=(hasS_mem (ofG_good _).val hv).1 (k h hh)
   rwa [sideS,if_pos e] at this
 ·rename_i e
  rw [a3];refine ⟨fun k h hh=>?_,fun k=>⟨hw,fun h hh=>?_⟩⟩
  ·rw [hasS_mem (ofG_good _).val hv,sideS,if_neg e];exact k.2 h hh
  ·have:=(hasS_mem (ofG_good _).val hv).1 (k h hh)
   rwa [sideS,if_neg e] at this
def Agree (l:List PinL):Prop:=∀ p∈l,∀ q∈l,p.name=q.name→p.shelf=q.shelf
def Apart (l:List PinL):Prop:=l.Pairwise fun a b=>a.name≠b.name
theorem isP_iff {nm:ByteArray} {p:PinL}:isP nm p=true↔p.name=nm:=by
 rw [isP,qw];exact ⟨xE,congrArg bts⟩
theorem same_iff {a b:ByteArray}:yH a b=true↔a=b:=by
 rw [qw];exact ⟨xE,congrArg bts⟩
theorem addP_new {out:List PinL} {p:PinL} (h:zd (isP p.name) 0 out < 0):addP out p=some (out++[p]):=by
 rw [addP,decide_eq_true h]
theorem addP_old {out:List PinL} {p x:PinL} {k:Nat} (h:zd (isP p.name) 0 out=(k:Int)) (hx:out[k]?=some x):addP out p=if yH x.shelf p.shelf then some out else none:=by
 rw [addP,h,Int.toNat_natCast,hx,decide_eq_false (by omega)]
theorem pin_ext {p q:PinL} (h1:p.name=q.name) (h2:p.shelf=q.shelf):p=q:=by
 cases p; cases q; simp_all
theorem find_no {out:List PinL} {nm:ByteArray} (h:zd (isP nm) 0 out < 0):∀ x∈out,x.name≠nm:=fun x hx e=>by
 obtain ⟨k,hk,rfl⟩:=List.mem_iff_getElem.1 hx;have:=(Xn hk (isP_iff.2 e) 0).1;omega
theorem addAll_spec:∀ (l out:List PinL),Apart out→(∀ o,addAll out l=some o→Apart o∧Agree (out++l)∧∀ p,p∈o↔p∈out++l)∧(addAll out l=none→¬ Agree (out++l))
 | [],out,h=>by
  refine ⟨fun o e=>?_,fun e=>by rw [addAll] at e; cases e⟩;rw [addAll] at e;(injection e with e);subst e;rw [List.append_nil];refine ⟨h,fun p hp q hq e=>?_,fun p=>Iff.rfl⟩;by_cases hpq:p=q
  ·rw [hpq]
  ·obtain ⟨i,hi,rfl⟩:=List.mem_iff_getElem.1 hp;obtain ⟨j,hj,rfl⟩:=List.mem_iff_getElem.1 hq;rcases Nat.lt_trichotomy i j with k | k | k
   ·exact absurd e (List.pairwise_iff_getElem.1 h i j hi hj k)
   ·subst k; exact absurd rfl hpq
   ·exact absurd e.symm (List.pairwise_iff_getElem.1 h j i hj hi k)
 | p::l,out,h=>by
  rw [addAll];by_cases hn:zd (isP p.name) 0 out < 0
  ·rw [addP_new hn];have hA:Apart (out++[p]):=List.pairwise_append.2 ⟨h,List.pairwise_singleton _ _,fun x hx y hy=>by rcases List.mem_singleton.1 hy with rfl; exact find_no hn x hx⟩;have:=addAll_spec l (out++[p]) hA
   rwa [List.append_assoc,List.singleton_append] at this
  ·obtain ⟨k,hk⟩:∃ k:Nat,zd (isP p.name) 0 out=(k:Int):=⟨(zd (isP p.name) 0 out).toNat,by omega⟩;obtain ⟨hkl,hx⟩:=find_at (q:=isP p.name) out 0 k (by rw [hk,Nat.zero_add]);have hx:=isP_iff.1 hx;rw [addP_old hk (List.getElem?_eq_getElem hkl)];by_cases hs:yH out[k].shelf p.shelf=true
   ·rw [if_pos hs]
    have hp:p∈out:=by
     rw [← pin_ext hx (same_iff.1 hs)];exact List.getElem_mem hkl
    have hm:∀ x,x∈out++p::l↔x∈out++l:=fun x=>by
     simp only [List.mem_append,List.mem_cons];constructor
     ·rintro (q | rfl | q)
      ·exact .inl q
      ·exact .inl hp
      ·exact .inr q
     ·rintro (q | q)
      ·exact .inl q
      ·exact .inr (.inr q)
    have hg:Agree (out++p::l)↔Agree (out++l):=by
     unfold Agree;simp only [hm]
    obtain ⟨h1,h2⟩:=addAll_spec l out h;exact ⟨fun o e=>⟨(h1 o e).1,hg.2 (h1 o e).2.1,fun x=>by rw [hm]; exact (h1 o e).2.2 x⟩,fun e=>fun k=>h2 e (hg.1 k)⟩
   ·rw [if_neg hs];refine ⟨fun o e=>(by cases e),fun _ q=>hs (same_iff.2 ?_)⟩;exact q out[k] (List.mem_append_left _ (List.getElem_mem hkl)) p (List.mem_append_right _ (List.mem_cons_self ..)) hx
def lessP (a b:PinL):Prop:=Op.bytesLess (bts a.name) (bts b.name)=true
theorem insP_perm (p:PinL):∀ l,(insP p l).Perm (p::l)
 | []=>List.Perm.refl _
 | x::r=>by
  rw [insP];split
  ·exact ((insP_perm p r).cons x).trans (List.Perm.swap p x r)
  ·exact List.Perm.refl _
theorem insP_rise {p:PinL}:∀ {l:List PinL},l.Pairwise lessP→(∀ x∈l,x.name≠p.name)→(insP p l).Pairwise lessP
 | [],_,_=>by rw [insP]; exact List.pairwise_singleton _ _
 | x::r,h,hn=>by
  rw [insP];rw [List.pairwise_cons] at h;split
  ·rename_i hx
   rw [List.pairwise_cons];refine ⟨fun a ha=>?_,insP_rise h.2 fun y hy=>hn y (List.mem_cons_of_mem _ hy)⟩;rcases List.mem_cons.1 ((insP_perm p r).mem_iff.1 ha) with rfl | ha
   ·exact hx
   ·exact h.1 a ha
  ·rename_i hx
   have hpx:lessP p x:=by
    have h1:Op.bytesLess (bts x.name) (bts p.name)=false:=Bool.not_eq_true _ |>.mp hx;unfold lessP;cases h2:Op.bytesLess (bts p.name) (bts x.name)
    ·exact absurd (xE (sX _ _ h1 h2)) (hn x (List.mem_cons_self ..))
    ·rfl
   rw [List.pairwise_cons,List.pairwise_cons];refine ⟨fun a ha=>?_,h⟩;rcases List.mem_cons.1 ha with rfl | ha
   ·exact hpx
   ·exact nk _ _ _ hpx (h.1 a ha)
theorem sortP_go:∀ (l o:List PinL),o.Pairwise lessP→Apart l→(∀ x∈o,∀ y∈l,x.name≠y.name)→(l.foldl (fun o p=>insP p o) o).Pairwise lessP∧(l.foldl (fun o p=>insP p o) o).Perm (o++l)
 | [],o,h,_,_=>⟨h,by rw [List.append_nil]; exact List.Perm.refl _⟩
 | p::l,o,h,ha,hx=>by
  have hp:=List.pairwise_cons.1 ha;rw [List.foldl_cons]
  obtain ⟨h1,h2⟩:=sortP_go l (insP p o) (insP_rise h fun x hx'=>hx x hx' p (List.mem_cons_self ..)) hp.2 fun x hx' y hy=>by
   rcases List.mem_cons.1 ((insP_perm p o).mem_iff.1 hx') with rfl | k
   ·exact hp.1 y hy
   ·exact hx x k y (List.mem_cons_of_mem _ hy)
  exact ⟨h1,h2.trans (((insP_perm p o).append_right l).trans List.perm_middle.symm)⟩
theorem sortP_ok {l:List PinL} (h:Apart l):(sortP l).Pairwise lessP∧(sortP l).Perm l:=by
 have:=sortP_go l [] List.Pairwise.nil h (fun x hx=>by cases hx)
 rwa [List.nil_append] at this
theorem less_anti {a b:PinL} (h1:lessP a b) (h2:lessP b a):False:=by
 have:=mD _ _ h1;rw [lessP,this] at h2;cases h2
theorem rise_one:∀ {l m:List PinL},l.Pairwise lessP→m.Pairwise lessP→(∀ x,x∈l↔x∈m)→l=m
 | [],[],_,_,_=>rfl
 | [],b::m,_,_,h=>by have:=(h b).2 (List.mem_cons_self ..); cases this
 | a::l,[],_,_,h=>by have:=(h a).1 (List.mem_cons_self ..); cases this
 | a::l,b::m,h1,h2,h=>by
  rw [List.pairwise_cons] at h1 h2
  have e:a=b:=by
   rcases List.mem_cons.1 ((h a).1 (List.mem_cons_self ..)) with e | ha
   ·exact e
   ·rcases List.mem_cons.1 ((h b).2 (List.mem_cons_self ..)) with e | hb
    ·exact e.symm
    ·exact (less_anti (h1.1 b hb) (h2.1 a ha)).elim
  subst e;rw [rise_one h1.2 h2.2 fun x=>?_];constructor
  ·intro hx;rcases List.mem_cons.1 ((h x).1 (List.mem_cons_of_mem _ hx)) with rfl | k
   ·exact (less_anti (h1.1 _ hx) (h1.1 _ hx)).elim
   ·exact k
  ·intro hx;rcases List.mem_cons.1 ((h x).2 (List.mem_cons_of_mem _ hx)) with rfl | k
   ·exact (less_anti (h2.1 _ hx) (h2.1 _ hx)).elim
   ·exact k
theorem pinsY_spec {l:List ManL} (h:(checkY l).1=0):((pinsY l).2=0∧Agree (allPins l)∧(pinsY l).1.Pairwise lessP∧∀ p,p∈(pinsY l).1↔p∈allPins l)∨((pinsY l)=([],15)∧¬ Agree (allPins l)):=by
 rw [pinsY,if_neg (by rw [h]; simp)];obtain ⟨h1,h2⟩:=addAll_spec (allPins l) [] List.Pairwise.nil;rw [List.nil_append] at h1 h2;cases e:addAll [] (allPins l) with
 | none=>exact .inr ⟨rfl,h2 e⟩
 | some o =>
  obtain ⟨k1,k2,k3⟩:=h1 o e;obtain ⟨s1,s2⟩:=sortP_ok k1;exact .inl ⟨rfl,k2,s1,fun p=>by rw [s2.mem_iff,k3]⟩
theorem pinsY_order {l m:List ManL} (hl:(checkY l).1=0) (hm:(checkY m).1=0) (h:∀ p,p∈allPins l↔p∈allPins m):pinsY l=pinsY m:=by
 have hg:Agree (allPins l)↔Agree (allPins m):=by
  unfold Agree;simp only [h]
 rcases pinsY_spec hl with ⟨a1,a2,a3,a4⟩ | ⟨a1,a2⟩
 ·rcases pinsY_spec hm with ⟨b1,b2,b3,b4⟩ | ⟨b1,b2⟩
  ·exact Prod.ext (rise_one a3 b3 fun x=>by rw [a4,b4,h]) (by rw [a1,b1])
  ·exact absurd (hg.1 a2) b2
 ·rcases pinsY_spec hm with ⟨b1,b2,b3,b4⟩ | ⟨b1,b2⟩
  ·exact absurd (hg.2 b2) a2
  ·rw [a1,b1]
def shelves2:List ByteArray:=[⟨#[111,110,101]⟩,⟨#[116,119,111]⟩]
structure ManOk (own:Int) (m:ManL):Prop where
 rc:RecOk2 own m.rc
 plen:m.pins.length≤1
 pins:∀ p∈m.pins,p.name∈gL∧p.shelf∈shelves2
 hlen:m.holds.length≤1
 holds:∀ h∈m.holds,h.name∈gL∧FewOk h.rng
theorem shelves_ok:∀ s∈shelves2,zg (bts s)=true:=by decide +kernel
theorem man_ok {own:Int} {m:ManL} (ho:0≤own) (h:ManOk own m):(checkM m).1=0:=by
 obtain ⟨rc,pins,holds⟩:=m;have h1:=h.plen;have h2:=h.hlen;have h3:=h.pins;have h4:=h.holds;dsimp only at h1 h2 h3 h4;rw [checkM,if_neg (by rw [rec_ok2 ho h.rc]; simp)];dsimp only;rw [if_neg (by omega)]
 have e1:pinsE pins 0 pins=(0,0):=by
  match pins,h1 with
  | [],_=>rfl
  | [p],_ =>
   have:=h3 p (List.mem_cons_self ..);rw [pinsE,pinBad,names_ok _ this.1,shelves_ok _ this.2];rfl
 have e2:holdsE holds 0 holds=(0,0):=by
  match holds,h2 with
  | [],_=>rfl
  | [p],_ =>
   have:=h4 p (List.mem_cons_self ..);rw [holdsE,holdE,names_ok _ this.1,this.2.1];rfl
 rw [e1,e2];rfl
theorem find_noneY {α:Type} {q:α→Bool}:∀ {l:List α} {i:Nat},(∀ x∈l,q x=false)→zd q i l=-1
 | [],_,_=>rfl
 | x::l,i,h=>by
  rw [zd,h x (List.mem_cons_self ..),if_neg (by simp)];exact find_noneY fun y hy=>h y (List.mem_cons_of_mem _ hy)
theorem yardE_ok {l:List ManL} (hc:∀ m∈l,(checkM m).1=0) (ha:l.Pairwise fun a b=>a.rc.name≠b.rc.name):∀ (n k:Nat),k+n=l.length→yardE l k (l.drop k)=(0,0)
 | 0,k,h=>yardE_end (by omega)
 | n+1,k,h=>by
  (have hk:k < l.length:=by omega);rw [yardE_drop hk,if_neg (by rw [hc _ (List.getElem_mem hk)]; simp),if_neg ?_]
  ·exact yardE_ok hc ha n (k+1) (by omega)
  ·rw [find_noneY fun x hx=>?_]
   ·omega
   ·obtain ⟨i,hi,rfl⟩:=List.mem_take_iff_getElem.1 hx;have:=List.pairwise_iff_getElem.1 ha i k (by omega) hk (by omega);rw [isN,Bool.eq_false_iff];exact fun e=>this (same_iff.1 e)
theorem yard_ok {l:List ManL} (h1:1≤l.length) (h4:l.length≤4) (hc:∀ m∈l,(checkM m).1=0) (ha:l.Pairwise fun a b=>a.rc.name≠b.rc.name):checkY l=(0,0):=by
 rw [checkY,if_neg (by omega),if_neg (by omega)];exact yardE_ok hc ha l.length 0 (by omega)
structure Three (a b c:ManL):Prop where
 a:ManOk 0 a
 b:ManOk 1 b
 c:ManOk 2 c
theorem nm_apart:nmP 0≠nmP 1∧nmP 0≠nmP 2∧nmP 1≠nmP 2:=by decide +kernel
section
variable {a b c:ManL}
theorem Three.chk (h:Three a b c):(checkM a).1=0∧(checkM b).1=0∧(checkM c).1=0:=⟨man_ok (by omega) h.a,man_ok (by omega) h.b,man_ok (by omega) h.c⟩
theorem Three.ne (h:Three a b c):a.rc.name≠b.rc.name∧a.rc.name≠c.rc.name∧b.rc.name≠c.rc.name:=by
 rw [h.a.rc.name,h.b.rc.name,h.c.rc.name];exact nm_apart
theorem Three.all (h:Three a b c):checkY [a,b,c]=(0,0):=by
 obtain ⟨c1,c2,c3⟩:=h.chk;obtain ⟨n1,n2,n3⟩:=h.ne;refine yard_ok (by simp) (by simp) (by simp [c1,c2,c3]) ?_;simp [n1,n2,n3]
theorem Three.turn (h:Three a b c):checkY [c,a,b]=(0,0):=by
 obtain ⟨c1,c2,c3⟩:=h.chk;obtain ⟨n1,n2,n3⟩:=h.ne;refine yard_ok (by simp) (by simp) (by simp [c1,c2,c3]) ?_;simp [n1,Ne.symm n2,Ne.symm n3]
theorem Three.less (h:Three a b c):checkY [a,b]=(0,0):=by
 obtain ⟨c1,c2,c3⟩:=h.chk;obtain ⟨n1,n2,n3⟩:=h.ne;refine yard_ok (by simp) (by simp) (by simp [c1,c2]) ?_;simp [n1]
theorem one_ok {m:ManL} (h:(checkM m).1=0):checkY [m]=(0,0):=yard_ok (by simp) (by simp) (by simp [h]) (by simp)
theorem held_ok {l:List ManL} {nm:ByteArray} (h:checkY l=(0,0)):heldY l nm=(heldGo (wholeL,wholeL) (holdsOf l nm),0):=by rw [heldY,h]; rfl
theorem order_pins (h:Three a b c):pinsY [a,b,c]=pinsY [c,a,b]:=pinsY_order (by rw [h.all]) (by rw [h.turn]) fun p=>by
 simp only [allPins,List.flatMap_cons,List.flatMap_nil,List.append_nil,List.mem_append];constructor
 ·rintro (k | k | k)
  ·exact .inr (.inl k)
  ·exact .inr (.inr k)
  ·exact .inl k
 ·rintro (k | k | k)
  ·exact .inr (.inr k)
  ·exact .inl k
  ·exact .inr (.inl k)
theorem order_held (h:Three a b c) (nm:ByteArray):heldY [a,b,c] nm=heldY [c,a,b] nm:=by
 rw [held_ok h.all,held_ok h.turn,held_same ValS.whole fun x=>?_];simp only [holdsOf,List.flatMap_cons,List.flatMap_nil,List.append_nil,List.mem_append];constructor
 ·rintro (k | k | k)
  ·exact .inr (.inl k)
  ·exact .inr (.inr k)
  ·exact .inl k
 ·rintro (k | k | k)
  ·exact .inr (.inr k)
  ·exact .inl k
  ·exact .inr (.inl k)
theorem held_each (h:Three a b c) (nm:ByteArray) {v:Ver} (hv:yF v=true):hasS (heldY [a,b,c] nm).1.1 (heldY [a,b,c] nm).1.2 v=(hasS (heldY [a] nm).1.1 (heldY [a] nm).1.2 v&&(hasS (heldY [b] nm).1.1 (heldY [b] nm).1.2 v&&hasS (heldY [c] nm).1.1 (heldY [c] nm).1.2 v)):=by
 obtain ⟨c1,c2,c3⟩:=h.chk;rw [held_ok h.all,held_ok (one_ok c1),held_ok (one_ok c2),held_ok (one_ok c3)];dsimp only;rw [held_has hv,held_has hv,held_has hv,held_has hv];simp only [holdsOf,List.flatMap_cons,List.flatMap_nil,List.append_nil,List.all_append]
theorem held_less (h:Three a b c) (nm:ByteArray):withinS (heldY [a,b,c] nm).1.1 (heldY [a,b,c] nm).1.2 (heldY [a,b] nm).1.1 (heldY [a,b] nm).1.2=true:=by
 rw [held_ok h.all,held_ok h.less];(refine held_within ValS.whole fun x hx=>?_);simp only [holdsOf,List.flatMap_cons,List.flatMap_nil,List.append_nil,List.mem_append] at hx ⊢;rcases hx with k | k
 ·exact .inl k
 ·exact .inr (.inl k)
def txtZoo2:ByteArray:=⟨#[122,111,111]⟩
theorem zoo_ne:∀ s∈gL,yH s txtZoo2=false:=by decide +kernel
theorem zoo_none {l:List ManL} (h:∀ m∈l,∀ x∈m.holds,x.name∈gL):holdsOf l txtZoo2=[]:=by
 rw [holdsOf,List.flatMap_eq_nil_iff];intro m hm;rw [List.filter_eq_nil_iff];intro x hx;rw [zoo_ne _ (h m hm x hx)];simp
theorem open_held (h:Three a b c):heldY [a,b,c] txtZoo2=((wholeL,wholeL),0):=by
 rw [held_ok h.all,zoo_none]
 ·rfl
 ·intro m hm x hx;simp only [List.mem_cons,List.not_mem_nil,or_false] at hm;rcases hm with rfl | rfl | rfl
  ·exact (h.a.holds x hx).1
  ·exact (h.b.holds x hx).1
  ·exact (h.c.holds x hx).1
theorem open_member (h:Three a b c):memberY [a,b,c] txtZoo2=-1:=by
 rw [memberY,h.all,if_neg (by simp)];(refine find_noneY fun x hx=>?_);simp only [List.mem_cons,List.not_mem_nil,or_false] at hx;rw [isN];rcases hx with rfl | rfl | rfl
 ·rw [h.a.rc.name]; exact zoo_ne _ (nmP_mem _)
 ·rw [h.b.rc.name]; exact zoo_ne _ (nmP_mem _)
 ·rw [h.c.rc.name]; exact zoo_ne _ (nmP_mem _)
theorem open_last (h:Three a b c):memberY [a,b,c] c.rc.name=2:=by
 obtain ⟨n1,n2,n3⟩:=h.ne;rw [memberY,h.all,if_neg (by simp),zd,if_neg,zd,if_neg,zd,if_pos]
 ·rfl
 ·exact sameB_self _
 ·exact fun e=>n3 (same_iff.1 e)
 ·exact fun e=>n2 (same_iff.1 e)
end
theorem pins_ok {l:List ManL} (h:checkY l=(0,0)) {i k:Nat} (hi:i < l.length) (hk:k < l[i].pins.length) (h0:(pinsY l).2=0):(∃ j,∃ hj:j < (pinsY l).1.length,(pinsY l).1[j]=l[i].pins[k])∧∀ (a b:Nat) (ha:a < l.length) (hb:b < l[a].pins.length),l[a].pins[b].name=l[i].pins[k].name→l[a].pins[b].shelf=l[i].pins[k].shelf:=by
 rcases pinsY_spec (l:=l) (by rw [h]) with ⟨h1,h2,h3,h4⟩ | ⟨h1,-⟩
 ·(have hm:∀ (a b:Nat) (ha:a < l.length) (hb:b < l[a].pins.length),l[a].pins[b]∈allPins l:=fun a b ha hb=>List.mem_flatMap.2 ⟨l[a],List.getElem_mem ha,List.getElem_mem hb⟩);refine ⟨?_,fun a b ha hb e=>h2 _ (hm a b ha hb) _ (hm i k hi hk) e⟩;obtain ⟨j,hj,e⟩:=List.mem_iff_getElem.1 ((h4 _).2 (hm i k hi hk));exact ⟨j,hj,e⟩
 ·rw [h1] at h0; cases h0
theorem pins_rise {l:List ManL} (h:checkY l=(0,0)) {j:Nat} (hj:j+1 < (pinsY l).1.length):Op.bytesLess (bts (pinsY l).1[j].name) (bts (pinsY l).1[j+1].name)=true:=by
 rcases pinsY_spec (l:=l) (by rw [h]) with ⟨h1,h2,h3,h4⟩ | ⟨h1,-⟩
 ·exact List.pairwise_iff_getElem.1 h3 j (j+1) (by omega) hj (by omega)
 ·rw [h1] at hj;simp at hj
theorem pins_end {l:List ManL} (h:checkY l=(0,0)):(pinsY l).2=0∨((pinsY l).2=15∧(pinsY l).1.length=0):=by
 rcases pinsY_spec (l:=l) (by rw [h]) with ⟨h1,-⟩ | ⟨h1,-⟩
 ·exact .inl h1
 ·rw [h1]; exact .inr ⟨rfl,rfl⟩
def yTa:ByteArray:=⟨#[97]⟩
def yTb:ByteArray:=⟨#[98]⟩
def tApp:ByteArray:=⟨#[97,112,112]⟩
def tOne:ByteArray:=⟨#[111,110,101]⟩
def tTwo:ByteArray:=⟨#[116,119,111]⟩
def tLt2:ByteArray:=⟨#[60,50]⟩
def manA:ManL:=⟨⟨tApp,⟨0,0,0,⟨#[]⟩,⟨#[]⟩⟩,[],[],[]⟩,[⟨yTb,tOne⟩],[⟨yTb,tLt2⟩]⟩
def manB:ManL:=⟨⟨yTb,⟨0,0,0,⟨#[]⟩,⟨#[]⟩⟩,[],[],[]⟩,[⟨yTa,tTwo⟩],[]⟩
def yv1:Ver:=⟨1,0,0,⟨#[]⟩,⟨#[]⟩⟩
def yv2:Ver:=⟨2,0,0,⟨#[]⟩,⟨#[]⟩⟩
theorem yaw_check:checkY [manA,manB]=(0,0):=by decide +kernel
theorem yaw_twice:checkY [manA,manA]=(8,1):=by decide +kernel
theorem yaw_member:memberY [manA,manB] yTb=1:=by decide +kernel
theorem yaw_pins:(pinsY [manA,manB]).2=0∧(pinsY [manA,manB]).1.map (fun p=>bts p.name)=[[97],[98]]:=by decide +kernel
theorem yaw_held:(heldY [manA,manB] yTb).2=0∧hasS (heldY [manA,manB] yTb).1.1 (heldY [manA,manB] yTb).1.2 yv1=true∧hasS (heldY [manA,manB] yTb).1.1 (heldY [manA,manB] yTb).1.2 yv2=false:=by decide +kernel
end Go.Proofs.YtiffijoenkcpjaaGreatDoor
