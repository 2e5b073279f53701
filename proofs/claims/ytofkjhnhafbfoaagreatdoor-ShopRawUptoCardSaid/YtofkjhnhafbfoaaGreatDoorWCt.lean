import Derived.ArgAppend
import Derived.Test.YtofkjhnhafbfoaaGreatDoorWCa
set_option linter.unusedVariables false
set_option linter.unusedSimpArgs false
namespace Go.Proofs.YtofkjhnhafbfoaaGreatDoor
open Go.RowKit Go.Lib
open Rw
abbrev KB (B:Nat) (w w':World):Prop:=Go.RowKit.Below B w w'
def und (w:World):World:={ w with drawn:=0 }
theorem uf {B:Nat} {w w':World} (h:KB B w w'):Below B (und w) w':=⟨⟨h.os,h.tape,h.output,h.size,h.block⟩,Nat.zero_le _⟩
theorem Below.kb {B:Nat} {w w':World} (h:Below B w w'):KB B w w':=h.toBelow
theorem zA {w0 w1 w2:World} (h:KB w0.heap.size w0 w1) (k:KB w1.heap.size w1 w2):KB w0.heap.size w0 w2:=Go.RowKit.Below.trans h (Go.RowKit.Below.mono k h.size)
theorem zH (w:World):KB w.heap.size w w:=Go.RowKit.Below.refl _ _
theorem zG (w:World) (o:Obj):KB w.heap.size w (w.alloc o):=(zL w o).kb
theorem Box.kb {w w':World} {g:Nat} {cs:List Value} (h:Box w g cs) (hb:KB w.heap.size w w'):Box w' g cs:=Box.below (w:=und w) h (uf hb)
theorem Own.kb {B:Nat} {w w':World} {g:Nat} {cs:List Value} (h:Own B w g cs) (hb:KB w.heap.size w w'):Own B w' g cs:=Own.below (w:=und w) ⟨h.box,h.soft,h.low⟩ (uf hb)
theorem Laid.kb {w w':World} (h:Laid w) (hb:KB w.heap.size w w'):Laid w':=Laid.below (w:=und w) ⟨h.first,h.pow,h.maxl⟩ (uf hb)
theorem tG {w w':World} {base size n:Nat} {e:TypeId} {v:Value} {xs:List Value} (h:w.ownsRow base e size v n xs) (hb:KB w.heap.size w w'):w'.ownsRow base e size v n xs:=pC (w1:=und w) h (uf hb)
def yT (w:World) (b:Bool) (e:Ending) (w':World):Prop:=e = .returned (.bool b)∧KB w.heap.size w w'
def nM (w:World) (l:List UInt8) (e:Ending) (w':World):Prop:=∃ s:ByteArray,e = .returned (.string s)∧bts s=l∧KB w.heap.size w w'
def Lies {α:Type} (n:Nat) (f:α→List Value) (w:World) (A:Option Addr) (l:List α):Prop :=
 l=[]∨∃ b off,A=some ⟨b,off,none⟩∧b < w.heap.size∧∀ i (h:i < l.length) (j:Nat) (u:Value),(f l[i])[j]?=some u→w.cell? ⟨b,off+i * n+j,none⟩=some u
section
variable {α:Type} {n:Nat} {f:α→List Value} {w w':World} {A:Option Addr} {l:List α}
theorem Lies.below (h:Lies n f w A l) (hb:Below w.heap.size w w'):Lies n f w' A l:=by
 rcases h with h | ⟨b,off,rfl,hlt,hc⟩
 ·exact .inl h
 ·exact .inr ⟨b,off,rfl,Nat.lt_of_lt_of_le hlt hb.size,fun i hi j u hj=>(hb.cell (p:=⟨b,_,none⟩) hlt).trans (hc i hi j u hj)⟩
theorem Lies.kb (h:Lies n f w A l) (hb:KB w.heap.size w w'):Lies n f w' A l:=Lies.below (w:=und w) h (uf hb)
theorem Lies.at_ {k:Nat} (h:Lies n f w A l) (hk:k < l.length):∃ b off,A=some ⟨b,off,none⟩∧b < w.heap.size∧∀ (j:Nat) (u:Value),(f l[k])[j]?=some u→w.cell? ⟨b,off+k * n+j,none⟩=some u:=by
 rcases h with h | ⟨b,off,rfl,hlt,hc⟩
 ·subst h; simp at hk
 ·exact ⟨b,off,rfl,hlt,hc k hk⟩
theorem Lies.lay {b off k:Nat} (h:Lies n f w (some ⟨b,off,none⟩) l) (hk:k < l.length):b < w.heap.size∧∀ (j:Nat) (u:Value),(f l[k])[j]?=some u→w.cell? ⟨b,off+k * n+j,none⟩=some u:=by
 obtain ⟨b',off',e,h1,h2⟩:=h.at_ hk;(injection e with e);(injection e with e1 e2 e3);subst e1; subst e2;exact ⟨h1,h2⟩
end
abbrev rf (w:World) (A:Option Addr) (l:List CompL):Prop:=Lies 7 CompL.cells w A l
def Alts (w:World) (A:Option Addr) (r:List (List CompL)):Prop :=
 r=[]∨∃ b off,A=some ⟨b,off,none⟩∧b < w.heap.size∧∀ i (h:i < r.length),∃ Ai ci,w.cell? ⟨b,off+i,none⟩=some (.slice Ai r[i].length ci)∧rf w Ai r[i]
theorem Alts.below {w w':World} {A:Option Addr} {r:List (List CompL)} (h:Alts w A r) (hb:Below w.heap.size w w'):Alts w' A r:=by
 rcases h with h | ⟨b,off,rfl,hlt,hc⟩
 ·exact .inl h
 ·refine .inr ⟨b,off,rfl,Nat.lt_of_lt_of_le hlt hb.size,fun i hi=>?_⟩;obtain ⟨Ai,ci,h1,h2⟩:=hc i hi;exact ⟨Ai,ci,(hb.cell (p:=⟨b,_,none⟩) hlt).trans h1,h2.below hb⟩
theorem Alts.kb {w w':World} {A:Option Addr} {r:List (List CompL)} (h:Alts w A r) (hb:KB w.heap.size w w'):Alts w' A r:=Alts.below (w:=und w) h (uf hb)
theorem Alts.nil {w:World} {A:Option Addr}:Alts w A [] := .inl rfl
theorem Alts.at_ {w:World} {A:Option Addr} {r:List (List CompL)} {k:Nat} (h:Alts w A r) (hk:k < r.length) :
 ∃ b off Ai ci,A=some ⟨b,off,none⟩∧b < w.heap.size∧w.cell? ⟨b,off+k,none⟩=some (.slice Ai r[k].length ci)∧rf w Ai r[k]:=by
 rcases h with h | ⟨b,off,rfl,hlt,hc⟩
 ·subst h; simp at hk
 ·obtain ⟨Ai,ci,h1,h2⟩:=hc k hk;exact ⟨b,off,Ai,ci,rfl,hlt,h1,h2⟩
abbrev wL (A:Option Addr) (n c:Nat):Value := .agg #[.slice A n c]
def Z7 (r:List (List CompL)):Prop:=∀ a∈r,∀ c∈a,CompL.fit c
theorem oF (sep:List UInt8):∀ (ps:List (List UInt8)),Lib.join ps sep=zT sep ps
 | []=>rfl
 | [p]=>Lib.join_one p sep
 | p::q::r=>by
  have ih:=oF sep (q::r);rw [Lib.join_cons] at ih ⊢;rw [zT,← ih];simp [Lib.joinTail,Lib.join_cons]
theorem Tryz.extraJoin:Builder.Extra Tryz.prog Tryz.lays156_ren where
 sizeBuilder:=by kernel_rfl
 liesBuilder:=by kernel_rfl
 t5:=Tryz.underlying5
 a5:=Tryz.isAgg5
 z5:=Tryz.sizeOf5
 v5:=Tryz.zeroValue5
 infoByte:=by kernel_rfl
 cellsByte:=by kernel_rfl
 sizeByte:=by kernel_rfl
 neB5:=by decide
theorem oZ (g c:Nat) (ds:List ByteArray) (sep:ByteArray) (w:World) (hb:Box w g (ds.map Value.string)) (hc:ds.length≤c) (hn:ds.length≤1000000)
 (hlen:(zT (bts sep) (ds.map bts)).length≤140737488355328):Calls Tryz.prog 161 #[.slice (some ⟨g,0,none⟩) ds.length c,.string sep] w (nM w (zT (bts sep) (ds.map bts))):=by
 have e2:(bts:ByteArray→List UInt8)=fun x=>x.data.toList:=funext fun x=>by rw [bts,yX]
 have he:Lib.join (ds.map (·.data.toList)) sep.data.toList=zT (bts sep) (ds.map bts):=by rw [oF,e2]
 refine (Any.strings_Join Tryz.lays156 Tryz.extraJoin g 0 c ds sep w (fun j x hj=>?_) hb.1 (by omega) hc (by rw [he]; exact hlen)).mono ?_
 ·rw [Nat.zero_add];exact hb.2 j (.string x) (by rw [List.getElem?_map,hj]; rfl)
 ·rintro e w' ⟨rfl,h⟩;rw [he];exact ⟨_,rfl,zx _,h⟩
theorem xC (sep:List UInt8) (B:Nat):∀ (ps:List (List UInt8)),(∀ p∈ps,p.length≤B)→(zT sep ps).length≤(B+sep.length) * ps.length
 | [],_=>by simp [zT]
 | [p],h=>by
  have:=h p (by simp);simp only [zT,List.length_cons,List.length_nil,Nat.zero_add,Nat.mul_one]; omega
 | p::q::r,h=>by
  have h1:=h p (by simp);have h2:=xC sep B (q::r) (fun x hx=>h x (List.mem_cons_of_mem _ hx));(have e:(B+sep.length) * (p::q::r).length=(B+sep.length) * (q::r).length+(B+sep.length):=by rw [List.length_cons,Nat.mul_succ]);rw [e];simp only [zT,List.length_append];omega
theorem gb {v:Ver} (hm:yF v=true):(qU v).length≤37:=by
 obtain ⟨-,-,-,hp,-⟩:=yN hm;unfold qU;split
 ·simp
 ·rw [tI,Bool.or_eq_true] at hp;rcases hp with hp | hp
  ·exact absurd hp (by assumption)
  ·rw [fF,Bool.and_eq_true] at hp;have:=qr hp.1;simp only [List.length_cons]; omega
theorem aQ {c:CompL} (h:MayX c):∀ w∈yS c,w.length≤4:=by
 obtain ⟨f1,f2,f3,-,-⟩:=yN h.v;intro w hw;have:=List.mem_of_mem_take hw;simp only [List.mem_cons,List.not_mem_nil,or_false] at this;rcases this with e | e | e<;>rw [e]<;>exact uA (by assumption)
theorem aa (c:CompL):(yS c).length≤3:=by unfold yS; rw [List.length_take]; simp; omega
theorem bm (op:Int):(yh op).length≤2:=by
 unfold yh; repeat' split
 all_goals simp
theorem rU (c:CompL):(zh c).length≤60:=by
 unfold zh;split
 ·rename_i hm
  have M:=yY.1 hm;have h1:=aQ M;have h2:=aa c;have h3:=gb M.v;have h4:=bm c.op;unfold um;split
  ·have:=xC [46] 4 (yS c++[[42]]) (fun p hp=>by
    rcases List.mem_append.1 hp with h | h
    ·exact h1 p h
    ·simp only [List.mem_singleton] at h; rw [h]; decide)
   rw [List.length_append] at this;simp only [List.length_cons,List.length_nil] at this;omega
  ·have:=xC [46] 4 (yS c) h1;simp only [List.length_append,List.length_cons,List.length_nil] at this ⊢;omega
 ·simp
theorem fN (a:List CompL):(l9 a).length≤62 * a.length:=by
 have:=xC [44,32] 60 (a.map zh) (fun p hp=>by
  obtain ⟨c,-,rfl⟩:=List.mem_map.1 hp
  exact rU c)
 rw [List.length_map] at this;exact this
theorem dc {r:List (List CompL)} (h:∀ a∈r,a.length≤6):(xd r).length≤376 * r.length:=by
 have:=xC [32,124,124,32] 372 (r.map l9) (fun p hp=>by
  obtain ⟨a,ha,rfl⟩:=List.mem_map.1 hp;have:=fN a;have:=h a ha
  omega)
 rw [List.length_map] at this;exact this
def jt (sep:List UInt8) (l:List (List UInt8)) (k:Nat):List UInt8:=zT sep (l.take k)
theorem V6 (sep:List UInt8) (l:List (List UInt8)):jt sep l 0=[]:=rfl
theorem XY (sep:List UInt8) (l:List (List UInt8)):jt sep l l.length=zT sep l:=by rw [jt,List.take_length]
theorem l5 (sep:List UInt8) (x:List UInt8):∀ (l:List (List UInt8)),l≠[]→zT sep (l++[x])=zT sep l++(sep++x)
 | [],h=>absurd rfl h
 | [p],_=>by simp [zT]
 | p::q::r,_=>by
  have ih:=l5 sep x (q::r) (by simp);show p++sep++zT sep ((q::r)++[x])=p++sep++zT sep (q::r)++(sep++x);rw [ih]; simp
theorem Z1 (sep:List UInt8) {l:List (List UInt8)} {k:Nat} (h:k < l.length):jt sep l (k+1)=(jt sep l k++if 0 < k then sep else [])++l[k]:=by
 unfold jt;rw [List.take_succ_eq_append_getElem h];rcases Nat.eq_zero_or_pos k with rfl | h0
 ·simp [zT]
 ·rw [if_pos h0,l5 sep _ _ (fun e=>by have:=congrArg List.length e; rw [List.length_take,List.length_nil] at this; omega)]; simp
end Go.Proofs.YtofkjhnhafbfoaaGreatDoor
