import Derived.Deep.RegionLaw
import Derived.Shelf.Abstract
import Derived.Shelf.Strings.BuilderK
import Derived.Test.YtiffijoenkcpjaaGreatDoorYJb
set_option linter.unusedVariables false
set_option linter.unusedSimpArgs false
namespace Go.Proofs.YtiffijoenkcpjaaGreatDoor
open Go.RowKit Go.Lib
open Rw
structure PinL where
 name:ByteArray
 shelf:ByteArray
def PinAt (w:World) (b o:Nat) (x:PinL):Prop:=w.cell? ⟨b,o,none⟩=some (.string x.name)∧w.cell? ⟨b,o+1,none⟩=some (.string x.shelf)
theorem PinAt.stays:o0 PinAt:=fun _ _ _ _ _ hl hb ⟨h1,h2⟩=>⟨zU hl hb h1,zU hl hb h2⟩
abbrev Z6 (w:World) (A:Option Addr) (l:List PinL):Prop:=RowOf 2 PinAt w A l
def zd {α:Type} (q:α→Bool):Nat→List α→Int
 | _,[]=>-1
 | i,x::l=>if q x then (i:Int) else zd q (i+1) l
section
variable {α:Type} {q:α→Bool}
theorem uT:∀ (l:List α) (i:Nat),zd q i l=-1∨((i:Int)≤zd q i l∧zd q i l < i+l.length)
 | [],i => .inl rfl
 | x::l,i=>by
  rw [zd];cases q x
  ·rw [if_neg (by simp)];rcases uT l (i+1) with h | ⟨h1,h2⟩
   ·exact .inl h
   ·refine .inr ⟨by omega,?_⟩;rw [List.length_cons];omega
  ·rw [if_pos rfl];refine .inr ⟨Int.le_refl _,?_⟩;rw [List.length_cons];omega
theorem find_at:∀ (l:List α) (i k:Nat),zd q i l=((i+k:Nat):Int)→∃ h:k < l.length,q l[k]=true
 | [],i,k,h=>by rw [zd] at h; omega
 | x::l,i,k,h=>by
  rw [zd] at h;cases hx:q x
  ·rw [hx,if_neg (by simp)] at h;rcases k with _ | k
   ·rcases uT (q:=q) l (i+1) with e | ⟨e,-⟩
    ·rw [e] at h; omega
    ·omega
   ·obtain ⟨h1,h2⟩:=find_at l (i+1) k (by rw [h]; congr 1; omega);exact ⟨by simp; omega,by simpa using h2⟩
  ·rw [hx,if_pos rfl] at h;(obtain rfl:k=0:=by omega);exact ⟨by simp,hx⟩
theorem p8 {l:List α} {k:Nat} (h:k < l.length):zd q k (l.drop k)=if q l[k] then (k:Int) else zd q (k+1) (l.drop (k+1)):=by
 rw [List.drop_eq_getElem_cons h,zd]
theorem mL {l:List α} {k:Nat} (h:l.length≤k):zd q k (l.drop k)=-1:=by
 rw [List.drop_eq_nil_of_le h,zd]
theorem Xn {l:List α} {k:Nat} (h:k < l.length) (hq:q l[k]=true):∀ i,0≤zd q i l∧zd q i l≤((i+k:Nat):Int):=by
 induction l generalizing k with
 | nil=>simp at h
 | cons x l ih =>
  intro i;rw [zd];cases hx:q x
  ·rw [if_neg (by simp)];rcases k with _ | k
   ·rw [List.getElem_cons_zero] at hq;rw [hx] at hq; cases hq
   ·rw [List.getElem_cons_succ] at hq;obtain ⟨h1,h2⟩:=ih (by simpa using h) hq (i+1);exact ⟨h1,by omega⟩
  ·rw [if_pos rfl];omega
end
def wj (l:List ShelfL):Nat→List ShelfL→Bool
 | _,[]=>true
 | i,s::r=>zQ z7 s&&decide (¬ zd (fun x=>yH x.name s.name) 0 l < (i:Int))&&wj l (i+1) r
def zw (l:List ShelfL):Bool:=decide (l.length≤4)&&wj l 0 l
def vt (l:List PinL) (i:Nat) (p:PinL):Bool:=match i with
 | 0=>true
 | j+1=>match l[j]? with
  | some q=>Op.bytesLess (bts q.name) (bts p.name)
  | none=>true
theorem uS (b:ByteArray):yH b b=true:=by rw [yH,beq_iff_eq]
theorem qw {a b:ByteArray}:yH a b=true↔bts a=bts b:=by rw [yH,beq_iff_eq,bts,bts]
theorem one_mayQ {a:ShelfL} (ha:zQ z7 a=true):zw [a]=true:=by
 simp [zw,wj,zd,ha,uS]
theorem aJ {w:World} {A:Option Addr} {l:List PinL} {k:Nat} (h:Z6 w A l) (hk:k < l.length):∃ b off,A=some ⟨b,off,none⟩∧b < w.heap.size∧w.cell? ⟨b,off+k * 2,none⟩=some (.string l[k].name)∧w.cell? ⟨b,off+k * 2+1,none⟩=some (.string l[k].shelf):=by
 obtain ⟨b,off,hA,hb,h1,h2⟩:=h.at_ hk;exact ⟨b,off,hA,hb,h1,h2⟩
end Go.Proofs.YtiffijoenkcpjaaGreatDoor
