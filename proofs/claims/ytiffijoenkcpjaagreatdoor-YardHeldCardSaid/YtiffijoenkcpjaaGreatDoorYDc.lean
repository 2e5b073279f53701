import Derived.Test.YtiffijoenkcpjaaGreatDoorYCm
set_option linter.unusedVariables false
set_option linter.unusedSimpArgs false
namespace Go.Proofs.YtiffijoenkcpjaaGreatDoor
open Go.RowKit Go.Lib
open Rw
abbrev rp:List UInt8:=[32,124,124,32]
abbrev o7:List UInt8:=[44,32]
theorem lJ:bts (⟨#[32,124,124,32]⟩:ByteArray)=rp:=zN [32,124,124,32]
theorem lI:bts (⟨#[44,32]⟩:ByteArray)=o7:=zN [44,32]
def Vk (w:World) (b o:Nat) (c:CompL):Prop:=w.cell? ⟨b,o,none⟩=some (.int .i64 c.op)∧w.cell? ⟨b,o+1,none⟩=some (.int .i64 c.parts)∧w.cell? ⟨b,o+2,none⟩=some (.int .i64 c.v.maj)∧w.cell? ⟨b,o+3,none⟩=some (.int .i64 c.v.min)∧w.cell? ⟨b,o+4,none⟩=some (.int .i64 c.v.pat)∧w.cell? ⟨b,o+5,none⟩=some (.string c.v.pre)∧w.cell? ⟨b,o+6,none⟩=some (.string c.v.bld)
theorem Lies.at7 {w:World} {A:Option Addr} {l:List CompL} {k:Nat} (h:rf w A l) (hk:k < l.length):∃ b off,A=some ⟨b,off,none⟩∧b < w.heap.size∧Vk w b (off+k * 7) l[k]:=by
 obtain ⟨b,off,hA,hl,hc⟩:=h.at_ hk;exact ⟨b,off,hA,hl,hc 0 _ rfl,hc 1 _ rfl,hc 2 _ rfl,hc 3 _ rfl,hc 4 _ rfl,hc 5 _ rfl,hc 6 _ rfl⟩
theorem cm {a:List CompL} {k:Nat} (h:k < a.length) (hm:sL a[k]=false):eF a=false:=by
 rw [eF,Bool.and_eq_false_iff];right;rw [List.all_eq_false];exact ⟨_,List.getElem_mem h,by rw [hm]; simp⟩
theorem bi {r:List (List CompL)} {k:Nat} (h:k < r.length) (hm:eF r[k]=false):tD r=false:=by
 rw [tD,Bool.and_eq_false_iff];right;rw [List.all_eq_false];exact ⟨_,List.getElem_mem h,by rw [hm]; simp⟩
theorem kI {a:List CompL} (h:¬ (1≤a.length∧a.length≤6)):eF a=false:=by rw [eF,decide_eq_false h]; rfl
theorem jV {r:List (List CompL)} (h:¬ (1≤r.length∧r.length≤6)):tD r=false:=by rw [tD,decide_eq_false h]; rfl
theorem q7 {α:Type} {p:α→Bool} {l:List α} {k:Nat} (h:k < l.length) (ha:(l.take k).all p=true) (hp:p l[k]=true):(l.take (k+1)).all p=true:=by
 rw [List.take_succ_eq_append_getElem h,List.all_append,ha]; simp [hp]
theorem gw {a:List CompL} (h:1≤a.length∧a.length≤6) (ha:(a.take a.length).all sL=true):eF a=true:=by rw [List.take_length] at ha; rw [eF,ha,decide_eq_true h]; rfl
theorem gj {r:List (List CompL)} (h:1≤r.length∧r.length≤6) (ha:(r.take r.length).all eF=true):tD r=true:=by rw [List.take_length] at ha; rw [tD,ha,decide_eq_true h]; rfl
theorem vb {r:List (List CompL)} (h:tD r=true):r.length≤6∧∀ a∈r,a.length≤6:=by
 have:=eJ.1 h;exact ⟨this.le,fun a ha=>(this.may a ha).le⟩
theorem mq (l:List UInt8) (c:UInt8):Lib.trimLeftB l c=l.dropWhile (·==c):=rfl
end Go.Proofs.YtiffijoenkcpjaaGreatDoor
