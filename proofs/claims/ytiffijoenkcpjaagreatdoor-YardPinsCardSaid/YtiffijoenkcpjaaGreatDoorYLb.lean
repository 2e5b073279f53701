import Derived.Test.YtiffijoenkcpjaaGreatDoorYKq
set_option linter.unusedVariables false
set_option linter.unusedSimpArgs false
namespace Go.Proofs.YtiffijoenkcpjaaGreatDoor
open Go.RowKit Go.Lib
open Rw
def Wf (w:World) (n:Int) (e:Ending) (w':World):Prop:=e = .returned (.int .i64 n)∧KB w.heap.size w w'
abbrev EntryL.cells (x:EntryL) (h:RecH):List Value:=[.string x.rc.name,.int .i64 x.rc.v.maj,.int .i64 x.rc.v.min,.int .i64 x.rc.v.pat,.string x.rc.v.pre,.string x.rc.v.bld,.slice h.A x.rc.needs.length h.ca,.slice h.B x.rc.bars.length h.cb,.slice h.F x.rc.feats.length h.cf,.int .u64 x.sum,.bool x.yanked]
structure Cells11 (w:World) (b o:Nat) (x:EntryL) (h:RecH):Prop where
 c0:w.cell? ⟨b,o,none⟩=some (.string x.rc.name)
 c1:w.cell? ⟨b,o+1,none⟩=some (.int .i64 x.rc.v.maj)
 c2:w.cell? ⟨b,o+2,none⟩=some (.int .i64 x.rc.v.min)
 c3:w.cell? ⟨b,o+3,none⟩=some (.int .i64 x.rc.v.pat)
 c4:w.cell? ⟨b,o+4,none⟩=some (.string x.rc.v.pre)
 c5:w.cell? ⟨b,o+5,none⟩=some (.string x.rc.v.bld)
 c6:w.cell? ⟨b,o+6,none⟩=some (.slice h.A x.rc.needs.length h.ca)
 c7:w.cell? ⟨b,o+7,none⟩=some (.slice h.B x.rc.bars.length h.cb)
 c8:w.cell? ⟨b,o+8,none⟩=some (.slice h.F x.rc.feats.length h.cf)
 c9:w.cell? ⟨b,o+9,none⟩=some (.int .u64 x.sum)
 c10:w.cell? ⟨b,o+10,none⟩=some (.bool x.yanked)
 lt:b < w.heap.size
theorem v7 {w:World} {A:Option Addr} {l:List EntryL} {k:Nat} (h:yL w A l) (hk:k < l.length):∃ b off,∃ hd:RecH,A=some ⟨b,off,none⟩∧RecLies w hd l[k].rc∧Cells11 w b (off+k * 11) l[k] hd:=by
 obtain ⟨b,off,hA,hl,hd,h1,h2,h3,h4⟩:=h.at_ hk;exact ⟨b,off,hd,hA,h1,⟨h2 0 _ rfl,h2 1 _ rfl,h2 2 _ rfl,h2 3 _ rfl,h2 4 _ rfl,h2 5 _ rfl,h2 6 _ rfl,h2 7 _ rfl,h2 8 _ rfl,h3,h4,hl⟩⟩
theorem Xh {nm:List UInt8} {v:Ver} {x:EntryL} (h:bts x.rc.name≠nm):js nm v x=false:=by rw [js,decide_eq_false h]; rfl
theorem XO {nm:List UInt8} {v:Ver} {x:EntryL} (h:bts x.rc.name=nm):js nm v x=cJ x.rc.v v:=by rw [js,decide_eq_true h]; rfl
end Go.Proofs.YtiffijoenkcpjaaGreatDoor
