import Derived.Test.YtiebekmefjbenaaGreatDoorZMh
import Derived.Test.YtiebekmefjbenaaGreatDoorZNp
import Derived.Test.YtiebekmefjbenaaGreatDoorZOe
set_option linter.unusedVariables false
set_option linter.unusedSimpArgs false
namespace Go.Proofs.YtiebekmefjbenaaGreatDoor
open Go.RowKit Go.Lib
open Rw
theorem sum_ok {r:RecL} (h:(z5 r).1=0):vo z7 r=(z7 (qp r),0):=by rw [vo,if_pos h]
theorem put_in {s:ShelfL} {r:RecL} (hm:zQ z7 s=true) (hr:(z5 r).1=0) (hl:s.entries.length < 64) (hp:zi (bts r.name) r.v 0 s.entries < 0):kS z7 s r=(⟨s.name,s.entries++[⟨r,z7 (qp r),false⟩]⟩,0):=by
 rw [WQ hm (by rw [sum_ok hr]) (by omega) (by omega),sum_ok hr]
theorem put_twice {s:ShelfL} {r:RecL} (hm:zQ z7 s=true) (hr:(z5 r).1=0) (hp:¬ zi (bts r.name) r.v 0 s.entries < 0):kS z7 s r=(⟨⟨#[]⟩,[]⟩,8):=Wk hm (by rw [sum_ok hr]) (by omega)
theorem put_may {nm:ByteArray} {l:List EntryL} {r:RecL} (hm:zQ z7 ⟨nm,l⟩=true) (hr:(z5 r).1=0) (hl:l.length < 64) (hp:zi (bts r.name) r.v 0 l < 0) (b:Bool):zQ z7 ⟨nm,l++[⟨r,z7 (qp r),b⟩]⟩=true:=by
 have:=(kj (s:=⟨nm,l⟩) (r:=r) (by rw [put_in hm hr hl hp])).2.2 b
 rwa [sum_ok hr] at this
theorem sums_in {nm:ByteArray} {l:List EntryL} {x:EntryL}:rootD (sumsL ⟨nm,l++[x]⟩)=pairD (pairD (rootD (sumsL ⟨nm,l⟩)) x.sum) (markN x.yanked):=by
 unfold sumsL rootD;dsimp only;rw [List.flatMap_append,← List.cons_append,List.foldl_append];rfl
theorem sumS_ok {s:ShelfL} (h:zQ z7 s=true):sumS s=(rootD (sumsL s),0):=by rw [sumS,if_pos h]
theorem mark_end (l:List EntryL) (x:EntryL) (b:Bool):markE (l++[x]) l.length b=l++[{ x with yanked:=b }]:=by
 apply List.ext_getElem?;intro i;rw [markE,List.getElem?_modify];rcases Nat.lt_trichotomy i l.length with h | h | h
 ·(have e:¬ l.length=i:=by omega);rw [List.getElem?_append_left h,List.getElem?_append_left h];simp only [e,↓reduceIte];cases l[i]?<;>rfl
 ·subst h;simp
 ·rw [List.getElem?_eq_none (by simp; omega),List.getElem?_eq_none (by simp; omega)];rfl
theorem yank_end {nm:ByteArray} {l:List EntryL} {x:EntryL} {b:Bool} (hm:zQ z7 ⟨nm,l++[x]⟩=true) (c:Bool):yankS z7 ⟨nm,l++[{ x with yanked:=b }]⟩ (bts x.rc.name) x.rc.v c=(⟨nm,l++[{ x with yanked:=c }]⟩,0):=by
 have h:=yank_mark (nm:=nm) (l:=l++[x]) (m:=l++[{ x with yanked:=b }]) (j:=l.length) hm (by simp) (by simp [unY]) c;rw [mark_end] at h;(have e:(l++[x])[l.length]'(by simp)=x:=by simp);rw [e] at h;exact h
theorem grows_more:∀ (l m:List EntryL),growsL l (l++m)=true
 | [],m=>by rw [growsL]
 | x::l,m=>by
  rw [List.cons_append,growsL,grows_more l m,sameEn,sameRc_self];simp
theorem grown_more {nm:ByteArray} {l m:List EntryL} (h1:zQ z7 ⟨nm,l⟩=true) (h2:zQ z7 ⟨nm,l++m⟩=true):grownS z7 ⟨nm,l⟩ ⟨nm,l++m⟩=true:=by
 rw [grownS,h1,h2,sameB_self,grows_more];rfl
theorem grown_not {nm:ByteArray} {l m:List EntryL} (h:m.length < l.length):grownS z7 ⟨nm,l⟩ ⟨nm,m⟩=false:=by
 rw [grownS];dsimp only;rw [grows_len h,Bool.and_false]
theorem grown_none {nm:ByteArray} {m:List EntryL} (hn:zg (bts nm)=true) (h2:zQ z7 ⟨nm,m⟩=true):grownS z7 ⟨nm,[]⟩ ⟨nm,m⟩=true:=grown_more (l:=[]) (by rw [zQ,hn]; rfl) h2
theorem yank_none {s:ShelfL} {nm:List UInt8} {v:Ver} {on:Bool} (hm:zQ z7 s=true) (h:zi nm v 0 s.entries < 0):yankS z7 s nm v on=(⟨⟨#[]⟩,[]⟩,9):=by rw [yankS,hm,if_neg (by simp),if_pos h]
theorem yank_some {s:ShelfL} {nm:List UInt8} {v:Ver} {on:Bool} (hm:zQ z7 s=true) (h:¬ zi nm v 0 s.entries < 0):∃ j,yankS z7 s nm v on=(⟨s.name,markE s.entries j on⟩,0):=⟨_,by rw [yankS,hm,if_neg (by simp),if_neg h]; rfl⟩
end Go.Proofs.YtiebekmefjbenaaGreatDoor
