import Derived.Test.YtofkjhnhafbfoaaGreatDoorWDg
import Derived.Test.YtofkjhnhafbfoaaGreatDoorWJa
set_option linter.unusedVariables false
set_option linter.unusedSimpArgs false
namespace Go.Proofs.YtofkjhnhafbfoaaGreatDoor
open Go.RowKit Go.Lib
def RowOf {α:Type} (n:Nat) (At:World→Nat→Nat→α→Prop) (w:World) (A:Option Addr) (l:List α):Prop :=
 l=[]∨∃ b off,A=some ⟨b,off,none⟩∧b < w.heap.size∧∀ i (h:i < l.length),At w b (off+i * n) l[i]
def o0 {α:Type} (At:World→Nat→Nat→α→Prop):Prop:=∀ (w w':World) (b o:Nat) (x:α),b < w.heap.size→KB w.heap.size w w'→At w b o x→At w' b o x
section
variable {α:Type} {n:Nat} {At:World→Nat→Nat→α→Prop} {w w':World} {A:Option Addr} {l:List α}
theorem RowOf.kb (hs:o0 At) (h:RowOf n At w A l) (hb:KB w.heap.size w w'):RowOf n At w' A l:=by
 rcases h with h | ⟨b,off,rfl,hlt,hc⟩
 ·exact .inl h
 ·exact .inr ⟨b,off,rfl,Nat.lt_of_lt_of_le hlt hb.size,fun i hi=>hs w w' b _ _ hlt hb (hc i hi)⟩
theorem RowOf.at_ {k:Nat} (h:RowOf n At w A l) (hk:k < l.length):∃ b off,A=some ⟨b,off,none⟩∧b < w.heap.size∧At w b (off+k * n) l[k]:=by
 rcases h with h | ⟨b,off,rfl,hlt,hc⟩
 ·subst h; simp at hk
 ·exact ⟨b,off,rfl,hlt,hc k hk⟩
theorem RowOf.lay {b off k:Nat} (h:RowOf n At w (some ⟨b,off,none⟩) l) (hk:k < l.length):b < w.heap.size∧At w b (off+k * n) l[k]:=by
 obtain ⟨b',off',e,h1,h2⟩:=h.at_ hk;(injection e with e);(injection e with e1 e2 e3);subst e1; subst e2;exact ⟨h1,h2⟩
end
theorem zU {w w':World} {b o:Nat} {v:Value} (hl:b < w.heap.size) (hb:KB w.heap.size w w') (h:w.cell? ⟨b,o,none⟩=some v):w'.cell? ⟨b,o,none⟩=some v:=(hb.cell (p:=⟨b,o,none⟩) hl).trans h
def TextAt (w:World) (b o:Nat) (s:ByteArray):Prop:=w.cell? ⟨b,o,none⟩=some (.string s)
abbrev Texts (w:World) (A:Option Addr) (l:List ByteArray):Prop:=RowOf 1 TextAt w A l
theorem TextAt.stays:o0 TextAt:=fun _ _ _ _ _ hl hb h=>zU hl hb h
theorem Texts.kb {w w':World} {A:Option Addr} {l:List ByteArray} (h:Texts w A l) (hb:KB w.heap.size w w'):Texts w' A l:=RowOf.kb TextAt.stays h hb
structure WishL where
 name:ByteArray
 rng:ByteArray
 feats:List ByteArray
 bare:Bool
def WishAt (w:World) (b o:Nat) (x:WishL):Prop:=w.cell? ⟨b,o,none⟩=some (.string x.name)∧w.cell? ⟨b,o+1,none⟩=some (.string x.rng)∧(∃ A c,w.cell? ⟨b,o+2,none⟩=some (.slice A x.feats.length c)∧Texts w A x.feats∧x.feats.length≤9223372036854775807∧x.feats.length≤c)∧w.cell? ⟨b,o+3,none⟩=some (.bool x.bare)
theorem WishAt.stays:o0 WishAt:=fun _ _ _ _ _ hl hb ⟨h1,h2,⟨A,c,h3,h4,h6⟩,h5⟩=>⟨zU hl hb h1,zU hl hb h2,⟨A,c,zU hl hb h3,h4.kb hb,h6⟩,zU hl hb h5⟩
structure NeedL where
 any:List WishL
 whn:ByteArray
 opt:ByteArray
def NeedAt (w:World) (b o:Nat) (x:NeedL):Prop:=(∃ A c,w.cell? ⟨b,o,none⟩=some (.slice A x.any.length c)∧RowOf 4 WishAt w A x.any∧x.any.length≤9223372036854775807)∧w.cell? ⟨b,o+1,none⟩=some (.string x.whn)∧w.cell? ⟨b,o+2,none⟩=some (.string x.opt)
theorem NeedAt.stays:o0 NeedAt:=fun _ _ _ _ _ hl hb ⟨⟨A,c,h1,h2,h5⟩,h3,h4⟩=>⟨⟨A,c,zU hl hb h1,h2.kb WishAt.stays hb,h5⟩,zU hl hb h3,zU hl hb h4⟩
structure BarL where
 name:ByteArray
 rng:ByteArray
 whn:ByteArray
def BarAt (w:World) (b o:Nat) (x:BarL):Prop:=w.cell? ⟨b,o,none⟩=some (.string x.name)∧w.cell? ⟨b,o+1,none⟩=some (.string x.rng)∧w.cell? ⟨b,o+2,none⟩=some (.string x.whn)
theorem BarAt.stays:o0 BarAt:=fun _ _ _ _ _ hl hb ⟨h1,h2,h3⟩=>⟨zU hl hb h1,zU hl hb h2,zU hl hb h3⟩
structure FeatL where
 name:ByteArray
 of_:List ByteArray
def FeatAt (w:World) (b o:Nat) (x:FeatL):Prop:=w.cell? ⟨b,o,none⟩=some (.string x.name)∧∃ A c,w.cell? ⟨b,o+1,none⟩=some (.slice A x.of_.length c)∧Texts w A x.of_∧x.of_.length≤9223372036854775807
theorem FeatAt.stays:o0 FeatAt:=fun _ _ _ _ _ hl hb ⟨h1,A,c,h2,h3,h4⟩=>⟨zU hl hb h1,A,c,zU hl hb h2,h3.kb hb,h4⟩
structure RecL where
 name:ByteArray
 v:Ver
 needs:List NeedL
 bars:List BarL
 feats:List FeatL
structure RecH where
 A:Option Addr
 ca:Nat
 B:Option Addr
 cb:Nat
 F:Option Addr
 cf:Nat
abbrev RecL.cells (r:RecL) (h:RecH):List Value:=[.string r.name,.int .i64 r.v.maj,.int .i64 r.v.min,.int .i64 r.v.pat,.string r.v.pre,.string r.v.bld,.slice h.A r.needs.length h.ca,.slice h.B r.bars.length h.cb,.slice h.F r.feats.length h.cf]
abbrev RecL.val (r:RecL) (h:RecH):Value := .agg #[.string r.name,.int .i64 r.v.maj,.int .i64 r.v.min,.int .i64 r.v.pat,.string r.v.pre,.string r.v.bld,.slice h.A r.needs.length h.ca,.slice h.B r.bars.length h.cb,.slice h.F r.feats.length h.cf]
structure RecLies (w:World) (h:RecH) (r:RecL):Prop where
 needs:RowOf 3 NeedAt w h.A r.needs
 bars:RowOf 3 BarAt w h.B r.bars
 feats:RowOf 2 FeatAt w h.F r.feats
 ln:r.needs.length≤9223372036854775807
 lb:r.bars.length≤9223372036854775807
 lf:r.feats.length≤9223372036854775807
theorem RecLies.kb {w w':World} {h:RecH} {r:RecL} (k:RecLies w h r) (hb:KB w.heap.size w w'):RecLies w' h r:=⟨k.needs.kb NeedAt.stays hb,k.bars.kb BarAt.stays hb,k.feats.kb FeatAt.stays hb,k.ln,k.lb,k.lf⟩
structure EntryL where
 rc:RecL
 sum:Int
 yanked:Bool
def EntryAt (w:World) (b o:Nat) (x:EntryL):Prop:=∃ h:RecH,RecLies w h x.rc∧(∀ (j:Nat) (u:Value),(x.rc.cells h)[j]?=some u→w.cell? ⟨b,o+j,none⟩=some u)∧w.cell? ⟨b,o+9,none⟩=some (.int .u64 x.sum)∧w.cell? ⟨b,o+10,none⟩=some (.bool x.yanked)
theorem EntryAt.stays:o0 EntryAt:=fun _ _ _ _ _ hl hb ⟨h,h1,h2,h3,h4⟩=>⟨h,h1.kb hb,fun j u hj=>zU hl hb (h2 j u hj),zU hl hb h3,zU hl hb h4⟩
structure ShelfL where
 name:ByteArray
 entries:List EntryL
abbrev yL (w:World) (A:Option Addr) (l:List EntryL):Prop:=RowOf 11 EntryAt w A l
abbrev ShelfL.val (s:ShelfL) (A:Option Addr) (c:Nat):Value := .agg #[.string s.name,.slice A s.entries.length c]
def xF:List (List UInt8)→Bool
 | a::b::r=>Op.bytesLess a b&&xF (b::r)
 | _=>true
end Go.Proofs.YtofkjhnhafbfoaaGreatDoor
namespace Go.Proofs.YtofkjhnhafbfoaaGreatDoor
open Go.RowKit Go.Lib
open Rw
def xp (s:List UInt8):Int × List UInt8 × List UInt8 :=
 if zY s then (1,s,[]) else
 if s.head?=some 63∧zY (s.drop 1)=true then (2,s.drop 1,[]) else
 match zV 47 [] s with
 | [a,b]=>if zg a&&zY b then (3,a,b) else (0,[],[])
 | _=>(0,[],[])
def rK:List UInt8:=[100,101,102,97,117,108,116]
def tT (l:List FeatL) (x:List UInt8):Bool:=decide (x=rK) || l.any fun f=>decide (bts f.name=x)
def xi (l:List FeatL) (s:ByteArray):Bool:=let i:=xp (bts s); !decide (i.1=0)&&(!decide (i.1=1) || tT l i.2.1)
def ux (l:List FeatL) (f:FeatL):Bool:=zY (bts f.name)&&decide (f.of_.length≤6)&&xF (f.of_.map bts)&&f.of_.all (xi l)
def zt (l:List FeatL):Bool:=decide (l.length≤8)&&xF (l.map fun f=>bts f.name)&&l.all (ux l)
def xI (s:List UInt8):Bool:=decide ((yB s).2=0)&&decide (qE (yB s).1=s)
def wY (own nm rng:List UInt8):Int:=if !zg nm then 4 else if nm=own then 8 else if !xI rng then 6 else 0
def yO (alone:Bool) (l:List ByteArray):Bool:=decide (l.length≤6)&&(alone || l.isEmpty)&&l.all (fun s=>zY (bts s))&&xF (l.map bts)
def uW (own:List UInt8) (alone:Bool) (x:WishL):Int:=if wY own (bts x.name) (bts x.rng)=0 then (if yO alone x.feats then 0 else 11) else wY own (bts x.name) (bts x.rng)
def yj {α:Type} (f:α→Int):List α→Int
 | []=>0
 | x::l=>if f x=0 then yj f l else f x
def zS {α:Type} (f:α→Int):Nat→List α→Int × Int
 | _,[]=>(0,0)
 | i,x::l=>if f x=0 then zS f (i+1) l else (f x,(i:Int))
def yg (own:List UInt8) (n:NeedL):Int :=
 if n.any.length=0 then 9 else if 3 < n.any.length then 3 else
 if yj (uW own (decide (n.any.length=1))) n.any=0 then (if ye (bts n.whn) then (if bts n.opt=[]∨zY (bts n.opt)=true then 0 else 14) else 7)
 else yj (uW own (decide (n.any.length=1))) n.any
def uY (own:List UInt8) (b:BarL):Int:=if wY own (bts b.name) (bts b.rng)=0 then (if ye (bts b.whn) then 0 else 7) else wY own (bts b.name) (bts b.rng)
def ym (l:List NeedL) (x:List UInt8):Bool:=l.any fun n=>decide (bts n.opt=x)
def vA (l:List NeedL) (x:List UInt8):Bool:=l.any fun n=>match n.any with | [w]=>decide (bts w.name=x) | _=>false
def vj (l:List NeedL) (s:ByteArray):Int:=let i:=xp (bts s); if i.1=2 then (if ym l i.2.1 then 0 else 14) else if i.1=3 then (if vA l i.2.1 then 0 else 16) else 0
def uE (l:List NeedL) (f:FeatL):Int:=yj (vj l) f.of_
def nlT:List UInt8:=[10]
def zv (ws:List (List UInt8)):List UInt8:=zT [32] ws++nlT
def si:List UInt8:=[112,97,99,107,97,103,101]
def wZ:List UInt8:=[110,101,101,100]
def Vc:List UInt8:=[97,110,121]
def lp:List UInt8:=[102,117,108,108]
def jG:List UInt8:=[98,97,114,101]
def Z8:List UInt8:=[119,104,101,110]
def uF:List UInt8:=[111,112,116,105,111,110]
def Z4:List UInt8:=[98,97,114]
def qn:List UInt8:=[102,101,97,116,117,114,101]
def xg (x:WishL):List UInt8:=zv [Vc,bts x.name,if x.feats=[] then [45] else zT [44] (x.feats.map bts),if x.bare then jG else lp,bts x.rng]
def vh (s:ByteArray):List UInt8:=if bts s=[] then [] else zv [Z8,bts s]
def zp (n:NeedL):List UInt8:=zv [wZ]++n.any.flatMap xg++vh n.whn++(if bts n.opt=[] then [] else zv [uF,bts n.opt])
def tz (b:BarL):List UInt8:=zv [Z4,bts b.name,bts b.rng]++vh b.whn
def tF (f:FeatL):List UInt8:=zv (qn::bts f.name::f.of_.map bts)
def qp (r:RecL):List UInt8:=zv [si,bts r.name,vL r.v]++r.needs.flatMap zp++r.bars.flatMap tz++r.feats.flatMap tF
def z5 (r:RecL):Int × Int :=
 if !zg (bts r.name) then (4,0) else if !yF r.v then (5,0) else if 8 < r.needs.length∨8 < r.bars.length then (3,0) else
 if (zS (yg (bts r.name)) 0 r.needs).1≠0 then zS (yg (bts r.name)) 0 r.needs else
 if (zS (uY (bts r.name)) 0 r.bars).1≠0 then zS (uY (bts r.name)) 0 r.bars else
 if !zt r.feats then (11,0) else
 if (zS (uE r.needs) 0 r.feats).1≠0 then zS (uE r.needs) 0 r.feats else
 if 4096 < (qp r).length then (3,0) else (0,0)
end Go.Proofs.YtofkjhnhafbfoaaGreatDoor
namespace Go.Proofs.YtofkjhnhafbfoaaGreatDoor
open Go.RowKit Go.Lib
theorem th {l:List (List UInt8)} {k:Nat} (h:k+1 < l.length):xF (l.drop k)=(Op.bytesLess l[k] l[k+1]&&xF (l.drop (k+1))):=by
 rw [List.drop_eq_getElem_cons (by omega:k < l.length),List.drop_eq_getElem_cons h];rfl
theorem sa {l:List (List UInt8)} {k:Nat} (h:l.length≤k+1):xF (l.drop k)=true:=by
 have:(l.drop k).length≤1:=by rw [List.length_drop]; omega
 match l.drop k,this with
 | [],_=>rfl
 | [a],_=>rfl
def eqL {α:Type} (f:α→α→Bool):List α→List α→Bool
 | [],[]=>true
 | a::l,b::m=>f a b&&eqL f l m
 | _,_=>false
theorem fW {α:Type} {f:α→α→Bool} (hf:∀ a,f a a=true):∀ l,eqL f l l=true
 | []=>rfl
 | a::l=>by rw [eqL,hf,fW hf l]; rfl
def yH (a b:ByteArray):Bool:=a.toList==b.toList
theorem sameB_self (a:ByteArray):yH a a=true:=by simp [yH]
def sameV (a b:Ver):Bool:=(a.maj==b.maj)&&((a.min==b.min)&&((a.pat==b.pat)&&(yH a.pre b.pre&&yH a.bld b.bld)))
theorem sameV_self (a:Ver):sameV a a=true:=by simp [sameV,sameB_self]
def sameWi (a b:WishL):Bool:=yH a.name b.name&&yH a.rng b.rng&&(a.bare==b.bare)&&eqL yH a.feats b.feats
theorem sameWi_self (a:WishL):sameWi a a=true:=by simp [sameWi,sameB_self,fW sameB_self]
def sameNe (a b:NeedL):Bool:=yH a.whn b.whn&&yH a.opt b.opt&&eqL sameWi a.any b.any
theorem sameNe_self (a:NeedL):sameNe a a=true:=by simp [sameNe,sameB_self,fW sameWi_self]
def sameBr (a b:BarL):Bool:=yH a.name b.name&&yH a.rng b.rng&&yH a.whn b.whn
theorem sameBr_self (a:BarL):sameBr a a=true:=by simp [sameBr,sameB_self]
def sameFt (a b:FeatL):Bool:=yH a.name b.name&&eqL yH a.of_ b.of_
theorem sameFt_self (a:FeatL):sameFt a a=true:=by simp [sameFt,sameB_self,fW sameB_self]
def sameRc (a b:RecL):Bool:=yH a.name b.name&&sameV a.v b.v&&eqL sameNe a.needs b.needs&&eqL sameBr a.bars b.bars&&eqL sameFt a.feats b.feats
theorem sameRc_self (a:RecL):sameRc a a=true:=by simp [sameRc,sameB_self,sameV_self,fW sameNe_self,fW sameBr_self,fW sameFt_self]
def cJ (a b:Ver):Bool:=yF a&&yF b&&decide (xX a b=0)
def js (nm:List UInt8) (v:Ver) (x:EntryL):Bool:=decide (bts x.rc.name=nm)&&cJ x.rc.v v
def zi (nm:List UInt8) (v:Ver):Nat→List EntryL→Int
 | _,[]=>-1
 | i,x::l=>if js nm v x then (i:Int) else zi nm v (i+1) l
def vo (sumB:List UInt8→Int) (r:RecL):Int × Int:=if (z5 r).1=0 then (sumB (qp r),0) else (0,(z5 r).1)
def wD (sumB:List UInt8→Int) (ahead:List EntryL) (x:EntryL):Bool:=decide (vo sumB x.rc=(x.sum,0))&&decide (zi (bts x.rc.name) x.rc.v 0 ahead < 0)
def yA (sumB:List UInt8→Int):List EntryL→List EntryL→Bool
 | _,[]=>true
 | ahead,x::l=>wD sumB ahead x&&yA sumB (ahead++[x]) l
def zQ (sumB:List UInt8→Int) (s:ShelfL):Bool:=zg (bts s.name)&&decide (s.entries.length≤64)&&yA sumB [] s.entries
def kS (sumB:List UInt8→Int) (s:ShelfL) (r:RecL):ShelfL × Int :=
 if !zQ sumB s then (⟨⟨#[]⟩,[]⟩,1) else if (vo sumB r).2≠0 then (⟨⟨#[]⟩,[]⟩,(vo sumB r).2) else
 if 0≤zi (bts r.name) r.v 0 s.entries then (⟨⟨#[]⟩,[]⟩,8) else if 64≤s.entries.length then (⟨⟨#[]⟩,[]⟩,10) else (⟨s.name,s.entries++[⟨r,(vo sumB r).1,false⟩]⟩,0)
def yankS (sumB:List UInt8→Int) (s:ShelfL) (nm:List UInt8) (v:Ver) (on:Bool):ShelfL × Int :=
 if !zQ sumB s then (⟨⟨#[]⟩,[]⟩,1) else if zi nm v 0 s.entries < 0 then (⟨⟨#[]⟩,[]⟩,9) else
 (⟨s.name,s.entries.modify (zi nm v 0 s.entries).toNat fun x=>{ x with yanked:=on }⟩,0)
def findS (sumB:List UInt8→Int) (s:ShelfL) (nm:List UInt8) (v:Ver):Int:=if zQ sumB s then zi nm v 0 s.entries else -1
def sameEn (a b:EntryL):Bool:=(a.sum==b.sum)&&sameRc a.rc b.rc
def growsL:List EntryL→List EntryL→Bool
 | [],_=>true
 | a::l,b::m=>sameEn a b&&growsL l m
 | _::_,[]=>false
def grownS (sumB:List UInt8→Int) (a b:ShelfL):Bool:=zQ sumB a&&zQ sumB b&&yH a.name b.name&&growsL a.entries b.entries
theorem jp {nm:List UInt8} {v:Ver}:∀ {l:List EntryL} {i:Nat},zi nm v i l < 0↔l.all (fun x=>!js nm v x)=true
 | [],i=>by simp [zi]
 | x::l,i=>by
  rw [zi,List.all_cons];cases h:js nm v x
  ·simp only [Bool.false_eq_true,if_false,Bool.not_false,Bool.true_and]; exact jp
  ·simp only [if_true,Bool.not_true,Bool.false_and,Bool.false_eq_true,iff_false]; omega
theorem jM {nm:List UInt8} {v:Ver}:∀ (l m:List EntryL) (i:Nat),zi nm v i (l++m)=if zi nm v i l < 0 then zi nm v (i+l.length) m else zi nm v i l
 | [],m,i=>by simp [zi]
 | x::l,m,i=>by
  rw [List.cons_append,zi,zi];cases h:js nm v x
  ·simp only [Bool.false_eq_true,if_false];rw [jM l m (i+1),List.length_cons,show i+(l.length+1)=i+1+l.length by omega]
  ·simp only [if_true];rw [if_neg (by omega)]
end Go.Proofs.YtofkjhnhafbfoaaGreatDoor
