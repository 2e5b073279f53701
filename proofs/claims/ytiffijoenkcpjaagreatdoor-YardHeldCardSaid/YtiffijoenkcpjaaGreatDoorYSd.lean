import Derived.Test.YtiffijoenkcpjaaGreatDoorChecked
import Derived.ChangeVars
import Derived.Deep.AppendLies
import Derived.JoinedOf
import Derived.LaidLaws
import Derived.Laws.OwnMore
import Derived.RowKit
import Derived.RowKitTokens
import GoSem.Claim
import GoSem.ClaimMapViews
import GoSem.PinnedTables
import Derived.Test.YtiffijoenkcpjaaGreatDoorRows
import Derived.Test.YtiffijoenkcpjaaGreatDoorYBg
set_option linter.unusedVariables false
set_option linter.unusedSimpArgs false
set_option maxRecDepth 100000
set_option maxHeartbeats 4000000
namespace Go.Proofs.YtiffijoenkcpjaaGreatDoor
open Go.RowKit Go.Lib
namespace Rw
def RelR (l:List SpanL):Prop:=∀ s,s∈l→rightC s.fr=true∧rightC s.til=true
theorem RelR.nil:RelR []:=fun s h=>by cases h
theorem bef_le_bef {v w:Ver} (hv:yF v=true) (hw:yF w=true):le (befC v) (befC w)↔xX v w≤0:=by
 rw [le_bef (befC_may hv) rfl hw,show (befC v).v=bareV v from rfl,show (befC v).aft=false from rfl]
 have e:xX (bareV v) w=xX v w:=by
  rw [Ze (bare_may hv) hw,Ze hv hw]; rfl
 rw [e];constructor
 ·rintro (h | h)<;>omega
 ·intro h;by_cases k:xX v w=0
  ·exact .inr ⟨k,rfl⟩
  ·exact .inl (by omega)
theorem growR_cuts {P:CutL→Prop} {l:List SpanL} {f t:CutL} (hl:∀ s,s∈l→P s.fr∧P s.til) (hf:P f) (ht:P t):∀ s,s∈growR l f t→P s.fr∧P s.til:=by
 intro s hs;rcases List.eq_nil_or_concat l with rfl | ⟨m,q,rfl⟩
 ·simp only [growR,List.getLast?_nil,List.mem_singleton] at hs;subst hs; exact ⟨hf,ht⟩
 ·rw [List.concat_eq_append] at hl hs;simp only [growR,List.getLast?_append,List.getLast?_singleton,Option.some_or,List.dropLast_concat] at hs;split at hs
  ·rcases List.mem_append.1 hs with hs | hs
   ·exact hl s (List.mem_append.2 (.inl hs))
   ·rw [List.mem_singleton] at hs; subst hs;exact ⟨(hl q (by simp)).1,ht⟩
  ·rcases List.mem_append.1 hs with hs | hs
   ·exact hl s hs
   ·rw [List.mem_singleton] at hs; subst hs;exact ⟨hf,ht⟩
theorem growTo_cuts {P:CutL→Prop} {c:List CutL} (hc:∀ x,x∈c→P x) (p:CutL→CutL→Bool):∀ k,k < c.length→∀ s,s∈growTo c p k→P s.fr∧P s.til
 | 0,_=>fun s h=>by cases h
 | k+1,hk=>fun s hs=>by
  have ih:=growTo_cuts hc p k (by omega);unfold growTo at hs;split at hs
  ·exact growR_cuts ih (hc _ (by rw [nthC_lt (by omega)]; exact List.getElem_mem _)) (hc _ (by rw [nthC_lt hk]; exact List.getElem_mem _)) s hs
  ·exact ih s hs
theorem cuts_right {l:List SpanL} (hl:∀ s,s∈l→lt s.fr s.til) (hr:RelR l) (p:CutL→CutL→Bool):RelR (growAll (cutsL l) p):=by
 have h:=(cutsL_rise hl).2;have h0:0 < (cutsL l).length:=cuts_pos ((h rR).2 (.inl (.inl rfl)));refine growTo_cuts (P:=fun x=>rightC x=true) (fun x hx=>?_) p _ (by omega);rcases (h x).1 hx with (rfl | rfl) | ⟨s,hs,rfl | rfl⟩
 ·rfl
 ·rfl
 ·exact (hr s hs).1
 ·exact (hr s hs).2
variable {a b:List SpanL}
theorem RelR.app (ha:RelR a) (hb:RelR b):RelR (a++b):=fun s hs=>by
 rcases List.mem_append.1 hs with h | h
 ·exact ha s h
 ·exact hb s h
theorem r_make (hl:∀ s,s∈a→lt s.fr s.til) (ha:RelR a):RelR (rmakeL a).1:=by
 rw [rmakeL,if_pos (all_may.2 hl)];exact cuts_right hl ha _
theorem r_or (ha:Val a) (hb:Val b) (ra:RelR a) (rb:RelR b):RelR (rorL a b):=by
 rw [rorL,if_pos (by rw [mayR_val.2 ha,mayR_val.2 hb]; rfl)];exact r_make (app_span ha hb) (ra.app rb)
theorem r_and (ha:Val a) (hb:Val b) (ra:RelR a) (rb:RelR b):RelR (randL a b):=by
 rw [randL,if_pos (by rw [mayR_val.2 ha,mayR_val.2 hb]; rfl)];exact cuts_right (app_span ha hb) (ra.app rb) _
theorem whole_lt:lt rR ig:=⟨kt,fp,aT⟩
theorem whole_val:Val wholeL:=by
 have:=Val.snoc [] ⟨rR,ig⟩ True.intro whole_lt (fun t h=>by cases h);exact this
theorem whole_mem (x:CutL):mem wholeL x↔inU x:=by
 rw [wholeL,mem_cons];constructor
 ·rintro (h | h)
  ·exact h
  ·exact (mem_nil h).elim
 ·exact .inl
theorem whole_right:RelR wholeL:=fun s hs=>by
 rw [wholeL,List.mem_singleton] at hs; subst hs; exact ⟨rfl,rfl⟩
theorem nil_val:Val []:=True.intro
end Rw
open Rw
structure ValS (l m:List SpanL):Prop where
 rel:Val l
 right:RelR l
 pre:Val m
theorem settledR_right {l:List SpanL} (h:Val l):settledR l=true↔RelR l:=by
 rw [settledR,List.all_eq_true];constructor
 ·intro k s hs;have:=k s hs;rw [settledS,Bool.and_eq_true,settled_right (h.span s hs).okl,settled_right (h.span s hs).okr] at this;exact this
 ·intro k s hs;rw [settledS,Bool.and_eq_true,settled_right (h.span s hs).okl,settled_right (h.span s hs).okr];exact k s hs
theorem mayS_val {l m:List SpanL}:mayS l m=true↔ValS l m:=by
 rw [mayS,Bool.and_eq_true,Bool.and_eq_true,mayR_val,mayR_val];constructor
 ·rintro ⟨⟨h1,h2⟩,h3⟩; exact ⟨h2,(settledR_right h2).1 h1,h3⟩
 ·rintro ⟨h1,h2,h3⟩; exact ⟨⟨(settledR_right h1).2 h2,h1⟩,h3⟩
theorem ValS.ok {l m:List SpanL} (h:ValS l m):mayS l m=true:=mayS_val.2 h
theorem ValS.nil:ValS [] []:=⟨nil_val,RelR.nil,nil_val⟩
theorem ValS.whole:ValS wholeL wholeL:=⟨whole_val,whole_right,whole_val⟩
variable {l m p q:List SpanL}
theorem andS_val (h:ValS l m) (k:ValS p q):andS l m p q=(randL l p,randL m q):=by rw [andS,h.ok,k.ok]; rfl
theorem orS_val (h:ValS l m) (k:ValS p q):orS l m p q=(rorL l p,rorL m q):=by rw [orS,h.ok,k.ok]; rfl
theorem withinS_val (h:ValS l m) (k:ValS p q):withinS l m p q=(withinR l p&&withinR m q):=by rw [withinS,h.ok,k.ok]; rfl
theorem ValS.and (h:ValS l m) (k:ValS p q):ValS (randL l p) (randL m q):=⟨v_and h.rel k.rel,r_and h.rel k.rel h.right k.right,v_and h.pre k.pre⟩
theorem ValS.or (h:ValS l m) (k:ValS p q):ValS (rorL l p) (rorL m q):=⟨v_or h.rel k.rel,r_or h.rel k.rel h.right k.right,v_or h.pre k.pre⟩
def sideS (l m:List SpanL) (v:Ver):List SpanL:=if (bts v.pre).isEmpty then l else m
theorem hasS_val (h:ValS l m) {v:Ver} (hv:yF v=true):hasS l m v=hasR (sideS l m v) v:=by
 rw [hasS,h.ok,hv,sideS];cases (bts v.pre).isEmpty<;>rfl
theorem side_val (h:ValS l m) (v:Ver):Val (sideS l m v):=by unfold sideS; split; exact h.rel; exact h.pre
theorem hasS_mem (h:ValS l m) {v:Ver} (hv:yF v=true):hasS l m v=true↔mem (sideS l m v) (befC v):=by rw [hasS_val h hv,has_iff (side_val h v) hv]
theorem all_has {v:Ver} (hv:yF v=true):hasS wholeL wholeL v=true:=by
 rw [hasS_mem ValS.whole hv,sideS,ite_self,whole_mem];exact bef_inU hv (bef_ne v)
theorem sameS_iff:sameS l m p q=true↔l=p∧m=q:=by rw [sameS,Bool.and_eq_true,sameR_iff,sameR_iff]
theorem sameS_self:sameS l m l m=true:=sameS_iff.2 ⟨rfl,rfl⟩
def turnedS (s:SpanL):SpanL:=⟨turnedL s.fr,turnedL s.til⟩
def turnedR (l:List SpanL):List SpanL:=(l.map turnedS).filter iJ
def turnedTo (l:List SpanL) (k:Nat):List SpanL:=turnedR (l.take k)
theorem turnedTo_succ {l:List SpanL} {k:Nat} (h:k < l.length):turnedTo l (k+1)=if iJ (turnedS (nth l k)) then turnedTo l k++[turnedS (nth l k)] else turnedTo l k:=by
 rw [turnedTo,turnedR,List.take_succ_eq_append_getElem h,List.map_append,List.filter_append,nth_lt h];by_cases hh:iJ (turnedS l[k])=true
 ·rw [if_pos hh]; simp [turnedTo,turnedR,hh]
 ·rw [if_neg hh]; simp [turnedTo,turnedR,hh]
theorem turnedTo_all (l:List SpanL):turnedTo l l.length=turnedR l:=by rw [turnedTo,List.take_length]
def smakeL (l m:List SpanL):(List SpanL × List SpanL) × Bool:=if mayR l&&mayR m then (((rmakeL (turnedR l)).1,m),true) else (([],[]),false)
theorem turned_fit {c:CutL} (h:c.fit):(turnedL c).fit:=by
 have hn:∀ v:Ver,(nextL v).1.fit:=fun v=>by
  have hz:xD.fit:=by simp only [Ver.fit,xD]; decide
  have hb:∀ p,(bumpL v p).1.fit:=fun p=>by
   unfold bumpL;split
   ·unfold bumpV;split
    ·exact e_fit _ _ _
    ·split<;>exact e_fit _ _ _
   ·exact hz
  unfold nextL;split
  ·exact hz
  ·split
   ·exact e_fit _ _ _
   ·split
    ·exact hb 2
    ·split
     ·exact hb 1
     ·split
      ·exact hb 0
      ·exact hz
 unfold turnedL;split
 ·exact h
 ·split
  ·unfold uptoL;split
   ·exact hn _
   ·exact cZ
  ·unfold aheadR;split
   ·exact ee
   ·exact e_fit _ _ _
theorem turnedS_fit {s:SpanL} (h:s.fit):(turnedS s).fit:=⟨turned_fit h.1,turned_fit h.2⟩
theorem turnedR_lt (l:List SpanL):∀ s,s∈turnedR l→lt s.fr s.til:=fun s hs=>spanMay_iff.1 (List.mem_filter.1 hs).2
theorem turnedR_right (hl:Val l):RelR (turnedR l):=fun s hs=>by
 obtain ⟨t,ht,rfl⟩:=List.mem_map.1 (List.mem_filter.1 hs).1;exact ⟨(turned_may (hl.span t ht).okl).2,(turned_may (hl.span t ht).okr).2⟩
theorem smake_yes (hl:Val l) (hm:Val m):smakeL l m=(((rmakeL (turnedR l)).1,m),true):=by rw [smakeL,mayR_val.2 hl,mayR_val.2 hm]; rfl
theorem smake_val (hl:Val l) (hm:Val m):ValS (smakeL l m).1.1 (smakeL l m).1.2:=by
 rw [smake_yes hl hm];exact ⟨(make_spec (turnedR_lt l)).2.1,r_make (turnedR_lt l) (turnedR_right hl),hm⟩
structure SetAt (n:Nat) (w:World) (A:Option Addr) (l:List SpanL) (B:Option Addr) (m:List SpanL):Prop where
 rel:Spans w A l
 pre:Spans w B m
 frel:fitL l
 fpre:fitL m
 nrel:l.length≤n
 npre:m.length≤n
 val:ValS l m
def SetBack (n:Nat) (w:World) (l m:List SpanL) (e:Ending) (w':World):Prop:=∃ A c B d,e = .returned (setV A l.length c B m.length d)∧SetAt n w' A l B m∧SpanB w' w.heap.size A l∧SpanB w' w.heap.size B m∧Below w.heap.size w w'
theorem SetBack.of {n:Nat} {w:World} {l m:List SpanL} {e:Ending} {w':World} (h:SetPost w l m e w') (h1:fitL l) (h2:fitL m) (h3:l.length≤n) (h4:m.length≤n) (h5:ValS l m):SetBack n w l m e w':=by
 obtain ⟨A,c,B,d,he,ha,hb,hw⟩:=h;exact ⟨A,c,B,d,he,⟨ha.1,hb.1,h1,h2,h3,h4,h5⟩,ha,hb,hw⟩
theorem fit_nil:fitL []:=fun i hi=>by simp at hi
section
variable {n n2:Nat} {w:World} {A B C D:Option Addr} {l m p q:List SpanL} {v:Ver}
theorem law_or (N:Nat) (c d c2 d2:Nat) (hg:Vl w) (h:SetAt n w A l B m) (k:SetAt n2 w C p D q) (hN:1+2 * (n+n2)≤N) (hn:n+n2≤5000):Calls Tryz.prog 138 #[setV A l.length c B m.length d,setV C p.length c2 D q.length d2] w (SetBack N w (orS l m p q).1 (orS l m p q).2):=by
 have h1:=h.nrel; have h2:=h.npre; have h3:=k.nrel; have h4:=k.npre;(refine (sor_any A B C D c d c2 d2 l m p q w hg h.rel h.pre k.rel k.pre h.frel h.fpre k.frel k.fpre (by omega) (by omega) (by omega) (by omega)).mono fun e w' hp=>?_);rw [h.val.ok,k.val.ok] at hp;rw [orS_val h.val k.val];dsimp only;have g1:=rorL_good h.frel k.frel;have g2:=rorL_good h.fpre k.fpre;exact SetBack.of hp g1.1 g2.1 (by omega) (by omega) (h.val.or k.val)
end
end Go.Proofs.YtiffijoenkcpjaaGreatDoor
namespace Go.Proofs.YtiffijoenkcpjaaGreatDoor
open Go.RowKit Go.Lib
def SetOk (w:World) (r:(List SpanL × List SpanL) × Bool) (e:Ending) (w':World):Prop:=∃ A c B d,e = .returned (.tuple #[setV A r.1.1.length c B r.1.2.length d,.bool r.2])∧SpanB w' w.heap.size A r.1.1∧SpanB w' w.heap.size B r.1.2∧Below w.heap.size w w'
def zeroS:SpanL:=⟨zeroC,zeroC⟩
theorem pname {F:World→Prop} {w:World} (h:∀ w',w'=w→F w'):F w:=h w rfl
theorem newbox {w w':World} {cs:List Value} {t:TypeId} (h:Below (w.alloc (.cells cs.toArray t)).heap.size (w.alloc (.cells cs.toArray t)) w'):Box w' w.heap.size cs∧Soft w' w.heap.size:=⟨(Box.new w cs t).below h,(Soft.new w cs.toArray t).below (by simp) h⟩
theorem newbox14 {w w':World} {t:TypeId} (h:Below (w.alloc (.cells #[.int .i64 0,.int .i64 0,.int .i64 0,.int .i64 0,.string ⟨#[]⟩,.string ⟨#[]⟩,.bool false,.int .i64 0,.int .i64 0,.int .i64 0,.int .i64 0,.string ⟨#[]⟩,.string ⟨#[]⟩,.bool false] t)).heap.size (w.alloc (.cells #[.int .i64 0,.int .i64 0,.int .i64 0,.int .i64 0,.string ⟨#[]⟩,.string ⟨#[]⟩,.bool false,.int .i64 0,.int .i64 0,.int .i64 0,.int .i64 0,.string ⟨#[]⟩,.string ⟨#[]⟩,.bool false] t)) w'):Box w' w.heap.size zeroS.cells∧Soft w' w.heap.size:=newbox (cs:=zeroS.cells) h
theorem newbox14d {w w':World} {t:TypeId} (h:Below (w.alloc (.cells #[.int .i64 0,.int .i64 0,.int .i64 0,.int .i64 0,.string ⟨#[]⟩,.string ⟨#[]⟩,.bool false,.int .i64 0,.int .i64 0,.int .i64 0,.int .i64 0,.string ⟨#[]⟩,.string ⟨#[]⟩,.bool false] t)).drew.heap.size (w.alloc (.cells #[.int .i64 0,.int .i64 0,.int .i64 0,.int .i64 0,.string ⟨#[]⟩,.string ⟨#[]⟩,.bool false,.int .i64 0,.int .i64 0,.int .i64 0,.int .i64 0,.string ⟨#[]⟩,.string ⟨#[]⟩,.bool false] t)).drew w'):Box w' w.heap.size zeroS.cells∧Soft w' w.heap.size:=newbox (cs:=zeroS.cells) (zC (Below.refl _ _).drew h)
theorem put14 (w:World) (g:Nat) (f t:CutL):((((((((((((((w.setCell ⟨g,0,none⟩ (.int .i64 f.en)).setCell ⟨g,1,none⟩ (.int .i64 f.v.maj)).setCell ⟨g,2,none⟩ (.int .i64 f.v.min)).setCell ⟨g,3,none⟩ (.int .i64 f.v.pat)).setCell ⟨g,4,none⟩ (.string f.v.pre)).setCell ⟨g,5,none⟩ (.string f.v.bld)).setCell ⟨g,6,none⟩ (.bool f.aft)).setCell ⟨g,7,none⟩ (.int .i64 t.en)).setCell ⟨g,8,none⟩ (.int .i64 t.v.maj)).setCell ⟨g,9,none⟩ (.int .i64 t.v.min)).setCell ⟨g,10,none⟩ (.int .i64 t.v.pat)).setCell ⟨g,11,none⟩ (.string t.v.pre)).setCell ⟨g,12,none⟩ (.string t.v.bld)).setCell ⟨g,13,none⟩ (.bool t.aft))=w.setCells g 0 (SpanL.cells ⟨f,t⟩):=rfl
theorem keep14 {a w:World} {B g:Nat} (hb:Below B a w) (hg:B≤g) (f t:CutL):Below B a ((((((((((((((w.setCell ⟨g,0,none⟩ (.int .i64 f.en)).setCell ⟨g,1,none⟩ (.int .i64 f.v.maj)).setCell ⟨g,2,none⟩ (.int .i64 f.v.min)).setCell ⟨g,3,none⟩ (.int .i64 f.v.pat)).setCell ⟨g,4,none⟩ (.string f.v.pre)).setCell ⟨g,5,none⟩ (.string f.v.bld)).setCell ⟨g,6,none⟩ (.bool f.aft)).setCell ⟨g,7,none⟩ (.int .i64 t.en)).setCell ⟨g,8,none⟩ (.int .i64 t.v.maj)).setCell ⟨g,9,none⟩ (.int .i64 t.v.min)).setCell ⟨g,10,none⟩ (.int .i64 t.v.pat)).setCell ⟨g,11,none⟩ (.string t.v.pre)).setCell ⟨g,12,none⟩ (.string t.v.bld)).setCell ⟨g,13,none⟩ (.bool t.aft)):=hb.setCells hg (SpanL.cells ⟨f,t⟩) 0
theorem Box.set14 {w:World} {g:Nat} {s:SpanL} (t:SpanL) (h:Box w g s.cells):Box (w.setCells g 0 t.cells) g t.cells:=h.set (o:=0) (vs:=t.cells) (by simp)
end Go.Proofs.YtiffijoenkcpjaaGreatDoor
namespace Go.Proofs.YtiffijoenkcpjaaGreatDoor
open Go.RowKit Go.Lib
open Rw
theorem smake_good {l m:List SpanL} (hl:fitL l) (hm:fitL m):fitL (smakeL l m).1.1∧fitL (smakeL l m).1.2∧(smakeL l m).1.1.length≤1+2 * l.length∧(smakeL l m).1.2.length≤m.length:=by
 unfold smakeL;split
 ·have hf:fitL (turnedR l):=fun i hi=>by
   rw [nth_lt hi];have:=List.getElem_mem hi;obtain ⟨t,ht,e⟩:=List.mem_map.1 (List.mem_filter.1 this).1;rw [← e];obtain ⟨j,hj,rfl⟩:=List.getElem_of_mem ht;have:=hl j hj;rw [nth_lt hj] at this;exact turnedS_fit this
  have hle:(turnedR l).length≤l.length:=by
   have:=List.length_filter_le iJ (l.map turnedS)
   rwa [List.length_map] at this
  have g:=rmakeL_good hf;exact ⟨g.1,hm,by have:=g.2; simp only; omega,Nat.le_refl _⟩
 ·exact ⟨fit_nil,fit_nil,by simp,by simp⟩
end Go.Proofs.YtiffijoenkcpjaaGreatDoor
namespace Go.Proofs.YtiffijoenkcpjaaGreatDoor
open Go.ChangeShapes Go.WideShapes Go.ChangeAt Go.RowKit Go.Deep Go.Joins
open Go.ChangeMaps (open_string shut_string)
theorem firstG:Tryz.prog.globalNamed "linchpin/set.first"=some 0:=by kernel_rfl
theorem firstT:(Tryz.prog.globals[(0:Nat)]?).map (·.type)=some 27:=by kernel_rfl
theorem cellsI2:Tryz.prog.cellsOf 3=1:=by kernel_rfl
theorem cellsSt2:Tryz.prog.cellsOf 9=1:=by kernel_rfl
theorem cellsVe2:Tryz.prog.cellsOf 27=5:=by kernel_rfl
section
variable {H:Type} {enc:TypeId × Value→H} {W:World} {base n:Nat} {spare:Nat→Bool} {held:Bool} {cs:List Value} {x:DataW H × List MemPlace}
theorem ver_reads (h:DataW.trod enc Tryz.prog W base spare held n 27 cs=some x):∃ v:Ver,cs=v.cells∧x.1 = .agg [.lit (.int .i64 v.maj),.lit (.int .i64 v.min),.lit (.int .i64 v.pat),.lit (.string v.pre.data.toList),.lit (.string v.bld.data.toList)]:=by
 obtain ⟨xs,n',_,hx,hcl,hxl,hf⟩:=DataW.trod_struct Tryz.underlying27 h;rw [cellsVe2] at hcl
 match cs,hcl,xs,hxl with
 | [c0,c1,c2,c3,c4],_,[y0,y1,y2,y3,y4],_ =>
  have h0:=hf 0 _ rfl;have h1:=hf 1 _ rfl;have h2:=hf 2 _ rfl;have h3:=hf 3 _ rfl;have h4:=hf 4 _ rfl;simp [cellsI2] at h0 h1 h2;simp [cellsSt2] at h3 h4;obtain ⟨m0,e0,f0,_⟩:=DataW.trod_int Tryz.underlying3 h0;obtain ⟨m1,e1,f1,_⟩:=DataW.trod_int Tryz.underlying3 h1;obtain ⟨m2,e2,f2,_⟩:=DataW.trod_int Tryz.underlying3 h2;obtain ⟨s3,e3,f3,z3⟩:=DataW.trod_string Tryz.underlying9 h3;obtain ⟨s4,e4,f4,z4⟩:=DataW.trod_string Tryz.underlying9 h4;simp only [List.cons.injEq,and_true] at e0 e1 e2 e3 e4;subst e0; subst e1; subst e2; subst e3; subst e4;subst f0; subst f1; subst f2; subst f3; subst f4;exact ⟨⟨m0,m1,m2,s3,s4⟩,rfl,by rw [hx]; rfl⟩
end
theorem first_reads {W:World} {cs:Array Value} {fuel:Nat} {p:List MemPlace} (h1:W.var? Tryz.prog "linchpin/set.first"=some cs) (h2:DataW.trod (fun _=>()) Tryz.prog W 0 (fun _=>true) false fuel 27 cs.toList=some (Rows.laid_linchpin_set_first,p)):Vl W:=by
 obtain ⟨v,hv,hd⟩:=ver_reads h2;simp only [Rows.laid_linchpin_set_first,DataW.agg.injEq,List.cons.injEq,and_true,DataW.lit.injEq,Lit.int.injEq,Lit.string.injEq,true_and] at hd;obtain ⟨d0,d1,d2,d3,d4⟩:=hd;obtain ⟨a,b,c,⟨⟨s⟩⟩,⟨⟨t⟩⟩⟩:=v;dsimp only at d0 d1 d2 d3 d4;subst d0 d1 d2 d3 d4
 have hc:∀ (j:Nat),W.cell? ⟨0,j,none⟩=(xD.cells)[j]?:=fun j=>by
  rw [World.var?_cell firstG h1 j,← Array.getElem?_toList,hv]; rfl
 refine ⟨World.block_lt_of_cell? W ⟨0,0,none⟩ (hc 0),fun j u hj=>by rw [hc j,hj]⟩
section
variable {H:Type} {enc:TypeId × Value→H} {W:World} {base:Nat} {held:Bool}
end
end Go.Proofs.YtiffijoenkcpjaaGreatDoor
namespace Go.Proofs.YtiffijoenkcpjaaGreatDoor
open Go.RowKit Go.Lib
open Rw
theorem right_cases2 (en:Int) (v:Ver) (aft:Bool):rightC ⟨en,v,aft⟩=((en != 0) || (!aft&&(bts v.pre).isEmpty&&!leastV v)):=by
 rw [rightC];by_cases h:en=0<;>simp [h]
theorem rright_any (c:CutL) (w:World):Calls Tryz.prog 56 #[c.val] w (yc w (rightC c)):=by
 generalize hr:rightC c=r;have HR:=hid hr;clear hr;obtain ⟨en,v,aft⟩:=c;have hle:=rleast_any v;generalize hv:leastV v=lv at *;have HV:=hid hv;clear hv;cases h3:(en != 0)
 ·cases aft
  ·by_cases h4:0 < v.pre.size
   ·obtain ⟨e4,n4⟩:=zj h4;go_enter Tryz.func56,Tryz.ntmps56;(go_wp2_with fail);go_ret;exact ⟨by rw [← HR.out,right_cases2,h3,bts,e4]; rfl,zL _ _⟩
   ·have e4:=yi h4;go_enter Tryz.func56,Tryz.ntmps56;(go_wp2_with fail);refine (hle _).mono ?_;rintro _ w1 ⟨rfl,hb1⟩;clear hle;(go_wp2_with fail);go_ret;exact ⟨by rw [← HR.out,right_cases2,h3,bts,e4,HV.out]; rfl,zC (zL w (.cells (CutL.cells ⟨en,v,false⟩).toArray 109)) hb1⟩
  ·go_enter Tryz.func56,Tryz.ntmps56;(go_wp2_with fail);go_ret;exact ⟨by rw [← HR.out,right_cases2,h3]; rfl,zL _ _⟩
 ·go_enter Tryz.func56,Tryz.ntmps56;(go_wp2_with fail);go_ret;exact ⟨by rw [← HR.out,right_cases2,h3]; rfl,zL _ _⟩
def rightS (s:SpanL):Bool:=rightC s.fr&&rightC s.til
def rightTo (l:List SpanL) (k:Nat):Prop:=∀ j,j < k→rightS (nth l j)=true
theorem rightTo_step {l:List SpanL} {k:Nat} (h:rightTo l k) (h1:rightS (nth l k)=true):rightTo l (k+1):=by
 intro j hj;rcases Nat.lt_or_ge j k with h' | h'
 ·exact h j h'
 ·(obtain rfl:j=k:=by omega);exact h1
theorem settledR_all {l:List SpanL} (h:mayR l=true):settledR l=l.all rightS:=by
 have hv:=mayR_val.1 h;rw [settledR];rw [Bool.eq_iff_iff,List.all_eq_true,List.all_eq_true];constructor
 ·intro k s hs;have:=k s hs
  rwa [settledS,settled_right (hv.span s hs).okl,settled_right (hv.span s hs).okr] at this
 ·intro k s hs;rw [settledS,settled_right (hv.span s hs).okl,settled_right (hv.span s hs).okr];exact k s hs
theorem rightTo_end {l:List SpanL} (h:rightTo l l.length):l.all rightS=true:=by
 rw [List.all_eq_true];intro s hs;obtain ⟨i,hi,rfl⟩:=List.getElem_of_mem hs;have:=h i hi
 rwa [nth_lt hi] at this
theorem rightTo_no {l:List SpanL} {k:Nat} (hk:k < l.length) (h:rightS (nth l k)=false):l.all rightS=false:=by
 rw [List.all_eq_false];exact ⟨_,List.getElem_mem hk,by rw [nth_lt hk] at h; simp [h]⟩
theorem rsmay_any (A B:Option Addr) (c d:Nat) (l m:List SpanL) (w:World) (hl:Spans w A l) (hm:Spans w B m) (hfl:fitL l) (hfm:fitL m) (hln:l.length≤4398046511104) (hmn:m.length≤4398046511104) :
 Calls Tryz.prog 35 #[setV A l.length c B m.length d] w (yc w (mayS l m)):=by
 generalize hr:mayS l m=r
 have HR:=hid hr
 have HL:=hid hl
 have HM:=hid hm
 have HC:=hid (fun w' (h:Spans w' A l)=>rrowmay_any A c l w' h hfl (by omega))
 have HD:=hid (fun w' (h:Spans w' B m)=>rrowmay_any B d m w' h hfm (by omega))
 have HSE:=hid (settledR_all (l:=l))
 have HB0:=hid (zL w (.cells [.slice A l.length c,.slice B m.length d].toArray 42))
 have HX:=hid (Box.new w [.slice A l.length c,.slice B m.length d] 42)
 clear hr hl hm hfl hfm
 generalize hn:l.length=n at *
 have HN:=hid hn
 generalize m.length=n2 at *
 clear hn
 cases h1:mayR l
 ·go_enter Tryz.func35,Tryz.ntmps35;(go_wp2_with fail);refine (HC.out _ (HL.out.below HB0.out)).mono ?_;rintro _ w1 ⟨rfl,hb1⟩;rw [h1];(go_wp2_with fail);go_ret;exact ⟨by rw [← HR.out,mayS,h1]; simp,zC HB0.out hb1⟩
 ·cases h2:mayR m
  ·go_enter Tryz.func35,Tryz.ntmps35;(go_wp2_with fail);refine (HC.out _ (HL.out.below HB0.out)).mono ?_;rintro _ w1 ⟨rfl,hb1⟩;rw [h1];have HB1:=hid (zC HB0.out hb1);obtain ⟨y0,y1⟩:=(HX.out.below hb1).get2;clear hb1;(go_wp2_with fail);refine (HD.out _ (HM.out.below HB1.out)).mono ?_;rintro _ w2 ⟨rfl,hb2⟩;rw [h2];clear y0 y1;(go_wp2_with fail);go_ret;exact ⟨by rw [← HR.out,mayS,h2]; simp,zC HB1.out hb2⟩
  ·have HRR:Hid (r=l.all rightS):=hid (by rw [← HR.out,mayS,h1,h2,HSE.out h1]; simp);clear HR HSE;go_enter Tryz.func35,Tryz.ntmps35;(go_wp2_with fail);refine (HC.out _ (HL.out.below HB0.out)).mono ?_;rintro _ w1 ⟨rfl,hb1⟩;rw [h1];have HB1:=hid (zC HB0.out hb1);have HX1:=hid (HX.out.below hb1);obtain ⟨y0,y1⟩:=HX1.out.get2;clear hb1;(go_wp2_with fail);refine (HD.out _ (HM.out.below HB1.out)).mono ?_;rintro _ w2 ⟨rfl,hb2⟩;rw [h2];clear y0 y1;have HB2:=hid (zC HB1.out hb2);have HX2:=hid (HX1.out.below hb2);have HL2:=hid (HL.out.below HB2.out);clear hb2 HX HX1 HB0 HB1 HL HM HC HD;(go_wp2_with fail);go_loopw [3] (fun i wr=>∃ k:Nat,i = .int .i64 k∧k≤n∧Hid (rightTo l k)∧Hid (Below w2.heap.size w2 wr)) (fun i _=>n - (intOf i).toNat)
   case atStart=>exact ⟨0,rfl,Nat.zero_le _,fun j hj=>by omega,Below.refl _ _⟩
   case round =>
    obtain ⟨k,rfl,hk,HS,HBR⟩:=hrel;have HLr:=hid (HL2.out.below HBR.out);have HXr:=hid (HX2.out.below HBR.out);obtain ⟨y0,y1⟩:=HXr.out.get2;by_cases hlt:k < n
    ·(have hlt':k < l.length:=by rw [HN.out]; exact hlt);obtain ⟨b,off,rfl,hbl,⟨x0,x1,x2,x3,x4,x5,x6⟩,z0,z1,z2,z3,z4,z5,z6⟩:=HLr.out.at_ (k:=k) hlt';have HAT:=hid (fun w' (h:Below wr.heap.size wr w')=>(HLr.out.below h).at_ (k:=k) hlt');(have i0:(0:Int)≤(k:Int):=by omega);(have i1:(k:Int) < (n:Int):=by omega);have HNO:=hid (fun h=>rightTo_no (k:=k) hlt' h);have HST:=hid (fun h=>rightTo_step (k:=k) HS.out h);generalize nth l k=s at *;cases h3:rightC s.fr
     ·have HE:=hid (HNO.out (by rw [rightS,h3]; rfl));(go_wp2_with fail);refine (rright_any s.fr _).mono ?_;rintro _ w3 ⟨rfl,hb3⟩;rw [h3];clear x0 x1 x2 x3 x4 x5 x6 z0 z1 z2 z3 z4 z5 z6 y0 y1;(go_wp2_with fail);go_ret;exact ⟨by rw [HRR.out,HE.out]; rfl,zC HB2.out (zC HBR.out hb3)⟩
     ·cases h4:rightC s.til
      ·have HE:=hid (HNO.out (by rw [rightS,h3,h4]; rfl));(go_wp2_with fail);refine (rright_any s.fr _).mono ?_;rintro _ w3 ⟨rfl,hb3⟩;rw [h3];clear x0 x1 x2 x3 x4 x5 x6 z0 z1 z2 z3 z4 z5 z6 y0 y1;have HB3:=hid hb3;obtain ⟨y0,y1⟩:=(HXr.out.below hb3).get2;obtain ⟨b',off',e,hbl',⟨x0,x1,x2,x3,x4,x5,x6⟩,z0,z1,z2,z3,z4,z5,z6⟩:=HAT.out _ hb3;(injection e with e);(injection e with e1 e2);subst e1 e2;clear hb3;(go_wp2_with fail);refine (rright_any s.til _).mono ?_;rintro _ w4 ⟨rfl,hb4⟩;rw [h4];clear x0 x1 x2 x3 x4 x5 x6 z0 z1 z2 z3 z4 z5 z6 y0 y1;(go_wp2_with fail);go_ret;exact ⟨by rw [HRR.out,HE.out]; rfl,zC HB2.out (zC HBR.out (zC HB3.out hb4))⟩
      ·have HE:=hid (HST.out (by rw [rightS,h3,h4]; rfl));(go_wp2_with fail);refine (rright_any s.fr _).mono ?_;rintro _ w3 ⟨rfl,hb3⟩;rw [h3];clear x0 x1 x2 x3 x4 x5 x6 z0 z1 z2 z3 z4 z5 z6 y0 y1;have HB3:=hid hb3;obtain ⟨y0,y1⟩:=(HXr.out.below hb3).get2;obtain ⟨b',off',e,hbl',⟨x0,x1,x2,x3,x4,x5,x6⟩,z0,z1,z2,z3,z4,z5,z6⟩:=HAT.out _ hb3;(injection e with e);(injection e with e1 e2);subst e1 e2;clear hb3;(go_wp2_with fail);refine (rright_any s.til _).mono ?_;rintro _ w4 ⟨rfl,hb4⟩;rw [h4];clear x0 x1 x2 x3 x4 x5 x6 z0 z1 z2 z3 z4 z5 z6 y0 y1;have HB4:=hid hb4;clear hb4;(go_wp2_with fail);go_roundw
       case rel=>exact ⟨k+1,by go_num,by omega,HE.out,zC HBR.out (zC HB3.out HB4.out)⟩
       case measure=>simp [intOf]; omega
    ·(obtain rfl:k=n:=by omega);have HE:=hid (rightTo_end (l:=l) (by rw [HN.out]; exact HS.out));(go_wp2_with fail);go_ret;exact ⟨by rw [HRR.out,HE.out]; rfl,zC HB2.out HBR.out⟩
theorem rshas_any (A B:Option Addr) (c d:Nat) (l m:List SpanL) (v:Ver) (w:World) (hl:Spans w A l) (hm:Spans w B m) (hfl:fitL l) (hfm:fitL m) (hln:l.length≤4398046511104) (hmn:m.length≤4398046511104) (hv:v.fit) :
 Calls Tryz.prog 15 #[setV A l.length c B m.length d,v.val] w (yc w (hasS l m v)):=by
 generalize hr:hasS l m v=r
 have HR:=hid hr
 have HB0:=hid (zC (zL w (.cells [.slice A l.length c,.slice B m.length d].toArray 42)) (zL _ (.cells v.cells.toArray 27)))
 have HY:=hid (rsmay_any A B c d l m _ (hl.below HB0.out) (hm.below HB0.out) hfl hfm hln hmn)
 have HL:=hid (fun w' h=>hl.below (w':=w') h)
 have HM:=hid (fun w' h=>hm.below (w':=w') h)
 have HC:=hid (fun w' (h:Spans w' A l)=>rrowhas_any A c l v w' h hfl hln hv)
 have HD:=hid (fun w' (h:Spans w' B m)=>rrowhas_any B d m v w' h hfm hmn hv)
 have HV:=hid (fun w'=>vC v w' hv)
 clear hr hl hm hfl hfm
 generalize l.length=n at *
 generalize m.length=n2 at *
 cases h1:mayS l m
 ·go_enter Tryz.func15,Tryz.ntmps15;(go_wp2_with fail);refine HY.out.mono ?_;rintro _ w1 ⟨rfl,hb1⟩;rw [h1];(go_wp2_with fail);go_ret;exact ⟨by rw [← HR.out,hasS,h1]; rfl,zC HB0.out hb1⟩
 ·cases h2:yF v
  ·go_enter Tryz.func15,Tryz.ntmps15;(go_wp2_with fail);refine HY.out.mono ?_;rintro _ w1 ⟨rfl,hb1⟩;rw [h1];have HB1:=hid (zC HB0.out hb1);obtain ⟨_,hy,_⟩:=box_2 (cs:=[.slice A n c,.slice B n2 d]) (ds:=v.cells) hb1;obtain ⟨t0,t1,t2,t3,t4⟩:=hy.get5;clear hb1 hy;(go_wp2_with fail);refine (HV.out _).mono ?_;rintro _ w2 ⟨rfl,hb2⟩;rw [h2];clear t0 t1 t2 t3 t4;(go_wp2_with fail);go_ret;exact ⟨by rw [← HR.out,hasS,h1,h2]; rfl,zC HB1.out hb2⟩
  ·by_cases h4:0 < v.pre.size
   ·obtain ⟨e4,n4⟩:=zj h4;have HE:=hid (show r=hasR m v by rw [← HR.out,hasS,h1,h2,bts,e4]; rfl);go_enter Tryz.func15,Tryz.ntmps15;(go_wp2_with fail);refine HY.out.mono ?_;rintro _ w1 ⟨rfl,hb1⟩;rw [h1];obtain ⟨hx,hy,hb1'⟩:=box_2 (cs:=[.slice A n c,.slice B n2 d]) (ds:=v.cells) hb1;have HX:=hid hx;have HZ:=hid hy;have HB1:=hid hb1';obtain ⟨t0,t1,t2,t3,t4⟩:=hy.get5;clear hb1 hy hx hb1';(go_wp2_with fail);refine (HV.out _).mono ?_;rintro _ w2 ⟨rfl,hb2⟩;rw [h2];clear t0 t1 t2 t3 t4;have HB2:=hid (zC HB1.out hb2);obtain ⟨t0,t1,t2,t3,t4⟩:=(HZ.out.below hb2).get5;obtain ⟨y0,y1⟩:=(HX.out.below hb2).get2;clear hb2;(go_wp2_with fail);refine (HD.out _ (HM.out _ HB2.out)).mono ?_;rintro _ w3 ⟨rfl,hb3⟩;clear t0 t1 t2 t3 t4 y0 y1;(go_wp2_with fail);go_ret;exact ⟨by rw [HE.out]; rfl,zC HB2.out hb3⟩
   ·have e4:=yi h4;have HE:=hid (show r=hasR l v by rw [← HR.out,hasS,h1,h2,bts,e4]; rfl);go_enter Tryz.func15,Tryz.ntmps15;(go_wp2_with fail);refine HY.out.mono ?_;rintro _ w1 ⟨rfl,hb1⟩;rw [h1];obtain ⟨hx,hy,hb1'⟩:=box_2 (cs:=[.slice A n c,.slice B n2 d]) (ds:=v.cells) hb1;have HX:=hid hx;have HZ:=hid hy;have HB1:=hid hb1';obtain ⟨t0,t1,t2,t3,t4⟩:=hy.get5;clear hb1 hy hx hb1';(go_wp2_with fail);refine (HV.out _).mono ?_;rintro _ w2 ⟨rfl,hb2⟩;rw [h2];clear t0 t1 t2 t3 t4;have HB2:=hid (zC HB1.out hb2);obtain ⟨t0,t1,t2,t3,t4⟩:=(HZ.out.below hb2).get5;obtain ⟨y0,y1⟩:=(HX.out.below hb2).get2;clear hb2;(go_wp2_with fail);refine (HC.out _ (HL.out _ HB2.out)).mono ?_;rintro _ w3 ⟨rfl,hb3⟩;clear t0 t1 t2 t3 t4 y0 y1;(go_wp2_with fail);go_ret;exact ⟨by rw [HE.out]; rfl,zC HB2.out hb3⟩
theorem rssame_any (A B C D:Option Addr) (c d c2 d2:Nat) (l m p q:List SpanL) (w:World) (hl:Spans w A l) (hm:Spans w B m) (hp:Spans w C p) (hq:Spans w D q)
 (hln:l.length≤4398046511104) (hmn:m.length≤4398046511104) (hpn:p.length≤4398046511104) (hqn:q.length≤4398046511104) :
 Calls Tryz.prog 13 #[setV A l.length c B m.length d,setV C p.length c2 D q.length d2] w (yc w (sameS l m p q)):=by
 generalize hr:sameS l m p q=r
 have HR:=hid hr
 have HB0:=hid (zC (zL w (.cells [.slice A l.length c,.slice B m.length d].toArray 42)) (zL _ (.cells [.slice C p.length c2,.slice D q.length d2].toArray 42)))
 have HC:=hid (same_any A C c c2 l p _ (hl.below HB0.out) (hp.below HB0.out) hln hpn)
 have HD:=hid (fun w' (h:Below w.heap.size w w')=>same_any B D d d2 m q w' (hm.below h) (hq.below h) hmn hqn)
 clear hr hl hm hp hq
 generalize l.length=n at *
 generalize m.length=n2 at *
 generalize p.length=n3 at *
 generalize q.length=n4 at *
 cases h1:sameR l p
 ·go_enter Tryz.func13,Tryz.ntmps13;(go_wp2_with fail);refine HC.out.mono ?_;rintro _ w1 ⟨rfl,hb1⟩;rw [h1];(go_wp2_with fail);go_ret;exact ⟨by rw [← HR.out,sameS,h1]; rfl,zC HB0.out hb1⟩
 ·go_enter Tryz.func13,Tryz.ntmps13;(go_wp2_with fail);refine HC.out.mono ?_;rintro _ w1 ⟨rfl,hb1⟩;rw [h1];obtain ⟨hx,hy,hb1'⟩:=box_2 (cs:=[.slice A n c,.slice B n2 d]) (ds:=[.slice C n3 c2,.slice D n4 d2]) hb1;obtain ⟨y0,y1⟩:=hx.get2;obtain ⟨z0,z1⟩:=hy.get2;have HB1:=hid hb1';clear hx hy hb1 hb1';(go_wp2_with fail);refine (HD.out _ HB1.out).mono ?_;rintro _ w2 ⟨rfl,hb2⟩;clear y0 y1 z0 z1;(go_wp2_with fail);go_ret;exact ⟨by rw [← HR.out,sameS,h1]; rfl,zC HB1.out hb2⟩
theorem rswithin_any (A B C D:Option Addr) (c d c2 d2:Nat) (l m p q:List SpanL) (w:World) (hl:Spans w A l) (hm:Spans w B m) (hp:Spans w C p) (hq:Spans w D q) (hfl:fitL l) (hfm:fitL m) (hfp:fitL p) (hfq:fitL q)
 (hln:l.length≤10000) (hmn:m.length≤10000) (hpn:p.length≤10000) (hqn:q.length≤10000) :
 Calls Tryz.prog 16 #[setV A l.length c B m.length d,setV C p.length c2 D q.length d2] w (yc w (withinS l m p q)):=by
 generalize hr:withinS l m p q=r
 have HR:=hid hr
 have HB0:=hid (zC (zL w (.cells [.slice A l.length c,.slice B m.length d].toArray 42)) (zL _ (.cells [.slice C p.length c2,.slice D q.length d2].toArray 42)))
 have HY:=hid (rsmay_any A B c d l m _ (hl.below HB0.out) (hm.below HB0.out) hfl hfm (by omega) (by omega))
 have HZ:=hid (fun w' (h:Below w.heap.size w w')=>rsmay_any C D c2 d2 p q w' (hp.below h) (hq.below h) hfp hfq (by omega) (by omega))
 have HW1:=hid (fun w' (h:Below w.heap.size w w')=>rwithin_any A C c c2 l p w' (hl.below h) (hp.below h) hfl hfp (by omega))
 have HW2:=hid (fun w' (h:Below w.heap.size w w')=>rwithin_any B D d d2 m q w' (hm.below h) (hq.below h) hfm hfq (by omega))
 clear hr hl hm hp hq hfl hfm hfp hfq
 generalize l.length=n at *
 generalize m.length=n2 at *
 generalize p.length=n3 at *
 generalize q.length=n4 at *
 cases h1:mayS l m
 ·go_enter Tryz.func16,Tryz.ntmps16;(go_wp2_with fail);refine HY.out.mono ?_;rintro _ w1 ⟨rfl,hb1⟩;rw [h1];(go_wp2_with fail);go_ret;exact ⟨by rw [← HR.out,withinS,h1]; rfl,zC HB0.out hb1⟩
 ·cases h2:mayS p q
  ·go_enter Tryz.func16,Tryz.ntmps16;(go_wp2_with fail);refine HY.out.mono ?_;rintro _ w1 ⟨rfl,hb1⟩;rw [h1];obtain ⟨hx,hy,hb1'⟩:=box_2 (cs:=[.slice A n c,.slice B n2 d]) (ds:=[.slice C n3 c2,.slice D n4 d2]) hb1;have HX:=hid hx;have HV:=hid hy;have HB1:=hid hb1';obtain ⟨z0,z1⟩:=hy.get2;clear hx hy hb1 hb1';(go_wp2_with fail);refine (HZ.out _ HB1.out).mono ?_;rintro _ w2 ⟨rfl,hb2⟩;rw [h2];have HB2:=hid (zC HB1.out hb2);clear z0 z1;(go_wp2_with fail);go_ret;exact ⟨by rw [← HR.out,withinS,h1,h2]; rfl,HB2.out⟩
  ·cases h3:withinR l p
   ·go_enter Tryz.func16,Tryz.ntmps16;(go_wp2_with fail);refine HY.out.mono ?_;rintro _ w1 ⟨rfl,hb1⟩;rw [h1];obtain ⟨hx,hy,hb1'⟩:=box_2 (cs:=[.slice A n c,.slice B n2 d]) (ds:=[.slice C n3 c2,.slice D n4 d2]) hb1;have HX:=hid hx;have HV:=hid hy;have HB1:=hid hb1';obtain ⟨z0,z1⟩:=hy.get2;clear hx hy hb1 hb1';(go_wp2_with fail);refine (HZ.out _ HB1.out).mono ?_;rintro _ w2 ⟨rfl,hb2⟩;rw [h2];have HB2:=hid (zC HB1.out hb2);clear z0 z1;obtain ⟨y0,y1⟩:=(HX.out.below hb2).get2;obtain ⟨z0,z1⟩:=(HV.out.below hb2).get2;clear hb2;(go_wp2_with fail);refine (HW1.out _ HB2.out).mono ?_;rintro _ w3 ⟨rfl,hb3⟩;rw [h3];clear y0 y1 z0 z1;(go_wp2_with fail);go_ret;exact ⟨by rw [← HR.out,withinS,h1,h2,h3]; rfl,zC HB2.out hb3⟩
   ·go_enter Tryz.func16,Tryz.ntmps16;(go_wp2_with fail);refine HY.out.mono ?_;rintro _ w1 ⟨rfl,hb1⟩;rw [h1];obtain ⟨hx,hy,hb1'⟩:=box_2 (cs:=[.slice A n c,.slice B n2 d]) (ds:=[.slice C n3 c2,.slice D n4 d2]) hb1;have HX:=hid hx;have HV:=hid hy;have HB1:=hid hb1';obtain ⟨z0,z1⟩:=hy.get2;clear hx hy hb1 hb1';(go_wp2_with fail);refine (HZ.out _ HB1.out).mono ?_;rintro _ w2 ⟨rfl,hb2⟩;rw [h2];have HB2:=hid (zC HB1.out hb2);clear z0 z1;have HX2:=hid (HX.out.below hb2);have HV2:=hid (HV.out.below hb2);obtain ⟨y0,y1⟩:=HX2.out.get2;obtain ⟨z0,z1⟩:=HV2.out.get2;clear hb2;(go_wp2_with fail);refine (HW1.out _ HB2.out).mono ?_;rintro _ w3 ⟨rfl,hb3⟩;rw [h3];clear y0 y1 z0 z1;have HB3:=hid (zC HB2.out hb3);obtain ⟨y0,y1⟩:=(HX2.out.below hb3).get2;obtain ⟨z0,z1⟩:=(HV2.out.below hb3).get2;clear hb3;(go_wp2_with fail);refine (HW2.out _ HB3.out).mono ?_;rintro _ w4 ⟨rfl,hb4⟩;clear y0 y1 z0 z1;(go_wp2_with fail);go_ret;exact ⟨by rw [← HR.out,withinS,h1,h2,h3]; rfl,zC HB3.out hb4⟩
section
variable {n n2:Nat} {w:World} {A B C D:Option Addr} {l m p q:List SpanL} {v:Ver}
theorem law_withinR (c d c2 d2:Nat) (_:Vl w) (h:SetAt n w A l B m) (k:SetAt n2 w C p D q) (hn:n+n2≤5000):Calls Tryz.prog 16 #[setV A l.length c B m.length d,setV C p.length c2 D q.length d2] w (yc w (withinS l m p q)):=by
 have h1:=h.nrel; have h2:=h.npre; have h3:=k.nrel; have h4:=k.npre;exact rswithin_any A B C D c d c2 d2 l m p q w h.rel h.pre k.rel k.pre h.frel h.fpre k.frel k.fpre (by omega) (by omega) (by omega) (by omega)
theorem law_sameR (c d c2 d2:Nat) (h:SetAt n w A l B m) (k:SetAt n2 w C p D q) (hn:n+n2≤5000):Calls Tryz.prog 13 #[setV A l.length c B m.length d,setV C p.length c2 D q.length d2] w (yc w (sameS l m p q)):=by
 have h1:=h.nrel; have h2:=h.npre; have h3:=k.nrel; have h4:=k.npre;exact rssame_any A B C D c d c2 d2 l m p q w h.rel h.pre k.rel k.pre (by omega) (by omega) (by omega) (by omega)
theorem law_hasR (c d:Nat) (_:Vl w) (h:SetAt n w A l B m) (hv:v.fit) (hn:n≤5000):Calls Tryz.prog 15 #[setV A l.length c B m.length d,v.val] w (yc w (hasS l m v)):=by
 have h1:=h.nrel; have h2:=h.npre;exact rshas_any A B c d l m v w h.rel h.pre h.frel h.fpre (by omega) (by omega) hv
theorem law_noneR (w:World):Calls Tryz.prog 18 #[] w (SetBack 0 w [] []):=(rsnone_any w).mono fun _ _ h=>SetBack.of h.set fit_nil fit_nil (Nat.le_refl _) (Nat.le_refl _) ValS.nil
end
theorem spanMay_dec {a b:CutL} (ha:fB a=true) (hb:fB b=true):iJ ⟨a,b⟩=decide (Xc a b < 0):=by rw [iJ,ha,hb]; rfl
theorem smk_no (A B:Option Addr) (c d:Nat) (l m:List SpanL) (w:World) (hg:Vl w) (hl:Spans w A l) (hm:Spans w B m) (hfl:fitL l) (hfm:fitL m) (hln:l.length≤10000) (hmn:m.length≤10000) (hno:(mayR l&&mayR m)=false) :
 Calls Tryz.prog 137 #[.slice A l.length c,.slice B m.length d] w (SetOk w (smakeL l m)):=by
 have HE:=hid (show smakeL l m=(([],[]),false) by rw [smakeL,hno]; rfl)
 have HB0:=hid (zL w (.cells [Value.slice none 0 0,.slice none 0 0].toArray 42))
 have HX:=hid (Box.new w [Value.slice none 0 0,.slice none 0 0] 42)
 have HS:=hid (Soft.new w [Value.slice none 0 0,.slice none 0 0].toArray 42)
 have HC:=hid (rowmay_any A c l _ (hl.below HB0.out) hfl (by omega))
 have HD:=hid (fun w' (h:Below w.heap.size w w')=>rowmay_any B d m w' (hm.below h) hfm (by omega))
 clear hg hl hm hfl hfm
 generalize l.length=n at *
 generalize m.length=n2 at *
 cases h1:mayR l
 ·go_enter Tryz.func137,Tryz.ntmps137;(go_wp2_with fail);refine HC.out.mono ?_;rintro _ w1 ⟨rfl,hb1⟩;rw [h1];have HX1:=hid (HX.out.below hb1);have hf:∀ j,w1.frozen? ⟨w.heap.size,j,none⟩=false:=HS.out.below HX.out.1 hb1;have HB1:=hid (zC HB0.out hb1);obtain ⟨y0,y1⟩:=HX1.out.get2;have hlt:=HX1.out.1;clear hb1;(go_wp2_with fail);refine ret2 HX1.out (v := .tuple #[setV none 0 0 none 0 0,.bool false]) (fun w3 h3=>?_) rfl (fun h3=>by rw [HE.out]; exact ⟨none,0,none,0,rfl,SpanB.nil _ _,SpanB.nil _ _,HB1.out.trans h3⟩);obtain ⟨k0,k1⟩:=h3.get2;simp [results,Tryz.results137,go_sem,k0,k1]
 ·(have h2:mayR m=false:=by rw [h1] at hno; simpa using hno);go_enter Tryz.func137,Tryz.ntmps137;(go_wp2_with fail);refine HC.out.mono ?_;rintro _ w1 ⟨rfl,hb1⟩;rw [h1];have HX1:=hid (HX.out.below hb1);have HS1:=hid (HS.out.below HX.out.1 hb1);have HB1:=hid (zC HB0.out hb1);clear hb1;(go_wp2_with fail);refine (HD.out _ HB1.out).mono ?_;rintro _ w2 ⟨rfl,hb2⟩;rw [h2];have HX2:=hid (HX1.out.below hb2);have hf:∀ j,w2.frozen? ⟨w.heap.size,j,none⟩=false:=HS1.out.below HX1.out.1 hb2;have HB2:=hid (zC HB1.out hb2);obtain ⟨y0,y1⟩:=HX2.out.get2;have hlt:=HX2.out.1;clear hb2;(go_wp2_with fail);refine ret2 HX2.out (v := .tuple #[setV none 0 0 none 0 0,.bool false]) (fun w3 h3=>?_) rfl (fun h3=>by rw [HE.out]; exact ⟨none,0,none,0,rfl,SpanB.nil _ _,SpanB.nil _ _,HB2.out.trans h3⟩);obtain ⟨k0,k1⟩:=h3.get2;simp [results,Tryz.results137,go_sem,k0,k1]
theorem smk_yes (A B:Option Addr) (c d:Nat) (l m:List SpanL) (w:World) (hg:Vl w) (hl:Spans w A l) (hm:Spans w B m) (hfl:fitL l) (hfm:fitL m) (hln:l.length≤10000) (hmn:m.length≤10000) (h1:mayR l=true) (h2:mayR m=true) :
 Calls Tryz.prog 137 #[.slice A l.length c,.slice B m.length d] w (SetOk w (smakeL l m)):=by
 have hM:maxLen=9223372036854775807:=rfl
 have HE:=hid (show smakeL l m=(((rmakeL (turnedR l)).1,m),true) by rw [smakeL,h1,h2]; rfl)
 have HVL:=hid (mayR_val.1 h1)
 have HB0:=hid (zL w (.cells [Value.slice none 0 0,.slice none 0 0].toArray 42))
 have HX:=hid (Box.new w [Value.slice none 0 0,.slice none 0 0] 42)
 have HS:=hid (Soft.new w [Value.slice none 0 0,.slice none 0 0].toArray 42)
 have HC:=hid (rowmay_any A c l _ (hl.below HB0.out) hfl (by omega))
 have HD:=hid (fun w' (h:Below w.heap.size w w')=>rowmay_any B d m w' (hm.below h) hfm (by omega))
 have HLF:=hid hfl
 have HFG:=hid hg
 have HL:=hid hl
 have HM:=hid hm
 clear hg hl hm hfl hfm
 generalize hn:l.length=n at *
 have HN:=hid hn
 generalize hn2:m.length=n2 at *
 have HN2:=hid hn2
 clear hn hn2
 go_enter Tryz.func137,Tryz.ntmps137
 go_wp2_with fail
 refine HC.out.mono ?_
 rintro _ w1 ⟨rfl,hb1⟩
 rw [h1]
 have HX1:=hid (HX.out.below hb1)
 have HS1:=hid (HS.out.below HX.out.1 hb1)
 have HB1:=hid (zC HB0.out hb1)
 clear hb1
 go_wp2_with fail
 refine (HD.out _ HB1.out).mono ?_
 rintro _ w2 ⟨rfl,hb2⟩
 rw [h2]
 have HX2:=hid (HX1.out.below hb2)
 have HS2:=hid (HS1.out.below HX1.out.1 hb2)
 have HB2:=hid (zC HB1.out hb2)
 have HL2:=hid (HL.out.below HB2.out)
 have HM2:=hid (HM.out.below HB2.out)
 have HG2:=hid (HFG.out.below HB2.out)
 clear hb2 HX1 HS1 HB1 HX HS HL HM HC HD h1 h2 HFG
 go_wp2_with fail
 go_loopw [8,9,6,21] (fun _ _ o i wr=>∃ (k:Nat) (v:Value),i = .int .i64 k∧v=o∧k≤n∧Hid (HasRow wr w2.heap.size v (turnedTo l k) k)∧Hid (Below w2.heap.size w2 wr)) (fun _ _ _ i _=>n - (intOf i).toNat)
 case atStart=>exact ⟨0,_,rfl,rfl,Nat.zero_le _,⟨OwnS.nil _ _,(fun s h=>by cases h),by simp [turnedTo,turnedR]⟩,Below.refl _ _⟩
 case round =>
  obtain ⟨k,v,rfl,rfl,hk,HR,HBR⟩:=hrel;by_cases hlt:k < n
  ·(have hlt':k < l.length:=by rw [HN.out]; exact hlt);have HLr:=hid (HL2.out.below HBR.out);have HT:=hid (turnedTo_succ hlt');have HSF0:=hid (HLF.out k hlt');have HSP:=hid (HVL.out.span _ (List.getElem_mem hlt'));rw [← nth_lt hlt'] at HSP;obtain ⟨b,off,hA,hbl,hx14⟩:=HLr.out.at_ (k:=k) hlt';generalize nth l k=s at *;obtain ⟨cf,ct⟩:=s;obtain ⟨⟨x0,x1,x2,x3,x4,x5,x6⟩,z0,z1,z2,z3,z4,z5,z6⟩:=hx14;subst hA;(have i0:(0:Int)≤(k:Int):=by omega);(have i1:(k:Int) < (n:Int):=by omega);have HGr:=hid (HG2.out.below HBR.out);have CA:=hid (fun w' (h:Vl w')=>turned_any cf w' HSP.out.okl HSF0.out.1 h);have CB:=hid (fun w' (h:Vl w')=>turned_any ct w' HSP.out.okr HSF0.out.2 h);have HTS:Hid (turnedS ⟨cf,ct⟩=⟨turnedL cf,turnedL ct⟩):=hid rfl;have HSF:=hid (turnedS_fit HSF0.out);have HMA:=hid (turned_may HSP.out.okl).1;have HMB:=hid (turned_may HSP.out.okr).1;rw [HTS.out] at HT HSF;dsimp only at HMA HMB;generalize turnedL cf=tf at *;generalize turnedL ct=tt at *;have HDE:=hid (spanMay_dec HMA.out HMB.out);clear HTS HSP HSF0 HMA HMB;(go_wp2_with fail);refine zI ?_;intro wq hwq;(have hbq:Below wr.heap.size wr wq:=by rw [hwq]; exact zL _ _);have HX8:Hid (Box wq wr.heap.size (SpanL.cells ⟨cf,ct⟩)):=hid (by rw [hwq]; exact Box.new wr (SpanL.cells ⟨cf,ct⟩) _);have HGq:=hid (HGr.out.below hbq);have HRq:=hid (HR.out.own.below hbq);have HBq:=hid (HBR.out.trans (hbq.mono HBR.out.size))
   have HRF:=hid HR.out.fit;have HRL:=HR.out.len;clear hwq hbq HGr HR HBR HLr x0 x1 x2 x3 x4 x5 x6 z0 z1 z2 z3 z4 z5 z6;generalize wr.heap.size=g8 at *
   have HSB:Hid (∀ w',Below wq.heap.size wq w'→w'.cell? ⟨g8,0,none⟩=some (.int .i64 cf.en)∧w'.cell? ⟨g8,1,none⟩=some (.int .i64 cf.v.maj)∧w'.cell? ⟨g8,2,none⟩=some (.int .i64 cf.v.min)∧w'.cell? ⟨g8,3,none⟩=some (.int .i64 cf.v.pat)∧w'.cell? ⟨g8,4,none⟩=some (.string cf.v.pre)∧w'.cell? ⟨g8,5,none⟩=some (.string cf.v.bld)∧w'.cell? ⟨g8,6,none⟩=some (.bool cf.aft)∧w'.cell? ⟨g8,7,none⟩=some (.int .i64 ct.en)∧w'.cell? ⟨g8,7+1,none⟩=some (.int .i64 ct.v.maj)∧w'.cell? ⟨g8,7+2,none⟩=some (.int .i64 ct.v.min)∧w'.cell? ⟨g8,7+3,none⟩=some (.int .i64 ct.v.pat)∧w'.cell? ⟨g8,7+4,none⟩=some (.string ct.v.pre)∧w'.cell? ⟨g8,7+5,none⟩=some (.string ct.v.bld)∧w'.cell? ⟨g8,7+6,none⟩=some (.bool ct.aft)):=hid (fun w' h=>by
    obtain ⟨⟨a0,a1,a2,a3,a4,a5,a6⟩,c0,c1,c2,c3,c4,c5,c6⟩:=(HX8.out.below h).get14
    exact ⟨a0,a1,a2,a3,a4,a5,a6,c0,c1,c2,c3,c4,c5,c6⟩)
   have hg0:wq.heap.size≤wq.drew.heap.size:=Nat.le_refl _;go_wp2_with fail
   go_region_held3 (fun w'=>w'.cell? ⟨g8,0,none⟩=some (.int .i64 cf.en)∧w'.cell? ⟨g8,1,none⟩=some (.int .i64 cf.v.maj)∧w'.cell? ⟨g8,2,none⟩=some (.int .i64 cf.v.min)∧w'.cell? ⟨g8,3,none⟩=some (.int .i64 cf.v.pat)∧w'.cell? ⟨g8,4,none⟩=some (.string cf.v.pre)∧w'.cell? ⟨g8,5,none⟩=some (.string cf.v.bld)∧w'.cell? ⟨g8,6,none⟩=some (.bool cf.aft)∧w'.cell? ⟨g8,7,none⟩=some (.int .i64 ct.en)∧w'.cell? ⟨g8,7+1,none⟩=some (.int .i64 ct.v.maj)∧w'.cell? ⟨g8,7+2,none⟩=some (.int .i64 ct.v.min)∧w'.cell? ⟨g8,7+3,none⟩=some (.int .i64 ct.v.pat)∧w'.cell? ⟨g8,7+4,none⟩=some (.string ct.v.pre)∧w'.cell? ⟨g8,7+5,none⟩=some (.string ct.v.bld)∧w'.cell? ⟨g8,7+6,none⟩=some (.bool ct.aft))
    (first | (exact HSB.out _ (by with_reducible (first | assumption | exact (Below.refl _ _).drew | exact below_alloc (by assumption) _ | exact below_alloc (Below.refl _ _).drew _ | exact (below_alloc (Below.refl _ _) _).drew | exact below_alloc (Below.refl _ _) _))) | (exact HSB.out _ (by with_reducible (exact keep14 hb5 (by first | exact hb4.size | exact hg0 | exact Nat.le_refl _) tf tt))))
    (first
     | (go_at_call_of 184 cf; (with_reducible refine (CA.out _ (HGq.out.below (by first | assumption | exact (Below.refl _ _).drew | exact (below_alloc (Below.refl _ _) _).drew | exact below_alloc (by assumption) _ | exact below_alloc (Below.refl _ _).drew _))).mono ?_); rintro _ w4 ⟨rfl,k4⟩; have hb4:Below wq.heap.size wq w4:=zC (by first | assumption | exact (Below.refl _ _).drew | exact (below_alloc (Below.refl _ _) _).drew | exact below_alloc (by assumption) _ | exact below_alloc (Below.refl _ _).drew _) k4; (try (with_reducible have zb4:=newbox14d k4)))
     | (go_at_call_of 184 ct; (with_reducible refine (CB.out _ (HGq.out.below (by first | assumption | exact (Below.refl _ _).drew | exact (below_alloc (Below.refl _ _) _).drew | exact below_alloc (by assumption) _ | exact below_alloc (Below.refl _ _).drew _))).mono ?_); rintro _ w5 ⟨rfl,k5⟩; have hb5:Below wq.heap.size wq w5:=zC (by first | assumption | exact (Below.refl _ _).drew | exact (below_alloc (Below.refl _ _) _).drew | exact below_alloc (by assumption) _ | exact below_alloc (Below.refl _ _).drew _) k5; (try (first | (with_reducible have zb5:=newbox14 k5) | (have zb5:=And.intro (zb4.1.below k5) (zb4.2.below zb4.1.1 k5)))); (try (obtain ⟨⟨⟨y0,y1,y2,y3,y4,y5,y6⟩,y7,y8,y9,y10,y11,y12,y13⟩,yl⟩:=And.intro zb5.1.get14 zb5.1.1)); (try (have yf:∀ j,w5.frozen? ⟨_,j,none⟩=false:=zb5.2))))
   ·refine pname ?_;intro w6 hw6;have HX6:Hid (Box w6 w5.heap.size (SpanL.cells ⟨tf,tt⟩)):=hid (by rw [hw6]; exact Box.new w5 (SpanL.cells ⟨tf,tt⟩) _);have HB6:Hid (Below wq.heap.size wq w6):=hid (by rw [hw6]; exact below_alloc hb5 _);have HO6:Hid (OwnS w6 w2.heap.size v (turnedTo l k)):=hid (HRq.out.below HB6.out);generalize w5.heap.size=g at *;clear hw6 hb5 hb4 k4 k5;obtain ⟨⟨⟨x0,x1,x2,x3,x4,x5,x6⟩,z0,z1,z2,z3,z4,z5,z6⟩,hgx⟩:=And.intro HX6.out.get14 HX6.out.1;have HSM:=hid (fun w'=>ccompare_any tf tt w' HSF.out.1 HSF.out.2);have HTO:=hid (show turnedTo l (k+1)=_ from HT.out);rw [HDE.out] at HTO;clear HT HSB CA CB HDE;generalize turnedTo l k=o at *;generalize Xc tf tt=x at *;cases hd:decide (x < 0)
    ·rw [hd] at HTO;(go_wp2_with fail);refine (HSM.out _).mono ?_;rintro _ w7 ⟨rfl,hb7⟩;have HB7:=hid (zC HB6.out hb7);have HO7:=hid (HO6.out.below hb7);clear hb7 x0 x1 x2 x3 x4 x5 x6 z0 z1 z2 z3 z4 z5 z6 hgx;(go_wp2_with fail);go_roundw
     case rel=>exact ⟨k+1,v,by go_num,rfl,by omega,by rw [HTO.out]; exact ⟨HO7.out,HRF.out,by simp; omega⟩,HBq.out.trans (HB7.out.mono HBq.out.size)⟩
     case measure=>simp [intOf]; omega
    ·rw [hd] at HTO;(go_wp2_with fail);refine (HSM.out _).mono ?_;rintro _ w7 ⟨rfl,hb7⟩;have HB7:=hid (zC HB6.out hb7);have HO7:=hid (HO6.out.below hb7);have hgx:=(HX6.out.below hb7).1;have hz7:=hid (Nat.le_trans HBq.out.size HB7.out.size);clear x0 x1 x2 x3 x4 x5 x6 z0 z1 z2 z3 z4 z5 z6;obtain ⟨⟨x0,x1,x2,x3,x4,x5,x6⟩,z0,z1,z2,z3,z4,z5,z6⟩:=(HX6.out.below hb7).get14;clear hb7;(go_wp2_with (first | (at_builtin; refine vu EKspans rfl (.tmp 38) (.tmp 40) rfl (SpanL.cells ⟨tf,tt⟩) HO7.out rfl rfl rfl (oneS1 _) (by omega) (by omega) hz7.out ?_; intro v' w8 h2 h3 h4; clear x0 x1 x2 x3 x4 x5 x6 z0 z1 z2 z3 z4 z5 z6)));go_roundw
     case rel=>exact ⟨k+1,v',by go_num,rfl,by omega,by rw [HTO.out]; exact ⟨OwnS.app h2,(fun t ht=>by rcases List.mem_append.1 ht with ht | ht; exact HRF.out t ht; rw [List.mem_singleton] at ht; subst ht; exact HSF.out),by simp; omega⟩,(HBq.out.trans (HB7.out.mono HBq.out.size)).trans h3⟩
     case measure=>simp [intOf]; omega
   ·have hgw:wq.heap.size≤w4.heap.size:=hb4.size;refine pname ?_;intro w6 hw6;rw [put14] at hw6;have HX6:Hid (Box w6 w4.heap.size (SpanL.cells ⟨tf,tt⟩)):=hid (by rw [hw6]; exact zb5.1.set14 ⟨tf,tt⟩);have HB6:Hid (Below wq.heap.size wq w6):=hid (by rw [hw6]; exact Below.setCells hgw _ _ hb5);have HO6:Hid (OwnS w6 w2.heap.size v (turnedTo l k)):=hid (by rw [hw6]; exact own_set (HRq.out.below hb5) (fun r hr=>Nat.lt_of_lt_of_le (own_bound HRq.out r hr).2 hgw));generalize w4.heap.size=g at *;clear hw6 hb5 hb4 k4 k5 zb5 yl yf y0 y1 y2 y3 y4 y5 y6 y7 y8 y9 y10 y11 y12 y13 hgw;obtain ⟨⟨⟨x0,x1,x2,x3,x4,x5,x6⟩,z0,z1,z2,z3,z4,z5,z6⟩,hgx⟩:=And.intro HX6.out.get14 HX6.out.1;have HSM:=hid (fun w'=>ccompare_any tf tt w' HSF.out.1 HSF.out.2);have HTO:=hid (show turnedTo l (k+1)=_ from HT.out);rw [HDE.out] at HTO;clear HT HSB CA CB HDE;generalize turnedTo l k=o at *;generalize Xc tf tt=x at *;cases hd:decide (x < 0)
    ·rw [hd] at HTO;(go_wp2_with fail);refine (HSM.out _).mono ?_;rintro _ w7 ⟨rfl,hb7⟩;have HB7:=hid (zC HB6.out hb7);have HO7:=hid (HO6.out.below hb7);clear hb7 x0 x1 x2 x3 x4 x5 x6 z0 z1 z2 z3 z4 z5 z6 hgx;(go_wp2_with fail);go_roundw
     case rel=>exact ⟨k+1,v,by go_num,rfl,by omega,by rw [HTO.out]; exact ⟨HO7.out,HRF.out,by simp; omega⟩,HBq.out.trans (HB7.out.mono HBq.out.size)⟩
     case measure=>simp [intOf]; omega
    ·rw [hd] at HTO;(go_wp2_with fail);refine (HSM.out _).mono ?_;rintro _ w7 ⟨rfl,hb7⟩;have HB7:=hid (zC HB6.out hb7);have HO7:=hid (HO6.out.below hb7);have hgx:=(HX6.out.below hb7).1;have hz7:=hid (Nat.le_trans HBq.out.size HB7.out.size);clear x0 x1 x2 x3 x4 x5 x6 z0 z1 z2 z3 z4 z5 z6;obtain ⟨⟨x0,x1,x2,x3,x4,x5,x6⟩,z0,z1,z2,z3,z4,z5,z6⟩:=(HX6.out.below hb7).get14;clear hb7;(go_wp2_with (first | (at_builtin; refine vu EKspans rfl (.tmp 38) (.tmp 40) rfl (SpanL.cells ⟨tf,tt⟩) HO7.out rfl rfl rfl (oneS1 _) (by omega) (by omega) hz7.out ?_; intro v' w8 h2 h3 h4; clear x0 x1 x2 x3 x4 x5 x6 z0 z1 z2 z3 z4 z5 z6)));go_roundw
     case rel=>exact ⟨k+1,v',by go_num,rfl,by omega,by rw [HTO.out]; exact ⟨OwnS.app h2,(fun t ht=>by rcases List.mem_append.1 ht with ht | ht; exact HRF.out t ht; rw [List.mem_singleton] at ht; subst ht; exact HSF.out),by simp; omega⟩,(HBq.out.trans (HB7.out.mono HBq.out.size)).trans h3⟩
     case measure=>simp [intOf]; omega
   ·have hgw:wq.heap.size≤wq.heap.size:=Nat.le_refl _;refine pname ?_;intro w6 hw6;rw [put14] at hw6;have HX6:Hid (Box w6 wq.heap.size (SpanL.cells ⟨tf,tt⟩)):=hid (by rw [hw6]; exact zb5.1.set14 ⟨tf,tt⟩);have HB6:Hid (Below wq.heap.size wq w6):=hid (by rw [hw6]; exact Below.setCells hgw _ _ hb5);have HO6:Hid (OwnS w6 w2.heap.size v (turnedTo l k)):=hid (by rw [hw6]; exact own_set (HRq.out.below hb5) (fun r hr=>Nat.lt_of_lt_of_le (own_bound HRq.out r hr).2 hgw));clear hw6 hb5 hb4 k4 k5 zb5 zb4 yl yf y0 y1 y2 y3 y4 y5 y6 y7 y8 y9 y10 y11 y12 y13 hgw;obtain ⟨⟨⟨x0,x1,x2,x3,x4,x5,x6⟩,z0,z1,z2,z3,z4,z5,z6⟩,hgx⟩:=And.intro HX6.out.get14 HX6.out.1;have HSM:=hid (fun w'=>ccompare_any tf tt w' HSF.out.1 HSF.out.2);have HTO:=hid (show turnedTo l (k+1)=_ from HT.out);rw [HDE.out] at HTO;clear HT HSB CA CB HDE;generalize turnedTo l k=o at *;generalize Xc tf tt=x at *;cases hd:decide (x < 0)
    ·rw [hd] at HTO;(go_wp2_with fail);refine (HSM.out _).mono ?_;rintro _ w7 ⟨rfl,hb7⟩;have HB7:=hid (zC HB6.out hb7);have HO7:=hid (HO6.out.below hb7);clear hb7 x0 x1 x2 x3 x4 x5 x6 z0 z1 z2 z3 z4 z5 z6 hgx;(go_wp2_with fail);go_roundw
     case rel=>exact ⟨k+1,v,by go_num,rfl,by omega,by rw [HTO.out]; exact ⟨HO7.out,HRF.out,by simp; omega⟩,HBq.out.trans (HB7.out.mono HBq.out.size)⟩
     case measure=>simp [intOf]; omega
    ·rw [hd] at HTO;(go_wp2_with fail);refine (HSM.out _).mono ?_;rintro _ w7 ⟨rfl,hb7⟩;have HB7:=hid (zC HB6.out hb7);have HO7:=hid (HO6.out.below hb7);have hgx:=(HX6.out.below hb7).1;have hz7:=hid (Nat.le_trans HBq.out.size HB7.out.size);clear x0 x1 x2 x3 x4 x5 x6 z0 z1 z2 z3 z4 z5 z6;obtain ⟨⟨x0,x1,x2,x3,x4,x5,x6⟩,z0,z1,z2,z3,z4,z5,z6⟩:=(HX6.out.below hb7).get14;clear hb7;(go_wp2_with (first | (at_builtin; refine vu EKspans rfl (.tmp 38) (.tmp 40) rfl (SpanL.cells ⟨tf,tt⟩) HO7.out rfl rfl rfl (oneS1 _) (by omega) (by omega) hz7.out ?_; intro v' w8 h2 h3 h4; clear x0 x1 x2 x3 x4 x5 x6 z0 z1 z2 z3 z4 z5 z6)));go_roundw
     case rel=>exact ⟨k+1,v',by go_num,rfl,by omega,by rw [HTO.out]; exact ⟨OwnS.app h2,(fun t ht=>by rcases List.mem_append.1 ht with ht | ht; exact HRF.out t ht; rw [List.mem_singleton] at ht; subst ht; exact HSF.out),by simp; omega⟩,(HBq.out.trans (HB7.out.mono HBq.out.size)).trans h3⟩
     case measure=>simp [intOf]; omega
  ·(obtain rfl:k=n:=by omega);have HTA:=hid (show turnedTo l k=turnedR l by rw [← HN.out,turnedTo_all]);have HRL:=HR.out.len;(have HFT:Hid (fitL (turnedTo l k)):=hid fun i hi=>by rw [nth_lt hi]; exact HR.out.fit _ (List.getElem_mem _));obtain ⟨A3,c3,e3,hs3⟩:=HR.out.own.spans;subst e3;have HMK:=hid (make_any w2.heap.size A3 c3 (turnedTo l k) wr hs3 HFT.out (by omega) HBR.out.size);clear hs3 HFT HR HRL;rw [HTA.out] at HMK ⊢;generalize rmakeL (turnedR l)=rm at *;generalize (turnedR l).length=nt at *;(go_wp2_with fail);refine HMK.out.mono ?_;rintro _ w3 ⟨v3,e3,o3,k3,_⟩;obtain rfl:=e3;obtain ⟨A4,c4,rfl,S4⟩:=SpanB.own o3;have HB23:=hid (HBR.out.trans k3);have HX3:=hid (HX2.out.below HB23.out);have HS3:=hid (HS2.out.below HX2.out.1 HB23.out);have HCL:=hid (clone_any w3.heap.size B d m w3 (HM2.out.below HB23.out) (by have:=HN2.out; omega) (Nat.le_refl _));rw [HN2.out] at HCL;have HB3:=hid (zC HB2.out HB23.out);have HS4:=hid S4;clear k3 o3 S4 HMK;(go_wp2_with fail);refine HCL.out.mono ?_;rintro _ w5 ⟨v5,rfl,h5,hb5,_⟩;obtain ⟨B5,d5,rfl,S5'⟩:=SpanB.own h5;have S5:=hid S5';rw [HN2.out];obtain ⟨y0,y1⟩:=(HX3.out.below hb5).get2;have hf:∀ j,w5.frozen? ⟨w.heap.size,j,none⟩=false:=HS3.out.below HX3.out.1 hb5;have hlt:=(HX3.out.below hb5).1;clear h5 S5';(go_wp2_with fail);refine ret2 (HX3.out.below hb5) (v := .tuple #[setV A4 rm.1.length c4 B5 n2 d5,.bool true]) (fun w6 h6=>?_) rfl (fun h6=>?_)
   ·obtain ⟨k0,k1⟩:=h6.get2;simp [results,Tryz.results137,go_sem,k0,k1]
   ·rw [HE.out];exact ⟨A4,c4,B5,d5,by rw [← HN2.out],((HS4.out.below hb5).set HX2.out.1).low HB2.out.size,(S5.out.set HX3.out.1).low HB3.out.size,(zC HB3.out hb5).trans (h6.mono (Nat.le_refl _))⟩
theorem smake_any (A B:Option Addr) (c d:Nat) (l m:List SpanL) (w:World) (hg:Vl w) (hl:Spans w A l) (hm:Spans w B m) (hfl:fitL l) (hfm:fitL m) (hln:l.length≤10000) (hmn:m.length≤10000) :
 Calls Tryz.prog 137 #[.slice A l.length c,.slice B m.length d] w (SetOk w (smakeL l m)):=by
 cases h1:mayR l
 ·exact smk_no A B c d l m w hg hl hm hfl hfm hln hmn (by rw [h1]; rfl)
 ·cases h2:mayR m
  ·exact smk_no A B c d l m w hg hl hm hfl hfm hln hmn (by rw [h2,Bool.and_false])
  ·exact smk_yes A B c d l m w hg hl hm hfl hfm hln hmn h1 h2
section
variable {P:Program} {w:World} {base size n bytes:Nat} {t e:TypeId} {v:Value} {xs:List Value}
theorem gI (E:EK P t e size bytes) (ty:TypeId) (hown:w.ownsRow base e size v n xs) {ad:Addr} {m c:Nat} {news:List Value} (hl:news.length=m * size) (hnews:∀ j u,news[j]?=some u→w.cell? (ad.add j)=some u) (h1:∀ u∈news,u.oneCell'=true)
 (hm:0 < m) (h63:n+m≤maxLen) (hb:(n+m) * bytes≤140737488355328) (hbase:base≤w.heap.size) :
 ∃ v' w',(Builtin.append_ #[t,t] ty #[v,.slice (some ad) m c]).run P w = .ok v' w'∧w'.ownsRow base e size v' (n+m) (xs++news)∧Below base w w'∧w.grownBy w' v.ownBlock∧(∀ k,v'.ownBlock=some k→v.ownBlock=some k∨k=w.heap.size):=by
 obtain ⟨i,z,hi,hz0,hz1,hz2,hz3⟩:=E.info
 obtain ⟨g,cap,w',hr,h2,h3,h4,_⟩:=run_append_lies (P:=P) w t ty base e i z size bytes E.ht hi hz0 hz1 hz2 hz3 E.pos v n xs hown ad m c news hl hnews h1 hm h63 hb hbase _ rfl
 refine ⟨_,w',hr,h2,(Below.refl _ _).grown h3 (qF E ty hown hl hnews h1 h63 hb hr) hbase (fun k hk=>(hown.lt k hk).1),h3,fun k hk=>?_⟩
 have:k=g:=by simpa [Value.ownBlock,eq_comm] using hk
 rw [this]; exact h4
theorem wI (E:EK P t e size bytes) {ops:Array Oper} {rest:List Oper} {o:Oper} {a:Act} {Q:Exit→Act→World→Prop} (hgd:o.guard=none) (s x:Operand)
 (ho:o.op = .call { callee := .builtin .append,args:=#[s,x],argTypes:=#[t,t] }) (news:List Value)
 (hown:w.ownsRow base e size v n xs) (hs:a.eval s=v) (hx:a.eval x = .slice (some ⟨w.heap.size,0,none⟩) 1 1) (hl:news.length=size) (h1:∀ u∈news,u.oneCell'=true)
 (hm:n+1≤maxLen) (hn:(n+1) * bytes≤140737488355328) (hbase:base≤w.heap.size)
 (h:∀ v' w',w'.ownsRow base e size v' (n+1) (xs++news)→Below base w w'→w.grownBy w' v.ownBlock→(∀ k,v'.ownBlock=some k→v.ownBlock=some k∨w.heap.size≤k)→wpList P ops Q rest (a.put o.dst v') w') :
 wpList P ops Q (o::rest) a (w.alloc (.cells news.toArray e)):=by
 refine wpList_plain hgd fun _ hK=>?_
 obtain ⟨v',w',hrun,h2,h3,h4,h5⟩:=gI (P:=P) (w:=w.alloc (.cells news.toArray e)) E o.type (hown.alloc _) (ad:=⟨w.heap.size,0,none⟩) (m:=1) (c:=1) (news:=news) (by omega) (fun j u hj=>by
  have hz:(⟨w.heap.size,0,none⟩:Addr).add j=⟨w.heap.size,j,none⟩:=by
   unfold Addr.add;split<;>simp_all
  rw [hz,World.cell?_alloc_at _ _ _ _ rfl]
  simpa using hj) h1 (by omega) hm hn (by simp; omega)
 unfold Oper.wp execOp
 simp only [ho,resolve,invoke,builtin,Sem.run_bind,Sem.run_pure,Result.andThen_ok,List.map_toArray,List.map_cons,List.map_nil,hs,hx,hrun]
 refine hK _ _ (h v' w' h2 (((Below.refl _ _).alloc hbase _).trans h3) (lD (World.grownBy_alloc w _ _) h4) fun k hk=>(h5 k hk).imp id fun h=>?_)
 rw [h]; simp
end
end Go.Proofs.YtiffijoenkcpjaaGreatDoor
