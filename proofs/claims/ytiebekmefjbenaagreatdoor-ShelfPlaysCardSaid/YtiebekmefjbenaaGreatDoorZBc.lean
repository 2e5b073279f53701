import Derived.ChangeOld
import Derived.ChangeSame
import Derived.Deep.AppendLies
import Derived.Deep.Fields
import Derived.Deep.Quiet
import Derived.Deep.Slices
import Derived.IntWalk
import Derived.Laws.IdiomCopy
import Derived.Laws.OwnMore
import Derived.Lib.SmallJoins
import Derived.OpenShut
import Derived.OrdersHeld
import Derived.ProofKit
import Derived.ShutString
import Derived.Test.YtiebekmefjbenaaGreatDoorZBb
set_option linter.unusedVariables false
set_option linter.unusedSimpArgs false
set_option maxRecDepth 100000
set_option maxHeartbeats 2000000
namespace Go.Proofs.YtiebekmefjbenaaGreatDoor
open Go.RowKit Go.Lib
def intOf : Value → Int | .int _ q => q | _ => 0
theorem uR (b o j:Nat):(Addr.mk b o none).add j=⟨b,o+j,none⟩:=by
 unfold Addr.add;split<;>simp_all
def Box (w:World) (g:Nat) (cs:List Value):Prop:=g < w.heap.size∧∀ j u,cs[j]?=some u→w.cell? ⟨g,j,none⟩=some u
theorem Box.below {w w':World} {g:Nat} {cs:List Value} (h:Box w g cs) (hb:Below w.heap.size w w'):Box w' g cs :=
 ⟨Nat.lt_of_lt_of_le h.1 hb.size,fun j u hj=>(hb.cell (p:=⟨g,j,none⟩) h.1).trans (h.2 j u hj)⟩
theorem Box.new (w:World) (cs:List Value) (t:TypeId):Box (w.alloc (.cells cs.toArray t)) w.heap.size cs:=by
 refine ⟨by simp,fun j u hj=>?_⟩;rw [World.cell?_alloc_at _ _ _ _ rfl];simpa using hj
theorem Box.get5 {w:World} {g:Nat} {x0 x1 x2 x3 x4:Value} (h:Box w g [x0,x1,x2,x3,x4]):w.cell? ⟨g,0,none⟩=some x0∧w.cell? ⟨g,1,none⟩=some x1∧w.cell? ⟨g,2,none⟩=some x2∧w.cell? ⟨g,3,none⟩=some x3∧w.cell? ⟨g,4,none⟩=some x4 :=
 ⟨h.2 0 _ rfl,h.2 1 _ rfl,h.2 2 _ rfl,h.2 3 _ rfl,h.2 4 _ rfl⟩
theorem Box.get7 {w:World} {g:Nat} {x0 x1 x2 x3 x4 x5 x6:Value} (h:Box w g [x0,x1,x2,x3,x4,x5,x6]):w.cell? ⟨g,0,none⟩=some x0∧w.cell? ⟨g,1,none⟩=some x1∧w.cell? ⟨g,2,none⟩=some x2∧w.cell? ⟨g,3,none⟩=some x3∧w.cell? ⟨g,4,none⟩=some x4∧w.cell? ⟨g,5,none⟩=some x5∧w.cell? ⟨g,6,none⟩=some x6 :=
 ⟨h.2 0 _ rfl,h.2 1 _ rfl,h.2 2 _ rfl,h.2 3 _ rfl,h.2 4 _ rfl,h.2 5 _ rfl,h.2 6 _ rfl⟩
structure CutL where
 en:Int
 v:Ver
 aft:Bool
def CutL.fit (c:CutL):Prop:=c.v.fit
def xD:Ver:=⟨0,0,0,⟨#[]⟩,⟨#[]⟩⟩
def fB (c:CutL):Bool:=if c.en=0 then yF c.v&&(bts c.v.bld).isEmpty else (decide (c.en=-1) || decide (c.en=1))&&mj c.v xD&&!c.aft
theorem fK {c:CutL} (h:c.en=-1∨c.en=1):fB c=(mj c.v xD&&!c.aft):=by
 rw [fB,if_neg (by omega)];rcases h with h | h<;>simp [h]
def Xc (a b:CutL):Int:=if fB a=false∨fB b=false then 0 else if a.en≠0∨b.en≠0 then xT a.en b.en else if xX a.v b.v≠0 then xX a.v b.v else if a.aft=b.aft then 0 else if b.aft then -1 else 1
theorem WB {a b:CutL} (h1:fB a=true) (h2:fB b=true):Xc a b=if a.en≠0∨b.en≠0 then xT a.en b.en else if xX a.v b.v≠0 then xX a.v b.v else if a.aft=b.aft then 0 else if b.aft then -1 else 1:=by
 rw [Xc,if_neg (by simp [h1,h2])]
structure SpanL where
 fr:CutL
 til:CutL
def SpanL.fit (s:SpanL):Prop:=s.fr.fit∧s.til.fit
def iJ (s:SpanL):Bool:=fB s.fr&&fB s.til&&decide (Xc s.fr s.til < 0)
def rR:CutL:=⟨-1,xD,false⟩
def ig:CutL:=⟨1,xD,false⟩
structure BW (w:World) where
 v:World
 ok:Below w.heap.size w v
instance (w:World):Nonempty (BW w):=⟨⟨w,Below.refl _ _⟩⟩
def rb (o:Oper):Bool:=match o.op with
 | .move _ | .assign _ | .pick _ _ _ | .build _ _ | .load _ _ | .binOp _ _ _ _ _ | .unOp _ _ _ | .convert _ _ _ | .fieldAddr _ _ _ | .field _ _ _ | .indexAddr _ _ _ | .index _ _ _ | .slice _ _ _ _ _ | .extract _ _ | .makeInterface _ _ | .nilCheck _=>true
 | .call c=>match c.callee with
  | .builtin .len=>true
  | _=>false
 | _=>false
theorem cj {P:Program} {w w':World} {n:Next} (s:Sem Value) (h:(do pure (Next.value (← s)):Sem Next).run P w = .ok n w'):∃ x,n = .value x:=by
 simp only [Sem.run_bind] at h;cases hs:s.run P w with
 | ok x w1 =>
  rw [hs] at h;simp only [Result.andThen_ok,Sem.run_pure] at h;(injection h with h1 h2);exact ⟨x,h1.symm⟩
 | halt x w1 =>
  rw [hs] at h;simp at h
theorem YE {P:Program} {w w':World} {n:Next} (s:Sem Bool) (f:Bool→Value) (h:(do pure (Next.value (f (← s))):Sem Next).run P w = .ok n w'):∃ x,n = .value x:=by
 simp only [Sem.run_bind] at h;cases hs:s.run P w with
 | ok x w1 =>
  rw [hs] at h;simp only [Result.andThen_ok,Sem.run_pure] at h;(injection h with h1 h2);exact ⟨f x,h1.symm⟩
 | halt x w1 =>
  rw [hs] at h;simp at h
theorem mP {P:Program} {w w':World} {n:Next} (h:(runtimePanic .nilDeref:Sem Next).run P w = .ok n w'):False:=by
 simp [runtimePanic] at h
theorem Xl {P:Program} {w':World} {n:Next} {v:Value} {r:Result (Option Bool)} {u:Unsupported} (h:(r.andThen fun a w'=>Sem.run P (if (a != some false)=true then (unsupported u >>= fun _:PUnit=>pure (Next.value v)) else pure (Next.value v)) w') = .ok n w'):∃ x,n = .value x:=by
 cases r with
 | halt x w1=>simp at h
 | ok x w1 =>
  simp only [Result.andThen_ok] at h;split at h
  ·simp at h
  ·simp only [Sem.run_pure] at h;(injection h with h1 h2);exact ⟨_,h1.symm⟩
theorem kG {P:Program} {o:Oper} {x:Operand} {ρ:Operand→Value} {w w':World} {n:Next} (hp:o.op = .nilCheck x) (h:(execOp ρ o).run P w = .ok n w'):∃ x,n = .value x:=by
 unfold execOp at h;simp only [hp] at h;split at h
 ·exact (mP h).elim
 ·exact (mP h).elim
 ·exact (mP h).elim
 ·split at h
  ·exact (mP h).elim
  ·simp only [Sem.run_bind,run_program,Result.andThen_ok] at h;exact Xl h
  ·simp only [Sem.run_pure] at h; injection h with h1 h2; exact ⟨_,h1.symm⟩
 ·simp only [Sem.run_pure] at h; injection h with h1 h2; exact ⟨_,h1.symm⟩
theorem ax {P:Program} {o:Oper} {ρ:Operand→Value} {w w':World} {n:Next} (hp:rb o=true) (h:(execOp ρ o).run P w = .ok n w'):∃ x,n = .value x:=by
 obtain ⟨dst,op,type,pos,after,guard⟩:=o
 cases op<;>first
  | (exfalso; simp only [rb,Bool.false_eq_true] at hp; done)
  | (simp only [execOp] at h; exact cj _ h)
  | (simp only [execOp,Sem.run_pure] at h; injection h with h1 h2; exact ⟨_,h1.symm⟩)
  | (rename_i c x y; simp only [execOp] at h; exact YE (asBool (ρ c)) (fun t=>if t=true then ρ x else ρ y) h)
  | exact kG rfl h
  | skip
 rename_i c
 obtain ⟨callee,args,ats⟩:=c
 cases callee<;>first
  | (exfalso; simp only [rb,Bool.false_eq_true] at hp; done)
  | skip
 rename_i b
 cases b<;>first
  | (exfalso; simp only [rb,Bool.false_eq_true] at hp; done)
  | skip
 simp only [execOp,resolve,invoke,builtin,Sem.run_bind,Sem.run_pure,Result.andThen_ok] at h;refine cj (P:=P) (w:=w) (w':=w') (Builtin.len_ ats type (args.map ρ)) ?_;simp only [Sem.run_bind,Sem.run_pure];exact h
theorem ie {P:Program} {o:Oper} {a:Act} {C:World→Prop} {w:World} {v:Value} (hp:rb o=true) (h:Oper.quietAt P o a C w v):(execOp a.eval o).run P w = .ok (.value v) w:=by
 unfold Oper.quietAt at h;cases hr:(execOp a.eval o).run P w with
 | halt x w'=>rw [hr] at h; exact h.elim
 | ok n w' =>
  obtain ⟨x,rfl⟩:=ax hp hr;rw [hr] at h;obtain ⟨rfl,rfl⟩:=h;rfl
inductive Plan where
 | last (seg:List Nat)
 | call (seg:List Nat) (k:Nat) (next:Plan)
 | two (seg:List Nat) (k l:Nat) (kl lk:Plan)
def V8:Oper:={ dst:=none,op := .move (.tmp 0),type:=0,pos:="",after:=#[],guard:=none }
def zB (ops:Array Oper) (l:List Nat):List Oper:=l.map fun i=>(ops[i]?).getD V8
def ru (md:Region.Mode) (ops:Array Oper) (f:Array Bool→Bool):List Nat→Array Bool→Bool
 | [],l=>f l
 | i::is,l=>(Region.ready md ops l).contains i&&(Region.free md ops l i&&(((ops[i]?).map rb).getD false&&ru md ops f is (l.setIfInBounds i true)))
def qH (md:Region.Mode) (ops:Array Oper):Plan→Array Bool→Bool
 | .last seg,l=>ru md ops (fun l=>(Region.ready md ops l).isEmpty) seg l
 | .call seg k next,l=>ru md ops (fun l=>(Region.ready md ops l==[k])&&qH md ops next (l.setIfInBounds k true)) seg l
 | .two seg k m p q,l=>ru md ops (fun l=>(Region.ready md ops l==[k,m])&&(qH md ops p (l.setIfInBounds k true)&&qH md ops q (l.setIfInBounds m true))) seg l
def xG:Plan→Nat
 | .last seg=>seg.length
 | .call seg _ next=>seg.length+(xG next+1)
 | .two seg _ _ p q=>seg.length+(max (xG p) (xG q)+1)
section
variable {P:Program} {ops:Array Oper} {Q:Exit→Act→World→Prop} {md:Region.Mode}
def l8 (S:World→Prop) (next:Act→World→Prop) (Q:Exit→Act→World→Prop):Exit→Act→World→Prop
 | .normal,a,w=>S w∧next a w
 | e,a,w=>Q e a w
def wg (P:Program) (ops:Array Oper) (C:World→World→Prop) (Q:Exit→Act→World→Prop):Plan→World→Act→World→Prop
 | .last seg,c,a,w=>wpQuiet P ops (C c) (fun a'=>Q .normal a' w) (zB ops seg) a
 | .call seg k next,c,a,w=>wpQuiet P ops (C c) (fun a'=>wpList P ops (l8 (C c) (fun a'' w'=>wg P ops C Q next w' a'' w') Q) (zB ops [k]) a' w) (zB ops seg) a
 | .two seg k l p q,c,a,w=>wpQuiet P ops (C c) (fun a'=>wpList P ops (l8 (C c) (fun a'' w'=>wg P ops C Q p w' a'' w') Q) (zB ops [k]) a' w ∧
  wpList P ops (l8 (C c) (fun a'' w'=>wg P ops C Q q w' a'' w') Q) (zB ops [l]) a' w) (zB ops seg) a
theorem so {S S':World→Prop} (hS:∀ w,S' w→S w):∀ (fuel:Nat) (l:Array Bool) (a:Act) (w:World),wpAnyH P md ops Q S' fuel l a w→wpAnyH P md ops Q S fuel l a w
 | 0,_,_,_,h=>h
 | fuel+1,_,_,_,h=>⟨h.1,fun i hi=>wpOp_mono (fun a' w' h'=>⟨hS _ h'.1,so hS fuel _ a' w' h'.2⟩) (h.2 i hi)⟩
theorem sh {S:World→Prop} {f:Array Bool→Bool} {T:Act→Prop} (hs:Region.noSelect ops=true) (hQ:∀ c a d v w,Q (.panic c) (Act.put a d v) w→Q (.panic c) a w) (fuel:Nat) {w:World} (hS:S w)
 (hT:∀ l a,f l=true→T a→wpAnyH P md ops Q S fuel l a w):∀ (seg:List Nat) (l:Array Bool) (a:Act),ru md ops f seg l=true→wpQuiet P ops S T (zB ops seg) a→wpAnyH P md ops Q S (seg.length+fuel) l a w
 | [],l,a,hf,h=>by
  simp only [List.length_nil,Nat.zero_add];exact hT l a hf h
 | i::is,l,a,hf,h=>by
  simp only [ru,Bool.and_eq_true] at hf;obtain ⟨hr,hfr,hp,hrest⟩:=hf
  obtain ⟨o,ho⟩:∃ o,ops[i]?=some o:=by
   have:=(mem_ready.1 (by simpa using hr:i∈Region.ready md ops l)).2;exact ⟨this.choose,this.choose_spec.1⟩
  rw [ho] at hp;(have e:zB ops (i::is)=o::zB ops is:=by simp [zB,ho]);rw [e] at h;(have hlen:(i::is).length+fuel=(is.length+fuel)+1:=by simp only [List.length_cons]; omega);rw [hlen];unfold wpQuiet at h;by_cases hw:Region.wanted o (yielded ops a.tmps)=true
  ·rw [if_pos hw] at h;obtain ⟨v,hv,hk⟩:=h;exact wpAnyH_take ho hs hfr hr (fun c a w=>hQ c a _ _ w) (.inl ⟨hw,fun w' hw'=>ie hp (hv w' hw')⟩) hS (sh hs hQ fuel hS hT is _ _ hrest hk)
  ·rw [if_neg hw] at h;exact wpAnyH_take ho hs hfr hr (fun c a w=>hQ c a _ _ w) (.inr ⟨by simpa using hw,rfl⟩) hS (sh hs hQ fuel hS hT is _ _ hrest h)
theorem bF {K:Exit→Act→World→Prop} {k:Nat} {a:Act} {w:World} {o:Oper} (hk:ops[k]?=some o) (hc:∀ c a w,K (.panic c) a w=Q (.panic c) a w) (ho:∀ a w,K .outgrown a w=Q .outgrown a w) (h:wpList P ops K (zB ops [k]) a w):wpOp P ops Q k (K .normal) a w:=by
 unfold wpOp;simp only [hk];simp only [zB,List.map_cons,hk,List.map_nil,Option.getD_some] at h;unfold wpList at h;by_cases hw:Region.wanted o (yielded ops a.tmps)=true
 ·rw [if_pos hw] at h ⊢;rcases h with h | ⟨h1,h2⟩
  ·left;unfold Oper.wp at *;generalize (execOp a.eval o).run P w=r at *;cases r with
   | ok n w' =>
    cases n<;>simp only [Oper.upon] at h ⊢<;>first
     | exact h
     | (refine Calls.mono h fun e w'' he=>?_
        cases e with
        | returned v=>exact he
        | panicked c=>simp only [hc] at he; exact he
        | outgrown =>
         obtain ⟨a1,w1,h1⟩:=he
         rw [ho] at h1
         exact ⟨a1,w1,h1⟩)
     | exact Rows.mono h fun _ _ he=>he
   | halt x w' =>
    cases x<;>simp only [Oper.upon] at h ⊢<;>first
     | exact h
     | (rw [hc] at h; exact h)
  ·right;obtain ⟨a1,w1,h2⟩:=h2;rw [ho] at h2;exact ⟨h1,a1,w1,h2⟩
 ·rw [if_neg hw] at h ⊢;exact h
theorem sW {C:World→World→Prop} (ht:∀ c w u,C c w→C w u→C c u) (hrf:∀ c w,C c w→C w w) (hs:Region.noSelect ops=true) (hQ:∀ c a d v w,Q (.panic c) (Act.put a d v) w→Q (.panic c) a w) :
 ∀ (p:Plan) (c:World) (l:Array Bool) (a:Act) (w:World) (fuel:Nat),qH md ops p l=true→xG p≤fuel→C c w→wg P ops C Q p c a w→wpAnyH P md ops Q (C c) fuel l a w
 | .last seg,c,l,a,w,fuel,hp,hf,hc,h=>by
  obtain ⟨m,rfl⟩:∃ m,fuel=seg.length+m:=⟨fuel - seg.length,by simp only [xG] at hf; omega⟩;exact sh hs hQ m hc (fun l' a' hl ha=>wpAnyH_done (by simpa using hl) ha m) seg l a hp h
 | .call seg k next,c,l,a,w,fuel,hp,hf,hc,h=>by
  obtain ⟨m,rfl⟩:∃ m,fuel=seg.length+(m+1):=⟨fuel - seg.length - 1,by simp only [xG] at hf; omega⟩;refine sh hs hQ (m+1) hc (fun l' a' hl ha=>?_) seg l a hp h;simp only [Bool.and_eq_true,beq_iff_eq] at hl;refine wpAnyH_all hl.1 (by simp) (fun i hi=>?_);(obtain rfl:i=k:=by simpa using hi);obtain ⟨o,ho,-⟩:=(mem_ready.1 (show i∈Region.ready md ops l' by rw [hl.1]; exact hi)).2;refine wpOp_mono (fun a2 w2 h2=>⟨h2.1,?_⟩) (bF (Q:=Q) ho (by intros; rfl) (by intros; rfl) ha);exact so (fun u hu=>ht c w2 u h2.1 hu) m _ _ _ (sW ht hrf hs hQ next w2 _ a2 w2 m hl.2 (by simp only [xG] at hf; omega) (hrf _ _ h2.1) h2.2)
 | .two seg k k2 p q,c,l,a,w,fuel,hp,hf,hc,h=>by
  obtain ⟨m,rfl⟩:∃ m,fuel=seg.length+(m+1):=⟨fuel - seg.length - 1,by simp only [xG] at hf; omega⟩;refine sh hs hQ (m+1) hc (fun l' a' hl ha=>?_) seg l a hp h;simp only [Bool.and_eq_true,beq_iff_eq] at hl;refine wpAnyH_all hl.1 (by simp) (fun i hi=>?_);obtain ⟨o,ho,-⟩:=(mem_ready.1 (show i∈Region.ready md ops l' by rw [hl.1]; exact hi)).2;(have hi2:i=k∨i=k2:=by simpa using hi);rcases hi2 with rfl | rfl
  ·refine wpOp_mono (fun a2 w2 h2=>⟨h2.1,?_⟩) (bF (Q:=Q) ho (by intros; rfl) (by intros; rfl) ha.1);exact so (fun u hu=>ht c w2 u h2.1 hu) m _ _ _ (sW ht hrf hs hQ p w2 _ a2 w2 m hl.2.1 (by simp only [xG] at hf; omega) (hrf _ _ h2.1) h2.2)
  ·refine wpOp_mono (fun a2 w2 h2=>⟨h2.1,?_⟩) (bF (Q:=Q) ho (by intros; rfl) (by intros; rfl) ha.2);exact so (fun u hu=>ht c w2 u h2.1 hu) m _ _ _ (sW ht hrf hs hQ q w2 _ a2 w2 m hl.2.2 (by simp only [xG] at hf; omega) (hrf _ _ h2.1) h2.2)
theorem t8 (C:World→World→Prop) (ht:∀ c w u,C c w→C w u→C c u) (hrf:∀ c w,C c w→C w w) (p:Plan) {id:Nat} {a:Act} {w:World} (h0:C w w.drew) (hm:P.follows .mixedOrders=true)
 (hQ:∀ c a d v w,Q (.panic c) (Act.put a d v) w→Q (.panic c) a w) (hP:(Region.noSelect ops&&qH .any ops p (Array.replicate ops.size false)&&decide (xG p≤ops.size))=true)
 (h:wg P ops C Q p w a w.drew):(Code.region id ops true).wp P Q a w:=by
 simp only [Bool.and_eq_true,decide_eq_true_eq] at hP
 exact wp_region_held (S:=C w) hm (sW ht hrf hP.1.1 hQ p w _ a _ ops.size hP.1.2 hP.2 h0 h)
end
def Grown (c u:World):Prop:=∃ z:BW c,u=z.v
theorem me {c u:World} (h:Below c.heap.size c u):∃ z:BW c,u=z.v:=⟨⟨u,h⟩,rfl⟩
theorem Grown.out {c u:World} (h:Grown c u):Below c.heap.size c u:=by
 obtain ⟨z,rfl⟩:=h;exact z.ok
theorem lH {P:Program} {ops:Array Oper} {Q:Exit→Act→World→Prop} (p:Plan) {id:Nat} {a:Act} {w:World} (hm:P.follows .mixedOrders=true)
 (hQ:∀ c a d v w,Q (.panic c) (Act.put a d v) w→Q (.panic c) a w) (hP:(Region.noSelect ops&&qH .any ops p (Array.replicate ops.size false)&&decide (xG p≤ops.size))=true)
 (h:wg P ops (fun c u=>∃ z:BW c,u=z.v) Q p w a w.drew):(Code.region id ops true).wp P Q a w :=
 t8 (fun c u=>∃ z:BW c,u=z.v) (fun c w u h k=>me (zC (Grown.out h) (Grown.out k))) (fun c w h=>me (Below.refl _ _)) p (me (Below.refl _ _).drew) hm hQ hP h
theorem zD {P:Program} {ops:Array Oper} {C:World→World→Prop} {Q:Exit→Act→World→Prop} {seg:List Nat} {k:Nat} {next:Plan} {c w:World} {a:Act}
 (h:wpQuiet P ops (C c) (fun a'=>wpList P ops (l8 (C c) (fun a'' w'=>wg P ops C Q next w' a'' w') Q) (zB ops [k]) a' w) (zB ops seg) a):wg P ops C Q (.call seg k next) c a w:=h
theorem uh {P:Program} {ops:Array Oper} {C:World→World→Prop} {Q:Exit→Act→World→Prop} {seg:List Nat} {k l:Nat} {p q:Plan} {c w:World} {a:Act}
 (h:wpQuiet P ops (C c) (fun a'=>wpList P ops (l8 (C c) (fun a'' w'=>wg P ops C Q p w' a'' w') Q) (zB ops [k]) a' w∧wpList P ops (l8 (C c) (fun a'' w'=>wg P ops C Q q w' a'' w') Q) (zB ops [l]) a' w) (zB ops seg) a) :
 wg P ops C Q (.two seg k l p q) c a w:=h
theorem zJ {P:Program} {ops:Array Oper} {C:World→World→Prop} {Q:Exit→Act→World→Prop} {seg:List Nat} {c w:World} {a:Act}
 (h:wpQuiet P ops (C c) (fun a'=>Q .normal a' w) (zB ops seg) a):wg P ops C Q (.last seg) c a w:=h
theorem ul {P:Program} {ops:Array Oper} {Q:Exit→Act→World→Prop} {p:Plan} {c w:World} {a:Act} (h1:Below c.heap.size c w) (h2:wg P ops (fun c u=>∃ z:BW c,u=z.v) Q p w a w) :
 l8 (fun u=>∃ z:BW c,u=z.v) (fun a'' w'=>wg P ops (fun c u=>∃ z:BW c,u=z.v) Q p w' a'' w') Q .normal a w:=⟨⟨⟨w,h1⟩,rfl⟩,h2⟩
structure SW (S:World→Prop) where
 v:World
 ok:S v
theorem YQ {P:Program} {ops:Array Oper} {Q:Exit→Act→World→Prop} (S:World→Prop) (p:Plan) {id:Nat} {a:Act} {w:World} (h0:S w.drew) (hm:P.follows .mixedOrders=true)
 (hQ:∀ c a d v w,Q (.panic c) (Act.put a d v) w→Q (.panic c) a w) (hP:(Region.noSelect ops&&qH .any ops p (Array.replicate ops.size false)&&decide (xG p≤ops.size))=true)
 (h:wg P ops (fun _ u=>∃ z:SW S,u=z.v) Q p w a w.drew):(Code.region id ops true).wp P Q a w :=
 t8 (fun _ u=>∃ z:SW S,u=z.v) (fun _ _ _ _ k=>k) (fun _ _ h=>h) p ⟨⟨_,h0⟩,rfl⟩ hm hQ hP h
theorem wpS {P:Program} {ops:Array Oper} {Q:Exit→Act→World→Prop} (S:World→Prop) (p:Plan) {id:Nat} {a:Act} {w:World} (h:Nonempty (SW S)→wg P ops (fun _ u=>∃ z:SW S,u=z.v) Q p w a w.drew) (h0:S w.drew:=by assumption) (hm:P.follows .mixedOrders=true:=by kernel_rfl)
 (hQ:∀ c a d v w,Q (.panic c) (Act.put a d v) w→Q (.panic c) a w:=by intro _ _ d _ _ h; cases d<;>exact h) (hP:(Region.noSelect ops&&qH .any ops p (Array.replicate ops.size false)&&decide (xG p≤ops.size))=true:=by kernel_rfl):(Code.region id ops true).wp P Q a w:=YQ S p h0 hm hQ hP (h ⟨⟨_,h0⟩⟩)
theorem pka:type_of% @List.map_cons:=@List.map_cons
theorem pkb:type_of% @List.map_nil:=@List.map_nil
theorem pkc:type_of% @List.getElem?_toArray:=@List.getElem?_toArray
theorem pkd:type_of% @List.getElem?_cons_zero:=@List.getElem?_cons_zero
theorem pke:type_of% @List.getElem?_cons_succ:=@List.getElem?_cons_succ
theorem pkf:type_of% @Option.getD_some:=@Option.getD_some
theorem zE {P:Program} {ops:Array Oper} {Q:Exit→Act→World→Prop} {S:World→Prop} {p:Plan} {w:World} {a:Act} (h1:S w) (h2:wg P ops (fun _ u=>∃ z:SW S,u=z.v) Q p w a w) :
 l8 (fun u=>∃ z:SW S,u=z.v) (fun a'' w'=>wg P ops (fun _ u=>∃ z:SW S,u=z.v) Q p w' a'' w') Q .normal a w:=⟨⟨⟨w,h1⟩,rfl⟩,h2⟩
instance:Inhabited SpanL:=⟨⟨rR,ig⟩⟩
def inB (f t:CutL) (s:SpanL):Bool:=decide (Xc s.fr f≤0)&&decide (Xc t s.til≤0)
instance:Inhabited CutL:=⟨rR⟩
theorem ee:rR.fit:=by simp [CutL.fit,Ver.fit,rR,xD]; decide
theorem cZ:ig.fit:=by simp [CutL.fit,Ver.fit,ig,xD]; decide
theorem mi:bts ⟨#[]⟩=[]:=by rw [bts,yX]
theorem pD {a:Ver} (h:yF a=true):xX a a=0:=(oh h h).2 ⟨rfl,rfl,rfl,rfl⟩
theorem Xu {a b:CutL} (h1:fB a=true) (h2:fB b=true) (h:a.en≠0∨b.en≠0):Xc a b=xT a.en b.en:=by rw [WB h1 h2,if_pos h]
theorem kt:fB rR=true:=by rw [fK (.inl rfl),show rR.v=xD from rfl,rC.2 rfl]; rfl
theorem fp:fB ig=true:=by rw [fK (.inr rfl),show ig.v=xD from rfl,rC.2 rfl]; rfl
theorem aT:Xc rR ig < 0:=by
 rw [Xu kt fp (by simp [rR]),tO]; decide
namespace Rw
def lt (a b:CutL):Prop:=fB a=true∧fB b=true∧Xc a b < 0
section
variable {a b c d:CutL}
end
section
end
section
theorem spanMay_iff {s:SpanL}:iJ s=true↔lt s.fr s.til:=by
 simp [iJ,lt,and_assoc]
section
end
end
end Rw
namespace Rw
variable {a b c:List SpanL}
variable {v:Ver}
end Rw
theorem uc (g:Nat):∀ (vs:List Value) (o:Nat) (w:World),(w.setCells g o vs).heap.size=w.heap.size
 | [],_,_=>rfl
 | v::vs,o,w=>by rw [World.setCells,uc g vs (o+1)]; simp [World.setCell]
theorem uG (g k:Nat) (hk:k≠g):∀ (vs:List Value) (o:Nat) (w:World),(w.setCells g o vs).heap[k]?=w.heap[k]?
 | [],_,_=>rfl
 | v::vs,o,w=>by rw [World.setCells,uG g k hk vs (o+1)]; exact Go.RowKit.Below.heap_setCell w ⟨g,o,none⟩ v k hk
theorem lD {a b c:World} {row:Option Nat} (h:a.grownBy b row) (k:b.grownBy c row):a.grownBy c row :=
 ⟨k.os.trans h.os,k.tape.trans h.tape,k.output.trans h.output,Nat.le_trans h.size k.size,fun i hi hr=>(k.block i (Nat.lt_of_lt_of_le hi h.size) hr).trans (h.block i hi hr)⟩
theorem Box.set {w:World} {g o:Nat} {cs vs:List Value} (h:Box w g cs) (ho:o+vs.length≤cs.length):Box (w.setCells g o vs) g (cs.take o++vs++cs.drop (o+vs.length)):=by
 refine ⟨by rw [uc]; exact h.1,fun j u hj=>?_⟩;(have hcell:∀ j,j < cs.length→∃ u,w.cell? ⟨g,j,none⟩=some u:=fun j hj=>⟨cs[j],h.2 j _ (List.getElem?_eq_getElem hj)⟩);rcases Nat.lt_or_ge j o with h1 | h1
 ·rw [World.cell?_setCells_out g vs o w ⟨g,j,none⟩ (fun _ _ => .inl h1)];rw [List.append_assoc,List.getElem?_append_left (by rw [List.length_take]; omega),List.getElem?_take_of_lt h1] at hj;exact h.2 j u hj
 ·(have hl:(cs.take o).length=o:=by rw [List.length_take]; omega);rcases Nat.lt_or_ge j (o+vs.length) with h2 | h2
  ·rw [List.getElem?_append_left (by rw [List.length_append]; omega),List.getElem?_append_right (by omega),hl] at hj;obtain ⟨i,rfl⟩:∃ i,j=o+i:=⟨j - o,by omega⟩;rw [Nat.add_sub_cancel_left] at hj;(have hi:i < vs.length:=by omega);rw [List.getElem?_eq_getElem hi] at hj;(injection hj with hj);rw [← hj];exact World.cell?_setCells_in g vs o w (fun q hq=>by obtain ⟨u,hu⟩:=hcell (o+q) (by omega); rw [hu]; rfl) i hi
  ·rw [World.cell?_setCells_out g vs o w ⟨g,j,none⟩ (fun _ _ => .inr h2)];rw [List.getElem?_append_right (by rw [List.length_append]; omega),List.length_append,hl,List.getElem?_drop] at hj;(have:o+vs.length+(j - (o+vs.length))=j:=by omega);rw [this] at hj;exact h.2 j u hj
theorem Box.block {w w':World} {g:Nat} {cs:List Value} (h:Box w g cs) (hs:w.heap.size≤w'.heap.size) (hb:w'.heap[g]?=w.heap[g]?):Box w' g cs :=
 ⟨Nat.lt_of_lt_of_le h.1 hs,fun j u hj=>(World.cell?_of_block (a:=⟨g,j,none⟩) hb).trans (h.2 j u hj)⟩
theorem Box.setOther {w:World} {g k o:Nat} {cs vs:List Value} (h:Box w g cs) (hk:g≠k):Box (w.setCells k o vs) g cs:=h.block (Nat.le_of_eq (uc k vs o w).symm) (uG k g hk vs o w)
theorem Box.grown {w w':World} {g:Nat} {cs:List Value} {row:Option Nat} (h:Box w g cs) (hg:w.grownBy w' row) (hne:some g≠row):Box w' g cs:=h.block hg.size (hg.block g h.1 hne)
def Soft (w:World) (g:Nat):Prop:=∀ j,w.frozen? ⟨g,j,none⟩=false
theorem Soft.new (w:World) (cs:Array Value) (t:TypeId):Soft (w.alloc (.cells cs t)) w.heap.size:=fun j=>by
 have h:(w.alloc (.cells cs t)).heap[w.heap.size]?=some (.cells cs t):=by
  show (w.heap.push _)[w.heap.size]?=_;simp
 simp only [World.frozen?,h];simp
theorem Soft.below {w w':World} {g:Nat} (h:Soft w g) (hg:g < w.heap.size) (hb:Below w.heap.size w w'):Soft w' g:=fun j=>(hb.frozen (p:=⟨g,j,none⟩) hg).trans (h j)
theorem Soft.set {w:World} {g k o:Nat} {vs:List Value} (h:Soft w g):Soft (w.setCells k o vs) g:=fun j=>(World.frozen?_setCells k vs o w _).trans (h j)
section
variable {P:Program} {w:World} {base size n bytes:Nat} {t e:TypeId} {v:Value} {xs:List Value}
theorem vu (E:EK P t e size bytes) {ops:Array Oper} {rest:List Oper} {o:Oper} {a:Act} {Q:Exit→Act→World→Prop} (hgd:o.guard=none) (s x:Operand)
 (ho:o.op = .call { callee := .builtin .append,args:=#[s,x],argTypes:=#[t,t] }) (news:List Value)
 (hown:w.ownsRow base e size v n xs) (hs:a.eval s=v) (hx:a.eval x = .slice (some ⟨w.heap.size,0,none⟩) 1 1) (hl:news.length=size) (h1:∀ u∈news,u.oneCell'=true)
 (hm:n+1≤maxLen) (hn:(n+1) * bytes≤140737488355328) (hbase:base≤w.heap.size)
 (h:∀ v' w',w'.ownsRow base e size v' (n+1) (xs++news)→Below base w w'→w.grownBy w' v.ownBlock→wpList P ops Q rest (a.put o.dst v') w') :
 wpList P ops Q (o::rest) a (w.alloc (.cells news.toArray e)):=by
 refine zW E hgd s x ho hs (hown.alloc _) hx ⟨by omega,(fun k=>by cases k),fun ad k j u hj=>?_⟩ h1 hm hn (by simp; omega) ?_
 ·(injection k with k);subst k
  have hz:∀ q:Nat,(Addr.mk w.heap.size 0 none).add q=⟨w.heap.size,q,none⟩:=by
   intro q;unfold Addr.add;split<;>simp_all
  rw [hz,World.cell?_alloc_at _ _ _ _ rfl];simpa using hj
 ·intro v' w' h2 h3 h4;exact h v' w' h2 (((Below.refl _ _).alloc hbase _).trans h3) (lD (World.grownBy_alloc w _ _) h4)
end
end Go.Proofs.YtiebekmefjbenaaGreatDoor
namespace Go.Proofs.YtiebekmefjbenaaGreatDoor
open Go.RowKit Go.Lib
abbrev Vq:={s:SpanL // s.fit∧iJ s=true}
instance:Inhabited Vq:=⟨⟨⟨rR,ig⟩,⟨ee,cZ⟩,Rw.spanMay_iff.2 ⟨kt,fp,aT⟩⟩⟩
end Go.Proofs.YtiebekmefjbenaaGreatDoor
namespace Go.Proofs.YtiebekmefjbenaaGreatDoor
open Go.RowKit Go.Lib
theorem zI {P:Program} {c:Code} {Q:Exit→Act→World→Prop} {a:Act} {w:World} (h:∀ w',w'=w→c.wp P Q a w'):c.wp P Q a w:=h w rfl
end Go.Proofs.YtiebekmefjbenaaGreatDoor
namespace Go.Proofs.YtiebekmefjbenaaGreatDoor
open Go.ChangeShapes Go.WideShapes Go.ChangeAt Go.RowKit
open Go.ChangeMaps (open_string shut_string)
theorem V3:ownKnob Tryz.prog.godebug=none:=by kernel_rfl
theorem X2:laidOutB Tryz.prog=true:=by kernel_rfl
theorem cd {W:World} {x:Addr} {zs:List Int} {len:Nat} (hl:len≤zs.length) (hcell:∀ i,i < zs.length→W.cell? (x.add i)=some (.int .i64 (zs.getD i 0))):IntsAt W (some x) (zs.take len)∧(zs.take len).length=len:=by
 (have hlen:(zs.take len).length=len:=by rw [List.length_take]; omega);refine ⟨?_,hlen⟩;rcases Nat.eq_zero_or_pos len with rfl | hpos
 ·exact .inl (by simp)
 ·obtain ⟨b,off,spot⟩:=x;have hc:=hcell 0 (by omega);(have hspot:spot=none:=by simpa [Addr.add] using World.cell?_spot hc);subst hspot;refine .inr ⟨b,off,rfl,World.block_lt_of_cell? W _ (by simpa [Addr.add] using hc),fun i hi=>?_⟩;have:=hcell i (by omega)
  have e:(zs.take len).getD i 0=zs.getD i 0:=by
   rw [hlen] at hi;simp [List.getD_eq_getElem?_getD,List.getElem?_take_of_lt hi]
  rw [e,← uR]; exact this
section
variable {H:Type} {enc:TypeId × Value→H} {W:World} {base:Nat} {held:Bool}
theorem oW {a:Option Addr} {len cap:Nat} {d:DataW H} {p:List MemPlace} (h:DataW.Trod enc Tryz.prog W base (fun _=>true) held 22 (.slice a len cap) d p):∃ z:List Int,z.length=len∧IntsAt W a z∧z.length≤9223372036854775807:=by
 obtain ⟨fuel,hf⟩:=h;rcases open_ints Tryz.underlying22 Tryz.underlying3 (by kernel_rfl) hf with ⟨hcs,_⟩ | ⟨x,l,c,zs,hcs,_,hl,hm,hz,_,hcell,_⟩
 ·simp [Value.cells] at hcs;obtain ⟨rfl,rfl,rfl⟩:=hcs;exact ⟨[],rfl,.inl rfl,by simp⟩
 ·simp [Value.cells] at hcs;obtain ⟨rfl,rfl,rfl⟩:=hcs;(have hz':zs.length=cap:=by simpa using hz);obtain ⟨h1,h2⟩:=cd (x:=x) (len:=len) (by omega) hcell;unfold maxLen at hm;exact ⟨_,h2,h1,by omega⟩
end
end Go.Proofs.YtiebekmefjbenaaGreatDoor
namespace Go.Proofs.YtiebekmefjbenaaGreatDoor
open Go.ChangeShapes Go.WideShapes Go.ChangeAt Go.RowKit Go.Deep Go.Joins
open Go.ChangeMaps (open_string shut_string)
section
variable {H:Type} {enc:TypeId × Value→H} {W:World} {base n:Nat} {spare:Nat→Bool} {held:Bool} {cs:List Value} {x:DataW H × List MemPlace}
end
section
variable {H:Type} {enc:TypeId × Value→H} {W:World} {base:Nat} {held:Bool}
end
end Go.Proofs.YtiebekmefjbenaaGreatDoor
namespace Go.Proofs.YtiebekmefjbenaaGreatDoor
open Go.RowKit Go.Lib
inductive NextIs (v:Ver):Ver × Bool→Prop
 | pat:v.pat < 9999→NextIs v (⟨v.maj,v.min,v.pat+1,⟨#[]⟩,⟨#[]⟩⟩,true)
 | min:v.pat=9999→v.min < 9999→NextIs v (⟨v.maj,v.min+1,0,⟨#[]⟩,⟨#[]⟩⟩,true)
 | maj:v.pat=9999→v.min=9999→v.maj < 9999→NextIs v (⟨v.maj+1,0,0,⟨#[]⟩,⟨#[]⟩⟩,true)
 | no:v.pat=9999→v.min=9999→v.maj=9999→NextIs v (xD,false)
theorem iB {v:Ver} {r:Ver × Bool} (hn:NextIs v r) (h:r.2=false):v.pat=9999∧v.min=9999∧v.maj=9999:=by
 cases hn with
 | pat a=>cases h
 | min a b=>cases h
 | maj a b c=>cases h
 | no a b c=>exact ⟨a,b,c⟩
section
variable {P:Program} {fn:Func} {R:Ending→World→Prop} {a:Act} {w:World} {v:Value} {g:Nat}
end
def Vl (w:World):Prop:=Box w 0 xD.cells
theorem Vl.below {w w':World} (h:Vl w) (hb:Below w.heap.size w w'):Vl w':=Box.below h hb
namespace Rw
variable {a b:List SpanL}
end Rw
open Rw
variable {l m p q:List SpanL}
section
variable {n n2:Nat} {w:World} {A B C D:Option Addr} {l m p q:List SpanL} {v:Ver}
end
end Go.Proofs.YtiebekmefjbenaaGreatDoor
namespace Go.Proofs.YtiebekmefjbenaaGreatDoor
open Go.RowKit Go.Lib
end Go.Proofs.YtiebekmefjbenaaGreatDoor
namespace Go.Proofs.YtiebekmefjbenaaGreatDoor
open Go.RowKit Go.Lib
open Rw
section
variable {n n2:Nat} {w:World} {A B C D:Option Addr} {l m p q:List SpanL} {v:Ver}
end
section
variable {P:Program} {w:World} {base size n bytes:Nat} {t e:TypeId} {v:Value} {xs:List Value}
theorem gI (E:EK P t e size bytes) (ty:TypeId) (hown:w.ownsRow base e size v n xs) {ad:Addr} {m c:Nat} {news:List Value} (hl:news.length=m * size) (hnews:∀ j u,news[j]?=some u→w.cell? (ad.add j)=some u) (h1:∀ u∈news,u.oneCell'=true)
 (hm:0 < m) (h63:n+m≤maxLen) (hb:(n+m) * bytes≤140737488355328) (hbase:base≤w.heap.size) :
 ∃ v' w',(Builtin.append_ #[t,t] ty #[v,.slice (some ad) m c]).run P w = .ok v' w'∧w'.ownsRow base e size v' (n+m) (xs++news)∧Below base w w'∧w.grownBy w' v.ownBlock∧(∀ k,v'.ownBlock=some k→v.ownBlock=some k∨k=w.heap.size):=by
 obtain ⟨i,z,hi,hz0,hz1,hz2,hz3⟩:=E.info
 obtain ⟨g,cap,w',hr,h2,h3,h4,_⟩:=run_append_lies (P:=P) w t ty base e i z size bytes E.ht hi hz0 hz1 hz2 hz3 E.pos v n xs hown ad m c news hl hnews h1 hm h63 hb hbase _ rfl
 refine ⟨_,w',hr,h2,(Below.refl _ _).grown h3 (qF E ty hown hl hnews h1 h63 hb hr) hbase (fun k hk=>(hown.lt k hk).1),h3,fun k hk=>?_⟩
 have:k=g:=by simpa [Value.ownBlock,eq_comm] using hk
 rw [this]; exact h4
theorem wI (E:EK P t e size bytes) {ops:Array Oper} {rest:List Oper} {o:Oper} {a:Act} {Q:Exit→Act→World→Prop} (hgd:o.guard=none) (s x:Operand)
 (ho:o.op = .call { callee := .builtin .append,args:=#[s,x],argTypes:=#[t,t] }) (news:List Value)
 (hown:w.ownsRow base e size v n xs) (hs:a.eval s=v) (hx:a.eval x = .slice (some ⟨w.heap.size,0,none⟩) 1 1) (hl:news.length=size) (h1:∀ u∈news,u.oneCell'=true)
 (hm:n+1≤maxLen) (hn:(n+1) * bytes≤140737488355328) (hbase:base≤w.heap.size)
 (h:∀ v' w',w'.ownsRow base e size v' (n+1) (xs++news)→Below base w w'→w.grownBy w' v.ownBlock→(∀ k,v'.ownBlock=some k→v.ownBlock=some k∨w.heap.size≤k)→wpList P ops Q rest (a.put o.dst v') w') :
 wpList P ops Q (o::rest) a (w.alloc (.cells news.toArray e)):=by
 refine wpList_plain hgd fun _ hK=>?_
 obtain ⟨v',w',hrun,h2,h3,h4,h5⟩:=gI (P:=P) (w:=w.alloc (.cells news.toArray e)) E o.type (hown.alloc _) (ad:=⟨w.heap.size,0,none⟩) (m:=1) (c:=1) (news:=news) (by omega) (fun j u hj=>by
  have hz:(⟨w.heap.size,0,none⟩:Addr).add j=⟨w.heap.size,j,none⟩:=by
   unfold Addr.add;split<;>simp_all
  rw [hz,World.cell?_alloc_at _ _ _ _ rfl]
  simpa using hj) h1 (by omega) hm hn (by simp; omega)
 unfold Oper.wp execOp
 simp only [ho,resolve,invoke,builtin,Sem.run_bind,Sem.run_pure,Result.andThen_ok,List.map_toArray,List.map_cons,List.map_nil,hs,hx,hrun]
 refine hK _ _ (h v' w' h2 (((Below.refl _ _).alloc hbase _).trans h3) (lD (World.grownBy_alloc w _ _) h4) fun k hk=>(h5 k hk).imp id fun h=>?_)
 rw [h]; simp
end
end Go.Proofs.YtiebekmefjbenaaGreatDoor
