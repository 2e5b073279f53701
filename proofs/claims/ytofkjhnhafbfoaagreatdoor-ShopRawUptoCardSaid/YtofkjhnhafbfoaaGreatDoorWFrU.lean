import Derived.Deep.DeepHandedRow
import Derived.MakeChecks
import Derived.Test.YtofkjhnhafbfoaaGreatDoorWFrameE
import Derived.Test.YtofkjhnhafbfoaaGreatDoorWFrameV
import Derived.Test.YtofkjhnhafbfoaaGreatDoorWLd
set_option linter.unusedVariables false
set_option linter.unusedSimpArgs false
set_option maxRecDepth 100000
namespace Go.Proofs.YtofkjhnhafbfoaaGreatDoor
open Go.ChangeShapes Go.WideShapes Go.ChangeAt Go.RowKit Go.Deep Go.Joins
open Go.ChangeMaps (open_string shut_string)
section
variable {H:Type} {enc:TypeId × Value→H} {W:World} {base:Nat} {held:Bool}
theorem bulk_part {d:DataW H}:∀ {l:List (DataW H)},d∈l→Rows.uptoBulk d≤Rows.uptoBulkAll l
 | [],h=>by cases h
 | x::l,h=>by
  simp only [Rows.uptoBulkAll];rcases List.mem_cons.1 h with rfl | h
  ·omega
  ·have:=bulk_part h; omega
abbrev Light (_:TypeId) (d:DataW H):Prop:=Rows.uptoBulk d≤1048576
theorem light_at {t:TypeId} {fs:Array Field} {x:DataW H} {xs:List (DataW H × List MemPlace)} (_:Tryz.prog.underlying t=some (.struct fs)) (hx:x = .agg (xs.map (·.1))) (hl:Light t x) {i:Nat} {f:Field} {y:DataW H × List MemPlace} (_:fs[i]?=some f) (hy:xs[i]?=some y):Light f.type y.1:=by
 unfold Light at *;rw [hx] at hl;simp only [Rows.uptoBulk] at hl;have:=bulk_part (d:=y.1) (l:=xs.map (·.1)) (List.mem_map.2 ⟨y,List.mem_of_getElem? hy,rfl⟩);omega
theorem str_light {n:Nat} {c:Value} {x:DataW H × List MemPlace} (h:DataW.trod enc Tryz.prog W base (fun _=>true) held n 9 [c]=some x) (hl:Light 9 x.1):∃ s:ByteArray,c = .string s∧s.size≤1048576:=by
 obtain ⟨s,e,f,_⟩:=DataW.trod_string Tryz.underlying9 h;simp only [List.cons.injEq,and_true] at e;refine ⟨s,e,?_⟩;unfold Light at hl;rw [f] at hl;simp only [Rows.uptoBulk,Array.length_toList] at hl;have:s.data.size=s.size:=rfl;omega
abbrev ElOkP {α:Type} (enc:TypeId × Value→H) (W:World) (base:Nat) (held:Bool) (e:TypeId) (k:Nat) (At:World→Nat→Nat→α→Prop) (Pr:α→Prop):Prop :=
 ∀ (m:Nat) (cs:List Value) (y:DataW H × List MemPlace),DataW.trod enc Tryz.prog W base (fun _=>true) held m e cs=some y→Light e y.1→∃ a:α,cs.length=k∧Pr a∧∀ b o,(∀ j u,cs[j]?=some u→W.cell? ⟨b,o+j,none⟩=some u)→At W b o a
theorem row_cellsP {α:Type} {t e:TypeId} {k n:Nat} {At:World→Nat→Nat→α→Prop} {Pr:α→Prop} {c0:Value} {x:DataW H × List MemPlace} (ht:Tryz.prog.underlying t=some (.slice e)) (hk:Tryz.prog.cellsOf e=k) (hk0:0 < k)
 (hel:ElOkP enc W base held e k At Pr) (h:DataW.trod enc Tryz.prog W base (fun _=>true) held n t [c0]=some x) (hL:Light t x.1):∃ a len cap,c0 = .slice a len cap∧∃ l:List α,l.length=len∧RowOf k At W a l∧l.length≤9223372036854775807∧len≤cap∧∀ y∈l,Pr y:=by
 rcases open_slice ht h with ⟨hcs,_⟩ | ⟨x,len,c,m,n,D,Pl,hcs,_,hl,hm,hmm,hx,hi⟩
 ·exact ⟨none,0,0,by simpa using hcs,[],rfl,.inl rfl,by simp,Nat.le_refl _,fun y hy=>by simp at hy⟩
 ·refine ⟨some x,len,c,by simpa using hcs,?_⟩;(have hm':m=c:=by simpa using hmm);subst hm'
  have hs:∀ i:Fin len,∃ a:α,Pr a∧∃ cs':List Value,cs'.length=k∧(∀ j u,cs'[j]?=some u→W.cell? (x.add (i.1 * k+j))=some u)∧∀ b o,(∀ j u,cs'[j]?=some u→W.cell? ⟨b,o+j,none⟩=some u)→At W b o a:=fun i=>by
   obtain ⟨cs',h1,h2⟩:=hi i.1 (by have:=i.2; omega)
   obtain ⟨a,hlen,hp,ha⟩:=hel _ _ _ h2 (by
    unfold Light at *;rw [hx] at hL;simp only [Rows.uptoBulk] at hL;have:=bulk_part (d:=D i.1) (l:=(List.range len).map D) (List.mem_map.2 ⟨i.1,List.mem_range.2 i.2,rfl⟩)
    exact Nat.le_trans this (by omega))
   obtain ⟨_,h3,h4⟩:=World.cells?_some h1;refine ⟨a,hp,cs',hlen,fun j u hj=>?_,ha⟩
   have hjk:j < k:=by
    rcases Nat.lt_or_ge j k with h' | h'
    ·exact h'
    ·rw [List.getElem?_eq_none (by omega)] at hj; cases hj
   have:=h4 j (by rw [hk]; exact hjk);rw [hk,Go.Deep.add_add,hj] at this;exact this
  unfold maxLen at hm;refine ⟨List.ofFn fun i=>Classical.choose (hs i),List.length_ofFn,?_,by rw [List.length_ofFn]; omega,by omega,fun y hy=>?_⟩
  ·rcases Nat.eq_zero_or_pos len with rfl | hpos
   ·exact .inl (by simp)
   ·obtain ⟨b,off,spot⟩:=x;obtain ⟨-,cs0,hl0,hc0,-⟩:=Classical.choose_spec (hs ⟨0,hpos⟩);have hcell:=hc0 0 cs0[0] (List.getElem?_eq_getElem (by omega));(have hspot:spot=none:=by simpa [Addr.add] using World.cell?_spot hcell);subst hspot;refine .inr ⟨b,off,rfl,World.block_lt_of_cell? W _ (by simpa [Addr.add] using hcell),fun i hi'=>?_⟩;rw [List.getElem_ofFn];obtain ⟨-,cs1,hl1,hc1,ha⟩:=Classical.choose_spec (hs ⟨i,by simpa using hi'⟩);(refine ha b (off+i * k) fun j u hj=>?_);have:=hc1 j u hj
    rwa [uR,← Nat.add_assoc] at this
  ·obtain ⟨i,rfl⟩:=List.mem_ofFn.1 hy;exact (Classical.choose_spec (hs i)).1
def SizedV (v:Ver):Prop:=v.pre.size≤1048576∧v.bld.size≤1048576
def NeedSz (n:NeedL):Prop:=n.whn.size≤1048576∧n.opt.size≤1048576
def SizedR (r:RecL):Prop:=r.name.size≤1048576∧SizedV r.v∧(∀ f∈r.feats,yP f)∧∀ n∈r.needs,NeedSz n
theorem need_elP:ElOkP enc W base held 70 3 NeedAt NeedSz:=fun m cs y h hL=>by
 obtain ⟨xs,n',_,hx,hcl,hxl,hf⟩:=DataW.trod_struct Tryz.underlying70 h;rw [cellsNe] at hcl;have hx1:y.1 = .agg (xs.map (·.1)):=by rw [hx]
 match cs,hcl,xs,hxl,hx1 with
 | [c0,c1,c2],_,[y0,y1,y2],_,hx1 =>
  have h0:=hf 0 _ rfl;have h1:=hf 1 _ rfl;have h2:=hf 2 _ rfl;simp [cellsWis] at h0;simp [cellsSt] at h1 h2;have L1:=light_at (i:=1) Tryz.underlying70 hx1 hL rfl rfl;have L2:=light_at (i:=2) Tryz.underlying70 hx1 hL rfl rfl;obtain ⟨a,len,cap,e0,l,rfl,g1,g2⟩:=wishes_cells h0;obtain ⟨s1,e1,z1⟩:=str_light h1 L1;obtain ⟨s2,e2,z2⟩:=str_light h2 L2;subst e0; subst e1; subst e2;exact ⟨⟨l,s1,s2⟩,rfl,⟨z1,z2⟩,fun b o hc=>⟨⟨a,cap,by have:=hc 0 _ rfl; rwa [Nat.add_zero] at this,g1,g2⟩,hc 1 _ rfl,hc 2 _ rfl⟩⟩
theorem needs_cellsP {n:Nat} {c0:Value} {x:DataW H × List MemPlace} (h:DataW.trod enc Tryz.prog W base (fun _=>true) held n 27 [c0]=some x) (hL:Light 27 x.1):∃ a len cap,c0 = .slice a len cap∧∃ l:List NeedL,l.length=len∧RowOf 3 NeedAt W a l∧l.length≤9223372036854775807∧len≤cap∧∀ y∈l,NeedSz y :=
 row_cellsP Tryz.underlying27 cellsNe (by decide) need_elP h hL
theorem text_elP:ElOkP enc W base held 9 1 TextAt (fun s:ByteArray=>s.size≤1048576):=fun m cs y h hL=>by
 obtain ⟨s,rfl,f,_⟩:=DataW.trod_string Tryz.underlying9 h;obtain ⟨s2,e2,hs⟩:=str_light h hL;(injection e2 with e2);subst e2;exact ⟨s,rfl,hs,fun b o hc=>by have:=hc 0 _ rfl; rwa [Nat.add_zero] at this⟩
theorem texts_cellsP {n:Nat} {c0:Value} {x:DataW H × List MemPlace} (h:DataW.trod enc Tryz.prog W base (fun _=>true) held n 107 [c0]=some x) (hL:Light 107 x.1):∃ a len cap,c0 = .slice a len cap∧∃ l:List ByteArray,l.length=len∧Texts W a l∧l.length≤9223372036854775807∧len≤cap∧∀ y∈l,y.size≤1048576 :=
 row_cellsP Tryz.underlying107 cellsSt (by decide) text_elP h hL
theorem feat_elP:ElOkP enc W base held 114 2 FeatAt yP:=fun m cs y h hL=>by
 obtain ⟨xs,n',_,hx,hcl,hxl,hf⟩:=DataW.trod_struct Tryz.underlying114 h;rw [cellsFt] at hcl;have hx1:y.1 = .agg (xs.map (·.1)):=by rw [hx]
 match cs,hcl,xs,hxl,hx1 with
 | [c0,c1],_,[y0,y1],_,hx1 =>
  have h0:=hf 0 _ rfl;have h1:=hf 1 _ rfl;simp [cellsSt] at h0;simp [cellsTs] at h1;have L0:=light_at (i:=0) Tryz.underlying114 hx1 hL rfl rfl;have L1:=light_at (i:=1) Tryz.underlying114 hx1 hL rfl rfl;obtain ⟨s0,e0,-⟩:=str_light h0 L0;obtain ⟨a,len,cap,e1,l,rfl,hl,hm,-,hsz⟩:=texts_cellsP h1 L1;subst e0; subst e1;exact ⟨⟨s0,l⟩,rfl,fun s hs=>Nat.le_trans (hsz s hs) (by decide),fun b o hc=>⟨by have:=hc 0 _ rfl; rwa [Nat.add_zero] at this,a,cap,hc 1 _ rfl,hl,hm⟩⟩
theorem feats_cellsP {n:Nat} {c0:Value} {x:DataW H × List MemPlace} (h:DataW.trod enc Tryz.prog W base (fun _=>true) held n 29 [c0]=some x) (hL:Light 29 x.1):∃ a len cap,c0 = .slice a len cap∧∃ l:List FeatL,l.length=len∧RowOf 2 FeatAt W a l∧l.length≤9223372036854775807∧len≤cap∧∀ y∈l,yP y :=
 row_cellsP Tryz.underlying29 cellsFt (by decide) feat_elP h hL
theorem ver_ofP {n:Nat} {cs:List Value} {x:DataW H × List MemPlace} (h:DataW.trod enc Tryz.prog W base (fun _=>true) held n 26 cs=some x) (hL:Light 26 x.1):∃ v:Ver,cs=v.cells∧SizedV v:=by
 obtain ⟨xs,n',_,hx,hcl,hxl,hf⟩:=DataW.trod_struct Tryz.underlying26 h;rw [cellsVe] at hcl;have hx1:x.1 = .agg (xs.map (·.1)):=by rw [hx]
 match cs,hcl,xs,hxl,hx1 with
 | [c0,c1,c2,c3,c4],_,[y0,y1,y2,y3,y4],_,hx1 =>
  have h0:=hf 0 _ rfl;have h1:=hf 1 _ rfl;have h2:=hf 2 _ rfl;have h3:=hf 3 _ rfl;have h4:=hf 4 _ rfl;simp [cellsI] at h0 h1 h2;simp [cellsSt] at h3 h4;have L3:=light_at (i:=3) Tryz.underlying26 hx1 hL rfl rfl;have L4:=light_at (i:=4) Tryz.underlying26 hx1 hL rfl rfl;obtain ⟨m0,e0,_⟩:=DataW.trod_int Tryz.underlying3 h0;obtain ⟨m1,e1,_⟩:=DataW.trod_int Tryz.underlying3 h1;obtain ⟨m2,e2,_⟩:=DataW.trod_int Tryz.underlying3 h2;obtain ⟨s3,e3,z3⟩:=str_light h3 L3;obtain ⟨s4,e4,z4⟩:=str_light h4 L4;simp only [List.cons.injEq,and_true] at e0 e1 e2;subst e0; subst e1; subst e2; subst e3; subst e4;exact ⟨⟨m0,m1,m2,s3,s4⟩,rfl,z3,z4⟩
theorem rec_ofP {m:Nat} {cs:List Value} {y:DataW H × List MemPlace} (h:DataW.trod enc Tryz.prog W base (fun _=>true) held m 31 cs=some y) (hL:Light 31 y.1):∃ (r:RecL) (hd:RecH),cs=r.cells hd∧RecLies W hd r∧SizedR r:=by
 obtain ⟨xs,n',_,hx,hcl,hxl,hf⟩:=DataW.trod_struct Tryz.underlying31 h;rw [cellsRe] at hcl;have hx1:y.1 = .agg (xs.map (·.1)):=by rw [hx]
 match cs,hcl,xs,hxl,hx1 with
 | [c0,c1,c2,c3,c4,c5,c6,c7,c8],_,[y0,y1,y2,y3,y4],_,hx1 =>
  have h0:=hf 0 _ rfl;have h1:=hf 1 _ rfl;have h2:=hf 2 _ rfl;have h3:=hf 3 _ rfl;have h4:=hf 4 _ rfl;simp [cellsSt] at h0;simp [cellsVe] at h1;simp [cellsNes] at h2;simp [cellsBrs] at h3;simp [cellsFts] at h4;have L0:=light_at (i:=0) Tryz.underlying31 hx1 hL rfl rfl;have L1:=light_at (i:=1) Tryz.underlying31 hx1 hL rfl rfl;obtain ⟨s0,e0,z0⟩:=str_light h0 L0;obtain ⟨v,e1,z1⟩:=ver_ofP h1 L1;have L2:=light_at (i:=2) Tryz.underlying31 hx1 hL rfl rfl;obtain ⟨a2,n2,k2,e2,l2,rfl,g2,b2,-,z2⟩:=needs_cellsP h2 L2;obtain ⟨a3,n3,k3,e3,l3,rfl,g3,b3⟩:=bars_cells h3;have L4:=light_at (i:=4) Tryz.underlying31 hx1 hL rfl rfl;obtain ⟨a4,n4,k4,e4,l4,rfl,g4,b4,-,z4⟩:=feats_cellsP h4 L4;simp only [List.cons.injEq,and_true] at e1;obtain ⟨p1,p2,p3,p4,p5⟩:=e1;subst e0; subst p1; subst p2; subst p3; subst p4; subst p5; subst e2; subst e3; subst e4;exact ⟨⟨s0,v,l2,l3,l4⟩,⟨a2,k2,a3,k3,a4,k4⟩,rfl,⟨g2,g3,g4,b2,b3,b4⟩,z0,z1,z4,z2⟩
theorem cellsU64e:Tryz.prog.cellsOf 33=1:=by kernel_rfl
theorem cellsEn:Tryz.prog.cellsOf 35=11:=by kernel_rfl
theorem cellsEns:Tryz.prog.cellsOf 22=1:=by kernel_rfl
theorem cellsSh:Tryz.prog.cellsOf 24=2:=by kernel_rfl
theorem entry_elP:ElOkP enc W base held 35 11 EntryAt (fun x=>SizedR x.rc):=fun m cs y h hL=>by
 obtain ⟨xs,n',_,hx,hcl,hxl,hf⟩:=DataW.trod_struct Tryz.underlying35 h;rw [cellsEn] at hcl;have hx1:y.1 = .agg (xs.map (·.1)):=by rw [hx]
 match cs,hcl,xs,hxl,hx1 with
 | [c0,c1,c2,c3,c4,c5,c6,c7,c8,c9,c10],_,[y0,y1,y2],_,hx1 =>
  have h0:=hf 0 _ rfl;have h1:=hf 1 _ rfl;have h2:=hf 2 _ rfl;simp [cellsRe] at h0;simp [cellsU64e] at h1;simp [cellsBo] at h2;have L0:=light_at (i:=0) Tryz.underlying35 hx1 hL rfl rfl;obtain ⟨r,hd,e0,hr,hz⟩:=rec_ofP h0 L0;obtain ⟨m1,e1,_⟩:=DataW.trod_int Tryz.underlying33 h1;obtain ⟨b,e2,_⟩:=DataW.trod_bool Tryz.underlying4 h2;simp only [List.cons.injEq,and_true] at e1 e2;refine ⟨⟨r,m1,b⟩,rfl,hz,fun bb o hc=>⟨hd,hr,fun j u hj=>?_,?_,?_⟩⟩
  ·refine hc j u ?_
   have hj9:j < 9:=by
    rcases Nat.lt_or_ge j 9 with k | k
    ·exact k
    ·rw [List.getElem?_eq_none (by simp; omega)] at hj; cases hj
   rw [← e0] at hj;rw [← hj,show [c0,c1,c2,c3,c4,c5,c6,c7,c8,c9,c10]=[c0,c1,c2,c3,c4,c5,c6,c7,c8]++[c9,c10] from rfl,List.getElem?_append_left (by simp; omega)]
  ·rw [← e1]; exact hc 9 _ rfl
  ·rw [← e2]; exact hc 10 _ rfl
theorem entries_cellsP {n:Nat} {c0:Value} {x:DataW H × List MemPlace} (h:DataW.trod enc Tryz.prog W base (fun _=>true) held n 22 [c0]=some x) (hL:Light 22 x.1):∃ a len cap,c0 = .slice a len cap∧∃ l:List EntryL,l.length=len∧yL W a l∧l.length≤9223372036854775807∧len≤cap∧∀ y∈l,SizedR y.rc :=
 row_cellsP Tryz.underlying22 cellsEn (by decide) entry_elP h hL
structure ShelfIn (W:World) (A:Option Addr) (c:Nat) (s:ShelfL):Prop where
 lies:yL W A s.entries
 cap:s.entries.length≤c
 ok:EntsOk s.entries
 name:s.name.size≤1048576
 sized:∀ x∈s.entries,SizedR x.rc
theorem sized_fit {v:Ver} (h:SizedV v):v.fit:=⟨Nat.le_trans h.1 (by decide),Nat.le_trans h.2 (by decide)⟩
theorem shelf_cellsP {m:Nat} {cs:List Value} {y:DataW H × List MemPlace} (h:DataW.trod enc Tryz.prog W base (fun _=>true) held m 24 cs=some y) (hL:Light 24 y.1):∃ (A:Option Addr) (c:Nat) (s:ShelfL),cs=[.string s.name,.slice A s.entries.length c]∧ShelfIn W A c s:=by
 obtain ⟨xs,n',_,hx,hcl,hxl,hf⟩:=DataW.trod_struct Tryz.underlying24 h;rw [cellsSh] at hcl;have hx1:y.1 = .agg (xs.map (·.1)):=by rw [hx]
 match cs,hcl,xs,hxl,hx1 with
 | [c0,c1],_,[y0,y1],_,hx1 =>
  have h0:=hf 0 _ rfl;have h1:=hf 1 _ rfl;simp [cellsSt] at h0;simp [cellsEns] at h1;have L0:=light_at (i:=0) Tryz.underlying24 hx1 hL rfl rfl;have L1:=light_at (i:=1) Tryz.underlying24 hx1 hL rfl rfl;obtain ⟨s0,e0,z0⟩:=str_light h0 L0;obtain ⟨a,n,k,e1,l,rfl,g1,g2,g3,g4⟩:=entries_cellsP h1 L1;subst e0; subst e1;exact ⟨a,k,⟨s0,l⟩,rfl,⟨g1,g3,⟨fun x hx=>sized_fit (g4 x hx).2.1,fun x hx=>(g4 x hx).2.2.1,g2⟩,z0,g4⟩⟩
theorem shelf_readP {b0:Nat} {r:Reach} {v:Value} {d:DataW H} {p:List MemPlace} (hv:Value.okWide Tryz.prog W r b0 24 v) (h:DataW.Trod enc Tryz.prog W base (fun _=>true) held 24 v d p) (hL:Light 24 d) :
 ∃ (A:Option Addr) (c:Nat) (s:ShelfL),v=s.val A c∧ShelfIn W A c s:=by
 obtain ⟨cs,rfl,_⟩:=okWide_struct Tryz.underlying24 hv
 obtain ⟨fuel,hf⟩:=h
 obtain ⟨A,c,s,hcs,hs⟩:=shelf_cellsP hf hL
 obtain ⟨l⟩:=cs
 simp only [Value.cells] at hcs
 subst hcs
 exact ⟨A,c,s,rfl,hs⟩
end
theorem witnessU {H:Type} {enc:TypeId × Value→H} {os:Os} {f:FuncId} {fn:Func} {s:OpenSpec} {conds:List PathCond} {apart:Bool} {laid:List (String × DataW Unit)} (args:Array Value)
 (hok:Input.okWideB Tryz.checked.prog ((World.laidAll Tryz.prog os rk).forCall (fun _ _=>0) ⟨#[],args,[]⟩) f ⟨#[],args,[]⟩=true)
 (hrow:s.preRow enc Tryz.checked.prog fn conds apart laid ((World.laidAll Tryz.prog os rk).forCall (fun _ _=>0) ⟨#[],args,[]⟩).memory args) :
 ∃ (w:World) (tape:Tape) (i:Input),w.os=os∧(w.forCall tape i).Shaped Tryz.checked.prog∧i.vars=[]∧Input.okWide Tryz.checked.prog (w.forCall tape i) .any w.heap.size f i ∧
  s.preRow enc Tryz.checked.prog fn conds apart laid (w.forCall tape i).memory i.args∧({}:Assume).holds Tryz.checked.prog (lone (Frame.enter Tryz.checked.prog f i.args .normal) [] (w.forCall tape i)) :=
 ⟨World.laidAll Tryz.prog os rk,fun _ _=>0,⟨#[],args,[]⟩,World.laidAll_os _ _ _,qV os _,(Input.okWide_of_okWideB (base:=0) hok).1,(Input.okWide_of_okWideB hok).2,hrow,by
  simp only [Assume.holds]
  exact ⟨by simp,by simp,fun _=>Modest.zero,by simp,by simp⟩⟩
section
variable {H:Type} {enc:TypeId × Value→H} {W:World} {base:Nat} {held:Bool}
theorem ver_readP {b0:Nat} {r:Reach} {v:Value} {d:DataW H} {p:List MemPlace} (hv:Value.okWide Tryz.prog W r b0 26 v) (h:DataW.Trod enc Tryz.prog W base (fun _=>true) held 26 v d p) (hL:Light 26 d):∃ x:Ver,v=x.val∧SizedV x:=by
 obtain ⟨cs,rfl,_⟩:=okWide_struct Tryz.underlying26 hv;obtain ⟨fuel,hf⟩:=h;obtain ⟨x,hcs,hs⟩:=ver_ofP hf hL;obtain ⟨l⟩:=cs;simp only [Value.cells] at hcs;subst hcs;exact ⟨x,rfl,hs⟩
theorem rec_readP {b0:Nat} {r:Reach} {v:Value} {d:DataW H} {p:List MemPlace} (hv:Value.okWide Tryz.prog W r b0 31 v) (h:DataW.Trod enc Tryz.prog W base (fun _=>true) held 31 v d p) (hL:Light 31 d):∃ (x:RecL) (hd:RecH),v=x.val hd∧RecLies W hd x∧SizedR x:=by
 obtain ⟨cs,rfl,_⟩:=okWide_struct Tryz.underlying31 hv;obtain ⟨fuel,hf⟩:=h;obtain ⟨x,hd,hcs,hs⟩:=rec_ofP hf hL;obtain ⟨l⟩:=cs;simp only [Value.cells] at hcs;subst hcs;exact ⟨x,hd,rfl,hs⟩
theorem str_sizeP {s:ByteArray} (hL:Light 9 (.lit (.string s.data.toList):DataW H)):s.size≤1048576:=by
 unfold Light at hL;simp only [Rows.uptoBulk,Array.length_toList] at hL;have:s.data.size=s.size:=rfl;omega
theorem bulk_cons {d:DataW H} {l:List (DataW H)} (h:Rows.uptoBulkAll (d::l)≤1048576):Rows.uptoBulk d≤1048576∧Rows.uptoBulkAll l≤1048576:=by
 simp only [Rows.uptoBulkAll] at h;omega
end
end Go.Proofs.YtofkjhnhafbfoaaGreatDoor
