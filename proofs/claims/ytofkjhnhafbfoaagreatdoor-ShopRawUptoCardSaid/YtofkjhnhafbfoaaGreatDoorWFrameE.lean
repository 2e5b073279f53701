import Derived.Test.YtofkjhnhafbfoaaGreatDoorWJh
set_option linter.unusedVariables false
set_option linter.unusedSimpArgs false
set_option maxRecDepth 100000
namespace Go.Proofs.YtofkjhnhafbfoaaGreatDoor
open Go.ChangeShapes Go.WideShapes Go.ChangeAt Go.RowKit Go.Deep Go.Joins
open Go.ChangeMaps (open_string shut_string)
section
variable {H:Type} {enc:TypeId × Value→H} {W:World} {base:Nat} {held:Bool}
abbrev ElOk {α:Type} (enc:TypeId × Value→H) (W:World) (base:Nat) (held:Bool) (e:TypeId) (k:Nat) (At:World→Nat→Nat→α→Prop):Prop :=
 ∀ (m:Nat) (cs:List Value) (y:DataW H × List MemPlace),DataW.trod enc Tryz.prog W base (fun _=>true) held m e cs=some y→∃ a:α,cs.length=k∧∀ b o,(∀ j u,cs[j]?=some u→W.cell? ⟨b,o+j,none⟩=some u)→At W b o a
theorem row_cellsC {α:Type} {t e:TypeId} {k n:Nat} {At:World→Nat→Nat→α→Prop} {c0:Value} {x:DataW H × List MemPlace} (ht:Tryz.prog.underlying t=some (.slice e)) (hk:Tryz.prog.cellsOf e=k) (hk0:0 < k)
 (hel:ElOk enc W base held e k At) (h:DataW.trod enc Tryz.prog W base (fun _=>true) held n t [c0]=some x):∃ a len cap,c0 = .slice a len cap∧∃ l:List α,l.length=len∧RowOf k At W a l∧l.length≤9223372036854775807∧len≤cap:=by
 rcases open_slice ht h with ⟨hcs,_⟩ | ⟨x,len,c,m,n,D,Pl,hcs,_,hl,hm,hmm,_,hi⟩
 ·exact ⟨none,0,0,by simpa using hcs,[],rfl,.inl rfl,by simp,Nat.le_refl _⟩
 ·refine ⟨some x,len,c,by simpa using hcs,?_⟩;(have hm':m=c:=by simpa using hmm);subst hm'
  have hs:∀ i:Fin len,∃ a:α,∃ cs':List Value,cs'.length=k∧(∀ j u,cs'[j]?=some u→W.cell? (x.add (i.1 * k+j))=some u)∧∀ b o,(∀ j u,cs'[j]?=some u→W.cell? ⟨b,o+j,none⟩=some u)→At W b o a:=fun i=>by
   obtain ⟨cs',h1,h2⟩:=hi i.1 (by have:=i.2; omega);obtain ⟨a,hlen,ha⟩:=hel _ _ _ h2;obtain ⟨_,h3,h4⟩:=World.cells?_some h1;refine ⟨a,cs',hlen,fun j u hj=>?_,ha⟩
   have hjk:j < k:=by
    rcases Nat.lt_or_ge j k with h' | h'
    ·exact h'
    ·rw [List.getElem?_eq_none (by omega)] at hj; cases hj
   have:=h4 j (by rw [hk]; exact hjk);rw [hk,Go.Deep.add_add,hj] at this;exact this
  unfold maxLen at hm;refine ⟨List.ofFn fun i=>Classical.choose (hs i),List.length_ofFn,?_,by rw [List.length_ofFn]; omega,by omega⟩;rcases Nat.eq_zero_or_pos len with rfl | hpos
  ·exact .inl (by simp)
  ·obtain ⟨b,off,spot⟩:=x;obtain ⟨cs0,hl0,hc0,-⟩:=Classical.choose_spec (hs ⟨0,hpos⟩);have hcell:=hc0 0 cs0[0] (List.getElem?_eq_getElem (by omega));(have hspot:spot=none:=by simpa [Addr.add] using World.cell?_spot hcell);subst hspot;refine .inr ⟨b,off,rfl,World.block_lt_of_cell? W _ (by simpa [Addr.add] using hcell),fun i hi'=>?_⟩;rw [List.getElem_ofFn];obtain ⟨cs1,hl1,hc1,ha⟩:=Classical.choose_spec (hs ⟨i,by simpa using hi'⟩);(refine ha b (off+i * k) fun j u hj=>?_);have:=hc1 j u hj
   rwa [uR,← Nat.add_assoc] at this
theorem row_cells {α:Type} {t e:TypeId} {k n:Nat} {At:World→Nat→Nat→α→Prop} {c0:Value} {x:DataW H × List MemPlace} (ht:Tryz.prog.underlying t=some (.slice e)) (hk:Tryz.prog.cellsOf e=k) (hk0:0 < k)
 (hel:ElOk enc W base held e k At) (h:DataW.trod enc Tryz.prog W base (fun _=>true) held n t [c0]=some x):∃ a len cap,c0 = .slice a len cap∧∃ l:List α,l.length=len∧RowOf k At W a l∧l.length≤9223372036854775807:=by
 obtain ⟨a,len,cap,h0,l,h1,h2,h3,-⟩:=row_cellsC ht hk hk0 hel h
 exact ⟨a,len,cap,h0,l,h1,h2,h3⟩
theorem text_el:ElOk enc W base held 9 1 TextAt:=fun m cs y h=>by
 obtain ⟨s,e,_,_⟩:=DataW.trod_string Tryz.underlying9 h;subst e;exact ⟨s,rfl,fun b o hc=>hc 0 _ rfl⟩
theorem cellsTs:Tryz.prog.cellsOf 107=1:=by kernel_rfl
theorem texts_cells {n:Nat} {c0:Value} {x:DataW H × List MemPlace} (h:DataW.trod enc Tryz.prog W base (fun _=>true) held n 107 [c0]=some x):∃ a len cap,c0 = .slice a len cap∧∃ l:List ByteArray,l.length=len∧Texts W a l∧l.length≤9223372036854775807∧len≤cap :=
 row_cellsC Tryz.underlying107 cellsSt Nat.one_pos text_el h
theorem cellsWi:Tryz.prog.cellsOf 109=4:=by kernel_rfl
theorem cellsWis:Tryz.prog.cellsOf 68=1:=by kernel_rfl
theorem wish_el:ElOk enc W base held 109 4 WishAt:=fun m cs y h=>by
 obtain ⟨xs,n',_,_,hcl,hxl,hf⟩:=DataW.trod_struct Tryz.underlying109 h;rw [cellsWi] at hcl
 match cs,hcl,xs,hxl with
 | [c0,c1,c2,c3],_,[y0,y1,y2,y3],_ =>
  have h0:=hf 0 _ rfl;have h1:=hf 1 _ rfl;have h2:=hf 2 _ rfl;have h3:=hf 3 _ rfl;simp [cellsSt] at h0 h1;simp [cellsTs] at h2;simp [cellsBo] at h3;obtain ⟨s0,e0,_⟩:=DataW.trod_string Tryz.underlying9 h0;obtain ⟨s1,e1,_⟩:=DataW.trod_string Tryz.underlying9 h1;obtain ⟨a,len,cap,e2,l,rfl,g1,g2,g3⟩:=texts_cells h2;obtain ⟨b,e3,_⟩:=DataW.trod_bool Tryz.underlying4 h3;simp only [List.cons.injEq,and_true] at e0 e1 e3;subst e0; subst e1; subst e2; subst e3;exact ⟨⟨s0,s1,l,b⟩,rfl,fun b o hc=>⟨hc 0 _ rfl,hc 1 _ rfl,⟨a,cap,hc 2 _ rfl,g1,g2,g3⟩,hc 3 _ rfl⟩⟩
theorem wishes_cells {n:Nat} {c0:Value} {x:DataW H × List MemPlace} (h:DataW.trod enc Tryz.prog W base (fun _=>true) held n 68 [c0]=some x):∃ a len cap,c0 = .slice a len cap∧∃ l:List WishL,l.length=len∧RowOf 4 WishAt W a l∧l.length≤9223372036854775807 :=
 row_cells Tryz.underlying68 cellsWi (by decide) wish_el h
theorem cellsNe:Tryz.prog.cellsOf 70=3:=by kernel_rfl
theorem cellsNes:Tryz.prog.cellsOf 27=1:=by kernel_rfl
theorem cellsBr:Tryz.prog.cellsOf 77=3:=by kernel_rfl
theorem cellsBrs:Tryz.prog.cellsOf 28=1:=by kernel_rfl
theorem bar_el:ElOk enc W base held 77 3 BarAt:=fun m cs y h=>by
 obtain ⟨xs,n',_,_,hcl,hxl,hf⟩:=DataW.trod_struct Tryz.underlying77 h;rw [cellsBr] at hcl
 match cs,hcl,xs,hxl with
 | [c0,c1,c2],_,[y0,y1,y2],_ =>
  have h0:=hf 0 _ rfl;have h1:=hf 1 _ rfl;have h2:=hf 2 _ rfl;simp [cellsSt] at h0 h1 h2;obtain ⟨s0,e0,_⟩:=DataW.trod_string Tryz.underlying9 h0;obtain ⟨s1,e1,_⟩:=DataW.trod_string Tryz.underlying9 h1;obtain ⟨s2,e2,_⟩:=DataW.trod_string Tryz.underlying9 h2;simp only [List.cons.injEq,and_true] at e0 e1 e2;subst e0; subst e1; subst e2;exact ⟨⟨s0,s1,s2⟩,rfl,fun b o hc=>⟨hc 0 _ rfl,hc 1 _ rfl,hc 2 _ rfl⟩⟩
theorem bars_cells {n:Nat} {c0:Value} {x:DataW H × List MemPlace} (h:DataW.trod enc Tryz.prog W base (fun _=>true) held n 28 [c0]=some x):∃ a len cap,c0 = .slice a len cap∧∃ l:List BarL,l.length=len∧RowOf 3 BarAt W a l∧l.length≤9223372036854775807 :=
 row_cells Tryz.underlying28 cellsBr (by decide) bar_el h
theorem cellsFt:Tryz.prog.cellsOf 114=2:=by kernel_rfl
theorem cellsFts:Tryz.prog.cellsOf 29=1:=by kernel_rfl
theorem cellsRe:Tryz.prog.cellsOf 31=9:=by kernel_rfl
end
end Go.Proofs.YtofkjhnhafbfoaaGreatDoor
