import Derived.Test.YtofkjhnhafbfoaaGreatDoorWNv
set_option linter.unusedVariables false
set_option linter.unusedSimpArgs false
set_option maxRecDepth 100000
namespace Go.Proofs.YtofkjhnhafbfoaaGreatDoor
open Go.ChangeShapes Go.WideShapes Go.ChangeAt Go.RowKit Go.Deep Go.Joins
open Go.ChangeMaps (open_string shut_string)
section
variable {H:Type} {enc:TypeId × Value→H} {W:World} {base:Nat} {held:Bool}
theorem shelf_elP:ElOkP enc W base held 24 2 ShelfAt ShelfSz:=fun m cs y h hL=>by
 obtain ⟨A,c,s,rfl,hs⟩:=shelf_cellsP h hL;exact ⟨s,rfl,⟨hs.ok,hs.name,hs.sized⟩,fun b o hc=>⟨by have:=hc 0 _ rfl; rwa [Nat.add_zero] at this,A,c,hc 1 _ rfl,hs.lies,hs.cap⟩⟩
theorem cellsPn:Tryz.prog.cellsOf 91=2:=by kernel_rfl
theorem pin_elP:ElOkP enc W base held 91 2 PinAt PinSz:=fun m cs y h hL=>by
 obtain ⟨xs,n',_,hx,hcl,hxl,hf⟩:=DataW.trod_struct Tryz.underlying91 h;rw [cellsPn] at hcl;have hx1:y.1 = .agg (xs.map (·.1)):=by rw [hx]
 match cs,hcl,xs,hxl,hx1 with
 | [c0,c1],_,[y0,y1],_,hx1 =>
  have h0:=hf 0 _ rfl;have h1:=hf 1 _ rfl;simp [cellsSt] at h0 h1;have L0:=light_at (i:=0) Tryz.underlying91 hx1 hL rfl rfl;have L1:=light_at (i:=1) Tryz.underlying91 hx1 hL rfl rfl;obtain ⟨s0,e0,z0⟩:=str_light h0 L0;obtain ⟨s1,e1,z1⟩:=str_light h1 L1;subst e0; subst e1;exact ⟨⟨s0,s1⟩,rfl,⟨z0,z1⟩,fun b o hc=>⟨by have:=hc 0 _ rfl; rwa [Nat.add_zero] at this,hc 1 _ rfl⟩⟩
theorem shelves_readP {b0:Nat} {r:Reach} {v:Value} {d:DataW H} {p:List MemPlace} (hv:Value.okWide Tryz.prog W r b0 54 v) (h:DataW.Trod enc Tryz.prog W base (fun _=>true) held 54 v d p) (hL:Light 54 d):∃ (A:Option Addr) (c:Nat) (l:List ShelfL),v = .slice A l.length c∧xc W A l∧l.length≤9223372036854775807∧∀ s∈l,ShelfSz s:=by
 obtain ⟨a,n,k,rfl⟩:=okWide_slice Tryz.underlying54 hv;obtain ⟨fuel,hf⟩:=h;simp only [Value.cells] at hf;obtain ⟨A,len,cap,e,l,rfl,g1,g2,-,g3⟩:=row_cellsP Tryz.underlying54 cellsSh (by decide) shelf_elP hf hL;(injection e with e1 e2 e3);subst e1; subst e2; subst e3;exact ⟨_,_,l,rfl,g1,g2,g3⟩
theorem pins_readP {b0:Nat} {r:Reach} {v:Value} {d:DataW H} {p:List MemPlace} (hv:Value.okWide Tryz.prog W r b0 55 v) (h:DataW.Trod enc Tryz.prog W base (fun _=>true) held 55 v d p) (hL:Light 55 d):∃ (A:Option Addr) (c:Nat) (l:List PinL),v = .slice A l.length c∧Z6 W A l∧l.length≤9223372036854775807∧∀ s∈l,PinSz s:=by
 obtain ⟨a,n,k,rfl⟩:=okWide_slice Tryz.underlying55 hv;obtain ⟨fuel,hf⟩:=h;simp only [Value.cells] at hf;obtain ⟨A,len,cap,e,l,rfl,g1,g2,-,g3⟩:=row_cellsP Tryz.underlying55 cellsPn (by decide) pin_elP hf hL;(injection e with e1 e2 e3);subst e1; subst e2; subst e3;exact ⟨_,_,l,rfl,g1,g2,g3⟩
end
end Go.Proofs.YtofkjhnhafbfoaaGreatDoor
