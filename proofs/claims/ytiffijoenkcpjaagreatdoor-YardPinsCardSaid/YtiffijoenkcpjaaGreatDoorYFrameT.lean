import Derived.LaidMore
import Derived.Lay
import Derived.Lib.LaidTab
import Derived.SevenTiedAt
import Derived.Shelf.Vars
import Derived.Stop.Joined
import Derived.Test.YtiffijoenkcpjaaGreatDoorYTa
set_option linter.unusedVariables false
set_option linter.unusedSimpArgs false
namespace Go.Proofs.YtiffijoenkcpjaaGreatDoor
open Go.ChangeShapes Go.WideShapes Go.ChangeAt Go.RowKit Go.Deep Go.Joins
open Go.ChangeMaps (open_string shut_string)
theorem and_shaped {H:Type} {enc:TypeId × Value→H} {a:Assume} {C:Checked} {os:Os} {f:FuncId} {fn:Func} {s:ChangeSpec} {conds:List PathCond} {apart fresh handsOn again:Bool} {X:World→Array Value→Prop}
 (hX:∀ (w w':World) (args:Array Value),w.heap=w'.heap→X w args→X w' args)
 (own:ownKnob C.prog.godebug=none) (started:os.Started) (noInit:C.prog.inits.idxOf? f=none) (hfn:C.prog.funcs[f]?=some fn)
 (witness:∃ (w:World) (tape:Tape) (i:Input),w.os=os∧(w.forCall tape i).Shaped C.prog∧i.vars=[]∧Input.okWide C.prog (w.forCall tape i) .any w.heap.size f i ∧
  ((s.pre enc C.prog fn conds apart (w.forCall tape i).memory i.args∧X (w.forCall tape i).memory i.args)∧sizedMet enc C.prog fn (OpenSpec.ofChange s) apart (w.forCall tape i).memory i.args)∧a.holds C.prog (lone (Frame.enter C.prog f i.args .normal) [] (w.forCall tape i)))
 (contract:∀ (W:World) (base:Nat) (args:Array Value) (ds gs:List (DataW H)) (before:List MemPlace),
  (∀ (j:Nat) t v,fn.params[j]?=some t→args[j]?=some v→Value.okWide C.prog W .any base t v) →
  DataW.Whole enc C.prog fn.params.toList s.vars apart W args.toList ds gs before →
  conds.all (PathCond.test C.prog ⟨fn.params.toList,ds,s.plain.varTypes C.prog,gs⟩)=true →
  (DataW.weightsEach C.prog (fn.params.toList++s.plain.varTypes C.prog) (ds++gs)).all (·≤reachBytes)=true→X W args→W.ShapedOpen C.prog →
  Calls C.prog f args W fun e W'=>∃ v,e = .returned v∧s.post enc C.prog fn apart fresh handsOn again W args v W') :
 ReturnsInHanded a C os f .any (fun w args=>(s.pre enc C.prog fn conds apart w args∧X w args)∧sizedMet enc C.prog fn (OpenSpec.ofChange s) apart w args) (s.post enc C.prog fn apart fresh handsOn again):=by
 refine returnsInHanded_of_calls own started noInit witness ?_
 intro w tape i _ hsh _ hok hpre _
 obtain ⟨_,_,_,fn',hfn',_,_,_,_,hval⟩:=hok
 have e:fn'=fn:=Option.some.inj (hfn'.symm.trans hfn)
 subst e
 obtain ⟨⟨⟨ds,gs,before,hw,hc⟩,hx⟩,hz⟩:=hpre
 have hw':=DataW.Whole.of_heap (w':=w.forCall tape i) (by rfl) hw
 refine (contract (w.forCall tape i) w.heap.size i.args ds gs before hval hw' hc (hz.weights hw) (hX _ _ _ (by rfl) hx) hsh).mono fun e W' ⟨v,he,hp⟩=>?_
 subst he
 exact ChangeSpec.post_blind hp
abbrev laid8:List (String × DataW Unit):=[("math/bits.deBruijn32tab",Rows.laid_math_bits_deBruijn32tab),("math/bits.deBruijn64tab",Rows.laid_math_bits_deBruijn64tab),("internal/strconv.uint64pow10",Rows.laid_internal_strconv_uint64pow10),("unicode/utf8.acceptRanges",Rows.laid_unicode_utf8_acceptRanges),("linchpin/set.first",Rows.laid_linchpin_set_first),("unicode/utf8.first",Rows.laid_unicode_utf8_first)]
theorem powData:(Rows.laid_internal_strconv_uint64pow10:DataW Unit)=Lib.tabData .u64 Lib.pow10Tab:=by kernel_rfl
theorem powG:Tryz.prog.globalNamed "internal/strconv.uint64pow10"=some 4:=by kernel_rfl
theorem powT:(Tryz.prog.globals[(4:Nat)]?).map (·.type)=some 296:=by kernel_rfl
theorem cellsPow:Tryz.prog.cellsOf 296=20:=by kernel_rfl
theorem cellsU64:Tryz.prog.cellsOf 145=1:=by kernel_rfl
theorem laid8_tabs {W:World} (h:laidMet Tryz.prog laid8 W):Vl W∧Lib.TabIs Tryz.prog W "internal/strconv.uint64pow10" .u64 Lib.pow10Tab:=by
 obtain ⟨ps,hv,_⟩:=h;obtain ⟨_,_,_,_,_,_,_,_,_,_,hv,_⟩:=hv;obtain ⟨_,_,_,_,_,_,_,_,_,_,hv,_⟩:=hv;obtain ⟨g3,t3,cs3,fuel3,p3,q3,a1,a2,a3,a4,hv,_⟩:=hv;obtain ⟨_,_,_,_,_,_,_,_,_,_,hv,_⟩:=hv;obtain ⟨g,t,cs,fuel,p,q,h1,h2,h3,h4,_,_⟩:=hv;obtain rfl:=Option.some.inj (firstG.symm.trans h1);obtain rfl:=Option.some.inj (firstT.symm.trans h2);obtain rfl:=Option.some.inj (powG.symm.trans a1);obtain rfl:=Option.some.inj (powT.symm.trans a2);refine ⟨first_reads h3 h4,?_⟩;rw [powData] at a4;unfold Lib.TabIs;rw [a3,← Lib.cells_of_tab Tryz.underlying296 Tryz.underlying145 cellsU64 cellsPow a4]
theorem laid8_of {W:World} (h:laidMet Tryz.prog laid8 W) (hs:W.ShapedOpen Tryz.prog):Laid W :=
 ⟨(laid8_tabs h).1,(laid8_tabs h).2,cell_of_shapedOpen_int hs (by decide +kernel) (zero:=#[.int .i64 0]) (t:=3) (by kernel_rfl) rfl (by kernel_rfl) (by kernel_rfl) Tryz.underlying3⟩
theorem laid8_met (os:Os) (args:Array Value):laidMet Tryz.prog laid8 ((World.laidAll Tryz.prog os laid8).forCall (fun _ _=>0) ⟨#[],args,[]⟩).memory :=
 laidMet_laidAll _ (by kernel_rfl) (by kernel_rfl)
theorem laid8_shaped (os:Os) (args:Array Value):((World.laidAll Tryz.prog os laid8).forCall (fun _ _=>0) ⟨#[],args,[]⟩).Shaped Tryz.prog :=
 World.shaped_of_ZipB (by kernel_rfl) (by kernel_rfl)
end Go.Proofs.YtiffijoenkcpjaaGreatDoor
