import Derived.Test.YtofkjhnhafbfoaaGreatDoorChecked
import Derived.ChangeVars
import Derived.JoinedOf
import Derived.LaidLaws
import Derived.LaidMore
import Derived.Lay
import Derived.Lib.LaidTab
import Derived.RowKit
import Derived.RowKitTokens
import Derived.SevenTiedAt
import Derived.Shelf.Vars
import Derived.Stop.Joined
import GoSem.Claim
import GoSem.ClaimMapViews
import GoSem.PinnedTables
import Derived.Test.YtofkjhnhafbfoaaGreatDoorRows
import Derived.Test.YtofkjhnhafbfoaaGreatDoorWTa
set_option linter.unusedVariables false
set_option linter.unusedSimpArgs false
namespace Go.Proofs.YtofkjhnhafbfoaaGreatDoor
open Go.ChangeShapes Go.WideShapes Go.ChangeAt Go.RowKit Go.Deep Go.Joins
open Go.ChangeMaps (open_string shut_string)
abbrev rk:List (String × DataW Unit):=[("math/bits.deBruijn32tab",Rows.laid_math_bits_deBruijn32tab),("math/bits.deBruijn64tab",Rows.laid_math_bits_deBruijn64tab),("internal/strconv.uint64pow10",Rows.laid_internal_strconv_uint64pow10),("unicode/utf8.acceptRanges",Rows.laid_unicode_utf8_acceptRanges),("unicode/utf8.first",Rows.laid_unicode_utf8_first)]
theorem Yy:(Rows.laid_internal_strconv_uint64pow10:DataW Unit)=Lib.tabData .u64 Lib.pow10Tab:=by kernel_rfl
theorem Vt:Tryz.prog.globalNamed "internal/strconv.uint64pow10"=some 1:=by kernel_rfl
theorem Vg:(Tryz.prog.globals[(1:Nat)]?).map (·.type)=some 284:=by kernel_rfl
theorem Zx:Tryz.prog.cellsOf 284=20:=by kernel_rfl
theorem bp:Tryz.prog.cellsOf 33=1:=by kernel_rfl
theorem di {W:World} (h:laidMet Tryz.prog rk W):Lib.TabIs Tryz.prog W "internal/strconv.uint64pow10" .u64 Lib.pow10Tab:=by
 obtain ⟨ps,hv,_⟩:=h;obtain ⟨_,_,_,_,_,_,_,_,_,_,hv,_⟩:=hv;obtain ⟨_,_,_,_,_,_,_,_,_,_,hv,_⟩:=hv;obtain ⟨g3,t3,cs3,fuel3,p3,q3,a1,a2,a3,a4,hv,_⟩:=hv;obtain rfl:=Option.some.inj (Vt.symm.trans a1);obtain rfl:=Option.some.inj (Vg.symm.trans a2);rw [Yy] at a4;unfold Lib.TabIs;rw [a3,← Lib.cells_of_tab Tryz.underlying284 Tryz.underlying33 bp Zx a4]
theorem f9 {W:World} (h:laidMet Tryz.prog rk W) (hs:W.ShapedOpen Tryz.prog):Laid W :=
 ⟨trivial,di h,cell_of_shapedOpen_int hs (by decide +kernel) (zero:=#[.int .i64 0]) (t:=3) (by kernel_rfl) rfl (by kernel_rfl) (by kernel_rfl) Tryz.underlying3⟩
theorem lV (os:Os) (args:Array Value):laidMet Tryz.prog rk ((World.laidAll Tryz.prog os rk).forCall (fun _ _=>0) ⟨#[],args,[]⟩).memory :=
 laidMet_laidAll _ (by kernel_rfl) (by kernel_rfl)
theorem qV (os:Os) (args:Array Value):((World.laidAll Tryz.prog os rk).forCall (fun _ _=>0) ⟨#[],args,[]⟩).Shaped Tryz.prog :=
 World.shaped_of_ZipB (by kernel_rfl) (by kernel_rfl)
end Go.Proofs.YtofkjhnhafbfoaaGreatDoor
