import Derived.Test.YtiffijoenkcpjaaGreatDoorYLb
set_option linter.unusedVariables false
set_option linter.unusedSimpArgs false
namespace Go.Proofs.YtiffijoenkcpjaaGreatDoor
open Go.RowKit Go.Lib
open Rw
def Mono (w w':World):Prop:=w.heap.size≤w'.heap.size∧∀ (p:Addr) (v:Value),w.cell? p=some v→w'.cell? p=some v
theorem Mono.trans {a b c:World} (h:Mono a b) (k:Mono b c):Mono a c:=⟨Nat.le_trans h.1 k.1,fun p v e=>k.2 p v (h.2 p v e)⟩
section
variable {α:Type} {n:Nat} {At:World→Nat→Nat→α→Prop} {w w':World} {A:Option Addr} {l:List α}
theorem RowOf.mono (hs:∀ (w w':World) (b o:Nat) (x:α),Mono w w'→At w b o x→At w' b o x) (h:RowOf n At w A l) (m:Mono w w'):RowOf n At w' A l:=by
 rcases h with h | ⟨b,off,rfl,hlt,hc⟩
 ·exact .inl h
 ·exact .inr ⟨b,off,rfl,Nat.lt_of_lt_of_le hlt m.1,fun i hi=>hs _ _ _ _ _ m (hc i hi)⟩
end
theorem TextAt.mono (w w':World) (b o:Nat) (x:ByteArray) (m:Mono w w') (h:TextAt w b o x):TextAt w' b o x:=m.2 _ _ h
theorem WishAt.mono (w w':World) (b o:Nat) (x:WishL) (m:Mono w w') (h:WishAt w b o x):WishAt w' b o x:=by
 obtain ⟨h1,h2,⟨A,c,h3,h4,h6⟩,h5⟩:=h;exact ⟨m.2 _ _ h1,m.2 _ _ h2,⟨A,c,m.2 _ _ h3,RowOf.mono TextAt.mono h4 m,h6⟩,m.2 _ _ h5⟩
theorem NeedAt.mono (w w':World) (b o:Nat) (x:NeedL) (m:Mono w w') (h:NeedAt w b o x):NeedAt w' b o x:=by
 obtain ⟨⟨A,c,h1,h2,h5⟩,h3,h4⟩:=h;exact ⟨⟨A,c,m.2 _ _ h1,RowOf.mono WishAt.mono h2 m,h5⟩,m.2 _ _ h3,m.2 _ _ h4⟩
theorem BarAt.mono (w w':World) (b o:Nat) (x:BarL) (m:Mono w w') (h:BarAt w b o x):BarAt w' b o x:=⟨m.2 _ _ h.1,m.2 _ _ h.2.1,m.2 _ _ h.2.2⟩
theorem FeatAt.mono (w w':World) (b o:Nat) (x:FeatL) (m:Mono w w') (h:FeatAt w b o x):FeatAt w' b o x:=by
 obtain ⟨h1,A,c,h2,h3,h4⟩:=h;exact ⟨m.2 _ _ h1,A,c,m.2 _ _ h2,RowOf.mono TextAt.mono h3 m,h4⟩
theorem RecLies.mono {w w':World} {h:RecH} {r:RecL} (k:RecLies w h r) (m:Mono w w'):RecLies w' h r:=⟨RowOf.mono NeedAt.mono k.needs m,RowOf.mono BarAt.mono k.bars m,RowOf.mono FeatAt.mono k.feats m,k.ln,k.lb,k.lf⟩
theorem sV {α η:Type} {n:Nat} {At:World→Nat→Nat→α→Prop} {cells:α × η→List Value} {Sub:α × η→Prop} {w:World} {A:Option Addr} {ps:List (α × η)} (hback:∀ (b o:Nat) (p:α × η),Sub p→(∀ (j:Nat) (u:Value),(cells p)[j]?=some u→w.cell? ⟨b,o+j,none⟩=some u)→At w b o p.1) (h:Lies n cells w A ps) (hr:∀ p∈ps,Sub p):RowOf n At w A (ps.map (·.1)):=by
 rcases h with h | ⟨b,off,h1,h2,h3⟩
 ·exact .inl (by rw [h]; rfl)
 ·refine .inr ⟨b,off,h1,h2,fun i hi=>?_⟩;(have hi':i < ps.length:=by simpa using hi);rw [List.getElem_map];exact hback _ _ _ (hr _ (List.getElem_mem hi')) fun j u hj=>h3 i hi' j u hj
abbrev Hdr:=Option Addr × Nat
abbrev ut (p:WishL × Hdr):List Value:=[.string p.1.name,.string p.1.rng,.slice p.2.1 p.1.feats.length p.2.2,.bool p.1.bare]
abbrev WpSub (w:World) (p:WishL × Hdr):Prop:=Texts w p.2.1 p.1.feats∧p.1.feats.length≤9223372036854775807∧p.1.feats.length≤p.2.2
abbrev uk (p:NeedL × Hdr):List Value:=[.slice p.2.1 p.1.any.length p.2.2,.string p.1.whn,.string p.1.opt]
abbrev NpSub (w:World) (p:NeedL × Hdr):Prop:=RowOf 4 WishAt w p.2.1 p.1.any∧p.1.any.length≤9223372036854775807
abbrev sR (p:FeatL × Hdr):List Value:=[.string p.1.name,.slice p.2.1 p.1.of_.length p.2.2]
abbrev FpSub (w:World) (p:FeatL × Hdr):Prop:=Texts w p.2.1 p.1.of_∧p.1.of_.length≤9223372036854775807
theorem qZ {w:World} {A:Option Addr} {ps:List (WishL × Hdr)} (h:Lies 4 ut w A ps) (hr:∀ p∈ps,WpSub w p):RowOf 4 WishAt w A (ps.map (·.1)) :=
 sV (Sub:=WpSub w) (fun b o p hs hc=>⟨hc 0 _ rfl,hc 1 _ rfl,⟨p.2.1,p.2.2,hc 2 _ rfl,hs.1,hs.2⟩,hc 3 _ rfl⟩) h hr
theorem iI {w:World} {A:Option Addr} {ps:List (NeedL × Hdr)} (h:Lies 3 uk w A ps) (hr:∀ p∈ps,NpSub w p):RowOf 3 NeedAt w A (ps.map (·.1)) :=
 sV (Sub:=NpSub w) (fun b o p hs hc=>⟨⟨p.2.1,p.2.2,hc 0 _ rfl,hs.1,hs.2⟩,hc 1 _ rfl,hc 2 _ rfl⟩) h hr
theorem j8 {w:World} {A:Option Addr} {ps:List (FeatL × Hdr)} (h:Lies 2 sR w A ps) (hr:∀ p∈ps,FpSub w p):RowOf 2 FeatAt w A (ps.map (·.1)) :=
 sV (Sub:=FpSub w) (fun b o p hs hc=>⟨hc 0 _ rfl,p.2.1,p.2.2,hc 1 _ rfl,hs.1,hs.2⟩) h hr
theorem Tryz.info122:(Tryz.prog.info? 122).map (fun i=>(i.zero,i.size,i.bytes))=some (some (.agg #[.slice none 0 0,.string ⟨#[]⟩,.string ⟨#[]⟩]),3,56):=by kernel_rfl
theorem X1:EK Tryz.prog 28 122 3 56 := .mk' _ Tryz.underlying28 Tryz.info122 rfl (by omega)
theorem Tryz.info167:(Tryz.prog.info? 167).map (fun i=>(i.zero,i.size,i.bytes))=some (some (.agg #[.string ⟨#[]⟩,.string ⟨#[]⟩,.slice none 0 0,.bool false]),4,64):=by kernel_rfl
theorem Yi:EK Tryz.prog 120 167 4 64 := .mk' _ Tryz.underlying120 Tryz.info167 rfl (by omega)
theorem Tryz.info125:(Tryz.prog.info? 125).map (fun i=>(i.zero,i.size,i.bytes))=some (some (.agg #[.string ⟨#[]⟩,.string ⟨#[]⟩,.string ⟨#[]⟩]),3,48):=by kernel_rfl
theorem W3:EK Tryz.prog 29 125 3 48 := .mk' _ Tryz.underlying29 Tryz.info125 rfl (by omega)
theorem Tryz.info172:(Tryz.prog.info? 172).map (fun i=>(i.zero,i.size,i.bytes))=some (some (.agg #[.string ⟨#[]⟩,.slice none 0 0]),2,40):=by kernel_rfl
theorem aV:EK Tryz.prog 30 172 2 40 := .mk' _ Tryz.underlying30 Tryz.info172 rfl (by omega)
theorem qm {w:World} {g:Nat} {cs:List Value} {m k:Nat} (h:Box w g cs) (hl:cs.length=m * k):tw w (some ⟨g,0,none⟩) m k cs:=by
 refine ⟨hl,(fun e=>by cases e),fun ad e j u hj=>?_⟩;(injection e with e);subst e;rw [uR,Nat.zero_add];exact h.2 j u hj
end Go.Proofs.YtiffijoenkcpjaaGreatDoor
