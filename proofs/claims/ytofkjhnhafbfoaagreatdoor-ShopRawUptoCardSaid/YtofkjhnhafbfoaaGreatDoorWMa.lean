import Derived.Test.YtofkjhnhafbfoaaGreatDoorWLk
set_option linter.unusedVariables false
set_option linter.unusedSimpArgs false
namespace Go.Proofs.YtofkjhnhafbfoaaGreatDoor
open Go.RowKit Go.Lib
open Rw
theorem nV {F:World→Prop} {w:World} (h:∀ w',w'=w→F w'):F w:=h w rfl
def xH (w:World) (B:Nat) (o:Option Nat):World:={ w with heap:=w.heap.mapIdx fun k ob=>if k < B∨o=some k then .cells #[] 9 else ob }
theorem xL (w:World) (B:Nat) (o:Option Nat):(xH w B o).heap.size=w.heap.size:=by simp [xH]
theorem wQ {w:World} {B:Nat} {o:Option Nat} {p:Addr} {v:Value}:(xH w B o).cell? p=some v↔(B≤p.block∧o≠some p.block)∧w.cell? p=some v:=by
 unfold World.cell? xH;dsimp only;rw [Array.getElem?_mapIdx];cases h:w.heap[p.block]? with
 | none=>simp
 | some ob =>
  rw [Option.map_some];by_cases h2:p.block < B∨o=some p.block
  ·rw [if_pos h2];constructor
   ·intro e;simp at e
   ·rintro ⟨⟨h3,h4⟩,-⟩;rcases h2 with h2 | h2
    ·omega
    ·exact absurd h2 h4
  ·rw [if_neg h2];constructor
   ·intro e;exact ⟨⟨by omega,fun e2=>h2 (.inr e2)⟩,e⟩
   ·rintro ⟨-,e⟩;exact e
theorem Mono.of_mask (w:World) (B:Nat) (o:Option Nat):Mono (xH w B o) w:=⟨by rw [xL]; exact Nat.le_refl _,fun _ _ e=>(wQ.1 e).2⟩
theorem vd {w w':World} {B B':Nat} {o o':Option Nat} (hs:w.heap.size≤w'.heap.size) (h:∀ k,k < w.heap.size→B≤k→o≠some k→(B'≤k∧o'≠some k)∧w'.heap[k]?=w.heap[k]?):Mono (xH w B o) (xH w' B' o'):=by
 refine ⟨by rw [xL,xL]; exact hs,fun p v e=>?_⟩;obtain ⟨⟨h1,h2⟩,h3⟩:=wQ.1 e;obtain ⟨h4,h5⟩:=h p.block (ZF h3) h1 h2;exact wQ.2 ⟨h4,(World.cell?_of_block h5).trans h3⟩
theorem rm {w w':World} {B:Nat} {o:Option Nat} (hb:KB w.heap.size w w'):Mono (xH w B o) (xH w' B o):=vd hb.size fun k hk h1 h2=>⟨⟨h1,h2⟩,hb.block k hk⟩
theorem yK {w:World} {B B':Nat} {o:Option Nat} (h:B≤B') (ho:∀ k,o=some k→k < B'):Mono (xH w B' none) (xH w B o):=vd (Nat.le_refl _) fun k _ h1 _=>⟨⟨by omega,fun e=>by have:=ho k e; omega⟩,rfl⟩
theorem ZI {w:World} {B:Nat} {o:Option Nat}:Mono (xH w B o) (xH w B none):=vd (Nat.le_refl _) fun k _ h1 _=>⟨⟨h1,fun e=>by cases e⟩,rfl⟩
theorem pA {w:World} {g j k:Nat} {x:Value} (h:k≠g):(w.setCell ⟨g,j,none⟩ x).heap[k]?=w.heap[k]?:=by
 unfold World.setCell;simp [Array.getElem?_modify,Ne.symm h]
theorem yC {w:World} {B g j:Nat} {o:Option Nat} {x:Value} (h:g < B∨o=some g):Mono (xH w B o) (xH (w.setCell ⟨g,j,none⟩ x) B o):=vd (by rw [World.size_setCell]; exact Nat.le_refl _) fun k _ h1 h2=>⟨⟨h1,h2⟩,pA fun e=>by
 subst e;rcases h with h | h
 ·omega
 ·exact h2 h⟩
section
variable {α:Type} {T:TypeId} {n:Nat} {f:α→List Value} {Sub:World→α→Prop} {w w':World} {base:Nat} {v v':Value} {ps:List α}
def Deep (T:TypeId) (n:Nat) (f:α→List Value) (Sub:World→α→Prop) (w:World) (base:Nat) (v:Value) (ps:List α):Prop:=OwnL T n f w base v ps∧∀ p∈ps,Sub (xH w base v.ownBlock) p
theorem Deep.nil:Deep T n f Sub w base (.slice none 0 0) []:=⟨OwnL.nil,fun p hp=>by cases hp⟩
theorem Deep.kb (hm:∀ (w w':World) (p:α),Mono w w'→Sub w p→Sub w' p) (h:Deep T n f Sub w base v ps) (hb:KB w.heap.size w w'):Deep T n f Sub w' base v ps:=⟨h.1.kb hb,fun p hp=>hm _ _ _ (rm hb) (h.2 p hp)⟩
theorem Deep.put (hm:∀ (w w':World) (p:α),Mono w w'→Sub w p→Sub w' p) (h:Deep T n f Sub w base v ps) {g j:Nat} (hg:g < base) (x:Value):Deep T n f Sub (w.setCell ⟨g,j,none⟩ x) base v ps :=
 ⟨oR (o:=j) (vs:=[x]) h.1 (fun e=>by have:=(World.ownsRow.lt h.1 _ e).1; omega),fun p hp=>hm _ _ _ (yC (.inl hg)) (h.2 p hp)⟩
theorem Deep.lt (h:Deep T n f Sub w base v ps):∀ k,v.ownBlock=some k→k < w.heap.size:=fun k e=>(World.ownsRow.lt h.1 k e).2
theorem Deep.snoc (hm:∀ (w w':World) (p:α),Mono w w'→Sub w p→Sub w' p) (h:Deep T n f Sub w base v ps) {a:α} (ha:Sub (xH w base v.ownBlock) a) (h2:w'.ownsRow base T n v' (ps.length+1) (ps.flatMap f++f a)) (hg:w.grownBy w' v.ownBlock) (hv:∀ k,v'.ownBlock=some k→v.ownBlock=some k∨w.heap.size≤k):Deep T n f Sub w' base v' (ps++[a]):=by
 have hM:Mono (xH w base v.ownBlock) (xH w' base v'.ownBlock):=vd hg.size fun k hk h1 h2=>⟨⟨h1,fun e=>by
  rcases hv k e with e | e
  ·exact h2 e
  ·omega⟩,hg.block k hk fun e=>h2 e.symm⟩
 refine ⟨OwnL.snoc h2,fun p hp=>?_⟩;rcases List.mem_append.1 hp with hp | hp
 ·exact hm _ _ _ hM (h.2 p hp)
 ·(rcases List.mem_singleton.1 hp with rfl);exact hm _ _ _ hM ha
end
section
variable {P:Program} {w:World} {base size n bytes:Nat} {t e:TypeId} {v:Value} {xs:List Value}
end
theorem WpSub.mono (w w':World) (p:WishL × Hdr) (m:Mono w w') (h:WpSub w p):WpSub w' p:=⟨RowOf.mono TextAt.mono h.1 m,h.2⟩
theorem NpSub.mono (w w':World) (p:NeedL × Hdr) (m:Mono w w') (h:NpSub w p):NpSub w' p:=⟨RowOf.mono WishAt.mono h.1 m,h.2⟩
theorem FpSub.mono (w w':World) (p:FeatL × Hdr) (m:Mono w w') (h:FpSub w p):FpSub w' p:=⟨RowOf.mono TextAt.mono h.1 m,h.2⟩
theorem XR (p:WishL × Hdr):(ut p).length=4:=rfl
theorem W7 (p:NeedL × Hdr):(uk p).length=3:=rfl
theorem VK (p:FeatL × Hdr):(sR p).length=2:=rfl
theorem Wj (p:WishL × Hdr):∀ u∈ut p,u.oneCell'=true:=by
 intro u hu;simp only [ut,List.mem_cons,List.not_mem_nil,or_false] at hu;rcases hu with rfl | rfl | rfl | rfl<;>rfl
theorem Wu (p:NeedL × Hdr):∀ u∈uk p,u.oneCell'=true:=by
 intro u hu;simp only [uk,List.mem_cons,List.not_mem_nil,or_false] at hu;rcases hu with rfl | rfl | rfl<;>rfl
theorem Xk (p:FeatL × Hdr):∀ u∈sR p,u.oneCell'=true:=by
 intro u hu;simp only [sR,List.mem_cons,List.not_mem_nil,or_false] at hu;rcases hu with rfl | rfl<;>rfl
abbrev wz (s:ByteArray):List Value:=[.string s]
theorem cellT_len (s:ByteArray):(wz s).length=1:=rfl
theorem vW (s:ByteArray):∀ u∈wz s,u.oneCell'=true:=by
 intro u hu;(rcases List.mem_singleton.1 hu with rfl);rfl
theorem Own.set9 {B:Nat} {w:World} {g:Nat} {a0 a1 a2 a3 a4 a5 a6 a7 a8:Value} (h:Own B w g [a0,a1,a2,a3,a4,a5,a6,a7,a8]) (b0 b1 b2 b3 b4 b5 b6 b7 b8:Value):Own B (((((((((w.setCell ⟨g,0,none⟩ b0).setCell ⟨g,1,none⟩ b1).setCell ⟨g,2,none⟩ b2).setCell ⟨g,3,none⟩ b3).setCell ⟨g,4,none⟩ b4).setCell ⟨g,5,none⟩ b5).setCell ⟨g,6,none⟩ b6).setCell ⟨g,7,none⟩ b7).setCell ⟨g,8,none⟩ b8) g [b0,b1,b2,b3,b4,b5,b6,b7,b8] :=
 ⟨h.box.set (o:=0) (vs:=[b0,b1,b2,b3,b4,b5,b6,b7,b8]) (by simp),h.soft.set (o:=0) (vs:=[b0,b1,b2,b3,b4,b5,b6,b7,b8]),h.low⟩
theorem dt {w:World} {B g:Nat} (h:g < B) (b0 b1 b2 b3 b4 b5 b6 b7 b8:Value):Mono (xH w B none) (xH (((((((((w.setCell ⟨g,0,none⟩ b0).setCell ⟨g,1,none⟩ b1).setCell ⟨g,2,none⟩ b2).setCell ⟨g,3,none⟩ b3).setCell ⟨g,4,none⟩ b4).setCell ⟨g,5,none⟩ b5).setCell ⟨g,6,none⟩ b6).setCell ⟨g,7,none⟩ b7).setCell ⟨g,8,none⟩ b8) B none) :=
 (((((((((yC (.inl h)).trans (yC (.inl h))).trans (yC (.inl h))).trans (yC (.inl h))).trans (yC (.inl h))).trans (yC (.inl h))).trans (yC (.inl h))).trans (yC (.inl h))).trans (yC (.inl h)))
abbrev tk (b:BarL):List Value:=[.string b.name,.string b.rng,.string b.whn]
theorem X8 (b:BarL):(tk b).length=3:=rfl
theorem WO (b:BarL):∀ u∈tk b,u.oneCell'=true:=by
 intro u hu;simp only [tk,List.mem_cons,List.not_mem_nil,or_false] at hu;rcases hu with rfl | rfl | rfl<;>rfl
theorem bX {w:World} {A:Option Addr} {l:List BarL} (h:Lies 3 tk w A l):RowOf 3 BarAt w A l:=by
 rcases h with h | ⟨b,off,rfl,hlt,hc⟩
 ·exact .inl h
 ·exact .inr ⟨b,off,rfl,hlt,fun i hi=>⟨hc i hi 0 _ rfl,hc i hi 1 _ rfl,hc i hi 2 _ rfl⟩⟩
end Go.Proofs.YtofkjhnhafbfoaaGreatDoor
