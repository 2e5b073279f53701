import Derived.Test.YtiffijoenkcpjaaGreatDoorYLk
set_option linter.unusedVariables false
set_option linter.unusedSimpArgs false
set_option maxRecDepth 100000
set_option maxHeartbeats 1000000
namespace Go.Proofs.YtiffijoenkcpjaaGreatDoor
open Go.RowKit Go.Lib
open Rw
def gL:List ByteArray:=[⟨#[97,112,112]⟩,⟨#[98]⟩,⟨#[99]⟩,⟨#[100]⟩,⟨#[101,45,50]⟩]
def ZY:List ByteArray:=[⟨#[120]⟩,⟨#[121]⟩,⟨#[122]⟩,⟨#[119,95,49]⟩]
theorem aL:∀ s∈gL,s.size≤3:=by decide
theorem jr:∀ s∈ZY,s.size≤3:=by decide
theorem VL (w:World):(Instr.index 62 (.agg #[.string ⟨#[97,112,112]⟩,.string ⟨#[98]⟩,.string ⟨#[99]⟩,.string ⟨#[100]⟩,.string ⟨#[101,45,50]⟩]) (.int .i64 0)).run Tryz.prog w = .ok (.string ⟨#[97,112,112]⟩) w:=by kernel_rfl
theorem VO (w:World):(Instr.index 62 (.agg #[.string ⟨#[97,112,112]⟩,.string ⟨#[98]⟩,.string ⟨#[99]⟩,.string ⟨#[100]⟩,.string ⟨#[101,45,50]⟩]) (.int .i64 1)).run Tryz.prog w = .ok (.string ⟨#[98]⟩) w:=by kernel_rfl
theorem VX (w:World):(Instr.index 62 (.agg #[.string ⟨#[97,112,112]⟩,.string ⟨#[98]⟩,.string ⟨#[99]⟩,.string ⟨#[100]⟩,.string ⟨#[101,45,50]⟩]) (.int .i64 2)).run Tryz.prog w = .ok (.string ⟨#[99]⟩) w:=by kernel_rfl
theorem W9 (w:World):(Instr.index 62 (.agg #[.string ⟨#[97,112,112]⟩,.string ⟨#[98]⟩,.string ⟨#[99]⟩,.string ⟨#[100]⟩,.string ⟨#[101,45,50]⟩]) (.int .i64 3)).run Tryz.prog w = .ok (.string ⟨#[100]⟩) w:=by kernel_rfl
theorem VJ (w:World):(Instr.index 62 (.agg #[.string ⟨#[97,112,112]⟩,.string ⟨#[98]⟩,.string ⟨#[99]⟩,.string ⟨#[100]⟩,.string ⟨#[101,45,50]⟩]) (.int .i64 4)).run Tryz.prog w = .ok (.string ⟨#[101,45,50]⟩) w:=by kernel_rfl
theorem Wo (w:World):(Instr.index 170 (.agg #[.string ⟨#[120]⟩,.string ⟨#[121]⟩,.string ⟨#[122]⟩,.string ⟨#[119,95,49]⟩]) (.int .i64 0)).run Tryz.prog w = .ok (.string ⟨#[120]⟩) w:=by kernel_rfl
theorem VM (w:World):(Instr.index 170 (.agg #[.string ⟨#[120]⟩,.string ⟨#[121]⟩,.string ⟨#[122]⟩,.string ⟨#[119,95,49]⟩]) (.int .i64 1)).run Tryz.prog w = .ok (.string ⟨#[121]⟩) w:=by kernel_rfl
theorem Wy (w:World):(Instr.index 170 (.agg #[.string ⟨#[120]⟩,.string ⟨#[121]⟩,.string ⟨#[122]⟩,.string ⟨#[119,95,49]⟩]) (.int .i64 2)).run Tryz.prog w = .ok (.string ⟨#[122]⟩) w:=by kernel_rfl
theorem VA (w:World):(Instr.index 170 (.agg #[.string ⟨#[120]⟩,.string ⟨#[121]⟩,.string ⟨#[122]⟩,.string ⟨#[119,95,49]⟩]) (.int .i64 3)).run Tryz.prog w = .ok (.string ⟨#[119,95,49]⟩) w:=by kernel_rfl
theorem Wt (w:World):(Instr.index 169 (.agg #[.string ⟨#[111,115]⟩,.string ⟨#[97,114,99,104]⟩,.string ⟨#[97,98,105]⟩]) (.int .i64 0)).run Tryz.prog w = .ok (.string ⟨#[111,115]⟩) w:=by kernel_rfl
theorem VP (w:World):(Instr.index 169 (.agg #[.string ⟨#[111,115]⟩,.string ⟨#[97,114,99,104]⟩,.string ⟨#[97,98,105]⟩]) (.int .i64 1)).run Tryz.prog w = .ok (.string ⟨#[97,114,99,104]⟩) w:=by kernel_rfl
theorem W5 (w:World):(Instr.index 169 (.agg #[.string ⟨#[111,115]⟩,.string ⟨#[97,114,99,104]⟩,.string ⟨#[97,98,105]⟩]) (.int .i64 2)).run Tryz.prog w = .ok (.string ⟨#[97,98,105]⟩) w:=by kernel_rfl
theorem Wz (w:World):(Instr.index 82 (.agg #[.string ⟨#[32,61,32]⟩,.string ⟨#[32,33,61,32]⟩]) (.int .i64 0)).run Tryz.prog w = .ok (.string ⟨#[32,61,32]⟩) w:=by kernel_rfl
theorem VB (w:World):(Instr.index 82 (.agg #[.string ⟨#[32,61,32]⟩,.string ⟨#[32,33,61,32]⟩]) (.int .i64 1)).run Tryz.prog w = .ok (.string ⟨#[32,33,61,32]⟩) w:=by kernel_rfl
theorem rF (n:Int) (w:World):Calls Tryz.prog 8 #[.int .i64 n] w fun e w'=>∃ s∈gL,e = .returned (.string s)∧w=w':=by
 have HP:=hid (s8 n 5 w (by omega) (by omega));have hb:=p9 n 5 (by omega);generalize vZ n 5=p at *;have qnm0:=VL;have qnm1:=VO;have qnm2:=VX;have qnm3:=W9;have qnm4:=VJ;go_enter Tryz.func8,Tryz.ntmps8;(go_wp2_with fail);refine HP.out.mono ?_;rintro _ _ ⟨rfl,rfl⟩;(have hp:p=0∨p=1∨p=2∨p=3∨p=4:=by omega);clear hb HP;rcases hp with rfl | rfl | rfl | rfl | rfl
 all_goals
  (go_wp2_with fail);(try rw [Exit.noGoto_ret]);(try go_ret);exact ⟨_,by simp [gL],rfl,rfl⟩
theorem jk (n:Int) (w:World):Calls Tryz.prog 107 #[.int .i64 n] w fun e w'=>∃ s∈ZY,e = .returned (.string s)∧w=w':=by
 have HP:=hid (s8 n 4 w (by omega) (by omega));have hb:=p9 n 4 (by omega);generalize vZ n 4=p at *;have qwd0:=Wo;have qwd1:=VM;have qwd2:=Wy;have qwd3:=VA;go_enter Tryz.func107,Tryz.ntmps107;(go_wp2_with fail);refine HP.out.mono ?_;rintro _ _ ⟨rfl,rfl⟩;(have hp:p=0∨p=1∨p=2∨p=3:=by omega);clear hb HP;rcases hp with rfl | rfl | rfl | rfl
 all_goals
  (go_wp2_with fail);(try rw [Exit.noGoto_ret]);(try go_ret);exact ⟨_,by simp [ZY],rfl,rfl⟩
def Vn:List Value:=[.int .i64 9,.int .i64 7,.int .i64 6,.int .i64 3,.int .i64 1,.int .i64 2]
theorem nV {F:World→Prop} {w:World} (h:∀ w',w'=w→F w'):F w:=h w rfl
def xH (w:World) (B:Nat) (o:Option Nat):World:={ w with heap:=w.heap.mapIdx fun k ob=>if k < B∨o=some k then .cells #[] 9 else ob }
theorem xL (w:World) (B:Nat) (o:Option Nat):(xH w B o).heap.size=w.heap.size:=by simp [xH]
theorem wQ {w:World} {B:Nat} {o:Option Nat} {p:Addr} {v:Value}:(xH w B o).cell? p=some v↔(B≤p.block∧o≠some p.block)∧w.cell? p=some v:=by
 unfold World.cell? xH;dsimp only;rw [Array.getElem?_mapIdx];cases h:w.heap[p.block]? with
 | none=>simp
 | some ob =>
  rw [Option.map_some];by_cases h2:p.block < B∨o=some p.block
  ·rw [if_pos h2];constructor
   ·intro e;simp at e
   ·rintro ⟨⟨h3,h4⟩,-⟩;rcases h2 with h2 | h2
    ·omega
    ·exact absurd h2 h4
  ·rw [if_neg h2];constructor
   ·intro e;exact ⟨⟨by omega,fun e2=>h2 (.inr e2)⟩,e⟩
   ·rintro ⟨-,e⟩;exact e
theorem Mono.of_mask (w:World) (B:Nat) (o:Option Nat):Mono (xH w B o) w:=⟨by rw [xL]; exact Nat.le_refl _,fun _ _ e=>(wQ.1 e).2⟩
theorem vd {w w':World} {B B':Nat} {o o':Option Nat} (hs:w.heap.size≤w'.heap.size) (h:∀ k,k < w.heap.size→B≤k→o≠some k→(B'≤k∧o'≠some k)∧w'.heap[k]?=w.heap[k]?):Mono (xH w B o) (xH w' B' o'):=by
 refine ⟨by rw [xL,xL]; exact hs,fun p v e=>?_⟩;obtain ⟨⟨h1,h2⟩,h3⟩:=wQ.1 e;obtain ⟨h4,h5⟩:=h p.block (ZF h3) h1 h2;exact wQ.2 ⟨h4,(World.cell?_of_block h5).trans h3⟩
theorem rm {w w':World} {B:Nat} {o:Option Nat} (hb:KB w.heap.size w w'):Mono (xH w B o) (xH w' B o):=vd hb.size fun k hk h1 h2=>⟨⟨h1,h2⟩,hb.block k hk⟩
theorem yK {w:World} {B B':Nat} {o:Option Nat} (h:B≤B') (ho:∀ k,o=some k→k < B'):Mono (xH w B' none) (xH w B o):=vd (Nat.le_refl _) fun k _ h1 _=>⟨⟨by omega,fun e=>by have:=ho k e; omega⟩,rfl⟩
theorem ZI {w:World} {B:Nat} {o:Option Nat}:Mono (xH w B o) (xH w B none):=vd (Nat.le_refl _) fun k _ h1 _=>⟨⟨h1,fun e=>by cases e⟩,rfl⟩
theorem pA {w:World} {g j k:Nat} {x:Value} (h:k≠g):(w.setCell ⟨g,j,none⟩ x).heap[k]?=w.heap[k]?:=by
 unfold World.setCell;simp [Array.getElem?_modify,Ne.symm h]
theorem yC {w:World} {B g j:Nat} {o:Option Nat} {x:Value} (h:g < B∨o=some g):Mono (xH w B o) (xH (w.setCell ⟨g,j,none⟩ x) B o):=vd (by rw [World.size_setCell]; exact Nat.le_refl _) fun k _ h1 h2=>⟨⟨h1,h2⟩,pA fun e=>by
 subst e;rcases h with h | h
 ·omega
 ·exact h2 h⟩
section
variable {α:Type} {T:TypeId} {n:Nat} {f:α→List Value} {Sub:World→α→Prop} {w w':World} {base:Nat} {v v':Value} {ps:List α}
def Deep (T:TypeId) (n:Nat) (f:α→List Value) (Sub:World→α→Prop) (w:World) (base:Nat) (v:Value) (ps:List α):Prop:=OwnL T n f w base v ps∧∀ p∈ps,Sub (xH w base v.ownBlock) p
theorem Deep.nil:Deep T n f Sub w base (.slice none 0 0) []:=⟨OwnL.nil,fun p hp=>by cases hp⟩
theorem Deep.kb (hm:∀ (w w':World) (p:α),Mono w w'→Sub w p→Sub w' p) (h:Deep T n f Sub w base v ps) (hb:KB w.heap.size w w'):Deep T n f Sub w' base v ps:=⟨h.1.kb hb,fun p hp=>hm _ _ _ (rm hb) (h.2 p hp)⟩
theorem Deep.put (hm:∀ (w w':World) (p:α),Mono w w'→Sub w p→Sub w' p) (h:Deep T n f Sub w base v ps) {g j:Nat} (hg:g < base) (x:Value):Deep T n f Sub (w.setCell ⟨g,j,none⟩ x) base v ps :=
 ⟨oR (o:=j) (vs:=[x]) h.1 (fun e=>by have:=(World.ownsRow.lt h.1 _ e).1; omega),fun p hp=>hm _ _ _ (yC (.inl hg)) (h.2 p hp)⟩
theorem Deep.lt (h:Deep T n f Sub w base v ps):∀ k,v.ownBlock=some k→k < w.heap.size:=fun k e=>(World.ownsRow.lt h.1 k e).2
theorem Deep.snoc (hm:∀ (w w':World) (p:α),Mono w w'→Sub w p→Sub w' p) (h:Deep T n f Sub w base v ps) {a:α} (ha:Sub (xH w base v.ownBlock) a) (h2:w'.ownsRow base T n v' (ps.length+1) (ps.flatMap f++f a)) (hg:w.grownBy w' v.ownBlock) (hv:∀ k,v'.ownBlock=some k→v.ownBlock=some k∨w.heap.size≤k):Deep T n f Sub w' base v' (ps++[a]):=by
 have hM:Mono (xH w base v.ownBlock) (xH w' base v'.ownBlock):=vd hg.size fun k hk h1 h2=>⟨⟨h1,fun e=>by
  rcases hv k e with e | e
  ·exact h2 e
  ·omega⟩,hg.block k hk fun e=>h2 e.symm⟩
 refine ⟨OwnL.snoc h2,fun p hp=>?_⟩;rcases List.mem_append.1 hp with hp | hp
 ·exact hm _ _ _ hM (h.2 p hp)
 ·(rcases List.mem_singleton.1 hp with rfl);exact hm _ _ _ hM ha
theorem Deep.fresh (hf:∀ a,(f a).length=n) (hm:∀ (w w':World) (p:α),Mono w w'→Sub w p→Sub w' p) (h:Deep T n f Sub w base v ps):∃ A c,v = .slice A ps.length c∧ps.length≤c∧Lies n f (xH w base none) A ps∧∀ p∈ps,Sub (xH w base none) p:=by
 obtain ⟨A,c,hv,hl,hb,hc⟩:=OwnL.lies hf h.1;refine ⟨A,c,hv,hc,?_,fun p hp=>hm _ _ _ ZI (h.2 p hp)⟩;rcases hl with hl | ⟨b,off,rfl,hlt,hcell⟩
 ·exact .inl hl
 ·refine .inr ⟨b,off,rfl,by rw [xL]; exact hlt,fun i hi j u hj=>wQ.2 ⟨⟨(hb _ rfl).1,fun e=>by cases e⟩,hcell i hi j u hj⟩⟩
end
section
variable {P:Program} {w:World} {base size n bytes:Nat} {t e:TypeId} {v:Value} {xs:List Value}
theorem rY (E:EK P t e size bytes) {ops:Array Oper} {o:Oper} {a:Act} {K:Act→World→Prop} {Q:Exit→Act→World→Prop} {F:Prop} (hgd:o.guard=none) (s x:Operand)
 (ho:o.op = .call { callee := .builtin .append,args:=#[s,x],argTypes:=#[t,t] }) (news:List Value)
 (hown:w.ownsRow base e size v n xs) (hs:a.eval s=v) (hx:a.eval x = .slice (some ⟨w.heap.size,0,none⟩) 1 1) (hl:news.length=size) (h1:∀ u∈news,u.oneCell'=true)
 (hm:n+1≤maxLen) (hn:(n+1) * bytes≤140737488355328) (hbase:base≤w.heap.size)
 (h:∀ v' w',w'.ownsRow base e size v' (n+1) (xs++news)→Below base w w'→w.grownBy w' v.ownBlock→(∀ k,v'.ownBlock=some k→v.ownBlock=some k∨w.heap.size≤k)→K (a.put o.dst v') w') :
 if Region.wanted o (yielded ops a.tmps)=true then Oper.wp P o a (w.alloc (.cells news.toArray e)) K Q else F:=by
 rw [if_pos (by simp [Region.wanted,hgd])]
 obtain ⟨v',w',hrun,h2,h3,h4,h5⟩:=gI (P:=P) (w:=w.alloc (.cells news.toArray e)) E o.type (hown.alloc _) (ad:=⟨w.heap.size,0,none⟩) (m:=1) (c:=1) (news:=news) (by omega) (fun j u hj=>by
  have hz:(⟨w.heap.size,0,none⟩:Addr).add j=⟨w.heap.size,j,none⟩:=by
   unfold Addr.add;split<;>simp_all
  rw [hz,World.cell?_alloc_at _ _ _ _ rfl]
  simpa using hj) h1 (by omega) hm hn (by simp; omega)
 unfold Oper.wp execOp
 simp only [ho,resolve,invoke,builtin,Sem.run_bind,Sem.run_pure,Result.andThen_ok,List.map_toArray,List.map_cons,List.map_nil,hs,hx,hrun]
 refine h v' w' h2 (((Below.refl _ _).alloc hbase _).trans h3) (lD (World.grownBy_alloc w _ _) h4) fun k hk=>(h5 k hk).imp id fun h=>?_
 rw [h]; simp
end
theorem WpSub.mono (w w':World) (p:WishL × Hdr) (m:Mono w w') (h:WpSub w p):WpSub w' p:=⟨RowOf.mono TextAt.mono h.1 m,h.2⟩
theorem NpSub.mono (w w':World) (p:NeedL × Hdr) (m:Mono w w') (h:NpSub w p):NpSub w' p:=⟨RowOf.mono WishAt.mono h.1 m,h.2⟩
theorem FpSub.mono (w w':World) (p:FeatL × Hdr) (m:Mono w w') (h:FpSub w p):FpSub w' p:=⟨RowOf.mono TextAt.mono h.1 m,h.2⟩
theorem XR (p:WishL × Hdr):(ut p).length=4:=rfl
theorem W7 (p:NeedL × Hdr):(uk p).length=3:=rfl
theorem VK (p:FeatL × Hdr):(sR p).length=2:=rfl
theorem Wj (p:WishL × Hdr):∀ u∈ut p,u.oneCell'=true:=by
 intro u hu;simp only [ut,List.mem_cons,List.not_mem_nil,or_false] at hu;rcases hu with rfl | rfl | rfl | rfl<;>rfl
theorem Wu (p:NeedL × Hdr):∀ u∈uk p,u.oneCell'=true:=by
 intro u hu;simp only [uk,List.mem_cons,List.not_mem_nil,or_false] at hu;rcases hu with rfl | rfl | rfl<;>rfl
theorem Xk (p:FeatL × Hdr):∀ u∈sR p,u.oneCell'=true:=by
 intro u hu;simp only [sR,List.mem_cons,List.not_mem_nil,or_false] at hu;rcases hu with rfl | rfl<;>rfl
theorem Own.set3 {B:Nat} {w:World} {g:Nat} {a0 a1 a2:Value} (h:Own B w g [a0,a1,a2]) (b0 b1 b2:Value):Own B (((w.setCell ⟨g,0,none⟩ b0).setCell ⟨g,1,none⟩ b1).setCell ⟨g,2,none⟩ b2) g [b0,b1,b2] :=
 ⟨h.box.set (o:=0) (vs:=[b0,b1,b2]) (by simp),h.soft.set (o:=0) (vs:=[b0,b1,b2]),h.low⟩
theorem nZ {w w1:World} (h:Below w.heap.size w w1) {g:Nat} (hg:w.heap.size≤g) (b0 b1 b2:Value):Below w.heap.size w (((w1.setCell ⟨g,0,none⟩ b0).setCell ⟨g,1,none⟩ b1).setCell ⟨g,2,none⟩ b2) :=
 zR (zR (zR h hg _) hg _) hg _
theorem mC {w:World} {B g:Nat} (h:g < B) (b0 b1 b2:Value):Mono (xH w B none) (xH (((w.setCell ⟨g,0,none⟩ b0).setCell ⟨g,1,none⟩ b1).setCell ⟨g,2,none⟩ b2) B none) :=
 (((yC (.inl h)).trans (yC (.inl h))).trans (yC (.inl h)))
theorem Own.set4 {B:Nat} {w:World} {g:Nat} {a0 a1 a2 a3:Value} (h:Own B w g [a0,a1,a2,a3]) (b0 b1 b2 b3:Value):Own B ((((w.setCell ⟨g,0,none⟩ b0).setCell ⟨g,1,none⟩ b1).setCell ⟨g,2,none⟩ b2).setCell ⟨g,3,none⟩ b3) g [b0,b1,b2,b3] :=
 ⟨h.box.set (o:=0) (vs:=[b0,b1,b2,b3]) (by simp),h.soft.set (o:=0) (vs:=[b0,b1,b2,b3]),h.low⟩
theorem tm {w w1:World} (h:Below w.heap.size w w1) {g:Nat} (hg:w.heap.size≤g) (b0 b1 b2 b3:Value):Below w.heap.size w ((((w1.setCell ⟨g,0,none⟩ b0).setCell ⟨g,1,none⟩ b1).setCell ⟨g,2,none⟩ b2).setCell ⟨g,3,none⟩ b3) :=
 zR (zR (zR (zR h hg _) hg _) hg _) hg _
theorem tZ {w:World} {B g:Nat} (h:g < B) (b0 b1 b2 b3:Value):Mono (xH w B none) (xH ((((w.setCell ⟨g,0,none⟩ b0).setCell ⟨g,1,none⟩ b1).setCell ⟨g,2,none⟩ b2).setCell ⟨g,3,none⟩ b3) B none) :=
 ((((yC (.inl h)).trans (yC (.inl h))).trans (yC (.inl h))).trans (yC (.inl h)))
def qJ:List ByteArray:=[⟨#[120]⟩,⟨#[121]⟩]
theorem mF {w:World} {g B n:Nat} (h:Box w g [.string ⟨#[120]⟩,.string ⟨#[121]⟩]) (hB:B≤g):Texts (xH w B none) (some ⟨g,0,none⟩) (qJ.take n):=by
 refine .inr ⟨g,0,rfl,by rw [xL]; exact h.1,fun i hi=>?_⟩;(have hi2:i < 2:=by rw [List.length_take] at hi; simp [qJ] at hi; omega);refine wQ.2 ⟨⟨hB,fun e=>by cases e⟩,?_⟩;rw [Nat.zero_add,Nat.mul_one,List.getElem_take];(have:i=0∨i=1:=by omega);rcases this with rfl | rfl
 ·exact h.2 0 _ rfl
 ·exact h.2 1 _ rfl
abbrev wz (s:ByteArray):List Value:=[.string s]
theorem yw (l:List ByteArray):∀ u∈l.flatMap wz,u.oneCell'=true:=by
 intro u hu;obtain ⟨s,-,hs⟩:=List.mem_flatMap.1 hu;(rcases List.mem_singleton.1 hs with rfl);rfl
theorem vW (s:ByteArray):∀ u∈wz s,u.oneCell'=true:=by
 intro u hu;(rcases List.mem_singleton.1 hu with rfl);rfl
def OfH (w:World) (A:Option Addr) (c:Nat) (l:List ByteArray):Prop:=(A=none∧c=0∧l=[])∨∃ g,A=some ⟨g,0,none⟩∧g < w.heap.size∧0 < l.length∧l.length≤c∧∀ i (h:i < l.length),w.cell? ⟨g,i,none⟩=some (.string l[i])
theorem OfH.mono {w w':World} {A:Option Addr} {c:Nat} {l:List ByteArray} (h:OfH w A c l) (m:Mono w w'):OfH w' A c l:=by
 rcases h with h | ⟨g,h1,h2,h3,h4,h5⟩
 ·exact .inl h
 ·exact .inr ⟨g,h1,Nat.lt_of_lt_of_le h2 m.1,h3,h4,fun i hi=>m.2 _ _ (h5 i hi)⟩
theorem OfH.texts {w:World} {A:Option Addr} {c:Nat} {l:List ByteArray} (h:OfH w A c l):Texts w A l:=by
 rcases h with ⟨-,-,h⟩ | ⟨g,h1,h2,h3,h4,h5⟩
 ·exact .inl h
 ·refine .inr ⟨g,0,h1,h2,fun i hi=>?_⟩;show w.cell? ⟨g,0+i * 1,none⟩=_;rw [Nat.zero_add,Nat.mul_one];exact h5 i hi
theorem Yo {w:World} {g k:Nat} {l:List ByteArray} (h:∀ i (h:i < l.length),w.cell? ⟨g,i,none⟩=some (.string l[i])) (hk:k≤l.length):tw w (some ⟨g,0,none⟩) k 1 ((l.take k).flatMap wz):=by
 (have e:(l.take k).flatMap wz=(l.take k).map Value.string:=by rw [List.map_eq_flatMap]);refine ⟨by rw [e,List.length_map,List.length_take]; omega,(fun q=>by cases q),fun ad q j u hj=>?_⟩;(injection q with q);subst q;rw [uR,Nat.zero_add];rw [e,List.getElem?_map] at hj;rcases Nat.lt_or_ge j k with hjk | hjk
 ·rw [List.getElem?_take_of_lt hjk,List.getElem?_eq_getElem (by omega)] at hj;rw [h j (by omega)];exact hj
 ·rw [List.getElem?_eq_none (by rw [List.length_take]; omega)] at hj;cases hj
theorem Y8 {w:World} {g k n c:Nat} {l:List ByteArray} (h:∀ i (h:i < l.length),w.cell? ⟨g,i,none⟩=some (.string l[i])) (hn:l.length=n) (hk:k≤n) (hc:n≤c):tw w (if c=k then some ⟨g,0,none⟩ else some ⟨g,k,none⟩) (n - k) 1 ((l.drop k).flatMap wz):=by
 (have e:(l.drop k).flatMap wz=(l.drop k).map Value.string:=by rw [List.map_eq_flatMap]);(have hlen:((l.drop k).flatMap wz).length=(n - k) * 1:=by rw [e,List.length_map,List.length_drop]; omega);split
 ·refine ⟨hlen,(fun q=>by cases q),fun ad q j u hj=>?_⟩;rw [List.getElem?_eq_none (by omega)] at hj;cases hj
 ·refine ⟨hlen,(fun q=>by cases q),fun ad q j u hj=>?_⟩;(injection q with q);subst q;rw [uR];rw [e,List.getElem?_map,List.getElem?_drop] at hj;rcases Nat.lt_or_ge (k+j) l.length with hjk | hjk
  ·rw [List.getElem?_eq_getElem hjk] at hj;rw [h (k+j) hjk];exact hj
  ·rw [List.getElem?_eq_none hjk] at hj;cases hj
structure FIn (wr:World) (g:Nat) (nm:ByteArray) (q:Nat) (u:World) (A:Option Addr) (c:Nat) (m:List ByteArray):Prop where
 own:Own wr.heap.size u g [.string nm,.slice A m.length c]
 of_:OfH (xH u (g+1) none) A c m
 len:m.length≤q
 small:∀ x∈m,x.size≤16
 below:Below wr.heap.size wr u
theorem FIn.on {wr u u':World} {g q:Nat} {nm:ByteArray} {A:Option Addr} {c:Nat} {m:List ByteArray} (h:FIn wr g nm q u A c m) (hb:Below u.heap.size u u'):FIn wr g nm q u' A c m:=⟨h.own.below hb,h.of_.mono (rm hb.kb),h.len,h.small,zC h.below hb⟩
theorem FIn.up {wr u:World} {g q q':Nat} {nm:ByteArray} {A:Option Addr} {c:Nat} {m:List ByteArray} (h:FIn wr g nm q u A c m) (hq:q≤q'):FIn wr g nm q' u A c m:=⟨h.own,h.of_,Nat.le_trans h.len hq,h.small,h.below⟩
theorem FIn.step {wr u u':World} {g q:Nat} {nm s:ByteArray} {A A':Option Addr} {c c':Nat} {m m':List ByteArray} (h:FIn wr g nm q u A c m) (hs:s.size≤16) (h1:OfH (xH u' (g+1) none) A' c' m') (h2:m'.length≤m.length+1) (h3:∀ x∈m',x∈m∨x=s) (hb:Below u.heap.size u u'):FIn wr g nm (q+1) (u'.setCell ⟨g,1,none⟩ (.slice A' m'.length c')) A' c' m' :=
 ⟨(h.own.below hb).put (j:=1) (by simp) _,h1.mono (yC (.inl (Nat.lt_succ_self g))),by have:=h.len; omega,fun x hx=>by
  rcases h3 x hx with k | rfl
  ·exact h.small x k
  ·exact hs,zR (zC h.below hb) h.own.low _⟩
def Zq:List Value:=[.string ⟨#[100,101,102,97,117,108,116]⟩,.string ⟨#[120]⟩,.string ⟨#[121]⟩,.string ⟨#[122]⟩]
theorem Own.set9 {B:Nat} {w:World} {g:Nat} {a0 a1 a2 a3 a4 a5 a6 a7 a8:Value} (h:Own B w g [a0,a1,a2,a3,a4,a5,a6,a7,a8]) (b0 b1 b2 b3 b4 b5 b6 b7 b8:Value):Own B (((((((((w.setCell ⟨g,0,none⟩ b0).setCell ⟨g,1,none⟩ b1).setCell ⟨g,2,none⟩ b2).setCell ⟨g,3,none⟩ b3).setCell ⟨g,4,none⟩ b4).setCell ⟨g,5,none⟩ b5).setCell ⟨g,6,none⟩ b6).setCell ⟨g,7,none⟩ b7).setCell ⟨g,8,none⟩ b8) g [b0,b1,b2,b3,b4,b5,b6,b7,b8] :=
 ⟨h.box.set (o:=0) (vs:=[b0,b1,b2,b3,b4,b5,b6,b7,b8]) (by simp),h.soft.set (o:=0) (vs:=[b0,b1,b2,b3,b4,b5,b6,b7,b8]),h.low⟩
theorem dT {w w1:World} (h:Below w.heap.size w w1) {g:Nat} (hg:w.heap.size≤g) (b0 b1 b2 b3 b4 b5 b6 b7 b8:Value):Below w.heap.size w (((((((((w1.setCell ⟨g,0,none⟩ b0).setCell ⟨g,1,none⟩ b1).setCell ⟨g,2,none⟩ b2).setCell ⟨g,3,none⟩ b3).setCell ⟨g,4,none⟩ b4).setCell ⟨g,5,none⟩ b5).setCell ⟨g,6,none⟩ b6).setCell ⟨g,7,none⟩ b7).setCell ⟨g,8,none⟩ b8) :=
 zR (zR (zR (zR (zR (zR (zR (zR (zR h hg _) hg _) hg _) hg _) hg _) hg _) hg _) hg _) hg _
theorem dt {w:World} {B g:Nat} (h:g < B) (b0 b1 b2 b3 b4 b5 b6 b7 b8:Value):Mono (xH w B none) (xH (((((((((w.setCell ⟨g,0,none⟩ b0).setCell ⟨g,1,none⟩ b1).setCell ⟨g,2,none⟩ b2).setCell ⟨g,3,none⟩ b3).setCell ⟨g,4,none⟩ b4).setCell ⟨g,5,none⟩ b5).setCell ⟨g,6,none⟩ b6).setCell ⟨g,7,none⟩ b7).setCell ⟨g,8,none⟩ b8) B none) :=
 (((((((((yC (.inl h)).trans (yC (.inl h))).trans (yC (.inl h))).trans (yC (.inl h))).trans (yC (.inl h))).trans (yC (.inl h))).trans (yC (.inl h))).trans (yC (.inl h))).trans (yC (.inl h)))
abbrev tk (b:BarL):List Value:=[.string b.name,.string b.rng,.string b.whn]
theorem X8 (b:BarL):(tk b).length=3:=rfl
theorem WO (b:BarL):∀ u∈tk b,u.oneCell'=true:=by
 intro u hu;simp only [tk,List.mem_cons,List.not_mem_nil,or_false] at hu;rcases hu with rfl | rfl | rfl<;>rfl
abbrev Vm:World→BarL→Prop:=fun _ _=>True
theorem bX {w:World} {A:Option Addr} {l:List BarL} (h:Lies 3 tk w A l):RowOf 3 BarAt w A l:=by
 rcases h with h | ⟨b,off,rfl,hlt,hc⟩
 ·exact .inl h
 ·exact .inr ⟨b,off,rfl,hlt,fun i hi=>⟨hc i hi 0 _ rfl,hc i hi 1 _ rfl,hc i hi 2 _ rfl⟩⟩
theorem bt {w w':World} {v:Value} (hv:v.ownBlock=none) (hg:w.grownBy w' v.ownBlock):KB w.heap.size w w':=⟨hg.os,hg.tape,hg.output,hg.size,fun k hk=>hg.block k hk (by rw [hv]; simp)⟩
theorem aN {a b c:Int} {p q:ByteArray} (hp:p.size≤8) (hq:q.size≤8):(⟨a,b,c,p,q⟩:Ver).fit:=⟨Nat.le_trans hp (by decide),Nat.le_trans hq (by decide)⟩
end Go.Proofs.YtiffijoenkcpjaaGreatDoor
