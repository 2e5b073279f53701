import Derived.Test.YtiebekmefjbenaaGreatDoorZMa
set_option linter.unusedVariables false
set_option linter.unusedSimpArgs false
set_option maxRecDepth 100000
set_option maxHeartbeats 4000000
namespace Go.Proofs.YtiebekmefjbenaaGreatDoor
open Go.RowKit Go.Lib
open Rw
def Keep (o:Option Nat) (w w':World):Prop:=w.heap.size≤w'.heap.size∧∀ k,k < w.heap.size→o≠some k→w'.heap[k]?=w.heap[k]?
theorem Keep.refl (o:Option Nat) (w:World):Keep o w w:=⟨Nat.le_refl _,fun _ _ _=>rfl⟩
theorem Keep.trans {o:Option Nat} {a b c:World} (h:Keep o a b) (k:Keep o b c):Keep o a c:=⟨Nat.le_trans h.1 k.1,fun q hq ho=>(k.2 q (Nat.lt_of_lt_of_le hq h.1) ho).trans (h.2 q hq ho)⟩
theorem Keep.kb {o:Option Nat} {w w':World} (h:KB w.heap.size w w'):Keep o w w':=⟨h.size,fun k hk _=>h.block k hk⟩
theorem Keep.put {o:Option Nat} {a w:World} (h:Keep o a w) {g j:Nat} (x:Value) (hg:o=some g∨a.heap.size≤g):Keep o a (w.setCell ⟨g,j,none⟩ x):=⟨by rw [World.size_setCell]; exact h.1,fun k hk ho=>(pA (fun e=>by
 subst e;rcases hg with hg | hg
 ·exact ho hg
 ·omega)).trans (h.2 k hk ho)⟩
theorem Keep.mask {o:Option Nat} {B:Nat} {w w':World} (h:Keep o w w'):Mono (xH w B o) (xH w' B o):=vd h.1 fun k hk h1 h2=>⟨⟨h1,h2⟩,h.2 k hk h2⟩
theorem Keep.own {o:Option Nat} {B g:Nat} {w w':World} {cs:List Value} (h:Keep o w w') (hOL:Own B w g cs) (ho:o≠some g):Own B w' g cs:=by
 have e:=h.2 g hOL.box.1 ho;exact ⟨hOL.box.block h.1 e,fun j=>(World.frozen?_of_block (a:=⟨g,j,none⟩) e).trans (hOL.soft j),hOL.low⟩
abbrev blkA (A:Option Addr):Option Nat:=A.map (·.block)
structure RowG {α:Type} (B n:Nat) (f:α→List Value) (w:World) (A:Option Addr) (l:List α):Prop where
 lies:Lies n f w A l
 own:l≠[]→∃ g,A=some ⟨g,0,none⟩∧B≤g∧∀ j,w.frozen? ⟨g,j,none⟩=false
 low:∀ k,blkA A=some k→B≤k
section
variable {α:Type} {B n:Nat} {f:α→List Value} {w w':World} {A:Option Addr} {l:List α}
theorem RowG.of {T:TypeId} {v:Value} (hf:∀ a,(f a).length=n) (h:w.ownsRow B T n v l.length (l.flatMap f)):∃ A c,v = .slice A l.length c∧l.length≤c∧RowG B n f w A l:=by
 obtain ⟨A,c,hv,hl,hb,hc⟩:=OwnL.lies hf (show OwnL T n f w B v l from h);refine ⟨A,c,hv,hc,hl,(fun hn=>?_),fun k e=>?_⟩
 rotate_left
 ·cases A with
  | none=>cases e
  | some ad=>injection e with e; rw [← e]; exact (hb ad rfl).1
 obtain ⟨g,c2,hv2,hB,-,-,-⟩:=vN h (List.length_pos_iff.2 hn);rw [hv] at hv2;(injection hv2 with e1 e2 e3);subst e1;rw [hv] at h;exact ⟨g,rfl,hB,h.frozenAt⟩
theorem RowG.keep {o:Option Nat} (h:RowG B n f w A l) (k:Keep o w w') (ho:∀ g,blkA A=some g→o≠some g):RowG B n f w' A l:=by
 by_cases hl:l=[]
 ·exact ⟨.inl hl,(fun hn=>absurd hl hn),h.low⟩
 ·obtain ⟨g,rfl,hB,hs⟩:=h.own hl;rcases h.lies with h2 | ⟨b,off,h1,h2,h3⟩
  ·exact absurd h2 hl
  ·(injection h1 with h1);(injection h1 with e1 e2 e3);subst e1; subst e2;have e:=k.2 g h2 (ho g rfl);exact ⟨.inr ⟨g,0,rfl,Nat.lt_of_lt_of_le h2 k.1,fun i hi j u hj=>(World.cell?_of_block e).trans (h3 i hi j u hj)⟩,(fun _=>⟨g,rfl,hB,fun j=>(World.frozen?_of_block (a:=⟨g,j,none⟩) e).trans (hs j)⟩),h.low⟩
theorem RowG.mid {a:α} {ds os:List α} (h:RowG B n f w A (ds++a::os)):∃ g,A=some ⟨g,0,none⟩∧B≤g∧g < w.heap.size∧(∀ j,w.frozen? ⟨g,j,none⟩=false)∧∀ j u,(f a)[j]?=some u→w.cell? ⟨g,ds.length * n+j,none⟩=some u:=by
 obtain ⟨g,rfl,hB,hs⟩:=h.own (by simp);rcases h.lies with h2 | ⟨b,off,h1,h2,h3⟩
 ·simp at h2
 ·(injection h1 with h1);(injection h1 with e1 e2 e3);subst e1; subst e2;refine ⟨g,rfl,hB,h2,hs,fun j u hj=>?_⟩;(have hi:ds.length < (ds++a::os).length:=by simp);(have he:(ds++a::os)[ds.length]=a:=by simp);have:=h3 ds.length hi j u (by rw [he]; exact hj)
  rwa [Nat.zero_add] at this
theorem RowG.set {a b:α} {ds os:List α} {g j:Nat} {x:Value} (hf:∀ a,(f a).length=n) (h:RowG B n f w (some ⟨g,0,none⟩) (ds++a::os)) (hj:j < n) (hx:(f b)[j]?=some x) (ho:∀ i,i≠j→(f b)[i]?=(f a)[i]?):RowG B n f (w.setCell ⟨g,ds.length * n+j,none⟩ x) (some ⟨g,0,none⟩) (ds++b::os):=by
 (have hi:ds.length < (ds++a::os).length:=by simp);(have he:(ds++a::os)[ds.length]=a:=by simp);(have hs:(ds++a::os).set ds.length b=ds++b::os:=by simp);have:=XK hf h.lies hi hj b x hx (by rw [he]; exact ho);rw [hs] at this;obtain ⟨g',e1,hB,hfz⟩:=h.own (by simp);(injection e1 with e1);(injection e1 with e1 e2 e3);subst e1;exact ⟨this,(fun _=>⟨g,rfl,hB,fun i=>by rw [World.frozen?_setCell]; exact hfz i⟩),h.low⟩
theorem RowG.masked {C:Nat} {o:Option Nat} (h:RowG B n f w A l) (hC:C≤B) (ho:∀ g,B≤g→o≠some g):Lies n f (xH w C o) A l:=by
 by_cases hl:l=[]
 ·exact .inl hl
 ·obtain ⟨g,rfl,hB,hs⟩:=h.own hl;rcases h.lies with h2 | ⟨b,off,h1,h2,h3⟩
  ·exact absurd h2 hl
  ·(injection h1 with h1);(injection h1 with e1 e2 e3);subst e1; subst e2;exact .inr ⟨g,0,rfl,by rw [xL]; exact h2,fun i hi j u hj=>wQ.2 ⟨⟨Nat.le_trans hC hB,ho g hB⟩,h3 i hi j u hj⟩⟩
theorem RowG.step {Sub:World→α→Prop} (hf:∀ a,(f a).length=n) (hm:∀ (w w':World) (p:α),Mono w w'→Sub w p→Sub w' p) {g:Nat} {es fsL:List α} {p p':α} {j:Nat} {x:Value} (h:RowG B n f w (some ⟨g,0,none⟩) (es++p::fsL)) (hs:∀ q∈es,Sub (xH w B (some g)) q) (hb:KB w.heap.size w w') (hj:j < n) (hx:(f p')[j]?=some x) (ho:∀ i,i≠j→(f p')[i]?=(f p)[i]?) (hp:Sub (xH w' B (some g)) p'):RowG B n f (w'.setCell ⟨g,es.length * n+j,none⟩ x) (some ⟨g,0,none⟩) ((es++[p'])++fsL)∧∀ q∈es++[p'],Sub (xH (w'.setCell ⟨g,es.length * n+j,none⟩ x) B (some g)) q:=by
 refine ⟨?_,fun q hq=>hm _ _ _ (yC (.inr rfl)) ?_⟩
 ·rw [List.append_assoc];exact (h.keep (o:=none) (Keep.kb hb) (fun g _ e=>by cases e)).set hf hj hx ho
 ·rcases List.mem_append.1 hq with hq | hq
  ·exact hm _ _ _ (rm hb) (hs q hq)
  ·(rcases List.mem_singleton.1 hq with rfl);exact hp
end
theorem kb_set9 {w w1:World} (h:KB w.heap.size w w1) {g:Nat} (hg:w.heap.size≤g) (b0 b1 b2 b3 b4 b5 b6 b7 b8:Value):KB w.heap.size w (((((((((w1.setCell ⟨g,0,none⟩ b0).setCell ⟨g,1,none⟩ b1).setCell ⟨g,2,none⟩ b2).setCell ⟨g,3,none⟩ b3).setCell ⟨g,4,none⟩ b4).setCell ⟨g,5,none⟩ b5).setCell ⟨g,6,none⟩ b6).setCell ⟨g,7,none⟩ b7).setCell ⟨g,8,none⟩ b8) :=
 yV (yV (yV (yV (yV (yV (yV (yV (yV h hg _) hg _) hg _) hg _) hg _) hg _) hg _) hg _) hg _
theorem texts_lies {w:World} {A:Option Addr} {l:List ByteArray} (h:Texts w A l):Lies 1 wz w A l:=by
 rcases h with h | ⟨b,off,h1,h2,h3⟩
 ·exact .inl h
 ·refine .inr ⟨b,off,h1,h2,fun i hi j u hj=>?_⟩;rcases j with _ | j
  ·cases hj; exact h3 i hi
  ·cases hj
theorem lies_texts {w:World} {A:Option Addr} {l:List ByteArray} (h:Lies 1 wz w A l):Texts w A l:=by
 rcases h with h | ⟨b,off,h1,h2,h3⟩
 ·exact .inl h
 ·exact .inr ⟨b,off,h1,h2,fun i hi=>h3 i hi 0 _ rfl⟩
theorem bars_lies {w:World} {A:Option Addr} {l:List BarL} (h:RowOf 3 BarAt w A l):Lies 3 tk w A l:=by
 rcases h with h | ⟨b,off,h1,h2,h3⟩
 ·exact .inl h
 ·refine .inr ⟨b,off,h1,h2,fun i hi j u hj=>?_⟩;obtain ⟨k0,k1,k2⟩:=h3 i hi;rcases j with _ | _ | _ | j
  ·cases hj; exact k0
  ·cases hj; exact k1
  ·cases hj; exact k2
  ·cases hj
theorem lies_old {α:Type} {n:Nat} {f:α→List Value} {w w':World} {A:Option Addr} {l:List α} (h:Lies n f w A l) (hs:w.heap.size≤w'.heap.size):∀ ad,A=some ad→0 < (l.flatMap f).length→ad.block < w'.heap.size:=by
 intro ad e hn;rcases h with h | ⟨b,off,h1,h2,-⟩
 ·rw [h] at hn; simp at hn
 ·rw [h1] at e;(injection e with e);subst e;exact Nat.lt_of_lt_of_le h2 hs
theorem flat_oneQ {α:Type} {f:α→List Value} (h1:∀ a,∀ u∈f a,u.oneCell'=true) (l:List α):∀ u∈l.flatMap f,u.oneCell'=true:=by
 intro u hu;obtain ⟨a,-,ha⟩:=List.mem_flatMap.1 hu;exact h1 a u ha
structure RecSmall (r:RecL):Prop where
 needs:r.needs.length≤1000
 bars:r.bars.length≤1000
 feats:r.feats.length≤1000
 any:∀ n∈r.needs,n.any.length≤1000
 wish:∀ n∈r.needs,∀ x∈n.any,x.feats.length≤1000
 of_:∀ f∈r.feats,f.of_.length≤1000
theorem first_all {α:Type} {f:α→Int}:∀ {l:List α} {i:Nat},(zS f i l).1=0→∀ x∈l,f x=0
 | [],_,_,x,hx=>by cases hx
 | y::l,i,h,x,hx=>by
  rw [zS] at h;by_cases hy:f y=0
  ·rw [if_pos hy] at h;rcases List.mem_cons.1 hx with rfl | hx
   ·exact hy
   ·exact first_all h x hx
  ·rw [if_neg hy] at h;exact absurd h hy
theorem firstE_all {α:Type} {f:α→Int}:∀ {l:List α},yj f l=0→∀ x∈l,f x=0
 | [],_,x,hx=>by cases hx
 | y::l,h,x,hx=>by
  rw [yj] at h;by_cases hy:f y=0
  ·rw [if_pos hy] at h;rcases List.mem_cons.1 hx with rfl | hx
   ·exact hy
   ·exact firstE_all h x hx
  ·rw [if_neg hy] at h;exact absurd h hy
theorem small_of_check {r:RecL} (h:(z5 r).1=0):RecSmall r:=by
 unfold z5 at h;split at h
 ·exact absurd h (by decide)
 split at h
 ·exact absurd h (by decide)
 split at h
 ·exact absurd h (by decide)
 rename_i h3
 split at h
 ·rename_i h4; exact absurd h h4
 rename_i h4
 split at h
 ·rename_i h5; exact absurd h h5
 split at h
 ·exact absurd h (by decide)
 rename_i h6
 have hn:=first_all (Decidable.not_not.1 h4);(have hf:zt r.feats=true:=by simpa using h6);rw [zt,Bool.and_eq_true,Bool.and_eq_true,decide_eq_true_eq] at hf
 have hany:∀ n∈r.needs,n.any.length≤3∧∀ x∈n.any,x.feats.length≤6:=by
  intro n hm;have h0:=hn n hm;unfold yg at h0;split at h0
  ·exact absurd h0 (by decide)
  split at h0
  ·exact absurd h0 (by decide)
  rename_i h7
  refine ⟨by omega,fun x hx=>?_⟩
  have hE:yj (uW (bts r.name) (decide (n.any.length=1))) n.any=0:=by
   split at h0
   ·assumption
   ·exact h0
  have hw:=firstE_all hE x hx;unfold uW at hw;split at hw
  ·split at hw
   ·rename_i h8
    rw [yO,Bool.and_eq_true,Bool.and_eq_true,Bool.and_eq_true,decide_eq_true_eq] at h8;exact h8.1.1.1
   ·exact absurd hw (by decide)
  ·rename_i h8; exact absurd hw h8
 refine ⟨by omega,by omega,by omega,fun n hm=>by have:=(hany n hm).1; omega,fun n hm x hx=>by have:=(hany n hm).2 x hx; omega,fun f hm=>?_⟩;have:=List.all_eq_true.1 hf.2 f hm;rw [ux,Bool.and_eq_true,Bool.and_eq_true,Bool.and_eq_true,decide_eq_true_eq] at this;have:=this.1.1.2;omega
def CopyK (w:World) (r:RecL) (e:Ending) (w':World):Prop:=∃ h:RecH,e = .returned (r.val h)∧RecLies (xH w' w.heap.size none) h r∧KB w.heap.size w w'
theorem mem_fst {α η:Type} {ps:List (α × η)} {l:List α} (h:ps.map (·.1)=l) {p:α × η} (hp:p∈ps):p.1∈l:=by
 rw [← h]; exact List.mem_map_of_mem hp
theorem put_above {w u:World} {B g j:Nat} {x:Value} {o:Option Nat} {s:Nat} (hb:KB w.heap.size w u) (hs:w.heap.size=s) (hg:g < B) (ho:∀ k,o=some k→s≤k):Mono (xH w B none) (xH (u.setCell ⟨g,j,none⟩ x) B o):=vd (by rw [World.size_setCell]; exact hb.size) fun k hk h1 _=>⟨⟨h1,fun e=>by have:=ho k e; omega⟩,(pA (by omega)).trans (hb.block k hk)⟩
theorem copied_any (r:RecL) (hd:RecH) (w:World) (hr:RecLies w hd r) (hs:RecSmall r):Calls Tryz.prog 30 #[r.val hd] w (CopyK w r):=by
 obtain ⟨qs0,hq1,hq2,hq3⟩:=needs_pairs hr.needs;obtain ⟨fs0,hf1,hf2,hf3⟩:=feats_pairs hr.feats;have HP:=hid (show ∀ p∈qs0,NpSub w p∧p.1.any.length≤1000∧∀ x∈p.1.any,x.feats.length≤1000 from fun p hp=>⟨hq3 p hp,hs.any _ (mem_fst hq1 hp),hs.wish _ (mem_fst hq1 hp)⟩);have HFP:=hid (show ∀ p∈fs0,FpSub w p∧p.1.of_.length≤1000 from fun p hp=>⟨hf3 p hp,hs.of_ _ (mem_fst hf1 hp)⟩);have hln:=hs.needs;have hlb:=hs.bars;have hlf:=hs.feats;obtain ⟨rn,rv,rne,rba,rfe⟩:=r;obtain ⟨A0,ca,B0,cb,F0,cf⟩:=hd;have hbr:=hr.bars;dsimp only at hq1 hq2 hf1 hf2 hln hlb hlf hbr;(have hl1:qs0.length=rne.length:=by rw [← hq1,List.length_map]);(have hl3:fs0.length=rfe.length:=by rw [← hf1,List.length_map]);have CN:=hid (fun u (hb:KB w.heap.size w u)=>clone_needs A0 ca rne.length (qs0.flatMap uk) u (hl1▸eK W7 (by decide) (hq2.kb hb)) (lies_old hq2 hb.size) (flat_oneQ Wu _) (by omega));have CB:=hid (fun u (hb:KB w.heap.size w u)=>clone_bars B0 cb rba.length (rba.flatMap tk) u (eK X8 (by decide) ((bars_lies hbr).kb hb)) (lies_old (bars_lies hbr) hb.size) (flat_oneQ WO _) (by omega));have CF:=hid (fun u (hb:KB w.heap.size w u)=>clone_feats F0 cf rfe.length (fs0.flatMap sR) u (hl3▸eK VK (by decide) (hf2.kb hb)) (lies_old hf2 hb.size) (flat_oneQ Xk _) (by omega));have CW:=hid (fun (A:Option Addr) (c m:Nat) (ws:List (WishL × Hdr)) (hm:ws.length=m) (hl:Lies 4 ut w A ws) (hn:m≤1000) u (hb:KB w.heap.size w u)=>clone_wishes A c m (ws.flatMap ut) u (hm▸eK XR (by decide) (hl.kb hb)) (lies_old hl hb.size) (flat_oneQ Wj _) (by omega))
 have CT:=hid (fun (A:Option Addr) (c m:Nat) (l:List ByteArray) (hm:l.length=m) (hl:Texts w A l) (hn:m≤1000) u (hb:KB w.heap.size w u)=>clone_strs A c m (l.flatMap wz) u (hm▸eK cellT_len (by decide) ((texts_lies hl).kb hb)) (lies_old (texts_lies hl) hb.size) (flat_oneQ vW _) (by omega));have HQ1:=hid hq1;have HF1:=hid hf1;unfold CloneK at CN CB CF CW CT;clear hq1 hf1 hq2 hq3 hf2 hf3 hbr hr hs;dsimp only [RecL.val];generalize hn1:rne.length=n1 at *;have HN1:=hid hn1;generalize hn2:rba.length=n2 at *;have HN2:=hid hn2;generalize hn3:rfe.length=n3 at *;have HN3:=hid hn3;clear hn1 hn2 hn3;have HL1:=hid hl1;have HL3:=hid hl3;clear hl1 hl3;go_enter Tryz.func30,Tryz.ntmps30;(go_upto_region 1 with fail);refine zI ?_;intro u1 hu;have HX:=hid (show Own w.heap.size u1 w.heap.size [.string rn,.int .i64 rv.maj,.int .i64 rv.min,.int .i64 rv.pat,.string rv.pre,.string rv.bld,.slice A0 n1 ca,.slice B0 n2 cb,.slice F0 n3 cf] by rw [hu]; exact (Own.new w [.string rn,.int .i64 rv.maj,.int .i64 rv.min,.int .i64 rv.pat,.string rv.pre,.string rv.bld,.slice A0 n1 ca,.slice B0 n2 cb,.slice F0 n3 cf] 32 (Nat.le_refl _)).alloc _);have HY:=hid (show Own w.heap.size u1 (w.heap.size+1) [.string ⟨#[]⟩,.int .i64 0,.int .i64 0,.int .i64 0,.string ⟨#[]⟩,.string ⟨#[]⟩,.slice none 0 0,.slice none 0 0,.slice none 0 0] by rw [hu]; exact Own.new2 w _ [.string ⟨#[]⟩,.int .i64 0,.int .i64 0,.int .i64 0,.string ⟨#[]⟩,.string ⟨#[]⟩,.slice none 0 0,.slice none 0 0,.slice none 0 0] 32 (Nat.le_refl _))
 have HB1:=hid (show KB w.heap.size w u1 by rw [hu]; exact zA (zG _ _) (zG _ _));(have hsz:u1.heap.size=w.heap.size+2:=by rw [hu,World.size_alloc,World.size_alloc]);have HSZ:=hid hsz;clear hu hsz;have x6:=HX.out.box.2 6 _ rfl;have xl:=HX.out.box.1;(go_wp2_with fail);refine (CN.out u1 HB1.out).mono ?_;rintro _ u2 ⟨v1,rfl,hOL,hb⟩;obtain ⟨A1,c1,hv,hc1,hGL⟩:=RowG.of W7 (l:=qs0) (by rw [HL1.out]; exact hOL);rw [HL1.out] at hv;subst hv;have HG2:=hid hGL;have HX2:=hid (HX.out.kb hb);have HY2:=hid (HY.out.kb hb);have HB2:=hid (zA HB1.out hb);clear hb hOL hGL hc1 x6 xl CN;have x6:=HX2.out.box.2 6 _ rfl;have xl:=HX2.out.box.1;have sf:∀ j,u2.frozen? ⟨w.heap.size,j,none⟩=false:=HX2.out.soft;(go_upto_region 2 with fail);refine zI ?_;intro u3 hu;have HX3:=hid (show Own w.heap.size u3 w.heap.size [.string rn,.int .i64 rv.maj,.int .i64 rv.min,.int .i64 rv.pat,.string rv.pre,.string rv.bld,.slice A1 n1 c1,.slice B0 n2 cb,.slice F0 n3 cf] by rw [hu]; exact HX2.out.put (j:=6) (by simp) _);have HY3:=hid (show Own w.heap.size u3 (w.heap.size+1) [.string ⟨#[]⟩,.int .i64 0,.int .i64 0,.int .i64 0,.string ⟨#[]⟩,.string ⟨#[]⟩,.slice none 0 0,.slice none 0 0,.slice none 0 0] by rw [hu]; exact HY2.out.other (Nat.succ_ne_self _) _);have HB3:=hid (show KB w.heap.size w u3 by rw [hu]; exact yV HB2.out (Nat.le_refl _) _)
 have HG3:=hid (show RowG u1.heap.size 3 uk u3 A1 qs0 by
  rw [hu]
  exact HG2.out.keep (o:=some w.heap.size) ((Keep.refl _ _).put _ (.inl rfl)) fun g hg e=>by
   (injection e with e);have:=HG2.out.low g hg;have:=HSZ.out
   omega)
 clear hu x6 xl sf HX2 HY2 HB2 HG2;have x6:=HX3.out.box.2 6 _ rfl;have xl:=HX3.out.box.1;(go_upto_block 0 with fail);clear HX HY HB1;(go_wp2_with fail);clear x6 xl;go_loopw [14] (fun i ww=>∃ (k:Nat) (ds os:List (NeedL × Hdr)),i = .int .i64 (k:Int)∧k≤n1∧Hid (ds.length=k)∧Hid ((ds++os).length=n1)∧Hid ((ds++os).map (·.1)=rne)∧Hid (RowG u1.heap.size 3 uk ww A1 (ds++os))∧Hid (∀ p∈ds,NpSub (xH ww u1.heap.size (blkA A1)) p)∧Hid (∀ p∈os,NpSub w p∧p.1.any.length≤1000∧∀ x∈p.1.any,x.feats.length≤1000)∧Hid (Own w.heap.size ww w.heap.size [.string rn,.int .i64 rv.maj,.int .i64 rv.min,.int .i64 rv.pat,.string rv.pre,.string rv.bld,.slice A1 n1 c1,.slice B0 n2 cb,.slice F0 n3 cf])∧Hid (Own w.heap.size ww (w.heap.size+1) [.string ⟨#[]⟩,.int .i64 0,.int .i64 0,.int .i64 0,.string ⟨#[]⟩,.string ⟨#[]⟩,.slice none 0 0,.slice none 0 0,.slice none 0 0])∧Hid (KB w.heap.size w ww)∧Hid (u1.heap.size≤ww.heap.size)) (fun i _=>n1 - (intOf i).toNat)
 case atStart=>exact ⟨0,[],qs0,rfl,Nat.zero_le _,hid rfl,HL1,HQ1,HG3,hid (fun p hp=>by cases hp),HP,HX3,HY3,HB3,hid (by have:=HY3.out.box.1; have:=HSZ.out; omega)⟩
 case round =>
  (rename World=>wo);obtain ⟨k,ds,os,rfl,hk,HKL,HAL,HMP,HG,HDS,HOS,HX,HY,HB,HBW⟩:=hrel;have x6:=HX.out.box.2 6 _ rfl;have xl:=HX.out.box.1;by_cases hlt:k < n1
  ·rcases os with _ | ⟨p,os⟩
   ·exfalso;have h1:=HAL.out;have h2:=HKL.out;rw [List.append_nil] at h1;omega
   ·obtain ⟨gNL,hA1,hBg,hgl,hfz,hcell⟩:=HG.out.mid;subst hA1;rw [HKL.out] at hcell;have hp:=HOS.out p (List.mem_cons_self ..);have HOS2:=hid (fun q hq=>HOS.out q (List.mem_cons_of_mem _ hq));obtain ⟨⟨any,whn,opt⟩,Aw,cw⟩:=p;dsimp only at hp;obtain ⟨⟨hpr,-⟩,hpl,hpw⟩:=hp;obtain ⟨ws,hw1,hw2,hw3⟩:=wishes_pairs hpr;(have hwl:ws.length=any.length:=by have:=congrArg List.length hw1; simpa using this);have n0:=hcell 0 _ rfl;rw [Nat.add_zero] at n0;have HN0:=hid n0;(have k0:(0:Int)≤(k:Int):=by omega);(have k1:(k:Int) < (n1:Int):=by omega);have HCW:=hid (CW.out Aw cw any.length ws hwl hw2 hpl wo HB.out);have HWS:=hid (show ∀ q∈ws,WpSub w q∧q.1.feats.length≤1000 from fun q hq=>⟨hw3 q hq,hpw _ (mem_fst hw1 hq)⟩);have HW1:=hid hw1;have HWL:=hid hwl;have HGL:=hid hgl;have HBG:=hid hBg;have HFZ:=hid hfz;clear hcell hpr hpw hw1 hw2 hw3 HOS hwl hfz;generalize hml:any.length=m at *;have HML:=hid hml;clear hml;(go_wp2_with fail);refine HCW.out.mono ?_;rintro _ u4 ⟨v2,rfl,hOL,hb⟩;obtain ⟨A2,c2,hv,hc2,hG2⟩:=RowG.of XR (l:=ws) (by rw [HWL.out]; exact hOL);rw [HWL.out] at hv;subst hv;have HU4:=hid hb;have HW4:=hid hG2;clear hb hOL hG2 hc2 x6 xl n0 hgl hBg HCW;have n0:=zU HGL.out HU4.out HN0.out;have hgl:gNL < u4.heap.size:=Nat.lt_of_lt_of_le HGL.out HU4.out.size;have sf:∀ j,u4.frozen? ⟨gNL,j,none⟩=false:=fun j=>(World.frozen?_of_block (a:=⟨gNL,j,none⟩) (HU4.out.block gNL HGL.out)).trans (HFZ.out j)
    (go_upto_region 7 with fail);refine zI ?_;intro u5 hu
    have HG5:=hid (show RowG u1.heap.size 3 uk u5 (some ⟨gNL,0,none⟩) (ds++(((⟨any,whn,opt⟩:NeedL),((A2,c2):Hdr)))::os) by
     rw [hu]
     have:=(HG.out.keep (o:=none) (Keep.kb HU4.out) (fun g _ e=>by cases e)).set W7 (b:=(((⟨any,whn,opt⟩:NeedL),((A2,c2):Hdr)))) (j:=0) (by decide) (x := .slice A2 m c2) (by rw [← HML.out]; rfl) (by
      intro i hi;rcases i with _ | i
      ·exact absurd rfl hi
      ·rfl)
     rw [HKL.out] at this
     exact this)
    have HK5:=hid (show Keep (some gNL) wo u5 by rw [hu]; exact (Keep.kb HU4.out).put _ (.inl rfl))
    have HW5:=hid (show RowG wo.heap.size 4 ut u5 A2 ws by
     rw [hu]
     exact HW4.out.keep (o:=some gNL) ((Keep.refl _ _).put _ (.inl rfl)) fun g hg e=>by
      (injection e with e);have:=HW4.out.low g hg;have:=HGL.out
      omega)
    have HB5:=hid (show KB w.heap.size w u5 by rw [hu]; exact yV (zA HB.out HU4.out) (by have:=HBG.out; have:=HSZ.out; omega) _);(have m0:u5.cell? ⟨gNL,k * 3,none⟩=some (.slice A2 m c2):=by rw [hu]; exact World.cell?_setCell_same _ _ _ (by rw [n0]<;>rfl));(have mlL:gNL < u5.heap.size:=by rw [hu,World.size_setCell]; exact hgl);clear hu n0 hgl sf HW4 HU4;(go_upto_block 2 with fail);(go_wp2_with fail);clear m0 mlL;go_loopw [34] (fun i ww=>∃ (j:Nat) (es fsL:List (WishL × Hdr)),i = .int .i64 (j:Int)∧j≤m∧Hid (es.length=j)∧Hid ((es++fsL).length=m)∧Hid ((es++fsL).map (·.1)=any)∧Hid (RowG wo.heap.size 4 ut ww A2 (es++fsL))∧Hid (∀ q∈es,WpSub (xH ww wo.heap.size (blkA A2)) q)∧Hid (∀ q∈fsL,WpSub w q∧q.1.feats.length≤1000)∧Hid (RowG u1.heap.size 3 uk ww (some ⟨gNL,0,none⟩) (ds++(((⟨any,whn,opt⟩:NeedL),((A2,c2):Hdr)))::os))∧Hid (Keep (some gNL) wo ww)∧Hid (KB w.heap.size w ww)) (fun i _=>m - (intOf i).toNat)
    case atStart=>exact ⟨0,[],ws,rfl,Nat.zero_le _,hid rfl,HWL,HW1,HW5,hid (fun p hp=>by cases hp),HWS,HG5,HK5,HB5⟩
    case round =>
     (rename World=>wi);obtain ⟨j,es,fsL,rfl,hj,HEL,HFL,HEM,HWI,HES,HFS,HGI,HKI,HBI⟩:=hrel;by_cases hjl:j < m
     ·rcases fsL with _ | ⟨q,fsL⟩
      ·exfalso;have h1:=HFL.out;have h2:=HEL.out;rw [List.append_nil] at h1;omega
      ·obtain ⟨gWL,hA2,hBW,hWl,hWf,hWc⟩:=HWI.out.mid;subst hA2;rw [HEL.out] at hWc;have hq:=HFS.out q (List.mem_cons_self ..);have HFS2:=hid (fun x hx=>HFS.out x (List.mem_cons_of_mem _ hx));obtain ⟨⟨xn,xrL,xf,xb⟩,Af,cfe⟩:=q;dsimp only at hq;obtain ⟨⟨hqt,-,-⟩,hql⟩:=hq;have w2:=hWc 2 _ rfl;dsimp only at w2;obtain ⟨gN',hgN',-,hNl,-,hNc⟩:=HGI.out.mid;(injection hgN' with hgN');(injection hgN' with e1 e2 e3);subst e1;rw [HKL.out] at hNc;have n0:=hNc 0 _ rfl;rw [Nat.add_zero] at n0;dsimp only at n0;rw [HML.out] at n0;(have j0:(0:Int)≤(j:Int):=by omega);(have j1:(j:Int) < (m:Int):=by omega);have HCT:=hid (fun u (hb:KB wi.heap.size wi u)=>CT.out Af cfe xf.length xf rfl hqt hql u (zA HBI.out hb));have HXL:=hid hql;have HWc:=hid hWc;have HWl:=hid hWl;have HWf:=hid hWf;have HNl:=hid hNl;have HN0':=hid n0;(have hne:gWL≠gNL:=by have:=HGL.out; omega);clear hqt hql HFS hWc hNc;generalize hxl:xf.length=q1 at *;have HXFL:=hid hxl;clear hxl;go_upto_region 10 with fail
       go_region_law (go_simp; (with_reducible refine (HCT.out _ (zM (zH _))).mono ?_); rintro _ wa ⟨v3,rfl,hOL,hb⟩; have hba:=zA (zM (zH wi)) hb; obtain ⟨A3,c3,hv,hc3,hT⟩:=RowG.of cellT_len (l:=xf) (by rw [HXFL.out]; exact hOL); rw [HXFL.out] at hv hc3; subst hv; have a0:=zU HNl.out hba HN0'.out; have al:=Nat.lt_of_lt_of_le HNl.out hba.size; have b2:=zU HWl.out hba (HWc.out 2 _ rfl); have bl:=Nat.lt_of_lt_of_le HWl.out hba.size; have sf:∀ j,wa.frozen? ⟨gWL,j,none⟩=false:=fun j=>(World.frozen?_of_block (a:=⟨gWL,j,none⟩) (hba.block gWL HWl.out)).trans (HWf.out j))
       all_goals
        clear a0 al b2 bl sf n0 w2 hWl hWf hNl;refine nV ?_;intro w6 hw6;replace hw6:w6=wa.setCell ⟨gWL,j * 4+2,none⟩ (.slice A3 q1 c3):=hw6
        have HST:=hid (show RowG wo.heap.size 4 ut w6 (some ⟨gWL,0,none⟩) ((es++[((⟨xn,xrL,xf,xb⟩:WishL),((A3,c3):Hdr))])++fsL)∧∀ q∈es++[((⟨xn,xrL,xf,xb⟩:WishL),((A3,c3):Hdr))],WpSub (xH w6 wo.heap.size (some gWL)) q by
         rw [hw6]
         have:=HWI.out.step XR WpSub.mono HES.out hba (p':=((⟨xn,xrL,xf,xb⟩:WishL),((A3,c3):Hdr))) (j:=2) (by decide) (x := .slice A3 q1 c3) (by rw [← HXFL.out]; rfl) (by
          intro i hi;rcases i with _ | _ | _ | _ | i
          ·rfl
          ·rfl
          ·exact absurd rfl hi
          ·rfl
          ·rfl) ⟨lies_texts (hT.masked (by have:=HKI.out.1; exact this) fun g hg e=>by injection e with e; have:=HWl.out; have:wi.heap.size≤g:=hg; omega),by dsimp only; rw [HXFL.out]; have:=HXL.out; omega,by dsimp only; rw [HXFL.out]; exact hc3⟩
         rw [HEL.out] at this
         exact this)
        have HG6:=hid (show RowG u1.heap.size 3 uk w6 (some ⟨gNL,0,none⟩) (ds++(((⟨any,whn,opt⟩:NeedL),((some ⟨gWL,0,none⟩,c2):Hdr)))::os) by
         rw [hw6]
         exact HGI.out.keep (o:=some gWL) ((Keep.kb hba).put _ (.inl rfl)) fun g hg e=>by
          (injection hg with hg);injection e with e
          exact hne (e.trans hg.symm))
        have HK6:=hid (show Keep (some gNL) wo w6 by rw [hw6]; exact (HKI.out.trans (Keep.kb hba)).put _ (.inr hBW));have HB6:=hid (show KB w.heap.size w w6 by rw [hw6]; exact yV (zA HBI.out hba) (Nat.le_trans HB.out.size hBW) _);have HL6:=hid (show (es++[((⟨xn,xrL,xf,xb⟩:WishL),((A3,c3):Hdr))]).length=j+1 by rw [List.length_append,HEL.out]; rfl);have HF6:=hid (show ((es++[((⟨xn,xrL,xf,xb⟩:WishL),((A3,c3):Hdr))])++fsL).length=m by have:=HFL.out; simp at this ⊢; omega);have HM6:=hid (show ((es++[((⟨xn,xrL,xf,xb⟩:WishL),((A3,c3):Hdr))])++fsL).map (·.1)=any by have:=HEM.out; simp at this ⊢; exact this);clear hw6 hT hba hb hOL hc3;(go_wp2_with fail);go_roundw
        case rel=>exact ⟨j+1,_,fsL,by go_num,by omega,HL6,HF6,HM6,hid HST.out.1,hid HST.out.2,HFS2,HG6,HK6,HB6⟩
        case measure=>simp [intOf]<;>omega
     ·(obtain rfl:j=m:=by omega);(have j1:¬ (j:Int) < (j:Int):=by omega);have hfs:fsL=[]:=List.eq_nil_of_length_eq_zero (by have h1:=HFL.out; have h2:=HEL.out; rw [List.length_append] at h1; omega);subst hfs
      have HNW:=hid (show ∀ p∈ds++[(((⟨any,whn,opt⟩:NeedL),((A2,c2):Hdr)))],NpSub (xH wi u1.heap.size (some gNL)) p from fun p hp=>by
       rcases List.mem_append.1 hp with hp | hp
       ·exact NpSub.mono _ _ _ HKI.out.mask (HDS.out p hp)
       ·(rcases List.mem_singleton.1 hp with rfl);have h1:=HWI.out;have h2:=HEM.out;rw [List.append_nil] at h1 h2;(have hlo:∀ g,wo.heap.size≤g→(some gNL:Option Nat)≠some g:=fun g hg e=>by injection e with e; have:=HGL.out; omega);refine ⟨?_,by dsimp only; rw [HML.out]; omega⟩;(have:=qZ (h1.masked (o:=some gNL) HBW.out hlo) fun q hq=>WpSub.mono _ _ _ (vd (Nat.le_refl _) fun k _ hk _=>⟨⟨Nat.le_trans HBW.out hk,hlo k hk⟩,rfl⟩) (HES.out q hq));rw [h2] at this
        exact this)
      have HX6:=hid (HKI.out.own HX.out (fun e=>by injection e with e; have:=HBG.out; have:=HSZ.out; omega));have HY6:=hid (HKI.out.own HY.out (fun e=>by injection e with e; have:=HBG.out; have:=HSZ.out; omega));(go_wp2_with fail);go_roundw
      case rel=>exact ⟨k+1,ds++[(((⟨any,whn,opt⟩:NeedL),((A2,c2):Hdr)))],os,by go_num,by omega,hid (by rw [List.length_append,HKL.out]; rfl),hid (by have:=HAL.out; simp at this ⊢; omega),hid (by have:=HMP.out; simp at this ⊢; exact this),hid (by rw [List.append_assoc]; exact HGI.out),HNW,HOS2,HX6,HY6,HBI,hid (Nat.le_trans HBW.out HKI.out.1)⟩
      case measure=>simp [intOf]<;>omega
  ·(obtain rfl:n1=k:=by omega);(have k1:¬ (n1:Int) < (n1:Int):=by omega);have hos:os=[]:=List.eq_nil_of_length_eq_zero (by have h1:=HAL.out; have h2:=HKL.out; rw [List.length_append] at h1; omega);subst hos
   have HNE:=hid (show RowOf 3 NeedAt (xH wo u1.heap.size none) A1 rne by
    have h1:=HG.out;have h2:=HMP.out;rw [List.append_nil] at h1 h2;(have:=iI (h1.masked (C:=u1.heap.size) (o:=none) (Nat.le_refl _) (fun g _ e=>by cases e)) fun p hp=>NpSub.mono _ _ _ ZI (HDS.out p hp));rw [h2] at this
    exact this)
   clear HG HDS HOS HMP HAL HKL;have x7:=HX.out.box.2 7 _ rfl;(go_upto_region 13 with fail);(go_wp2_with fail);refine (CB.out wo HB.out).mono ?_;rintro _ u2 ⟨v1,rfl,hOL,hb⟩;obtain ⟨B1,c2,hv,hc2,hGL⟩:=RowG.of X8 (l:=rba) (by rw [HN2.out]; exact hOL);rw [HN2.out] at hv;subst hv;have HBA2:=hid (show RowOf 3 BarAt (xH u2 u1.heap.size none) B1 rba from bX (hGL.masked HBW.out (fun g _ e=>by cases e)));have HNE2:=hid (RowOf.mono NeedAt.mono HNE.out (rm hb));have HX2:=hid (HX.out.kb hb);have HY2:=hid (HY.out.kb hb);have HB2:=hid (zA HB.out hb);have HS2:=hid (Nat.le_trans HBW.out hb.size);clear hb hOL hGL hc2 x6 xl x7 HX HY HB HNE CB;have x7:=HX2.out.box.2 7 _ rfl;have xl:=HX2.out.box.1;have sf:∀ j,u2.frozen? ⟨w.heap.size,j,none⟩=false:=HX2.out.soft;(go_upto_region 14 with fail);refine zI ?_;intro u3 hu;(have hg1:w.heap.size < u1.heap.size:=by have:=HSZ.out; omega);have HX3':=hid (show Own w.heap.size u3 w.heap.size [.string rn,.int .i64 rv.maj,.int .i64 rv.min,.int .i64 rv.pat,.string rv.pre,.string rv.bld,.slice A1 n1 c1,.slice B1 n2 c2,.slice F0 n3 cf] by rw [hu]; exact HX2.out.put (j:=7) (by simp) _);have HY3':=hid (show Own w.heap.size u3 (w.heap.size+1) [.string ⟨#[]⟩,.int .i64 0,.int .i64 0,.int .i64 0,.string ⟨#[]⟩,.string ⟨#[]⟩,.slice none 0 0,.slice none 0 0,.slice none 0 0] by rw [hu]; exact HY2.out.other (Nat.succ_ne_self _) _);have HB3':=hid (show KB w.heap.size w u3 by rw [hu]; exact yV HB2.out (Nat.le_refl _) _)
   have HNE3:=hid (show RowOf 3 NeedAt (xH u3 u1.heap.size none) A1 rne by rw [hu]; exact RowOf.mono NeedAt.mono HNE2.out (yC (.inl hg1)));have HBA3:=hid (show RowOf 3 BarAt (xH u3 u1.heap.size none) B1 rba by rw [hu]; exact RowOf.mono BarAt.mono HBA2.out (yC (.inl hg1)));have HS3:=hid (show u1.heap.size≤u3.heap.size by rw [hu,World.size_setCell]; exact HS2.out);clear hu x7 xl sf HX2 HY2 HB2 HS2 HNE2 HBA2;have x8:=HX3'.out.box.2 8 _ rfl;have xl:=HX3'.out.box.1;(go_wp2_with fail);refine (CF.out u3 HB3'.out).mono ?_;rintro _ u4 ⟨v1,rfl,hOL,hb⟩;obtain ⟨F1,c3,hv,hc3,hGL⟩:=RowG.of VK (l:=fs0) (by rw [HL3.out]; exact hOL);rw [HL3.out] at hv;subst hv;have HU4:=hid hb;have HG4:=hid hGL;have HX4:=hid (HX3'.out.kb hb);have HY4:=hid (HY3'.out.kb hb);clear hb hOL hGL hc3 x8 xl CF;have x8:=HX4.out.box.2 8 _ rfl;have xl:=HX4.out.box.1;have sf:∀ j,u4.frozen? ⟨w.heap.size,j,none⟩=false:=HX4.out.soft;(go_upto_region 15 with fail);refine zI ?_;intro u5 hu;have HX5:=hid (show Own w.heap.size u5 w.heap.size [.string rn,.int .i64 rv.maj,.int .i64 rv.min,.int .i64 rv.pat,.string rv.pre,.string rv.bld,.slice A1 n1 c1,.slice B1 n2 c2,.slice F1 n3 c3] by rw [hu]; exact HX4.out.put (j:=8) (by simp) _);have HY5:=hid (show Own w.heap.size u5 (w.heap.size+1) [.string ⟨#[]⟩,.int .i64 0,.int .i64 0,.int .i64 0,.string ⟨#[]⟩,.string ⟨#[]⟩,.slice none 0 0,.slice none 0 0,.slice none 0 0] by rw [hu]; exact HY4.out.other (Nat.succ_ne_self _) _)
   have HB5:=hid (show KB w.heap.size w u5 by rw [hu]; exact yV (zA HB3'.out HU4.out) (Nat.le_refl _) _);have HM5:=hid (show Mono (xH u3 u1.heap.size none) (xH u5 u1.heap.size (blkA F1)) by rw [hu]; exact put_above HU4.out rfl hg1 HG4.out.low)
   have HG5:=hid (show RowG u3.heap.size 2 sR u5 F1 fs0 by
    rw [hu]
    exact HG4.out.keep (o:=some w.heap.size) ((Keep.refl _ _).put _ (.inl rfl)) fun g hg e=>by
     (injection e with e);have:=HG4.out.low g hg;have:=HS3.out
     omega)
   have HS5:=hid (show u3.heap.size≤u5.heap.size by rw [hu,World.size_setCell]; exact HU4.out.size);clear hu x8 xl sf HX4 HY4 HU4 HG4;have x8:=HX5.out.box.2 8 _ rfl;have xl:=HX5.out.box.1;(go_upto_block 4 with fail);(go_wp2_with fail);clear x8 xl;go_loopw [66] (fun i ww=>∃ (j:Nat) (es fsL:List (FeatL × Hdr)),i = .int .i64 (j:Int)∧j≤n3∧Hid (es.length=j)∧Hid ((es++fsL).length=n3)∧Hid ((es++fsL).map (·.1)=rfe)∧Hid (RowG u3.heap.size 2 sR ww F1 (es++fsL))∧Hid (∀ q∈es,FpSub (xH ww u3.heap.size (blkA F1)) q)∧Hid (∀ q∈fsL,FpSub w q∧q.1.of_.length≤1000)∧Hid (Keep (blkA F1) u5 ww)∧Hid (KB w.heap.size w ww)) (fun i _=>n3 - (intOf i).toNat)
   case atStart=>exact ⟨0,[],fs0,rfl,Nat.zero_le _,hid rfl,HL3,HF1,HG5,hid (fun p hp=>by cases hp),HFP,hid (Keep.refl _ _),HB5⟩
   case round =>
    (rename World=>wi);obtain ⟨j,es,fsL,rfl,hj,HEL,HFL,HEM,HWI,HES,HFS,HKI,HBI⟩:=hrel;(have hoF:∀ g,g < u3.heap.size→blkA F1≠some g:=fun g hg e=>by have:=HWI.out.low g e; omega);have HXI:=hid (HKI.out.own HX5.out (hoF _ (by have:=HS3.out; omega)));have HYI:=hid (HKI.out.own HY5.out (hoF _ (by have:=HS3.out; have:=HSZ.out; omega)));clear hoF;by_cases hjl:j < n3
    ·rcases fsL with _ | ⟨q,fsL⟩
     ·exfalso;have h1:=HFL.out;have h2:=HEL.out;rw [List.append_nil] at h1;omega
     ·obtain ⟨gWL,hA2,hBW,hWl,hWf,hWc⟩:=HWI.out.mid;subst hA2;rw [HEL.out] at hWc;have hq:=HFS.out q (List.mem_cons_self ..);have HFS2:=hid (fun x hx=>HFS.out x (List.mem_cons_of_mem _ hx));obtain ⟨⟨xn,xf⟩,Af,cfe⟩:=q;dsimp only at hq;obtain ⟨⟨hqt,-⟩,hql⟩:=hq;have w1:=hWc 1 _ rfl;dsimp only at w1;have x8:=HXI.out.box.2 8 _ rfl;have xl:=HXI.out.box.1;(have j0:(0:Int)≤(j:Int):=by omega);(have j1:(j:Int) < (n3:Int):=by omega);have HCT:=hid (fun u (hb:KB wi.heap.size wi u)=>CT.out Af cfe xf.length xf rfl hqt hql u (zA HBI.out hb));have HXL:=hid hql;have HWc:=hid hWc;have HWl:=hid hWl;have HWf:=hid hWf;clear hqt hql HFS hWc;generalize hxl:xf.length=q1 at *;have HXFL:=hid hxl;clear hxl;go_upto_region 18 with fail
      go_region_law (go_simp; (with_reducible refine (HCT.out _ (zM (zH _))).mono ?_); rintro _ wa ⟨v3,rfl,hOL,hb⟩; have hba:=zA (zM (zH wi)) hb; obtain ⟨A3,c4,hv,hc4,hT⟩:=RowG.of cellT_len (l:=xf) (by rw [HXFL.out]; exact hOL); rw [HXFL.out] at hv hc4; subst hv; have a8:=(HXI.out.kb hba).box.2 8 _ rfl; have al:=(HXI.out.kb hba).box.1; have b2:=zU HWl.out hba (HWc.out 1 _ rfl); have bl:=Nat.lt_of_lt_of_le HWl.out hba.size; have sf:∀ j,wa.frozen? ⟨gWL,j,none⟩=false:=fun j=>(World.frozen?_of_block (a:=⟨gWL,j,none⟩) (hba.block gWL HWl.out)).trans (HWf.out j))
      all_goals
       clear a8 al b2 bl sf x8 xl w1 hWl hWf;refine nV ?_;intro w6 hw6;replace hw6:w6=wa.setCell ⟨gWL,j * 2+1,none⟩ (.slice A3 q1 c4):=hw6
       have HST:=hid (show RowG u3.heap.size 2 sR w6 (some ⟨gWL,0,none⟩) ((es++[((⟨xn,xf⟩:FeatL),((A3,c4):Hdr))])++fsL)∧∀ q∈es++[((⟨xn,xf⟩:FeatL),((A3,c4):Hdr))],FpSub (xH w6 u3.heap.size (some gWL)) q by
        rw [hw6]
        have:=HWI.out.step VK FpSub.mono HES.out hba (p':=((⟨xn,xf⟩:FeatL),((A3,c4):Hdr))) (j:=1) (by decide) (x := .slice A3 q1 c4) (by rw [← HXFL.out]; rfl) (by
         intro i hi;rcases i with _ | _ | i
         ·rfl
         ·exact absurd rfl hi
         ·rfl) ⟨lies_texts (hT.masked (by have:=HKI.out.1; have:=HS5.out; show u3.heap.size≤wi.heap.size; omega) fun g hg e=>by injection e with e; have:=HWl.out; have:wi.heap.size≤g:=hg; omega),by dsimp only; rw [HXFL.out]; have:=HXL.out; omega⟩
        rw [HEL.out] at this
        exact this)
       have HK6:=hid (show Keep (some gWL) u5 w6 by rw [hw6]; exact (HKI.out.trans (Keep.kb hba)).put _ (.inl rfl));have HB6:=hid (show KB w.heap.size w w6 by rw [hw6]; exact yV (zA HBI.out hba) (Nat.le_trans HB3'.out.size hBW) _);have HL6:=hid (show (es++[((⟨xn,xf⟩:FeatL),((A3,c4):Hdr))]).length=j+1 by rw [List.length_append,HEL.out]; rfl);have HF6:=hid (show ((es++[((⟨xn,xf⟩:FeatL),((A3,c4):Hdr))])++fsL).length=n3 by have:=HFL.out; simp at this ⊢; omega);have HM6:=hid (show ((es++[((⟨xn,xf⟩:FeatL),((A3,c4):Hdr))])++fsL).map (·.1)=rfe by have:=HEM.out; simp at this ⊢; exact this);clear hw6 hT hba hb hOL hc4;(go_wp2_with fail);go_roundw
       case rel=>exact ⟨j+1,_,fsL,by go_num,by omega,HL6,HF6,HM6,hid HST.out.1,hid HST.out.2,HFS2,HK6,HB6⟩
       case measure=>simp [intOf]<;>omega
    ·(obtain rfl:n3=j:=by omega);(have j1:¬ (n3:Int) < (n3:Int):=by omega);have hfs:fsL=[]:=List.eq_nil_of_length_eq_zero (by have h1:=HFL.out; have h2:=HEL.out; rw [List.length_append] at h1; omega);subst hfs;have HMM:=hid (show Mono (xH u3 u1.heap.size none) (xH wi u1.heap.size none) from (HM5.out.trans HKI.out.mask).trans ZI)
     have HFE:=hid (show RowOf 2 FeatAt (xH wi u1.heap.size none) F1 rfe by
      have h1:=HWI.out;have h2:=HEM.out;rw [List.append_nil] at h1 h2;(have:=j8 (h1.masked (C:=u1.heap.size) (o:=none) HS3.out (fun g _ e=>by cases e)) fun p hp=>FpSub.mono _ _ _ (vd (Nat.le_refl _) fun k _ hk _=>⟨⟨Nat.le_trans HS3.out hk,fun e=>by cases e⟩,rfl⟩) (HES.out p hp));rw [h2] at this
      exact this)
     obtain ⟨x0,x1,x2,x3,x4,x5,x6,x7,x8,xl⟩:=wK HXI.out.box;obtain ⟨y0,y1,y2,y3,y4,y5,y6,y7,y8,yl⟩:=wK HYI.out.box;have sf:∀ j,wi.frozen? ⟨w.heap.size+1,j,none⟩=false:=HYI.out.soft;(have hg2:w.heap.size+1 < u1.heap.size:=by have:=HSZ.out; omega);(go_wp2_with fail);refine zP ?_;intro w9 hw9;(have O9:Own w.heap.size w9 (w.heap.size+1) [.string rn,.int .i64 rv.maj,.int .i64 rv.min,.int .i64 rv.pat,.string rv.pre,.string rv.bld,.slice A1 n1 c1,.slice B1 n2 c2,.slice F1 n3 c3]:=by rw [hw9]; exact HYI.out.set9 _ _ _ _ _ _ _ _ _);(have B9:KB w.heap.size w w9:=by rw [hw9]; exact kb_set9 HBI.out (Nat.le_succ _) _ _ _ _ _ _ _ _ _);(have M9:Mono (xH wi u1.heap.size none) (xH w9 w.heap.size none):=by rw [hw9]; exact (dt hg2 _ _ _ _ _ _ _ _ _).trans (yK (by omega) fun k e=>by cases e));clear hw9;obtain ⟨k0,k1,k2,k3,k4,k5,k6,k7,k8,-⟩:=wK O9.box;refine bodyPost_ret (v := .agg #[.string rn,.int .i64 rv.maj,.int .i64 rv.min,.int .i64 rv.pat,.string rv.pre,.string rv.bld,.slice A1 n1 c1,.slice B1 n2 c2,.slice F1 n3 c3]) (by simp [results,Tryz.results30,go_sem,k0,k1,k2,k3,k4,k5,k6,k7,k8]) rfl ?_;exact ⟨⟨A1,c1,B1,c2,F1,c3⟩,by dsimp only [RecL.val]; rw [HN1.out,HN2.out,HN3.out],⟨RowOf.mono NeedAt.mono HNE3.out (HMM.out.trans M9),RowOf.mono BarAt.mono HBA3.out (HMM.out.trans M9),RowOf.mono FeatAt.mono HFE.out M9,by dsimp only; rw [HN1.out]; omega,by dsimp only; rw [HN2.out]; omega,by dsimp only; rw [HN3.out]; omega⟩,B9⟩
end Go.Proofs.YtiebekmefjbenaaGreatDoor
