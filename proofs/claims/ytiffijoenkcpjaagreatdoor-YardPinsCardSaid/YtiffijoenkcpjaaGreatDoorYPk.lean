import Derived.Test.YtiffijoenkcpjaaGreatDoorYLd
import Derived.Test.YtiffijoenkcpjaaGreatDoorYLob
import Derived.Test.YtiffijoenkcpjaaGreatDoorYMh
import Derived.Test.YtiffijoenkcpjaaGreatDoorYOg
import Derived.Test.YtiffijoenkcpjaaGreatDoorYPe
set_option linter.unusedVariables false
set_option linter.unusedSimpArgs false
set_option maxRecDepth 100000
set_option maxHeartbeats 2000000
namespace Go.Proofs.YtiffijoenkcpjaaGreatDoor
open Go.RowKit Go.Lib
open Rw
abbrev holdCells (p:HoldL):List Value:=[.string p.name,.string p.rng]
theorem hc_len (p:HoldL):(holdCells p).length=2:=rfl
theorem hc_one (p:HoldL):∀ u∈holdCells p,u.oneCell'=true:=by
 intro u hu;simp only [holdCells,List.mem_cons,List.not_mem_nil,or_false] at hu;rcases hu with rfl | rfl<;>rfl
theorem lies_holds {w:World} {A:Option Addr} {l:List HoldL} (h:Lies 2 holdCells w A l):HoldsW w A l:=by
 rcases h with h | ⟨b,off,h1,h2,h3⟩
 ·exact .inl h
 ·exact .inr ⟨b,off,h1,h2,fun i hi=>⟨h3 i hi 0 _ rfl,h3 i hi 1 _ rfl⟩⟩
theorem Tryz.info61:(Tryz.prog.info? 61).map (fun i=>(i.zero,i.size,i.bytes))=some (some (.agg #[.string ⟨#[]⟩,.string ⟨#[]⟩]),2,32):=by kernel_rfl
theorem EKholds:EK Tryz.prog 34 61 2 32 := .mk' _ Tryz.underlying34 Tryz.info61 rfl (by omega)
theorem ix_sh (n:Int) (h:0≤n) (h2:n < 2):∃ s:ByteArray,s∈shelves2∧∀ w,(Instr.index 82 (.agg #[.string ⟨#[111,110,101]⟩,.string ⟨#[116,119,111]⟩]) (.int .i64 n)).run Tryz.prog w = .ok (.string s) w:=by
 (have h3:n=0∨n=1:=by omega);rcases h3 with rfl | rfl
 ·exact ⟨⟨#[111,110,101]⟩,by simp [shelves2],fun w=>by kernel_rfl⟩
 ·exact ⟨⟨#[116,119,111]⟩,by simp [shelves2],fun w=>by kernel_rfl⟩
theorem PinAt.mono (w w':World) (b o:Nat) (x:PinL) (m:Mono w w') (h:PinAt w b o x):PinAt w' b o x:=⟨m.2 _ _ h.1,m.2 _ _ h.2⟩
theorem HoldAt.mono (w w':World) (b o:Nat) (x:HoldL) (m:Mono w w') (h:HoldAt w b o x):HoldAt w' b o x:=⟨m.2 _ _ h.1,m.2 _ _ h.2⟩
theorem Own.set11 {B:Nat} {w:World} {g:Nat} {a0 a1 a2 a3 a4 a5 a6 a7 a8 a9 a10:Value} (h:Own B w g [a0,a1,a2,a3,a4,a5,a6,a7,a8,a9,a10]) (b0 b1 b2 b3 b4 b5 b6 b7 b8 b9 b10:Value):Own B (((((((((((w.setCell ⟨g,0,none⟩ b0).setCell ⟨g,1,none⟩ b1).setCell ⟨g,2,none⟩ b2).setCell ⟨g,3,none⟩ b3).setCell ⟨g,4,none⟩ b4).setCell ⟨g,5,none⟩ b5).setCell ⟨g,6,none⟩ b6).setCell ⟨g,7,none⟩ b7).setCell ⟨g,8,none⟩ b8).setCell ⟨g,9,none⟩ b9).setCell ⟨g,10,none⟩ b10) g [b0,b1,b2,b3,b4,b5,b6,b7,b8,b9,b10] :=
 ⟨h.box.set (o:=0) (vs:=[b0,b1,b2,b3,b4,b5,b6,b7,b8,b9,b10]) (by simp),h.soft.set (o:=0) (vs:=[b0,b1,b2,b3,b4,b5,b6,b7,b8,b9,b10]),h.low⟩
theorem below_set11 {w w1:World} (h:Below w.heap.size w w1) {g:Nat} (hg:w.heap.size≤g) (b0 b1 b2 b3 b4 b5 b6 b7 b8 b9 b10:Value):Below w.heap.size w (((((((((((w1.setCell ⟨g,0,none⟩ b0).setCell ⟨g,1,none⟩ b1).setCell ⟨g,2,none⟩ b2).setCell ⟨g,3,none⟩ b3).setCell ⟨g,4,none⟩ b4).setCell ⟨g,5,none⟩ b5).setCell ⟨g,6,none⟩ b6).setCell ⟨g,7,none⟩ b7).setCell ⟨g,8,none⟩ b8).setCell ⟨g,9,none⟩ b9).setCell ⟨g,10,none⟩ b10) :=
 zR (zR (dT h hg _ _ _ _ _ _ _ _ _) hg _) hg _
theorem masks_set11 {w:World} {B g:Nat} {o:Option Nat} (h:g < B) (b0 b1 b2 b3 b4 b5 b6 b7 b8 b9 b10:Value):Mono (xH w B o) (xH (((((((((((w.setCell ⟨g,0,none⟩ b0).setCell ⟨g,1,none⟩ b1).setCell ⟨g,2,none⟩ b2).setCell ⟨g,3,none⟩ b3).setCell ⟨g,4,none⟩ b4).setCell ⟨g,5,none⟩ b5).setCell ⟨g,6,none⟩ b6).setCell ⟨g,7,none⟩ b7).setCell ⟨g,8,none⟩ b8).setCell ⟨g,9,none⟩ b9).setCell ⟨g,10,none⟩ b10) B o) :=
 (((((((((((yC (.inl h)).trans (yC (.inl h))).trans (yC (.inl h))).trans (yC (.inl h))).trans (yC (.inl h))).trans (yC (.inl h))).trans (yC (.inl h))).trans (yC (.inl h))).trans (yC (.inl h))).trans (yC (.inl h))).trans (yC (.inl h)))
theorem pins_mono {w w':World} {A:Option Addr} {l:List PinL} (h:Z6 w A l) (m:Mono w w'):Z6 w' A l:=RowOf.mono PinAt.mono h m
theorem holds_mono {w w':World} {A:Option Addr} {l:List HoldL} (h:HoldsW w A l) (m:Mono w w'):HoldsW w' A l:=RowOf.mono HoldAt.mono h m
theorem ManLies.mono {w w':World} {h:ManH} {m:ManL} (k:ManLies w h m) (hm:Mono w w'):ManLies w' h m:=⟨k.rc.mono hm,pins_mono k.pins hm,holds_mono k.holds hm,k.lp,k.lh⟩
def ManifestO (own:Int) (w:World) (e:Ending) (w':World):Prop:=∃ (m:ManL) (hd:ManH),e = .returned (m.val hd)∧ManLies (xH w' w.heap.size none) hd m∧ManFit m∧ManOk own m∧KB w.heap.size w w'
theorem lmanifest_any (A:Option Addr) (cap:Nat) (zs:List Int) (i own:Int) (w:World) (h:IntsAt w A zs) (hi:0≤i) (hi2:i≤6000000) (hln:zs.length≤9223372036854775807) (ho:0≤own) (ho2:own≤100):Calls Tryz.prog 20 #[.slice A zs.length cap,.int .i64 i,.int .i64 own] w (ManifestO own w):=by
 (have hf:∀ (j n:Int) (w':World),Below w.heap.size w w'→0≤j→j≤1000000000→0 < n→n≤1000000→Calls Tryz.prog 21 #[.slice A zs.length cap,.int .i64 j,.int .i64 n] w' fun e w''=>e = .returned (.int .i64 (xh zs j n))∧w'=w'':=fun j n w' hb h1 h2 h3 h4=>un A cap zs j n w' (h.below hb) h1 h2 hln h3 h4);have CR:=hid (fun u (hb:Below w.heap.size w u)=>lrecord_anyO A cap zs i own u (h.below hb) hi (by omega) hln ho ho2);have CN:=hid (fun n u=>lname_anyN n u);have CF:=hid (fun u (hb:Below w.heap.size w u)=>lfew_anyN A cap zs (i+87) u (h.below hb) (by omega) (by omega) hln);have C82:=hid (fun w' hb=>hf (i+82) 6 w' hb (by omega) (by omega) (by omega) (by omega));have C83:=hid (fun w' hb=>hf (i+83) 3 w' hb (by omega) (by omega) (by omega) (by omega));have C84:=hid (fun w' hb=>hf (i+84) 2 w' hb (by omega) (by omega) (by omega) (by omega));have C85:=hid (fun w' hb=>hf (i+85) 6 w' hb (by omega) (by omega) (by omega) (by omega));have C86:=hid (fun w' hb=>hf (i+86) 4 w' hb (by omega) (by omega) (by omega) (by omega));have b83:=vO zs (i+83) 3 (by omega);have b84:=vO zs (i+84) 2 (by omega);have b86:=vO zs (i+86) 4 (by omega);clear h hf;generalize xh zs (i+82) 6=q2 at *;generalize xh zs (i+83) 3=q3 at *;generalize xh zs (i+84) 2=q4 at *;generalize xh zs (i+85) 6=q5 at *;generalize xh zs (i+86) 4=q6 at *;generalize zs.length=zn at *
 go_enter Tryz.func20,Tryz.ntmps20;(go_upto_region 1 with fail);refine zI ?_;intro w1 hw1;have HO:=hid (show Own w.heap.size w1 w.heap.size [.string ⟨#[]⟩,.int .i64 0,.int .i64 0,.int .i64 0,.string ⟨#[]⟩,.string ⟨#[]⟩,.slice none 0 0,.slice none 0 0,.slice none 0 0,.slice none 0 0,.slice none 0 0] by rw [hw1]; exact Own.new w [.string ⟨#[]⟩,.int .i64 0,.int .i64 0,.int .i64 0,.string ⟨#[]⟩,.string ⟨#[]⟩,.slice none 0 0,.slice none 0 0,.slice none 0 0,.slice none 0 0,.slice none 0 0] 36 (Nat.le_refl _));have HB1:=hid (show Below w.heap.size w w1 by rw [hw1]; exact zL _ _);clear hw1;have hgB:w.heap.size < w1.heap.size:=HO.out.box.1;(go_wp2_with fail);refine (CR.out _ HB1.out).mono ?_;rintro _ w2 ⟨r,rh,rfl,hrl,hfit,hsm,hro,hb⟩;have HRL:=hid hrl;have HFI:=hid hfit;have HSM:=hid hsm;have HRO:=hid hro;have HO2:=hid (HO.out.below hb);have HB2:=hid (zC HB1.out hb);have HBS:=hid hb.size;clear hrl hfit hsm hro hb HO HB1 CR;obtain ⟨B,hB⟩:∃ B,B=w1.heap.size:=⟨_,rfl⟩;rw [← hB] at HRL HBS hgB;clear hB;obtain ⟨n1,hn1⟩:∃ n,r.needs.length=n:=⟨_,rfl⟩;obtain ⟨n2,hn2⟩:∃ n,r.bars.length=n:=⟨_,rfl⟩;obtain ⟨n3,hn3⟩:∃ n,r.feats.length=n:=⟨_,rfl⟩;have HN1:=hid hn1;have HN2:=hid hn2;have HN3:=hid hn3;dsimp only [RecL.val];rw [hn1,hn2,hn3];clear hn1 hn2 hn3;(go_upto_region 2 with fail);refine zI ?_;intro w3 hw3;have hb:Below w2.heap.size w2 w3:=by rw [hw3]; exact zL _ _
 have HX:=hid (show Own B w3 w2.heap.size [.string r.name,.int .i64 r.v.maj,.int .i64 r.v.min,.int .i64 r.v.pat,.string r.v.pre,.string r.v.bld,.slice rh.A n1 rh.ca,.slice rh.B n2 rh.cb,.slice rh.F n3 rh.cf,.slice none 0 0,.slice none 0 0] by rw [hw3]; exact Own.new w2 [.string r.name,.int .i64 r.v.maj,.int .i64 r.v.min,.int .i64 r.v.pat,.string r.v.pre,.string r.v.bld,.slice rh.A n1 rh.ca,.slice rh.B n2 rh.cb,.slice rh.F n3 rh.cf,.slice none 0 0,.slice none 0 0] 36 HBS.out);have HR3:=hid (show RecLies (xH w3 B (some w2.heap.size)) rh r from HRL.out.mono (vd hb.size fun k hk h1 _=>⟨⟨h1,fun e=>by injection e with e; omega⟩,hb.kb.block k hk⟩));have HO3:=hid (HO2.out.below hb);have HB3:=hid (zC HB2.out hb);have HS3:=hid (Nat.le_trans HBS.out hb.size);have hg7:B≤w2.heap.size:=HBS.out;clear hw3 hb HO2 HB2 HRL HBS;generalize w2.heap.size=g7 at *;(go_wp2_with fail);refine (C82.out _ HB3.out).mono ?_;rintro _ _ ⟨rfl,rfl⟩;(go_upto_if 17 with fail);go_cut [7] from 17 to 35 (fun v wx=>v = .pointer (some ⟨g7,0,none⟩)∧∃ (P:Option Addr) (cp:Nat) (ps:List PinL),Hid (ps.length≤1)∧Hid (∀ p∈ps,p.name∈gL∧p.shelf∈shelves2)∧Hid (Z6 (xH wx B (some g7)) P ps)∧Hid (Own B wx g7 [.string r.name,.int .i64 r.v.maj,.int .i64 r.v.min,.int .i64 r.v.pat,.string r.v.pre,.string r.v.bld,.slice rh.A n1 rh.ca,.slice rh.B n2 rh.cb,.slice rh.F n3 rh.cf,.slice P ps.length cp,.slice none 0 0])∧Hid (RecLies (xH wx B (some g7)) rh r)∧Hid (Own w.heap.size wx w.heap.size [.string ⟨#[]⟩,.int .i64 0,.int .i64 0,.int .i64 0,.string ⟨#[]⟩,.string ⟨#[]⟩,.slice none 0 0,.slice none 0 0,.slice none 0 0,.slice none 0 0,.slice none 0 0])∧Hid (Below w.heap.size w wx)∧Hid (B≤wx.heap.size))
 case first =>
  by_cases hp:q2=1
  ·(have e1:(q2==1)=true:=by rw [beq_iff_eq]; exact hp);clear hp;obtain ⟨sh,hsh,hix⟩:=ix_sh q4 b84.1 b84.2;have HSH:=hid hsh;clear hsh;have r3:IntKind.i64.wrap (i+83)=i+83:=IntWalk.i64_in _ (by omega);have r4:IntKind.i64.wrap (i+84)=i+84:=IntWalk.i64_in _ (by omega);have r2:IntKind.i64.wrap (1+q3)=1+q3:=IntWalk.i64_in _ (by omega);have y9:=HX.out.box.2 9 _ rfl;have yl:=HX.out.box.1;have hdr:Below w3.heap.size w3 w3.drew:=Below.drew (Below.refl _ _);have hbD:Below w.heap.size w w3.drew:=zC HB3.out hdr;have hXe:=HX.out.below hdr;have hBe:g7+1≤w3.drew.heap.size:=hXe.box.1;have hdd:Below w3.heap.size w3 w3.drew:=hdr;go_upto_region 3 with fail
   go_region_law (first
    | (refine rY EKpins (by rfl) (.tmp 19) (.tmp 33) (by rfl) (pinCells (⟨bn,sh⟩:PinL)) (World.ownsRow_nil w3.drew (g7+1) _ _) (by rfl) (by rfl) rfl (pc_one _) (by unfold maxLen; omega) (by omega) hBe ?_; intro v' w' h2 h3 h4 _; have hDb:Deep 53 2 pinCells (fun _ _=>True) w' (g7+1) v' ([]++[(⟨bn,sh⟩:PinL)]):=⟨OwnL.snoc h2,fun _ _=>trivial⟩; rw [Nat.zero_add] at h2; obtain ⟨A9,c9,rfl⟩:=xr h2; have hX3:=hXe.kbB (Nat.lt_succ_self _) h3.kb; have b7:=hX3.box.2 9 _ rfl; have bl:=hX3.box.1; have b2:∀ j,w'.frozen? ⟨g7,j,none⟩=false:=hX3.soft)
    | (go_simp; first
     | ((with_reducible refine (C83.out _ hbD).mono ?_); rintro _ _ ⟨rfl,rfl⟩)
     | ((with_reducible refine (C84.out _ hbD).mono ?_); rintro _ _ ⟨rfl,rfl⟩)
     | ((with_reducible refine (CN.out _ _).mono ?_); rintro _ _ ⟨bn,hbn,rfl,rfl⟩; replace hbn:=hid hbn)))
   all_goals
    clear y9 yl b7 bl b2 r2 r3 r4 hix;refine nV ?_;intro w6 hw6;replace hw6:w6=w'.setCell ⟨g7,9,none⟩ (.slice A9 1 c9):=hw6;have HX6:=hid (show Own B w6 g7 [.string r.name,.int .i64 r.v.maj,.int .i64 r.v.min,.int .i64 r.v.pat,.string r.v.pre,.string r.v.bld,.slice rh.A n1 rh.ca,.slice rh.B n2 rh.cb,.slice rh.F n3 rh.cf,.slice A9 1 c9,.slice none 0 0] by rw [hw6]; exact hX3.put (j:=9) (by simp) _);have HR6:=hid (show RecLies (xH w6 B (some g7)) rh r by rw [hw6]; exact ((HR3.out.mono (rm hdd.kb)).mono (rm (bt rfl h4))).mono (yC (.inr rfl)));have HO6:=hid (show Own w.heap.size w6 w.heap.size [.string ⟨#[]⟩,.int .i64 0,.int .i64 0,.int .i64 0,.string ⟨#[]⟩,.string ⟨#[]⟩,.slice none 0 0,.slice none 0 0,.slice none 0 0,.slice none 0 0,.slice none 0 0] by rw [hw6]; exact ((HO3.out.below hdd).kbB (by omega) h3.kb).other (by omega) _);have HB6:=hid (show Below w.heap.size w w6 by rw [hw6]; exact zR ((zC HB3.out hdd).trans (h3.mono (by omega))) (by omega) _);have HS6:=hid (show B≤w6.heap.size by rw [hw6,World.size_setCell]; exact Nat.le_trans (Nat.le_trans hg7 (Nat.le_of_succ_le hBe)) h3.size)
    have HP6:=hid (show Z6 (xH w6 B (some g7)) A9 [(⟨bn,sh⟩:PinL)] by
     rw [hw6];obtain ⟨A3,c3,hv,-,hli,-⟩:=(hDb.put (fun _ _ _ _ _=>trivial) (Nat.lt_succ_self _) _).fresh pc_len (fun _ _ _ _ _=>trivial);(injection hv with e1 e2 e3);subst e1
     exact pins_mono (lies_pins hli) (yK (by omega) fun k e=>by injection e with e; omega))
    have HOK:=hid (show ∀ p∈[(⟨bn,sh⟩:PinL)],p.name∈gL∧p.shelf∈shelves2 from fun p hp=>by
     rcases List.mem_singleton.1 hp with rfl
     exact ⟨by rw [hbn.out]; exact nmP_mem _,HSH.out⟩)
    clear hw6 hX3 hDb h2 h3 h4 hdr hbD hXe hBe hdd HX HR3 HO3 HB3 HS3;(go_wp2_with fail);go_meet
    case rel=>exact ⟨rfl,A9,c9,[(⟨bn,sh⟩:PinL)],hid (by simp),HOK,HP6,HX6,HR6,HO6,HB6,HS6⟩
  ·(have e1:(q2==1)=false:=by rw [beq_eq_false_iff_ne]; exact hp);clear hp;(go_wp2_with fail);go_meet
   case rel=>exact ⟨rfl,none,0,[],hid (by simp),hid (fun p hp=>by cases hp),hid (.inl rfl),HX,HR3,HO3,HB3,HS3⟩
 case rest =>
  obtain ⟨rfl,P,cp,ps,HPL,HPO,HP3,HX,HR3,HO3,HB3,HS3⟩:=hcut;(rename World=>wc);obtain ⟨pn,hpn⟩:∃ n,ps.length=n:=⟨_,rfl⟩;rw [hpn] at HX;have HPN:=hid hpn;clear hpn;(go_wp2_with fail);refine (C85.out _ HB3.out).mono ?_;rintro _ _ ⟨rfl,rfl⟩;(go_upto_if 40 with fail);go_cut [7] from 40 to 56 (fun v wx=>v = .pointer (some ⟨g7,0,none⟩)∧∃ (Q:Option Addr) (ch:Nat) (hs:List HoldL),Hid (hs.length≤1)∧Hid (∀ p∈hs,p.name∈gL∧FewOk p.rng)∧Hid (HoldsW (xH wx B (some g7)) Q hs)∧Hid (Z6 (xH wx B (some g7)) P ps)∧Hid (Own B wx g7 [.string r.name,.int .i64 r.v.maj,.int .i64 r.v.min,.int .i64 r.v.pat,.string r.v.pre,.string r.v.bld,.slice rh.A n1 rh.ca,.slice rh.B n2 rh.cb,.slice rh.F n3 rh.cf,.slice P pn cp,.slice Q hs.length ch])∧Hid (RecLies (xH wx B (some g7)) rh r)∧Hid (Own w.heap.size wx w.heap.size [.string ⟨#[]⟩,.int .i64 0,.int .i64 0,.int .i64 0,.string ⟨#[]⟩,.string ⟨#[]⟩,.slice none 0 0,.slice none 0 0,.slice none 0 0,.slice none 0 0,.slice none 0 0])∧Hid (Below w.heap.size w wx)∧Hid (B≤wx.heap.size))
  case first =>
   by_cases hp:q5=1
   ·(have e1:(q5==1)=true:=by rw [beq_iff_eq]; exact hp);clear hp;have r3:IntKind.i64.wrap (i+86)=i+86:=IntWalk.i64_in _ (by omega);have r4:IntKind.i64.wrap (i+87)=i+87:=IntWalk.i64_in _ (by omega);have r2:IntKind.i64.wrap (1+q6)=1+q6:=IntWalk.i64_in _ (by omega);have y9:=HX.out.box.2 10 _ rfl;have yl:=HX.out.box.1;have hdr:Below wc.heap.size wc wc.drew:=Below.drew (Below.refl _ _);have hbD:Below w.heap.size w wc.drew:=zC HB3.out hdr;go_upto_region 5 with fail
    go_region_law (first
     | (refine rY EKholds (by rfl) (.tmp 42) (.tmp 54) (by rfl) (holdCells (⟨bn,br⟩:HoldL)) (World.ownsRow_nil wd (g7+1) _ _) (by rfl) (by rfl) rfl (hc_one _) (by unfold maxLen; omega) (by omega) hBe ?_; intro v' w' h2 h3 h4 _; have hDb:Deep 61 2 holdCells (fun _ _=>True) w' (g7+1) v' ([]++[(⟨bn,br⟩:HoldL)]):=⟨OwnL.snoc h2,fun _ _=>trivial⟩; rw [Nat.zero_add] at h2; obtain ⟨A9,c9,rfl⟩:=xr h2; have hX3:=hXe.kbB (Nat.lt_succ_self _) h3.kb; have b7:=hX3.box.2 10 _ rfl; have bl:=hX3.box.1; have b2:∀ j,w'.frozen? ⟨g7,j,none⟩=false:=hX3.soft)
     | (go_simp; first
      | ((with_reducible refine (C86.out _ hbD).mono ?_); rintro _ _ ⟨rfl,rfl⟩)
      | ((with_reducible refine (CN.out _ _).mono ?_); rintro _ _ ⟨bn,hbn,rfl,rfl⟩; replace hbn:=hid hbn)
      | ((with_reducible refine (CF.out _ hbD).mono ?_); rintro _ wd ⟨br,rfl,hbr,hbd⟩; have hdd:Below wc.heap.size wc wd:=zC hdr hbd; have hXe:=HX.out.below hdd; have hBe:g7+1≤wd.heap.size:=hXe.box.1; have d9:=hXe.box.2 10 _ rfl; have dl:=hXe.box.1)))
    all_goals
     clear y9 yl d9 dl b7 bl b2 r2 r3 r4;refine nV ?_;intro w6 hw6;replace hw6:w6=w'.setCell ⟨g7,10,none⟩ (.slice A9 1 c9):=hw6;have HX6:=hid (show Own B w6 g7 [.string r.name,.int .i64 r.v.maj,.int .i64 r.v.min,.int .i64 r.v.pat,.string r.v.pre,.string r.v.bld,.slice rh.A n1 rh.ca,.slice rh.B n2 rh.cb,.slice rh.F n3 rh.cf,.slice P pn cp,.slice A9 1 c9] by rw [hw6]; exact hX3.put (j:=10) (by simp) _);have HR6:=hid (show RecLies (xH w6 B (some g7)) rh r by rw [hw6]; exact ((HR3.out.mono (rm hdd.kb)).mono (rm (bt rfl h4))).mono (yC (.inr rfl)));have HQ6:=hid (show Z6 (xH w6 B (some g7)) P ps by rw [hw6]; exact pins_mono (pins_mono (pins_mono HP3.out (rm hdd.kb)) (rm (bt rfl h4))) (yC (.inr rfl)));have HO6:=hid (show Own w.heap.size w6 w.heap.size [.string ⟨#[]⟩,.int .i64 0,.int .i64 0,.int .i64 0,.string ⟨#[]⟩,.string ⟨#[]⟩,.slice none 0 0,.slice none 0 0,.slice none 0 0,.slice none 0 0,.slice none 0 0] by rw [hw6]; exact ((HO3.out.below hdd).kbB (by omega) h3.kb).other (by omega) _);have HB6:=hid (show Below w.heap.size w w6 by rw [hw6]; exact zR ((zC HB3.out hdd).trans (h3.mono (by omega))) (by omega) _);have HS6:=hid (show B≤w6.heap.size by rw [hw6,World.size_setCell]; exact Nat.le_trans (Nat.le_trans hg7 (Nat.le_of_succ_le hBe)) h3.size)
     have HP6:=hid (show HoldsW (xH w6 B (some g7)) A9 [(⟨bn,br⟩:HoldL)] by
      rw [hw6];obtain ⟨A3,c3,hv,-,hli,-⟩:=(hDb.put (fun _ _ _ _ _=>trivial) (Nat.lt_succ_self _) _).fresh hc_len (fun _ _ _ _ _=>trivial);(injection hv with e1 e2 e3);subst e1
      exact holds_mono (lies_holds hli) (yK (by omega) fun k e=>by injection e with e; omega))
     have HOK:=hid (show ∀ p∈[(⟨bn,br⟩:HoldL)],p.name∈gL∧FewOk p.rng from fun p hp=>by
      rcases List.mem_singleton.1 hp with rfl
      exact ⟨by rw [hbn.out]; exact nmP_mem _,hbr⟩)
     clear hw6 hX3 hDb h2 h3 h4 hdr hbD hXe hBe hdd HX HR3 HO3 HB3 HS3 HP3;(go_wp2_with fail);go_meet
     case rel=>exact ⟨rfl,A9,c9,[(⟨bn,br⟩:HoldL)],hid (by simp),HOK,HP6,HQ6,HX6,HR6,HO6,HB6,HS6⟩
   ·(have e1:(q5==1)=false:=by rw [beq_eq_false_iff_ne]; exact hp);clear hp;(go_wp2_with fail);go_meet
    case rel=>exact ⟨rfl,none,0,[],hid (by simp),hid (fun p hp=>by cases hp),hid (.inl rfl),HP3,HX,HR3,HO3,HB3,HS3⟩
  case rest =>
   obtain ⟨rfl,Q,ch,hs,HHL,HHO,HH3,HP3,HX,HR3,HO3,HB3,HS3⟩:=hcut;(rename World=>wd);obtain ⟨hn,hhn⟩:∃ n,hs.length=n:=⟨_,rfl⟩;rw [hhn] at HX;have HHN:=hid hhn;clear hhn;obtain ⟨x0,x1,x2,x3,x4,x5,x6,x7,x8,x9,x10,xl⟩:=rec11 HX.out.box;obtain ⟨y0,y1,y2,y3,y4,y5,y6,y7,y8,y9,y10,yl⟩:=rec11 HO3.out.box;have sf:∀ j,wd.frozen? ⟨w.heap.size,j,none⟩=false:=HO3.out.soft;(go_wp2_with fail);refine zP ?_;intro w9 hw9;(have O9:Own w.heap.size w9 w.heap.size [.string r.name,.int .i64 r.v.maj,.int .i64 r.v.min,.int .i64 r.v.pat,.string r.v.pre,.string r.v.bld,.slice rh.A n1 rh.ca,.slice rh.B n2 rh.cb,.slice rh.F n3 rh.cf,.slice P pn cp,.slice Q hn ch]:=by rw [hw9]; exact HO3.out.set11 _ _ _ _ _ _ _ _ _ _ _);(have B9:Below w.heap.size w w9:=by rw [hw9]; exact below_set11 HB3.out (Nat.le_refl _) _ _ _ _ _ _ _ _ _ _ _);(have M9:Mono (xH wd B (some g7)) (xH w9 w.heap.size none):=by rw [hw9]; exact (masks_set11 hgB _ _ _ _ _ _ _ _ _ _ _).trans (ZI.trans (yK (Nat.le_of_lt hgB) fun k e=>by cases e)));clear hw9;obtain ⟨k0,k1,k2,k3',k4,k5,k6,k7,k8,k9,k10,-⟩:=rec11 O9.box;refine bodyPost_ret (v := .agg #[.string r.name,.int .i64 r.v.maj,.int .i64 r.v.min,.int .i64 r.v.pat,.string r.v.pre,.string r.v.bld,.slice rh.A n1 rh.ca,.slice rh.B n2 rh.cb,.slice rh.F n3 rh.cf,.slice P pn cp,.slice Q hn ch]) (by simp [results,Tryz.results20,go_sem,k0,k1,k2,k3',k4,k5,k6,k7,k8,k9,k10]) rfl ?_
   exact ⟨⟨r,ps,hs⟩,⟨rh,P,cp,Q,ch⟩,by dsimp only [ManL.val]; rw [HN1.out,HN2.out,HN3.out,HPN.out,HHN.out],⟨HR3.out.mono M9,pins_mono HP3.out M9,holds_mono HH3.out M9,by have:=HPL.out; dsimp only; omega,by have:=HHL.out; dsimp only; omega⟩,⟨HFI.out,HSM.out⟩,⟨HRO.out,HPL.out,HPO.out,HHL.out,HHO.out⟩,B9.kb⟩
section
variable {P:Program} {w:World} {base size n bytes:Nat} {t e:TypeId} {v:Value} {xs:List Value}
theorem wpList_appM (E:EK P t e size bytes) {ops:Array Oper} {rest:List Oper} {o:Oper} {a:Act} {Q:Exit→Act→World→Prop} (hgd:o.guard=none) (s x:Operand)
 (ho:o.op = .call { callee := .builtin .append,args:=#[s,x],argTypes:=#[t,t] }) (hs:a.eval s=v) (hown:w.ownsRow base e size v n xs) {ad:Addr} {m c:Nat} {news:List Value} (hx:a.eval x = .slice (some ad) m c)
 (hl:news.length=m * size) (hnews:∀ j u,news[j]?=some u→w.cell? (ad.add j)=some u) (h1:∀ u∈news,u.oneCell'=true) (hm:0 < m) (h63:n+m≤maxLen) (hb:(n+m) * bytes≤140737488355328) (hbase:base≤w.heap.size)
 (h:∀ v' w',w'.ownsRow base e size v' (n+m) (xs++news)→Below base w w'→w.grownBy w' v.ownBlock→(∀ k,v'.ownBlock=some k→v.ownBlock=some k∨k=w.heap.size)→wpList P ops Q rest (a.put o.dst v') w'):wpList P ops Q (o::rest) a w:=by
 refine wpList_plain hgd fun _ hK=>?_
 obtain ⟨v',w',hrun,h2,h3,h4,h5⟩:=gI (P:=P) E o.type hown (ad:=ad) (m:=m) (c:=c) (news:=news) hl hnews h1 hm h63 hb hbase
 unfold Oper.wp execOp
 simp only [ho,resolve,invoke,builtin,Sem.run_bind,Sem.run_pure,Result.andThen_ok,List.map_toArray,List.map_cons,List.map_nil,hs,hx,hrun]
 exact hK _ _ (h v' w' h2 h3 h4 h5)
end
theorem box_srcM {w:World} {g:Nat} {cs:List Value} (h:Box w g cs):∀ j u,cs[j]?=some u→w.cell? ((⟨g,0,none⟩:Addr).add j)=some u:=fun j u hj=>by
 have e:(⟨g,0,none⟩:Addr).add j=⟨g,j,none⟩:=by
  unfold Addr.add;split<;>simp_all
 rw [e];exact h.2 j u hj
abbrev MP:=ManL × ManH
abbrev mpCells (p:MP):List Value:=p.1.cells p.2
theorem mp_len (p:MP):(mpCells p).length=11:=rfl
theorem mp_one (p:MP):∀ u∈mpCells p,u.oneCell'=true:=by
 intro u hu;simp only [mpCells,ManL.cells,List.mem_cons,List.not_mem_nil,or_false] at hu;rcases hu with rfl | rfl | rfl | rfl | rfl | rfl | rfl | rfl | rfl | rfl | rfl<;>rfl
abbrev MpSub (w:World) (p:MP):Prop:=ManLies w p.2 p.1
theorem MpSub.mono (w w':World) (p:MP) (m:Mono w w') (h:MpSub w p):MpSub w' p:=ManLies.mono h m
theorem ManAt.mono (w w':World) (b o:Nat) (x:ManL) (m:Mono w w') (h:ManAt w b o x):ManAt w' b o x:=by
 obtain ⟨hd,h1,h2⟩:=h;exact ⟨hd,h1.mono m,fun j u hj=>m.2 _ _ (h2 j u hj)⟩
theorem pairs_mans {w:World} {A:Option Addr} {ps:List MP} (h:Lies 11 mpCells w A ps) (hr:∀ p∈ps,MpSub w p):Mans w A (ps.map (·.1)):=by
 rcases h with h | ⟨b,off,h1,h2,h3⟩
 ·exact .inl (by rw [h]; rfl)
 ·refine .inr ⟨b,off,h1,h2,fun i hi=>?_⟩;(have hi':i < ps.length:=by simpa using hi);rw [List.getElem_map];exact ⟨ps[i].2,hr _ (List.getElem_mem hi'),fun j u hj=>h3 i hi' j u hj⟩
def noM:ManL:=⟨Vy,[],[]⟩
def noMH:ManH:=⟨noH,none,0,none,0⟩
theorem Tryz.info36:(Tryz.prog.info? 36).map (fun i=>(i.zero,i.size,i.bytes))=some (some (.agg (mpCells (noM,noMH)).toArray),11,192):=by kernel_rfl
theorem EKmans:EK Tryz.prog 23 36 11 192 := .mk' _ Tryz.underlying23 Tryz.info36 rfl (by omega)
theorem hold_put {u:World} {g B:Nat} {m:ManL} {hd:ManH} {T:TypeId} (x:HoldL) (hB:Box u g (m.cells hd)) (hm:ManLies (xH u B (some g)) hd m) (hu:B≤u.heap.size):Box ((u.setCell ⟨g,10,none⟩ (.slice (some ⟨u.heap.size,0,none⟩) 1 1)).alloc (.cells (holdCells x).toArray T)) g ((⟨m.rc,m.pins,[x]⟩:ManL).cells ⟨hd.r,hd.P,hd.cp,some ⟨u.heap.size,0,none⟩,1⟩)∧ManLies (xH ((u.setCell ⟨g,10,none⟩ (.slice (some ⟨u.heap.size,0,none⟩) 1 1)).alloc (.cells (holdCells x).toArray T)) B (some g)) ⟨hd.r,hd.P,hd.cp,some ⟨u.heap.size,0,none⟩,1⟩ ⟨m.rc,m.pins,[x]⟩:=by
 have hn:u.heap.size≠g:=Nat.ne_of_gt hB.1;refine ⟨(hB.put (j:=10) (by simp) _).kb (zG _ _),?_⟩;have M:Mono (xH u B (some g)) (xH ((u.setCell ⟨g,10,none⟩ (.slice (some ⟨u.heap.size,0,none⟩) 1 1)).alloc (.cells (holdCells x).toArray T)) B (some g)):=(yC (.inr rfl)).trans (rm (zG _ _));have b2:=Box.new (u.setCell ⟨g,10,none⟩ (.slice (some ⟨u.heap.size,0,none⟩) 1 1)) (holdCells x) T;rw [World.size_setCell] at b2;refine ⟨hm.rc.mono M,pins_mono hm.pins M,.inr ⟨u.heap.size,0,rfl,by rw [xL]; exact b2.1,fun i hi=>?_⟩,hm.lp,by simp⟩;have hi':i < 1:=hi;(obtain rfl:i=0:=by omega);exact ⟨wQ.2 ⟨⟨hu,fun e=>hn (by injection e with e; exact e.symm)⟩,b2.2 0 _ rfl⟩,wQ.2 ⟨⟨hu,fun e=>hn (by injection e with e; exact e.symm)⟩,b2.2 1 _ rfl⟩⟩
def MembersK (w:World) (e:Ending) (w':World):Prop:=∃ (a b c:ManL) (A:Option Addr) (cap:Nat),e = .returned (.slice A 3 cap)∧3≤cap∧Mans w' A [a,b,c]∧Three a b c∧ManFit a∧ManFit b∧ManFit c∧KB w.heap.size w w'
theorem e2_in:(⟨#[101,45,50]⟩:ByteArray)∈gL:=by simp [gL]
theorem members_any (A:Option Addr) (cap:Nat) (zs:List Int) (w:World) (h:IntsAt w A zs) (hln:zs.length≤9223372036854775807):Calls Tryz.prog 7 #[.slice A zs.length cap] w (MembersK w):=by
 have CF:=hid (fun (j n:Int) u (hb:KB w.heap.size w u) (h1:0≤j) (h2:j≤1000000000) (h3:0 < n) (h4:n≤1000000)=>un A cap zs j n u (rq h hb) h1 h2 hln h3 h4);have CM:=hid (fun (j own:Int) u (hb:KB w.heap.size w u) (h1:0≤j) (h2:j≤6000000) (h3:0≤own) (h4:own≤100)=>lmanifest_any A cap zs j own u (rq h hb) h1 h2 hln h3 h4);have CW:=hid (fun (j:Int) u (hb:KB w.heap.size w u) (h1:0≤j) (h2:j≤10000000)=>lfew_anyN A cap zs j u (rq h hb) h1 h2 hln);clear h;generalize zs.length=zn at *;go_enter Tryz.func7,Tryz.ntmps7;(go_upto_block 0 with fail);(go_wp2_with fail);go_loopw [4,3] (fun i vs wr=>∃ (k:Nat) (ps:List MP) (va:Value),i = .int .i64 k∧va=vs∧k≤3∧Hid (ps.length=k)∧Hid (Deep 36 11 mpCells MpSub wr w.heap.size va ps)∧Hid (∀ (j:Nat) (p:MP),ps[j]?=some p→ManOk (j:Int) p.1∧ManFit p.1)∧Hid (KB w.heap.size w wr)) (fun i _ _=>3 - (intOf i).toNat)
 case atStart=>exact ⟨0,[],_,rfl,rfl,by omega,hid rfl,hid Deep.nil,hid (fun j p h=>by simp at h),hid (zH _)⟩
 case round =>
  (rename World=>wr);obtain ⟨k,ps,va,rfl,rfl,hk,HPL,HD,HOK,HB⟩:=hrel;(have k0:(0:Int)≤(k:Int):=by omega);by_cases hlt:k < 3
  ·(have k1:(k:Int) < 3:=by omega);(go_wp2_with fail);refine (CM.out _ _ _ HB.out (by omega) (by omega) (by omega) (by omega)).mono ?_;rintro _ u1 ⟨m,hd,rfl,hml,hfit,hok,hb⟩;have HF:=hid hfit;have HK:=hid hok;have HML:=hid hml;have HB1:=hid hb;clear hml hfit hok hb;(go_upto_region 6 with fail);refine zI ?_;intro u2 hu;(have hb:KB u1.heap.size u1 u2:=by rw [hu]; exact zG _ _);have HY:=hid (show Own wr.heap.size u2 u1.heap.size (m.cells hd) by rw [hu]; exact Own.new u1 (m.cells hd) 36 HB1.out.size);have HML2:=hid (show ManLies (xH u2 wr.heap.size (some u1.heap.size)) hd m from HML.out.mono (vd hb.size fun k hk h1 _=>⟨⟨h1,fun e=>by injection e with e; omega⟩,hb.block k hk⟩));have HB2:=hid (zA HB1.out hb);have hg5:wr.heap.size≤u1.heap.size:=HB1.out.size;clear hu hb HML HB1;generalize u1.heap.size=g5 at *;have HBW:=hid (zA HB.out HB2.out);(go_wp2_with fail);refine (CF.out _ _ _ HBW.out (by omega) (by omega) (by omega) (by omega)).mono ?_;rintro _ _ ⟨rfl,rfl⟩;generalize xh zs _ 2=q at *;(go_upto_if 20 with fail);go_cut [5] from 20 to 28 (fun v wx=>v = .pointer (some ⟨g5,0,none⟩)∧∃ (m':ManL) (hd':ManH),Hid (Box wx g5 (m'.cells hd'))∧Hid (ManLies (xH wx wr.heap.size (some g5)) hd' m')∧Hid (ManOk (k:Int) m'∧ManFit m')∧Hid (KB wr.heap.size wr wx))
   case first =>
    by_cases hp:q=1
    ·(have e1:(q==1)=true:=by rw [beq_iff_eq]; exact hp);clear hp;(go_wp2_with fail);refine (CW.out _ _ HBW.out (by omega) (by omega)).mono ?_;rintro _ u3 ⟨fw,rfl,hfw,hb⟩;have HFW:=hid hfw;have HY3:=hid (HY.out.kb hb.kb);have HML3:=hid (HML2.out.mono (rm hb.kb));have HB3:=hid (zA HB2.out hb.kb);clear hfw hb;have y10:=HY3.out.box.2 10 _ rfl;have yl:=HY3.out.box.1;have sf:∀ j,u3.frozen? ⟨g5,j,none⟩=false:=HY3.out.soft;(go_wp2_with fail);go_meet
     case rel =>
      have hq:=hold_put (T:=61) ⟨⟨#[101,45,50]⟩,fw⟩ HY3.out.box HML3.out HB3.out.size
      exact ⟨rfl,_,_,hid hq.1,hid hq.2,hid ⟨⟨HK.out.rc,HK.out.plen,HK.out.pins,by simp,fun h hh=>by
       rcases List.mem_singleton.1 hh with rfl
       exact ⟨e2_in,HFW.out⟩⟩,⟨HF.out.v,HF.out.small⟩⟩,hid (zA (yV HB3.out hg5 _) (zG _ _))⟩
    ·(have e1:(q==1)=false:=by rw [beq_eq_false_iff_ne]; exact hp);clear hp;(go_wp2_with fail);go_meet
     case rel=>exact ⟨rfl,m,hd,hid HY.out.box,HML2,hid ⟨HK.out,HF.out⟩,HB2⟩
   case rest =>
    obtain ⟨rfl,m',hd',HY',HML',HMO,HKX⟩:=hcut;(rename World=>wx);clear HY HML2 HB2 HK HF HBW;obtain ⟨x0,x1,x2,x3,x4,x5,x6,x7,x8,x9,x10,xl⟩:=rec11 HY'.out;have HDx:=hid (Deep.kb MpSub.mono (Deep.kb MpSub.mono HD.out HKX.out) (zG wx (.cells (mpCells (m',hd')).toArray 36)));have hsu:MpSub (xH (wx.alloc (.cells (mpCells (m',hd')).toArray 36)) w.heap.size va.ownBlock) (m',hd'):=HML'.out.mono (((rm (zG _ _)).trans ZI).trans (yK HB.out.size (Deep.lt HD.out)));have HSU:=hid hsu;have HBX:=hid (zA (zA HB.out HKX.out) (zG wx (.cells (mpCells (m',hd')).toArray 36)));clear hsu;(go_wp2_with (at_builtin; refine wpList_appM EKmans rfl (.tmp 29) (.tmp 31) rfl rfl HDx.out.1 rfl (m:=1) (news:=mpCells (m',hd')) rfl (box_srcM (Box.new wx (mpCells (m',hd')) 36)) (mp_one (m',hd')) (by omega) (by have:=HPL.out; unfold maxLen; omega) (by have:=HPL.out; omega) HBX.out.size ?_; intro vv w9 h2 h3 h4 h5; have HDn:=hid (Deep.snoc MpSub.mono HDx.out HSU.out h2 h4 fun k e=>(h5 k e).imp id fun h=>Nat.le_of_eq h.symm); have HB9:=hid (Go.RowKit.Below.trans HBX.out h3.kb); clear h2 h3 h4 h5));go_roundw
    case rel=>exact ⟨k+1,ps++[(m',hd')],_,by go_num,rfl,by omega,hid (by rw [List.length_append,HPL.out]; rfl),HDn,hid (fun j p hp=>by
     by_cases hj:j < ps.length
     ·rw [List.getElem?_append_left hj] at hp;exact HOK.out j p hp
     ·rw [List.getElem?_append_right (by omega)] at hp
      have h0:j - ps.length=0:=by
       by_cases e:j - ps.length=0
       ·exact e
       ·rw [List.getElem?_eq_none (by simp; omega)] at hp;cases hp
      rw [h0] at hp;(injection hp with hp);subst hp;obtain rfl:j=k:=by have:=HPL.out; omega
      exact HMO.out),HB9⟩
    case measure=>simp [intOf]<;>omega
  ·(obtain rfl:k=3:=by omega);(have k1:¬ ((3:Nat):Int) < 3:=by omega);(go_wp2_with fail);(try rw [Exit.noGoto_ret]);(try go_ret);obtain ⟨A0,c0,hv,hc,hli,hsu⟩:=HD.out.fresh mp_len MpSub.mono;have hm:=pairs_mans hli hsu;have hl:=HPL.out;have ho:=HOK.out
   match ps,hl with
   | [p0,p1,p2],_ =>
    exact ⟨p0.1,p1.1,p2.1,A0,c0,by rw [hv]; rfl,hc,RowOf.mono ManAt.mono hm (Mono.of_mask _ _ _),⟨(ho 0 p0 rfl).1,(ho 1 p1 rfl).1,(ho 2 p2 rfl).1⟩,(ho 0 p0 rfl).2,(ho 1 p1 rfl).2,(ho 2 p2 rfl).2,HB.out⟩
end Go.Proofs.YtiffijoenkcpjaaGreatDoor
