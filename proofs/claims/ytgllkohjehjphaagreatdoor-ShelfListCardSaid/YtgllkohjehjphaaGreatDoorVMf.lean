import Derived.Test.YtgllkohjehjphaaGreatDoorVMd
set_option linter.unusedVariables false
set_option linter.unusedSimpArgs false
set_option maxRecDepth 100000
set_option maxHeartbeats 2000000
namespace Go.Proofs.YtgllkohjehjphaaGreatDoor
open Go.RowKit Go.Lib
open Rw
def VR (w:World) (e:Ending) (w':World):Prop:=∃ (l:List FeatL) (A:Option Addr) (c:Nat),e = .returned (.slice A l.length c)∧RowOf 2 FeatAt (xH w' w.heap.size none) A l∧l.length≤4∧(∀ f∈l,yP f)∧Below w.heap.size w w'
structure FIn (wr:World) (g:Nat) (nm:ByteArray) (q:Nat) (u:World) (A:Option Addr) (c:Nat) (m:List ByteArray):Prop where
 own:Own wr.heap.size u g [.string nm,.slice A m.length c]
 of_:OfH (xH u (g+1) none) A c m
 len:m.length≤q
 small:∀ x∈m,x.size≤16
 below:Below wr.heap.size wr u
theorem FIn.on {wr u u':World} {g q:Nat} {nm:ByteArray} {A:Option Addr} {c:Nat} {m:List ByteArray} (h:FIn wr g nm q u A c m) (hb:Below u.heap.size u u'):FIn wr g nm q u' A c m:=⟨h.own.below hb,h.of_.mono (rm hb.kb),h.len,h.small,zC h.below hb⟩
theorem FIn.up {wr u:World} {g q q':Nat} {nm:ByteArray} {A:Option Addr} {c:Nat} {m:List ByteArray} (h:FIn wr g nm q u A c m) (hq:q≤q'):FIn wr g nm q' u A c m:=⟨h.own,h.of_,Nat.le_trans h.len hq,h.small,h.below⟩
theorem FIn.step {wr u u':World} {g q:Nat} {nm s:ByteArray} {A A':Option Addr} {c c':Nat} {m m':List ByteArray} (h:FIn wr g nm q u A c m) (hs:s.size≤16) (h1:OfH (xH u' (g+1) none) A' c' m') (h2:m'.length≤m.length+1) (h3:∀ x∈m',x∈m∨x=s) (hb:Below u.heap.size u u'):FIn wr g nm (q+1) (u'.setCell ⟨g,1,none⟩ (.slice A' m'.length c')) A' c' m' :=
 ⟨(h.own.below hb).put (j:=1) (by simp) _,h1.mono (yC (.inl (Nat.lt_succ_self g))),by have:=h.len; omega,fun x hx=>by
  rcases h3 x hx with k | rfl
  ·exact h.small x k
  ·exact hs,zR (zC h.below hb) h.own.low _⟩
def Zq:List Value:=[.string ⟨#[100,101,102,97,117,108,116]⟩,.string ⟨#[120]⟩,.string ⟨#[121]⟩,.string ⟨#[122]⟩]
theorem ld {k:Nat} (h:k < 4):∃ nm:ByteArray,Zq[k]?=some (.string nm)∧nm.size≤7:=by
 (have:k=0∨k=1∨k=2∨k=3:=by omega);rcases this with rfl | rfl | rfl | rfl<;>exact ⟨_,rfl,by decide⟩
theorem eh (A:Option Addr) (cap:Nat) (zs:List Int) (i:Int) (r:RecL) (hd:RecH) (w:World) (h:IntsAt w A zs) (hi:0≤i) (hi2:i≤9000000) (hln:zs.length≤9223372036854775807) (hr:RowOf 3 NeedAt w hd.A r.needs) (hrn:r.needs.length≤2) (hsm:∀ n∈r.needs,n.opt.size≤3∧∀ y∈n.any,y.name.size≤3):Calls Tryz.prog 61 #[.slice A zs.length cap,.int .i64 i,r.val hd] w (VR w):=by
 have CA:=hid (fun (j:Int) u (hb:Below w.heap.size w u) (h1:0≤j) (h2:j≤1000000000)=>cu A cap zs j u (h.below hb) h1 h2 hln);have CL:=hid (fun v u=>s8 v 3 u (by omega) (by omega));have HNE:=hid hr;have HSM:=hid hsm;clear h hr hsm;obtain ⟨rn,rv,rne,rba,rfe⟩:=r;obtain ⟨dA,da,dB,db,dF,df⟩:=hd;dsimp only [RecL.val] at *;generalize hnn:rne.length=nn at *;have HNN:=hid hnn;clear hnn;generalize rba.length=nb at *;generalize rfe.length=nf at *;generalize zs.length=zn at *;go_enter Tryz.func61,Tryz.ntmps61;(go_upto_region 3 with fail);refine zI ?_;intro w1 hw1;have HX:=hid (show Box w1 w.heap.size [.string rn,.int .i64 rv.maj,.int .i64 rv.min,.int .i64 rv.pat,.string rv.pre,.string rv.bld,.slice dA nn da,.slice dB nb db,.slice dF nf df] by rw [hw1]; exact (Box.new w [.string rn,.int .i64 rv.maj,.int .i64 rv.min,.int .i64 rv.pat,.string rv.pre,.string rv.bld,.slice dA nn da,.slice dB nb db,.slice dF nf df] 31).below (zL _ _));have HY:=hid (show Box w1 (w.heap.size+1) Zq by rw [hw1]; have:=Box.new (w.alloc (.cells ([.string rn,.int .i64 rv.maj,.int .i64 rv.min,.int .i64 rv.pat,.string rv.pre,.string rv.bld,.slice dA nn da,.slice dB nb db,.slice dF nf df]:List Value).toArray 31)) Zq 125; rwa [World.size_alloc] at this);have HB1:=hid (show Below w.heap.size w w1 by rw [hw1]; exact zC (zL _ _) (zL _ _));clear hw1;generalize w.heap.size+1=g2 at *
 (go_upto_block 0 with fail);(go_wp2_with fail);go_loopw [9,7] (fun kv v ww=>∃ (k:Nat) (ps:List (FeatL × Hdr)),kv = .int .i64 (k:Int)∧k≤4∧Hid (Deep 118 2 sR FpSub ww w1.heap.size v ps)∧Hid (ps.length≤k)∧Hid (∀ p∈ps,yP p.1)∧Hid (Below w1.heap.size w1 ww)) (fun kv _ _=>4 - (intOf kv).toNat)
 case atStart=>exact ⟨0,[],rfl,by omega,hid Deep.nil,hid (Nat.zero_le _),hid (fun p hp=>by cases hp),hid (Below.refl _ _)⟩
 case round =>
  (rename World=>wr);obtain ⟨k,ps,rfl,hk,HD,HPL,HPS,HBW⟩:=hrel;have HWW:=hid (zC HB1.out HBW.out);by_cases hlt:k < 4
  ·(have k0:(0:Int)≤(k:Int):=by omega);(have k1:(k:Int) < 4:=by omega);obtain ⟨nm,hnm,hns⟩:=ld hlt;have HNM:=hid hnm;clear hnm;(go_wp2_with fail);refine (CA.out _ _ HWW.out (by omega) (by omega)).mono ?_;rintro _ _ ⟨rfl,rfl⟩;generalize atL zs (i+(k:Int))=nv at *;(go_wp2_with fail);refine (CL.out _ _).mono ?_;rintro _ _ ⟨rfl,rfl⟩;generalize vZ nv 3=pv at *;by_cases hp:pv=0
   ·(have e1:(pv==0)=true:=by rw [beq_iff_eq]; exact hp);clear hp;(go_wp2_with fail);go_roundw
    case rel=>exact ⟨k+1,ps,by go_num,by omega,HD,hid (by have:=HPL.out; omega),HPS,HBW⟩
    case measure=>simp [intOf]<;>omega
   ·(have e1:(pv==0)=false:=by rw [beq_eq_false_iff_ne]; exact hp);clear hp;have yk:=(HY.out.below HBW.out).2 k _ HNM.out;have yl:=(HY.out.below HBW.out).1;(go_upto_region 9 with fail);refine zI ?_;intro u5 hu;have HF:=hid (show FIn wr wr.heap.size nm 0 u5 none 0 [] by rw [hu]; exact ⟨Own.new wr [.string nm,.slice none 0 0] 118 (Nat.le_refl _),.inl ⟨rfl,rfl,rfl⟩,Nat.le_refl _,(fun x hx=>by cases hx),zL _ _⟩);clear hu yk yl;(go_upto_block 2 with fail);(go_wp2_with fail);go_loopw [12] (fun jv ww=>∃ (j:Nat) (A':Option Addr) (c':Nat) (m:List ByteArray),jv = .int .i64 (j:Int)∧j≤nn∧Hid (FIn wr wr.heap.size nm (2 * j) ww A' c' m)) (fun jv _=>nn - (intOf jv).toNat)
    case atStart=>exact ⟨0,none,0,[],rfl,Nat.zero_le _,HF⟩
    case round =>
     (rename World=>ur);obtain ⟨j,A',c',m,rfl,hj,HF⟩:=hrel;have HUW:=hid (zC HWW.out HF.out.below);have HXU:=hid (HX.out.below (zC HBW.out HF.out.below));have x6:=HXU.out.2 6 _ rfl;have xl:=HXU.out.1;(have j0:(0:Int)≤(j:Int):=by omega);by_cases hjn:j < nn
     ·(have j1:(j:Int) < (nn:Int):=by omega);(have j2:(j:Int) < 2:=by omega);(have j3:j < 2:=by omega);(have hjn':j < rne.length:=by rw [HNN.out]; exact hjn);obtain ⟨b,off,A2,c2,hA2,hbl0,z0,z1,z2,hrow,hal⟩:=uC HNE.out hjn';have hsn:=HSM.out _ (List.getElem_mem hjn');subst hA2;replace z0:=zU hbl0 HUW.out.kb z0;replace z1:=zU hbl0 HUW.out.kb z1;replace z2:=zU hbl0 HUW.out.kb z2;have hbl:=Nat.lt_of_lt_of_le hbl0 HUW.out.size;clear hbl0;generalize rne[j]=x at *;obtain ⟨xa,xw,xo⟩:=x;dsimp only at z0 z1 z2 hrow hal hsn;have HXA:=hid hsn.2;have hxo:=hsn.1;have HRW:=hid hrow;clear hsn hrow;generalize hxa:xa.length=an at *;have HAN:=hid hxa;clear hxa;(go_upto_region 13 with fail);refine zI ?_;intro u7 hu;(have hb7:Below ur.heap.size ur u7:=by rw [hu]; exact zL _ _);have HG:=hid (show Box u7 ur.heap.size [.slice A2 an c2,.string xw,.string xo] by rw [hu]; exact Box.new ur [.slice A2 an c2,.string xw,.string xo] 77);have HF7:=hid (HF.out.on hb7);have hgg:wr.heap.size≠ur.heap.size:=Nat.ne_of_lt HF.out.own.box.1;clear hu hb7 z0 z1 z2 x6 xl;generalize ur.heap.size=gm at *;have hwl:wr.heap.size+1≤u7.heap.size:=HF7.out.own.box.1;have CP:=hid (fun (A:Option Addr) (c:Nat) (m:List ByteArray) (s:ByteArray) (u:World) (hu:wr.heap.size+1≤u.heap.size) (hm:m.length≤100) (ho:OfH (xH u (wr.heap.size+1) none) A c m)=>fE (wr.heap.size+1) none A c m s u ho hu (fun q e=>by cases e) hm)
      have z2:=HG.out.2 2 _ rfl;have zl:=HG.out.1;have y1:=HF7.out.own.box.2 1 _ rfl;have yl:=HF7.out.own.box.1;have yf:∀ q,u7.frozen? ⟨wr.heap.size,q,none⟩=false:=HF7.out.own.soft;(go_upto_if 58 with fail);all_goals (go_upto_region 15 with fail)
      all_goals first
       | (with_reducible refine (CP.out _ _ _ _ _ hwl (by have:=HF7.out.len; omega) HF7.out.of_).mono ?_
          rintro _ u8 ⟨A8,c8,m8,rfl,ho8,hl8,hm8,hb8⟩
          have HS8:=hid (HF7.out.step (s:=⟨#[63]⟩++xo) (by rw [ByteArray.size_append]; simp only [show (⟨#[63]⟩:ByteArray).size=1 from rfl]; omega) ho8 hl8 hm8 hb8)
          have HG8:=hid ((HG.out.below hb8).putOther (k:=wr.heap.size) (j:=1) (Ne.symm hgg) (.slice A8 m8.length c8))
          have HB8:=hid hb8
          have HF8:=hid ((HF7.out.own).below hb8)
          clear ho8 hl8 hm8 hb8 y1 yl yf z2 zl
          have y1:=HF8.out.box.2 1 _ rfl
          have yl:=HF8.out.box.1
          have yf:∀ q,u8.frozen? ⟨wr.heap.size,q,none⟩=false:=HF8.out.soft
          go_upto_region 15 with fail
          refine zI ?_
          intro u9 hu9
          have HF9:=hid (show ∃ A c m,FIn wr wr.heap.size nm (2 * j+1) u9 A c m from ⟨A8,c8,m8,by rw [hu9]; exact HS8.out⟩)
          have HG9:=hid (show Box u9 gm [.slice A2 an c2,.string xw,.string xo] by rw [hu9]; exact HG8.out)
          clear hu9 y1 yl yf HF8 HB8 HS8 HG8)
       | (refine zI ?_
          intro u9 hu9
          have HF9:=hid (show ∃ A c m,FIn wr wr.heap.size nm (2 * j+1) u9 A c m from ⟨A',c',m,by rw [hu9]; exact HF7.out.up (by omega)⟩)
          have HG9:=hid (show Box u9 gm [.slice A2 an c2,.string xw,.string xo] by rw [hu9]; exact HG.out)
          clear hu9 y1 yl yf z2 zl)
      all_goals
       obtain ⟨A9,c9,m9,hf9⟩:=HF9.out;have HF:=hid hf9;clear hf9 HF9 HF7 HG;have z0:=HG9.out.2 0 _ rfl;have zl:=HG9.out.1;go_upto_region 16 with fail
      all_goals first
       | (go_roundw
          case rel=>exact ⟨j+1,A9,c9,m9,by go_num,by omega,hid (HF.out.up (by omega))⟩
          case measure=>simp [intOf]<;>omega)
       | (have han:an=1:=by omega
          subst han
          have h0a:0 < xa.length:=by rw [HAN.out]; decide
          obtain ⟨b2,of2,A4,c4,hA4,hb2l,n0,-,-,-⟩:=t9 (HRW.out.kb WishAt.stays (zC HWW.out HF.out.below).kb) h0a
          have hx0:=HXA.out _ (List.getElem_mem h0a)
          subst hA4
          rw [Nat.zero_mul,Nat.add_zero] at n0
          generalize xa[0].name=xn at *
          have hwu:wr.heap.size+1≤u9.drew.heap.size:=HF.out.own.box.1
          have HFD:=hid (HF.out.on (Below.drew (Below.refl _ _)))
          have y1:=HF.out.own.box.2 1 _ rfl
          have yl:=HF.out.own.box.1
          have s1:(⟨#[47]⟩:ByteArray).size=1:=rfl
          have s2:(⟨#[120]⟩:ByteArray).size=1:=rfl
          have s3:¬ 9223372036854775807 < xn.size+1:=by omega
          have s4:¬ 9223372036854775807 < xn.size+1+1:=by omega
          have s5:¬ 9223372036854775807 < (xn++⟨#[47]⟩).size+1:=by rw [ByteArray.size_append,s1]; omega
          go_region_law (go_simp; (with_reducible refine (CP.out _ _ _ _ _ hwu (by have:=HFD.out.len; omega) HFD.out.of_).mono ?_); rintro _ ua ⟨A8,c8,m8,rfl,ho8,hl8,hm8,hb8⟩; have oa:=HFD.out.own.below hb8; have a1:=oa.box.2 1 _ rfl; have al:=oa.box.1; have af:∀ q,ua.frozen? ⟨wr.heap.size,q,none⟩=false:=oa.soft)
          all_goals
           refine nV ?_;intro u10 hu10;replace hu10:u10=ua.setCell ⟨wr.heap.size,1,none⟩ (.slice A8 m8.length c8):=hu10;have HF10:=hid (show FIn wr wr.heap.size nm (2 * (j+1)) u10 A8 c8 m8 by rw [hu10]; exact (HFD.out.step (by simp only [ByteArray.size_append]; omega) ho8 hl8 hm8 hb8).up (by omega));clear hu10 oa a1 al af ho8 hl8 hm8 hb8 y1 yl n0 z0 zl;(go_wp2_with fail);go_roundw
           case rel=>exact ⟨j+1,A8,c8,m8,by go_num,by omega,HF10⟩
           case measure=>simp [intOf]<;>omega)
     ·(obtain rfl:j=nn:=by omega);(have j1:¬ (j:Int) < (j:Int):=by omega);have HCA:=hid (fun q u (hb:Below wr.heap.size wr u) h1 h2=>CA.out q u (zC HWW.out hb) h1 h2);have hf0:=HF.out.below;(go_upto_if 107 with (first | (go_at_call 62; (with_reducible refine (HCA.out _ _ hf0 (by omega) (by omega)).mono ?_); rintro _ _ ⟨rfl,rfl⟩; generalize atL zs (i+(k:Int)+1)=av at *) | (go_at_call 29; (with_reducible refine (CL.out _ _).mono ?_); rintro _ _ ⟨rfl,rfl⟩; generalize vZ av 3=apv at *)));all_goals (go_upto_region 19 with fail)
      all_goals first
       | (have hM:=yK (w:=ur) (B:=w1.heap.size) (B':=wr.heap.size+1) (Nat.le_trans HBW.out.size (Nat.le_succ _)) (fun q e=>Nat.lt_succ_of_lt (Deep.lt HD.out q e))
          have hsub:FpSub (xH ur w1.heap.size _) ((⟨nm,m⟩:FeatL),((A',c'):Hdr)):=⟨(HF.out.of_.mono hM).texts,by have:=HF.out.len; dsimp only; omega⟩
          have hDU:=Deep.kb FpSub.mono HD.out HF.out.below.kb
          have hsz:w1.heap.size≤ur.heap.size:=Nat.le_trans HBW.out.size HF.out.below.size
          have x0:=HF.out.own.box.2 0 _ rfl
          have x1:=HF.out.own.box.2 1 _ rfl
          have xl:=HF.out.own.box.1
          go_wp2_with (at_builtin; refine wI aV rfl (.tmp 116) (.tmp 118) rfl (sR ((⟨nm,m⟩:FeatL),((A',c'):Hdr))) hDU.1 rfl rfl rfl (Xk _) (by have:=HPL.out; unfold maxLen; omega) (by have:=HPL.out; omega) hsz ?_; intro v' w' h2 h3 h4 h5; have hDN:=Deep.snoc FpSub.mono hDU hsub h2 h4 h5)
          go_roundw
          case rel=>exact ⟨k+1,ps++[((⟨nm,m⟩:FeatL),((A',c'):Hdr))],by go_num,by omega,hid hDN,hid (by rw [List.length_append,List.length_singleton]; have:=HPL.out; omega),hid (fun p hp=>by
           rcases List.mem_append.1 hp with hp | hp
           ·exact HPS.out p hp
           ·rcases List.mem_singleton.1 hp with rfl
            exact fun s hs=>Nat.le_trans (HF.out.small s hs) (by omega)),hid (((zC HBW.out HF.out.below).trans h3))⟩
          case measure=>simp [intOf]<;>omega)
       | (have hk3:k+1 < 4:=by omega
          obtain ⟨n2,hn2,hz2⟩:=ld hk3
          have r1:IntKind.i64.wrap ((k:Int)+1)=(k:Int)+1:=IntWalk.i64_in _ (by omega)
          have r2:(0:Int)≤(k:Int)+1:=by omega
          have r3:(k:Int)+1 < 4:=by omega
          have r4:((k:Int)+1).toNat=k+1:=by omega
          have yk:=(HY.out.below (zC HBW.out HF.out.below)).2 (k+1) _ hn2
          have ykl:=(HY.out.below (zC HBW.out HF.out.below)).1
          have CP:=hid (fun (A:Option Addr) (c:Nat) (m:List ByteArray) (s:ByteArray) (u:World) (hu:wr.heap.size+1≤u.heap.size) (hm:m.length≤100) (ho:OfH (xH u (wr.heap.size+1) none) A c m)=>fE (wr.heap.size+1) none A c m s u ho hu (fun q e=>by cases e) hm)
          have hwu:wr.heap.size+1≤ur.drew.heap.size:=HF.out.own.box.1
          have HFD:=hid (HF.out.on (Below.drew (Below.refl _ _)))
          have y1:=HF.out.own.box.2 1 _ rfl
          have yl:=HF.out.own.box.1
          go_region_law (go_simp; (with_reducible refine (CP.out _ _ _ _ _ hwu (by have:=HFD.out.len; omega) HFD.out.of_).mono ?_); rintro _ ua ⟨A8,c8,m8,rfl,ho8,hl8,hm8,hb8⟩; have oa:=HFD.out.own.below hb8; have a1:=oa.box.2 1 _ rfl; have al:=oa.box.1; have af:∀ q,ua.frozen? ⟨wr.heap.size,q,none⟩=false:=oa.soft)
          all_goals
           refine nV ?_;intro u10 hu10;replace hu10:u10=ua.setCell ⟨wr.heap.size,1,none⟩ (.slice A8 m8.length c8):=hu10;have HF10:=hid (show FIn wr wr.heap.size nm (2 * j+1) u10 A8 c8 m8 by rw [hu10]; exact HFD.out.step (by omega) ho8 hl8 hm8 hb8);clear hu10 oa a1 al af ho8 hl8 hm8 hb8 y1 yl yk ykl r1 r2 r3 r4 x6 xl;have hM:=yK (w:=u10) (B:=w1.heap.size) (B':=wr.heap.size+1) (Nat.le_trans HBW.out.size (Nat.le_succ _)) (fun q e=>Nat.lt_succ_of_lt (Deep.lt HD.out q e));have hsub:FpSub (xH u10 w1.heap.size _) ((⟨nm,m8⟩:FeatL),((A8,c8):Hdr)):=⟨(HF10.out.of_.mono hM).texts,by have:=HF10.out.len; dsimp only; omega⟩;have hDU:=Deep.kb FpSub.mono HD.out HF10.out.below.kb;have hsz:w1.heap.size≤u10.heap.size:=Nat.le_trans HBW.out.size HF10.out.below.size;have x0:=HF10.out.own.box.2 0 _ rfl;have x1:=HF10.out.own.box.2 1 _ rfl;have xl:=HF10.out.own.box.1;(go_wp2_with (at_builtin; refine wI aV rfl (.tmp 116) (.tmp 118) rfl (sR ((⟨nm,m8⟩:FeatL),((A8,c8):Hdr))) hDU.1 rfl rfl rfl (Xk _) (by have:=HPL.out; unfold maxLen; omega) (by have:=HPL.out; omega) hsz ?_; intro v' w' h2 h3 h4 h5; have hDN:=Deep.snoc FpSub.mono hDU hsub h2 h4 h5));go_roundw
           case rel=>exact ⟨k+1,ps++[((⟨nm,m8⟩:FeatL),((A8,c8):Hdr))],by go_num,by omega,hid hDN,hid (by rw [List.length_append,List.length_singleton]; have:=HPL.out; omega),hid (fun p hp=>by
            rcases List.mem_append.1 hp with hp | hp
            ·exact HPS.out p hp
            ·rcases List.mem_singleton.1 hp with rfl
             exact fun s hs=>Nat.le_trans (HF10.out.small s hs) (by omega)),hid (((zC HBW.out HF10.out.below).trans h3))⟩
           case measure=>simp [intOf]<;>omega)
  ·(obtain rfl:k=4:=by omega);(have k1:¬ (4:Int) < 4:=by omega);obtain ⟨A3,c3,hv,-,hli,hsu⟩:=HD.out.fresh VK FpSub.mono;subst hv;have hM:=yK (w:=wr) (B:=w.heap.size) (B':=w1.heap.size) (o:=none) HB1.out.size (fun q e=>by cases e);have HRW:=hid (RowOf.mono FeatAt.mono (j8 hli hsu) hM);clear hli hsu hM HD;(go_wp2_with fail);(try rw [Exit.noGoto_ret]);try go_ret
   exact ⟨ps.map (·.1),A3,c3,by rw [List.length_map]<;>rfl,HRW.out,by rw [List.length_map]; exact HPL.out,(fun f hf=>by
    obtain ⟨p,hp,rfl⟩:=List.mem_map.1 hf
    exact HPS.out p hp),HWW.out⟩
theorem Own.set9 {B:Nat} {w:World} {g:Nat} {a0 a1 a2 a3 a4 a5 a6 a7 a8:Value} (h:Own B w g [a0,a1,a2,a3,a4,a5,a6,a7,a8]) (b0 b1 b2 b3 b4 b5 b6 b7 b8:Value):Own B (((((((((w.setCell ⟨g,0,none⟩ b0).setCell ⟨g,1,none⟩ b1).setCell ⟨g,2,none⟩ b2).setCell ⟨g,3,none⟩ b3).setCell ⟨g,4,none⟩ b4).setCell ⟨g,5,none⟩ b5).setCell ⟨g,6,none⟩ b6).setCell ⟨g,7,none⟩ b7).setCell ⟨g,8,none⟩ b8) g [b0,b1,b2,b3,b4,b5,b6,b7,b8] :=
 ⟨h.box.set (o:=0) (vs:=[b0,b1,b2,b3,b4,b5,b6,b7,b8]) (by simp),h.soft.set (o:=0) (vs:=[b0,b1,b2,b3,b4,b5,b6,b7,b8]),h.low⟩
theorem dT {w w1:World} (h:Below w.heap.size w w1) {g:Nat} (hg:w.heap.size≤g) (b0 b1 b2 b3 b4 b5 b6 b7 b8:Value):Below w.heap.size w (((((((((w1.setCell ⟨g,0,none⟩ b0).setCell ⟨g,1,none⟩ b1).setCell ⟨g,2,none⟩ b2).setCell ⟨g,3,none⟩ b3).setCell ⟨g,4,none⟩ b4).setCell ⟨g,5,none⟩ b5).setCell ⟨g,6,none⟩ b6).setCell ⟨g,7,none⟩ b7).setCell ⟨g,8,none⟩ b8) :=
 zR (zR (zR (zR (zR (zR (zR (zR (zR h hg _) hg _) hg _) hg _) hg _) hg _) hg _) hg _) hg _
theorem dt {w:World} {B g:Nat} (h:g < B) (b0 b1 b2 b3 b4 b5 b6 b7 b8:Value):Mono (xH w B none) (xH (((((((((w.setCell ⟨g,0,none⟩ b0).setCell ⟨g,1,none⟩ b1).setCell ⟨g,2,none⟩ b2).setCell ⟨g,3,none⟩ b3).setCell ⟨g,4,none⟩ b4).setCell ⟨g,5,none⟩ b5).setCell ⟨g,6,none⟩ b6).setCell ⟨g,7,none⟩ b7).setCell ⟨g,8,none⟩ b8) B none) :=
 (((((((((yC (.inl h)).trans (yC (.inl h))).trans (yC (.inl h))).trans (yC (.inl h))).trans (yC (.inl h))).trans (yC (.inl h))).trans (yC (.inl h))).trans (yC (.inl h))).trans (yC (.inl h)))
def Xy (w:World) (e:Ending) (w':World):Prop:=∃ (r:RecL) (hd:RecH),e = .returned (r.val hd)∧RecLies (xH w' w.heap.size none) hd r∧r.v.fit∧(∀ f∈r.feats,yP f)∧Below w.heap.size w w'
abbrev tk (b:BarL):List Value:=[.string b.name,.string b.rng,.string b.whn]
theorem X8 (b:BarL):(tk b).length=3:=rfl
theorem WO (b:BarL):∀ u∈tk b,u.oneCell'=true:=by
 intro u hu;simp only [tk,List.mem_cons,List.not_mem_nil,or_false] at hu;rcases hu with rfl | rfl | rfl<;>rfl
abbrev Vm:World→BarL→Prop:=fun _ _=>True
theorem bX {w:World} {A:Option Addr} {l:List BarL} (h:Lies 3 tk w A l):RowOf 3 BarAt w A l:=by
 rcases h with h | ⟨b,off,rfl,hlt,hc⟩
 ·exact .inl h
 ·exact .inr ⟨b,off,rfl,hlt,fun i hi=>⟨hc i hi 0 _ rfl,hc i hi 1 _ rfl,hc i hi 2 _ rfl⟩⟩
theorem bt {w w':World} {v:Value} (hv:v.ownBlock=none) (hg:w.grownBy w' v.ownBlock):KB w.heap.size w w':=⟨hg.os,hg.tape,hg.output,hg.size,fun k hk=>hg.block k hk (by rw [hv]; simp)⟩
theorem aN {a b c:Int} {p q:ByteArray} (hp:p.size≤8) (hq:q.size≤8):(⟨a,b,c,p,q⟩:Ver).fit:=⟨Nat.le_trans hp (by decide),Nat.le_trans hq (by decide)⟩
theorem jz (A:Option Addr) (cap:Nat) (zs:List Int) (i own:Int) (w:World) (h:IntsAt w A zs) (hi:0≤i) (hi2:i≤7000000) (hln:zs.length≤9223372036854775807) (ho:0≤own) (ho2:own≤100):Calls Tryz.prog 22 #[.slice A zs.length cap,.int .i64 i,.int .i64 own] w (Xy w):=by
 (have hf:∀ (j n:Int) (w':World),Below w.heap.size w w'→0≤j→j≤1000000000→0 < n→n≤1000000→Calls Tryz.prog 23 #[.slice A zs.length cap,.int .i64 j,.int .i64 n] w' fun e w''=>e = .returned (.int .i64 (xh zs j n))∧w'=w'':=fun j n w' hb h1 h2 h3 h4=>un A cap zs j n w' (h.below hb) h1 h2 hln h3 h4);have CN:=hid (fun n u=>rF n u);have CNe:=hid (fun (j:Int) u (hb:Below w.heap.size w u) (h1:0≤j) (h2:j≤8000000)=>cU A cap zs j own u (h.below hb) h1 h2 hln ho (by omega));have CF:=hid (fun u (hb:Below w.heap.size w u)=>gi A cap zs (i+47) u (h.below hb) (by omega) (by omega) hln);have CH:=hid (fun u (hb:Below w.heap.size w u)=>ji A cap zs (i+50) u (h.below hb) (by omega) (by omega) hln);have CFe:=hid (fun (r:RecL) (hd:RecH) u (hb:Below w.heap.size w u) h1 h2 h3=>eh A cap zs (i+52) r hd u (h.below hb) (by omega) (by omega) hln h1 h2 h3);have C0:=hid (fun w' hb=>hf i 3 w' hb (by omega) (by omega) (by omega) (by omega));have C1:=hid (fun w' hb=>hf (i+1) 2 w' hb (by omega) (by omega) (by omega) (by omega));have C2:=hid (fun w' hb=>hf (i+2) 9 w' hb (by omega) (by omega) (by omega) (by omega));have C3:=hid (fun w' hb=>hf (i+3) 4 w' hb (by omega) (by omega) (by omega) (by omega));have C45:=hid (fun w' hb=>hf (i+45) 5 w' hb (by omega) (by omega) (by omega) (by omega));have C46:=hid (fun w' hb=>hf (i+46) 4 w' hb (by omega) (by omega) (by omega) (by omega))
 have b3:=vO zs (i+3) 4 (by omega);have b46:=vO zs (i+46) 4 (by omega);clear h hf;generalize xh zs i 3=a1 at *;generalize xh zs (i+1) 2=a2 at *;generalize xh zs (i+2) 9=q at *;generalize xh zs (i+3) 4=k3 at *;generalize xh zs (i+45) 5=p at *;generalize xh zs (i+46) 4=p4 at *;generalize zs.length=zn at *;go_enter Tryz.func22,Tryz.ntmps22;(go_upto_region 1 with fail);refine zI ?_;intro w1 hw1;have HO:=hid (show Own w.heap.size w1 w.heap.size [.string ⟨#[]⟩,.int .i64 0,.int .i64 0,.int .i64 0,.string ⟨#[]⟩,.string ⟨#[]⟩,.slice none 0 0,.slice none 0 0,.slice none 0 0] by rw [hw1]; exact Own.new w [.string ⟨#[]⟩,.int .i64 0,.int .i64 0,.int .i64 0,.string ⟨#[]⟩,.string ⟨#[]⟩,.slice none 0 0,.slice none 0 0,.slice none 0 0] 31 (Nat.le_refl _));have HB1:=hid (show Below w.heap.size w w1 by rw [hw1]; exact zL _ _);clear hw1;(go_wp2_with fail);refine (CN.out _ _).mono ?_;rintro _ _ ⟨nm,hnm,rfl,rfl⟩;clear hnm;(go_wp2_with fail);refine (C0.out _ HB1.out).mono ?_;rintro _ _ ⟨rfl,rfl⟩;(go_wp2_with fail);refine (C1.out _ HB1.out).mono ?_;rintro _ _ ⟨rfl,rfl⟩;(go_upto_region 2 with fail);refine zI ?_;intro w2 hw2;(have hb:Below w1.heap.size w1 w2:=by rw [hw2]; exact zL _ _);have hg1:w.heap.size < w1.heap.size:=HO.out.box.1;have HX:=hid (show Own w.heap.size w2 w1.heap.size [.string nm,.int .i64 a1,.int .i64 a2,.int .i64 0,.string ⟨#[]⟩,.string ⟨#[]⟩,.slice none 0 0,.slice none 0 0,.slice none 0 0] by rw [hw2]; exact Own.new w1 [.string nm,.int .i64 a1,.int .i64 a2,.int .i64 0,.string ⟨#[]⟩,.string ⟨#[]⟩,.slice none 0 0,.slice none 0 0,.slice none 0 0] 31 HB1.out.size)
 have HB2:=hid (zC HB1.out hb);replace HO:=hid (HO.out.below hb);clear hw2 hb HB1 C0 C1;generalize w1.heap.size=g1 at *;have hgB:g1 < w2.heap.size:=HX.out.box.1;obtain ⟨B,hB⟩:∃ B,B=w2.heap.size:=⟨_,rfl⟩;rw [← hB] at hgB;have HBS:=hid (Nat.le_of_eq hB);clear hB;(go_wp2_with fail);refine (C2.out _ HB2.out).mono ?_;rintro _ _ ⟨rfl,rfl⟩;(go_upto_if 24 with fail);go_cut [7] from 24 to 26 (fun v wx=>v = .pointer (some ⟨g1,0,none⟩)∧∃ pre:ByteArray,pre.size≤8∧Hid (Own w.heap.size wx g1 [.string nm,.int .i64 a1,.int .i64 a2,.int .i64 0,.string pre,.string ⟨#[]⟩,.slice none 0 0,.slice none 0 0,.slice none 0 0])∧Hid (Own w.heap.size wx w.heap.size [.string ⟨#[]⟩,.int .i64 0,.int .i64 0,.int .i64 0,.string ⟨#[]⟩,.string ⟨#[]⟩,.slice none 0 0,.slice none 0 0,.slice none 0 0])∧Hid (Below w.heap.size w wx)∧Hid (B≤wx.heap.size))
 case first =>
  by_cases hq:q=1
  ·(have e1:(q==1)=true:=by rw [beq_iff_eq]; exact hq);have x4:=HX.out.box.2 4 _ rfl;have xl:=HX.out.box.1;have xf:∀ j,w2.frozen? ⟨g1,j,none⟩=false:=HX.out.soft;(go_wp2_with fail);go_meet
   case rel=>exact ⟨rfl,⟨#[114,99,46,49]⟩,by decide,hid (HX.out.put (j:=4) (by simp) _),hid (HO.out.other (Nat.ne_of_lt hg1) _),hid (zR HB2.out (Nat.le_of_lt hg1) _),hid (by rw [World.size_setCell]; exact HBS.out)⟩
  ·(have e1:(q==1)=false:=by rw [beq_eq_false_iff_ne]; exact hq);(go_wp2_with fail);go_meet
   case rel=>exact ⟨rfl,⟨#[]⟩,by decide,HX,HO,HB2,HBS⟩
 case rest =>
  obtain ⟨rfl,pre,hpre,HX,HO,HB,HBW⟩:=hcut;clear HB2 HBS;(rename World=>wa);(go_wp2_with fail);refine (C2.out _ HB.out).mono ?_;rintro _ _ ⟨rfl,rfl⟩;(go_upto_if 31 with fail);go_cut [7] from 31 to 33 (fun v wx=>v = .pointer (some ⟨g1,0,none⟩)∧∃ bld:ByteArray,bld.size≤8∧Hid (Own w.heap.size wx g1 [.string nm,.int .i64 a1,.int .i64 a2,.int .i64 0,.string pre,.string bld,.slice none 0 0,.slice none 0 0,.slice none 0 0])∧Hid (Own w.heap.size wx w.heap.size [.string ⟨#[]⟩,.int .i64 0,.int .i64 0,.int .i64 0,.string ⟨#[]⟩,.string ⟨#[]⟩,.slice none 0 0,.slice none 0 0,.slice none 0 0])∧Hid (Below w.heap.size w wx)∧Hid (B≤wx.heap.size))
  case first =>
   by_cases hq:q=2
   ·(have e1:(q==2)=true:=by rw [beq_iff_eq]; exact hq);have x5:=HX.out.box.2 5 _ rfl;have xl:=HX.out.box.1;have xf:∀ j,wa.frozen? ⟨g1,j,none⟩=false:=HX.out.soft;(go_wp2_with fail);go_meet
    case rel=>exact ⟨rfl,⟨#[55]⟩,by decide,hid (HX.out.put (j:=5) (by simp) _),hid (HO.out.other (Nat.ne_of_lt hg1) _),hid (zR HB.out (Nat.le_of_lt hg1) _),hid (by rw [World.size_setCell]; exact HBW.out)⟩
   ·(have e1:(q==2)=false:=by rw [beq_eq_false_iff_ne]; exact hq);(go_wp2_with fail);go_meet
    case rel=>exact ⟨rfl,⟨#[]⟩,by decide,HX,HO,HB,HBW⟩
  case rest =>
   obtain ⟨rfl,bld,hbld,HX,HO,HB,HBW⟩:=hcut;(rename World=>wb);(go_wp2_with fail);refine (C3.out _ HB.out).mono ?_;rintro _ _ ⟨rfl,rfl⟩;(have t1:0≤k3 % 3:=by omega);(have t2:k3 % 3 < 3:=by omega);(go_upto_block 0 with fail);(go_wp2_with fail);generalize k3 % 3=t at *;obtain ⟨k0,rfl⟩:∃ k0:Nat,t=(k0:Int):=⟨t.toNat,by omega⟩;(have hk0:k0≤2:=by omega);clear t1 t2 b3;go_loopw [8] (fun kv ww=>∃ (k n:Nat) (A':Option Addr) (c':Nat) (ps:List (NeedL × Hdr)),kv = .int .i64 (k:Int)∧n+k≤2∧Hid (ps.length=n)∧Hid (Own w.heap.size ww g1 [.string nm,.int .i64 a1,.int .i64 a2,.int .i64 0,.string pre,.string bld,.slice A' n c',.slice none 0 0,.slice none 0 0])∧Hid (Deep 77 3 uk NpSub ww B (.slice A' n c') ps)∧Hid (∀ y∈ps,y.1.opt.size≤3∧∀ z∈y.1.any,z.name.size≤3)∧Hid (Own w.heap.size ww w.heap.size [.string ⟨#[]⟩,.int .i64 0,.int .i64 0,.int .i64 0,.string ⟨#[]⟩,.string ⟨#[]⟩,.slice none 0 0,.slice none 0 0,.slice none 0 0])∧Hid (Below w.heap.size w ww)∧Hid (B≤ww.heap.size)) (fun kv _=>(intOf kv).toNat)
   case atStart=>exact ⟨k0,0,none,0,[],rfl,by omega,hid rfl,HX,hid Deep.nil,hid (fun y hy=>by cases hy),HO,HB,HBW⟩
   case round =>
    (rename World=>wr);obtain ⟨k,n,A',c',ps,rfl,hk,HPL,HX,HD,HNM,HO,HB,HBW⟩:=hrel;by_cases hlt:0 < k
    ·(have k1:(0:Int) < (k:Int):=by omega);(have k2:(k:Int)≤2:=by omega);have hbw:=HBW.out;have y6:=HX.out.box.2 6 _ rfl;have yl:=HX.out.box.1;have r1:IntKind.i64.wrap (i+4)=i+4:=IntWalk.i64_in _ (by omega);have r2:IntKind.i64.wrap (20 * (k:Int))=20 * (k:Int):=IntWalk.i64_in _ (by omega);have r3:IntKind.i64.wrap (i+4+20 * (k:Int))=i+4+20 * (k:Int):=IntWalk.i64_in _ (by omega);have r4:IntKind.i64.wrap (i+4+20 * (k:Int) - 20)=i+4+20 * (k:Int) - 20:=IntWalk.i64_in _ (by omega);go_upto_region 9 with fail
     go_region_law (first
      | (refine rY X1 (by rfl) (.tmp 44) (.tmp 54) (by rfl) (uk (x,(A2,c2))) hDa.1 (by rfl) (by rfl) rfl (Wu _) (by have:=HPL.out; unfold maxLen; omega) (by have:=HPL.out; omega) hBa ?_; intro v' w' h2 h3 h4 h5; have hDn:=Deep.snoc NpSub.mono hDa hsu h2 h4 h5; rw [HPL.out] at h2; obtain ⟨A9,c9,rfl⟩:=xr h2; have hX3:=hXa.kbB hgB h3.kb; have b0:=hX3.box.2 6 _ rfl; have bl:=hX3.box.1; have b2:∀ j,w'.frozen? ⟨g1,j,none⟩=false:=hX3.soft)
      | (go_simp; (with_reducible refine (CNe.out _ _ (zC HB.out (Below.refl _ _).drew) (by omega) (by omega)).mono ?_); rintro _ wc ⟨x,A2,c2,rfl,hsub,hop,hnm2,hb⟩; have hba:Below wr.heap.size wr wc:=zC (Below.refl _ _).drew hb; have hDa:=Deep.kb NpSub.mono HD.out hba.kb; have hsu:NpSub (xH wc B (Value.slice A' n c').ownBlock) (x,(A2,c2)):=NpSub.mono _ _ _ (yK hbw (Deep.lt HD.out)) hsub; have hXa:=HX.out.below hba; have a0:=hXa.box.2 6 _ rfl; have al:=hXa.box.1; have hBa:B≤wc.heap.size:=Nat.le_trans hbw hba.size))
     all_goals
      clear y6 yl a0 al b0 bl b2 r1 r2 r3 r4;refine nV ?_;intro w6 hw6;replace hw6:w6=w'.setCell ⟨g1,6,none⟩ (.slice A9 (n+1) c9):=hw6;have HX6:=hid (show Own w.heap.size w6 g1 [.string nm,.int .i64 a1,.int .i64 a2,.int .i64 0,.string pre,.string bld,.slice A9 (n+1) c9,.slice none 0 0,.slice none 0 0] by rw [hw6]; exact hX3.put (j:=6) (by simp) _);have HD6:=hid (show Deep 77 3 uk NpSub w6 B (.slice A9 (n+1) c9) (ps++[(x,(A2,c2))]) by rw [hw6]; exact hDn.put NpSub.mono hgB _);have HO6:=hid (show Own w.heap.size w6 w.heap.size [.string ⟨#[]⟩,.int .i64 0,.int .i64 0,.int .i64 0,.string ⟨#[]⟩,.string ⟨#[]⟩,.slice none 0 0,.slice none 0 0,.slice none 0 0] by rw [hw6]; exact ((HO.out.below hba).kbB (Nat.lt_trans hg1 hgB) h3.kb).other (Nat.ne_of_lt hg1) _);have HB6:=hid (show Below w.heap.size w w6 by rw [hw6]; exact zR ((zC HB.out hba).trans (h3.mono (Nat.le_of_lt (Nat.lt_trans hg1 hgB)))) (Nat.le_of_lt hg1) _);have HS6:=hid (show B≤w6.heap.size by rw [hw6,World.size_setCell]; exact Nat.le_trans hBa h3.size)
      have HN6:=hid (show ∀ y∈ps++[(x,((A2,c2):Hdr))],y.1.opt.size≤3∧∀ z∈y.1.any,z.name.size≤3 from fun y hy=>by
       rcases List.mem_append.1 hy with hy | hy
       ·exact HNM.out y hy
       ·rcases List.mem_singleton.1 hy with rfl
        exact ⟨hop,hnm2⟩)
      have HL6:=hid (show (ps++[(x,((A2,c2):Hdr))]).length=n+1 by rw [List.length_append,HPL.out]; rfl);clear hw6 hX3 hDn h2 h3 h4 h5 hba hDa hsu hXa hBa hsub hop hnm2 HX HD HO HB HPL HNM HBW;(go_wp2_with fail);go_roundw
      case rel=>exact ⟨k - 1,n+1,A9,c9,ps++[(x,(A2,c2))],by go_num,by omega,HL6,HX6,HD6,HN6,HO6,HB6,HS6⟩
      case measure=>simp [intOf]<;>omega
    ·(obtain rfl:k=0:=by omega);(have k1:¬ (0:Int) < 0:=by omega);have HCB:=hid (fun q (hq:Below w.heap.size w wr)=>C45.out q);(go_wp2_with fail);refine (C45.out _ HB.out).mono ?_;rintro _ _ ⟨rfl,rfl⟩;(go_upto_if 61 with fail);go_cut [7] from 61 to 83 (fun v wx=>v = .pointer (some ⟨g1,0,none⟩)∧∃ (D:Option Addr) (d:Nat) (bs:List BarL),Hid (bs.length≤1)∧Hid (RowOf 3 BarAt (xH wx B none) D bs)∧Hid (Own w.heap.size wx g1 [.string nm,.int .i64 a1,.int .i64 a2,.int .i64 0,.string pre,.string bld,.slice A' n c',.slice D bs.length d,.slice none 0 0])∧Hid (Deep 77 3 uk NpSub wx B (.slice A' n c') ps)∧Hid (Own w.heap.size wx w.heap.size [.string ⟨#[]⟩,.int .i64 0,.int .i64 0,.int .i64 0,.string ⟨#[]⟩,.string ⟨#[]⟩,.slice none 0 0,.slice none 0 0,.slice none 0 0])∧Hid (Below w.heap.size w wx)∧Hid (B≤wx.heap.size))
     case first =>
      by_cases hp:p=1
      ·(have e1:(p==1)=true:=by rw [beq_iff_eq]; exact hp);clear hp;have hbw:=HBW.out;have y7:=HX.out.box.2 7 _ rfl;have yl:=HX.out.box.1;have r1:IntKind.i64.wrap (own+1)=own+1:=IntWalk.i64_in _ (by omega);have r2:IntKind.i64.wrap (own+1+p4)=own+1+p4:=IntWalk.i64_in _ (by omega);have r3:IntKind.i64.wrap (i+46)=i+46:=IntWalk.i64_in _ (by omega);have r4:IntKind.i64.wrap (i+47)=i+47:=IntWalk.i64_in _ (by omega);have r5:IntKind.i64.wrap (i+50)=i+50:=IntWalk.i64_in _ (by omega);have hdr:Below wr.heap.size wr wr.drew:=Below.drew (Below.refl _ _);have hbD:Below w.heap.size w wr.drew:=zC HB.out hdr;go_upto_region 11 with fail
       go_region_law (first
        | (refine rY W3 (by rfl) (.tmp 63) (.tmp 81) (by rfl) (tk ⟨bn,br,bw⟩) (World.ownsRow_nil we B _ _) (by rfl) (by rfl) rfl (WO _) (by unfold maxLen; omega) (by omega) hBe ?_; intro v' w' h2 h3 h4 _; have hDb:Deep 84 3 tk Vm w' B v' ([]++[(⟨bn,br,bw⟩:BarL)]):=⟨OwnL.snoc h2,fun _ _=>trivial⟩; rw [Nat.zero_add] at h2; obtain ⟨A9,c9,rfl⟩:=xr h2; have hX3:=hXe.kbB hgB h3.kb; have b7:=hX3.box.2 7 _ rfl; have bl:=hX3.box.1; have b2:∀ j,w'.frozen? ⟨g1,j,none⟩=false:=hX3.soft)
        | (go_simp; first
         | ((with_reducible refine (C46.out _ hbD).mono ?_); rintro _ _ ⟨rfl,rfl⟩)
         | ((with_reducible refine (CN.out _ _).mono ?_); rintro _ _ ⟨bn,hbn,rfl,rfl⟩)
         | ((with_reducible refine (CF.out _ hbD).mono ?_); rintro _ wd ⟨br,rfl,hbd⟩; have hdd:Below wr.heap.size wr wd:=zC hdr hbd; have hd1:Below w.heap.size w wd:=zC HB.out hdd; have d7:=(HX.out.below hdd).box.2 7 _ rfl; have dl:=(HX.out.below hdd).box.1)
         | ((with_reducible refine (CH.out _ hd1).mono ?_); rintro _ we ⟨bw,rfl,hbe⟩; have hee:Below wr.heap.size wr we:=zC hdd hbe; have hXe:=HX.out.below hee; have f7:=hXe.box.2 7 _ rfl; have fl:=hXe.box.1; have hBe:B≤we.heap.size:=Nat.le_trans hbw hee.size)))
       all_goals
        clear y7 yl d7 dl f7 fl b7 bl b2 r1 r2 r3 r4 r5;refine nV ?_;intro w6 hw6;replace hw6:w6=w'.setCell ⟨g1,7,none⟩ (.slice A9 1 c9):=hw6;have HX6:=hid (show Own w.heap.size w6 g1 [.string nm,.int .i64 a1,.int .i64 a2,.int .i64 0,.string pre,.string bld,.slice A' n c',.slice A9 1 c9,.slice none 0 0] by rw [hw6]; exact hX3.put (j:=7) (by simp) _);have HD6:=hid (show Deep 77 3 uk NpSub w6 B (.slice A' n c') ps by rw [hw6]; exact ((HD.out.kb NpSub.mono hee.kb).kb NpSub.mono (bt rfl h4)).put NpSub.mono hgB _);have HO6:=hid (show Own w.heap.size w6 w.heap.size [.string ⟨#[]⟩,.int .i64 0,.int .i64 0,.int .i64 0,.string ⟨#[]⟩,.string ⟨#[]⟩,.slice none 0 0,.slice none 0 0,.slice none 0 0] by rw [hw6]; exact ((HO.out.below hee).kbB (Nat.lt_trans hg1 hgB) h3.kb).other (Nat.ne_of_lt hg1) _);have HB6:=hid (show Below w.heap.size w w6 by rw [hw6]; exact zR ((zC HB.out hee).trans (h3.mono (Nat.le_of_lt (Nat.lt_trans hg1 hgB)))) (Nat.le_of_lt hg1) _);have HS6:=hid (show B≤w6.heap.size by rw [hw6,World.size_setCell]; exact Nat.le_trans hBe h3.size)
        have HR6:=hid (show RowOf 3 BarAt (xH w6 B none) A9 [⟨bn,br,bw⟩] by
         rw [hw6];obtain ⟨A3,c3,hv,-,hli,-⟩:=(hDb.put (fun _ _ _ _ _=>trivial) hgB _).fresh X8 (fun _ _ _ _ _=>trivial);(injection hv with e1 e2 e3);subst e1
         exact bX hli)
        clear hw6 hX3 hDb h2 h3 h4 hee hXe hBe hbe hbd hdd hd1 hbn;(go_wp2_with fail);go_meet
        case rel=>exact ⟨rfl,A9,c9,[⟨bn,br,bw⟩],hid (by simp),HR6,HX6,HD6,HO6,HB6,HS6⟩
      ·(have e1:(p==1)=false:=by rw [beq_eq_false_iff_ne]; exact hp);clear hp;(go_wp2_with fail);go_meet
       case rel=>exact ⟨rfl,none,0,[],hid (by simp),hid (.inl rfl),HX,HD,HO,HB,HBW⟩
     case rest =>
      obtain ⟨rfl,D,d,bs,HBL,HBR,HX,HD,HO,HB,HBW⟩:=hcut;(rename World=>wc);obtain ⟨A3,c3,hv,-,hli,hsu⟩:=HD.out.fresh W7 NpSub.mono;(injection hv with e1 e2 e3);subst e1; subst e3;clear e2;have HRN:=hid (iI hli hsu);clear hli hsu;(have hln2:(ps.map (·.1)).length=n:=by rw [List.length_map,HPL.out]);have HLN:=hid hln2
      have HC:=hid (CFe.out ⟨nm,⟨a1,a2,0,pre,bld⟩,ps.map (·.1),bs,[]⟩ ⟨A',c',D,d,none,0⟩ wc HB.out (RowOf.mono NeedAt.mono HRN.out (Mono.of_mask _ _ _)) (by dsimp only; omega) (fun y hy=>by
       obtain ⟨z,hz,rfl⟩:=List.mem_map.1 hy
       exact HNM.out z hz))
      dsimp only [RecL.val] at HC;rw [hln2,List.length_nil] at HC;clear hln2;generalize hbl:bs.length=bn at *;have HBN:=hid hbl;clear hbl;obtain ⟨x0,x1,x2,x3,x4,x5,x6,x7,x8,xl⟩:=wK HX.out.box;(go_wp2_with fail);refine HC.out.mono ?_;rintro _ ud ⟨fl,F,f,rfl,hfr,hfl,hfs,hb⟩;have HFS:=hid hfs;have HFL:=hid hfl;have hgw:g1 < wc.heap.size:=HX.out.box.1;have HFR:=hid (RowOf.mono FeatAt.mono hfr (yK HBW.out (o:=none) fun q e=>by cases e));have HXd:=hid (HX.out.below hb);have HOd:=hid (HO.out.below hb);have HBd:=hid (zC HB.out hb);have HNd:=hid (RowOf.mono NeedAt.mono HRN.out (rm hb.kb));have HRd:=hid (RowOf.mono BarAt.mono HBR.out (rm hb.kb));clear hfr hfl hfs hb x0 x1 x2 x3 x4 x5 x6 x7 x8 xl HX HO HB HRN HBR HD;generalize hll:fl.length=ln at *;have HLL:=hid hll;clear hll;obtain ⟨x0,x1,x2,x3,x4,x5,x6,x7,x8,xl⟩:=wK HXd.out.box;have xf:∀ j,ud.frozen? ⟨g1,j,none⟩=false:=HXd.out.soft;(go_upto_region 13 with fail);refine zI ?_;intro w6 hw6;have HX6:=hid (show Own w.heap.size w6 g1 [.string nm,.int .i64 a1,.int .i64 a2,.int .i64 0,.string pre,.string bld,.slice A' n c',.slice D bn d,.slice F ln f] by rw [hw6]; exact HXd.out.put (j:=8) (by simp) _);have HO6:=hid (show Own w.heap.size w6 w.heap.size [.string ⟨#[]⟩,.int .i64 0,.int .i64 0,.int .i64 0,.string ⟨#[]⟩,.string ⟨#[]⟩,.slice none 0 0,.slice none 0 0,.slice none 0 0] by rw [hw6]; exact HOd.out.other (Nat.ne_of_lt hg1) _)
      have HB6:=hid (show Below w.heap.size w w6 by rw [hw6]; exact zR HBd.out (Nat.le_of_lt hg1) _);(have hM6:Mono (xH ud B none) (xH w6 B none):=by rw [hw6]; exact yC (.inl hgB));have HN6:=hid (RowOf.mono NeedAt.mono HNd.out hM6);have HR6:=hid (RowOf.mono BarAt.mono HRd.out hM6);have HF6:=hid (RowOf.mono FeatAt.mono HFR.out hM6);clear hw6 hM6 x0 x1 x2 x3 x4 x5 x6 x7 x8 xl xf HXd HOd HBd HNd HRd HFR;obtain ⟨x0,x1,x2,x3,x4,x5,x6,x7,x8,xl⟩:=wK HX6.out.box;obtain ⟨y0,y1,y2,y3,y4,y5,y6,y7,y8,yl⟩:=wK HO6.out.box;have sf:∀ j,w6.frozen? ⟨w.heap.size,j,none⟩=false:=HO6.out.soft;(go_wp2_with fail);refine zP ?_;intro w9 hw9;(have O9:Own w.heap.size w9 w.heap.size [.string nm,.int .i64 a1,.int .i64 a2,.int .i64 0,.string pre,.string bld,.slice A' n c',.slice D bn d,.slice F ln f]:=by rw [hw9]; exact HO6.out.set9 _ _ _ _ _ _ _ _ _);(have B9:Below w.heap.size w w9:=by rw [hw9]; exact dT HB6.out (Nat.le_refl _) _ _ _ _ _ _ _ _ _);(have M9:Mono (xH w6 B none) (xH w9 w.heap.size none):=by rw [hw9]; exact (dt (Nat.lt_trans hg1 hgB) _ _ _ _ _ _ _ _ _).trans (yK (Nat.le_of_lt (Nat.lt_trans hg1 hgB)) fun k e=>by cases e));clear hw9;obtain ⟨k0,k1,k2,k3',k4,k5,k6,k7,k8,-⟩:=wK O9.box;refine bodyPost_ret (v := .agg #[.string nm,.int .i64 a1,.int .i64 a2,.int .i64 0,.string pre,.string bld,.slice A' n c',.slice D bn d,.slice F ln f]) (by simp [results,Tryz.results22,go_sem,k0,k1,k2,k3',k4,k5,k6,k7,k8]) rfl ?_
      exact ⟨⟨nm,⟨a1,a2,0,pre,bld⟩,ps.map (·.1),bs,fl⟩,⟨A',c',D,d,F,f⟩,by dsimp only [RecL.val]; rw [HLN.out,HBN.out,HLL.out],⟨RowOf.mono NeedAt.mono HN6.out M9,RowOf.mono BarAt.mono HR6.out M9,RowOf.mono FeatAt.mono HF6.out M9,by dsimp only; rw [HLN.out]; omega,by dsimp only; rw [HBN.out]; have:=HBL.out; omega,by dsimp only; rw [HLL.out]; have:=HFL.out; omega⟩,aN hpre hbld,HFS.out,B9⟩
end Go.Proofs.YtgllkohjehjphaaGreatDoor
