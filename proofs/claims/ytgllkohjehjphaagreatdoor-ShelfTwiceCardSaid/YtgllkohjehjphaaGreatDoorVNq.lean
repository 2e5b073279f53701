import Derived.Test.YtgllkohjehjphaaGreatDoorVNh
import Derived.Test.YtgllkohjehjphaaGreatDoorVNp
set_option linter.unusedVariables false
set_option linter.unusedSimpArgs false
set_option maxRecDepth 100000
set_option maxHeartbeats 2000000
namespace Go.Proofs.YtgllkohjehjphaaGreatDoor
open Go.RowKit Go.Lib
open Rw
def unY (x:EntryL):EntryL:={ x with yanked:=false }
theorem hit_un (nm:List UInt8) (v:Ver) (x:EntryL):js nm v (unY x)=js nm v x:=rfl
theorem place_un {nm:List UInt8} {v:Ver}:∀ (l:List EntryL) (i:Nat),zi nm v i (l.map unY)=zi nm v i l
 | [],_=>rfl
 | x::l,i=>by rw [List.map_cons,zi,zi,hit_un,place_un l (i+1)]
theorem entry_un (ah:List EntryL) (x:EntryL):wD z7 (ah.map unY) (unY x)=wD z7 ah x:=by
 unfold wD;rw [show (unY x).rc=x.rc from rfl,show (unY x).sum=x.sum from rfl,place_un]
theorem ents_un:∀ (l ah:List EntryL),yA z7 (ah.map unY) (l.map unY)=yA z7 ah l
 | [],_=>rfl
 | x::l,ah=>by
  rw [List.map_cons,yA,yA,entry_un,← ents_un l (ah++[x]),List.map_append];rfl
theorem may_un {nm:ByteArray} {l m:List EntryL} (h:l.map unY=m.map unY):zQ z7 ⟨nm,l⟩=zQ z7 ⟨nm,m⟩:=by
 (have hl:l.length=m.length:=by simpa using congrArg List.length h);unfold zQ;dsimp only;rw [hl,← ents_un l [],← ents_un m [],h]
theorem grows_un:∀ {l m:List EntryL},l.map unY=m.map unY→growsL l m=true
 | [],_,_=>by rw [growsL]
 | x::l,[],h=>by simp at h
 | x::l,y::m,h=>by
  rw [List.map_cons,List.map_cons] at h;(injection h with h1 h2);have e1:x.sum=y.sum:=congrArg (·.sum) h1;have e2:x.rc=y.rc:=congrArg (·.rc) h1;rw [growsL,grows_un h2,sameEn,e1,e2,sameRc_self];simp
def markE (l:List EntryL) (j:Nat) (b:Bool):List EntryL:=l.modify j fun x=>{ x with yanked:=b }
theorem mark_len {l:List EntryL} {j:Nat} {b:Bool}:(markE l j b).length=l.length:=by simp [markE]
theorem mark_un (l:List EntryL) (j:Nat) (b:Bool):(markE l j b).map unY=l.map unY:=by
 apply List.ext_getElem?;intro i;rw [List.getElem?_map,List.getElem?_map,markE,List.getElem?_modify];by_cases e:j=i
 ·subst e;cases l[j]?<;>simp [unY]
 ·simp [e]
theorem mark_two (l:List EntryL) (j:Nat) (b c:Bool):markE (markE l j b) j c=markE l j c:=by
 apply List.ext_getElem?;intro i;rw [markE,List.getElem?_modify,markE,List.getElem?_modify,markE,List.getElem?_modify];by_cases e:j=i
 ·subst e;cases l[j]?<;>simp
 ·simp [e]
theorem mark_own {l:List EntryL} {j:Nat} (h:j < l.length):markE l j l[j].yanked=l:=by
 apply List.ext_getElem?;intro i;rw [markE,List.getElem?_modify];by_cases e:j=i
 ·subst e;rw [List.getElem?_eq_getElem h];simp
 ·simp [e]
theorem yank_mark {nm:ByteArray} {l m:List EntryL} {j:Nat} (hm:zQ z7 ⟨nm,l⟩=true) (hj:j < l.length) (h:m.map unY=l.map unY) (b:Bool):yankS z7 ⟨nm,m⟩ (bts l[j].rc.name) l[j].rc.v b=(⟨nm,markE m j b⟩,0):=by
 have hp:zi (bts l[j].rc.name) l[j].rc.v 0 m=(j:Int):=by
  rw [← place_un m 0,h,place_un l 0];refine (aK hj (tQ (s:=⟨nm,l⟩) hm hj)).2 ?_;have:=(hG (nB (s:=⟨nm,l⟩) hm) _ hj).2
  rwa [List.nil_append] at this
 rw [yankS,may_un h,hm,if_neg (by simp)];dsimp only;rw [hp,if_neg (by omega),Int.toNat_natCast];rfl
theorem sameSh_self (a:ShelfL):sameSh a a=true:=by
 rw [sameSh,sameB_self,fW (fun x=>by simp [sameEy,sameEn,sameRc_self])];rfl
theorem grown_un {nm:ByteArray} {l m:List EntryL} (hm:zQ z7 ⟨nm,l⟩=true) (h:l.map unY=m.map unY):grownS z7 ⟨nm,l⟩ ⟨nm,m⟩=true:=by
 rw [grownS,← may_un h,hm,sameB_self,grows_un h];rfl
theorem unY_ok {l m:List EntryL} (h:m.map unY=l.map unY) (ok:EntsOk l):EntsOk m:=by
 have hm:∀ x∈m,∃ y∈l,x.rc=y.rc:=fun x hx=>by
  have h1:unY x∈m.map unY:=List.mem_map.2 ⟨x,hx,rfl⟩;rw [h] at h1;obtain ⟨y,hy,e⟩:=List.mem_map.1 h1;exact ⟨y,hy,(congrArg (·.rc) e).symm⟩
 refine ⟨fun x hx=>?_,fun x hx=>?_,?_⟩
 ·obtain ⟨y,hy,e⟩:=hm x hx;rw [e]; exact ok.fit y hy
 ·obtain ⟨y,hy,e⟩:=hm x hx;rw [e]; exact ok.small y hy
 ·(have:m.length=l.length:=by simpa using congrArg List.length h);rw [this]; exact ok.len
def MarkK (w:World) (es:List EntryL) (n:Nat) (e:Ending) (w':World):Prop:=∃ (A:Option Addr) (c:Nat),e = .returned (.tuple #[.agg #[.string ⟨#[111,110,101]⟩,.slice A n c],.int .i64 0])∧yL w' A es∧n≤c∧KB w.heap.size w w'
theorem walk_ShelfTwice (A:Option Addr) (ca:Nat) (zs:List Int) (at_:Int) (w:World) (hz:IntsAt w A zs) (hzn:zs.length≤9223372036854775807) (_:(Lit.int .i64 at_).wf=true) (hL:Laid w):Calls Tryz.prog 6 #[.slice A zs.length ca,.int .i64 at_] w (yT w true):=by
 have CS:=hid (show Calls Tryz.prog 28 #[.slice A zs.length ca,.int .i64 0,.string ⟨#[111,110,101]⟩,.int .i64 6] w (m4 w ⟨#[111,110,101]⟩) from rz A ca zs 0 ya 6 w hz (by omega) (by omega) hzn (by omega) (by decide +kernel));have CA:=hid (fun u (hb:KB w.heap.size w u)=>awake13_any u (hL.kb hb));have HL:=hid hL;clear hL hz;generalize zs.length=zn at *;go_enter Tryz.func6,Tryz.ntmps6;(go_wp2_with fail);refine CS.out.mono ?_;rintro _ u1 ⟨es,A1,c1,rfl,hE,hc,hm,hok,hb⟩;have HE1:=hid (RowOf.mono EntryAt.mono hE (Mono.of_mask _ _ _));have HC1:=hid hc;have HMY:=hid hm;have HOK:=hid hok;have HB1:=hid hb;have H64:=hid (may_64 hm);clear hE hc hm hok hb CS;dsimp only at H64;generalize hsl:es.length=n at *;have HSL:=hid hsl;clear hsl;(go_upto_region 2 with fail);refine zI ?_;intro u2 hu;(have hb:KB u1.heap.size u1 u2:=by rw [hu]; exact zG _ _);have HX:=hid (show Box u2 u1.heap.size [.string ⟨#[111,110,101]⟩,.slice A1 n c1] by rw [hu]; exact Box.new u1 [.string ⟨#[111,110,101]⟩,.slice A1 n c1] 24);have HE2:=hid (HE1.out.kb EntryAt.stays hb);have HB2:=hid (zA HB1.out hb);clear hu hb HE1 HB1;generalize u1.heap.size=g at *;have x1:=HX.out.2 1 _ rfl;have xl:=HX.out.1;by_cases hn0:n=0
 ·(have e0:((n:Int)==0)=true:=by rw [beq_iff_eq]; omega);clear hn0;(go_wp2_with fail);refine (CA.out _ HB2.out).mono ?_;rintro _ u9 ⟨rfl,hb⟩;have HB9:=hid (zA HB2.out hb);clear hb;(go_wp2_with fail);(try rw [Exit.noGoto_ret]);(try go_ret);exact ⟨rfl,HB9.out⟩
 ·(have e0:((n:Int)==0)=false:=by rw [beq_eq_false_iff_ne]; omega);(have hpos:(0:Int) < (n:Int):=by omega);have hbd:=p9 at_ (n:Int) hpos;have CP:=hid (fun u=>s8 at_ (n:Int) u hpos (by have:=H64.out; omega));obtain ⟨j,hj⟩:∃ j:Nat,vZ at_ (n:Int)=(j:Int):=⟨(vZ at_ (n:Int)).toNat,by omega⟩;rw [hj] at CP hbd;(have hjn:j < n:=by omega);(have hj':j < es.length:=by rw [HSL.out]; exact hjn);obtain ⟨b,off,hd,hA,-,hce⟩:=v7 HE2.out hj';subst hA;have HCE:=hid hce;have HE:=hid hce
  have HY1:=hid (fun (es2:List EntryL) (hu:es2.map unY=es.map unY) (on:Bool) A c u (hb:KB w.heap.size w u) (hE:yL u A es2) (hc:n≤c)=>show Calls Tryz.prog 19 #[.agg #[.string ⟨#[111,110,101]⟩,.slice A n c],.string es[j].rc.name,.agg #[.int .i64 es[j].rc.v.maj,.int .i64 es[j].rc.v.min,.int .i64 es[j].rc.v.pat,.string es[j].rc.v.pre,.string es[j].rc.v.bld],.bool on] u (MarkK u (markE es2 j on) n) from by
   (have hl2:es2.length=n:=by have:=congrArg List.length hu; rw [List.length_map,List.length_map,HSL.out] at this; exact this);have h:=shyank_any ⟨ya,es2⟩ A c es[j].rc.name es[j].rc.v on u (HL.out.kb hb) hE (unY_ok hu HOK.out) (by rw [hl2]; exact hc) (HOK.out.fit _ (List.getElem_mem hj'));rw [yank_mark (nm:=ya) HMY.out hj' hu on] at h;dsimp only [ShelfL.val] at h;rw [hl2] at h;refine h.mono fun e w' ⟨A',c',h1,h2,h3,h4⟩=>⟨A',c',?_,h2,?_,h4⟩
   ·rw [h1]; dsimp only [ShelfL.val]; rw [mark_len,hl2]; rfl
   ·rw [mark_len,hl2] at h3; exact h3)
  have HS1:=hid (fun (l m:List EntryL) A c B d u (hb:KB w.heap.size w u) (h1:yL u A l) (h2:yL u B m) (hl:l.length=n) (e:l=m)=>show Calls Tryz.prog 21 #[.agg #[.string ⟨#[111,110,101]⟩,.slice A n c],.agg #[.string ⟨#[111,110,101]⟩,.slice B n d]] u (yT u true) from by
   subst e;have h:=rshsame_any ⟨ya,l⟩ ⟨ya,l⟩ A B c d u h1 h2 (by dsimp only; rw [hl]; have:=H64.out; omega);rw [sameSh_self] at h;dsimp only [ShelfL.val] at h;rw [hl] at h
   exact h)
  have HG1:=hid (fun (l m:List EntryL) A c B d u (hb:KB w.heap.size w u) (h1:yL u A l) (h2:yL u B m) (k1:l.map unY=es.map unY) (k2:m.map unY=es.map unY) (hc:n≤c) (hd:n≤d)=>show Calls Tryz.prog 26 #[.agg #[.string ⟨#[111,110,101]⟩,.slice A n c],.agg #[.string ⟨#[111,110,101]⟩,.slice B n d]] u (yT u true) from by
   (have hl2:l.length=n:=by have:=congrArg List.length k1; rw [List.length_map,List.length_map,HSL.out] at this; exact this);(have hm2:m.length=n:=by have:=congrArg List.length k2; rw [List.length_map,List.length_map,HSL.out] at this; exact this);have h:=grown_any ⟨ya,l⟩ A c ⟨ya,m⟩ B d u (HL.out.kb hb) h1 (unY_ok k1 HOK.out) (by dsimp only; rw [hl2]; exact hc) h2 (unY_ok k2 HOK.out) (by dsimp only; rw [hm2]; exact hd);rw [grown_un (by rw [may_un k1]; exact HMY.out) (k1.trans k2.symm)] at h;dsimp only [ShelfL.val] at h;rw [hl2,hm2] at h
   exact h)
  have HU1:=hid (show (markE es j true).map unY=es.map unY from mark_un _ _ _);have HML:=hid (show (markE es j true).length=n by rw [mark_len,HSL.out]);have HTW:=hid (show markE (markE es j true) j true=markE es j true from mark_two _ _ _ _);have HOW:=hid (show markE (markE es j true) j es[j].yanked=es by rw [mark_two,mark_own hj']);clear hce hj HE HMY;generalize es[j]=x at *;obtain ⟨⟨rn,rv,rne,rba,rfe⟩,sm,yk⟩:=x;obtain ⟨A0,ca0,B0,cb,F0,cf⟩:=hd;dsimp only at HY1 HOW;generalize hmk:markE es j true=ms at *;(have j0:(0:Int)≤(j:Int):=by omega);(have j1:(j:Int) < (n:Int):=by omega);(go_upto_region 4 with fail);clear x1 xl;have hS:KB u2.heap.size u2 u2.drew:=zM (zH _);(refine wpS (fun u=>KB u2.heap.size u2 u) (.two [0,1,2,3,4,5] 6 9 (.call [7,8] 9 (.call [] 10 (.last []))) (.call [] 6 (.call [7,8] 10 (.last [])))) fun iS=>?_);(have x1:=fun (z:SW fun u=>KB u2.heap.size u2 u)=>(HX.out.kb z.ok).2 1 (.slice (some ⟨b,off,none⟩) n c1) rfl);(have xl:=fun (z:SW fun u=>KB u2.heap.size u2 u)=>(HX.out.kb z.ok).1);(have c0:=fun (z:SW fun u=>KB u2.heap.size u2 u)=>(HCE.out.kb z.ok).c0);(have cc1:=fun (z:SW fun u=>KB u2.heap.size u2 u)=>(HCE.out.kb z.ok).c1);(have c2:=fun (z:SW fun u=>KB u2.heap.size u2 u)=>(HCE.out.kb z.ok).c2);(have c3:=fun (z:SW fun u=>KB u2.heap.size u2 u)=>(HCE.out.kb z.ok).c3);have c4:=fun (z:SW fun u=>KB u2.heap.size u2 u)=>(HCE.out.kb z.ok).c4
  (have c5:=fun (z:SW fun u=>KB u2.heap.size u2 u)=>(HCE.out.kb z.ok).c5);(have c6:=fun (z:SW fun u=>KB u2.heap.size u2 u)=>(HCE.out.kb z.ok).c6);(have c7:=fun (z:SW fun u=>KB u2.heap.size u2 u)=>(HCE.out.kb z.ok).c7);(have c8:=fun (z:SW fun u=>KB u2.heap.size u2 u)=>(HCE.out.kb z.ok).c8);(have c9:=fun (z:SW fun u=>KB u2.heap.size u2 u)=>(HCE.out.kb z.ok).c9);(have c10:=fun (z:SW fun u=>KB u2.heap.size u2 u)=>(HCE.out.kb z.ok).c10);(have cl:=fun (z:SW fun u=>KB u2.heap.size u2 u)=>(HCE.out.kb z.ok).lt);dsimp only at c0 cc1 c2 c3 c4 c5 c6 c7 c8 c9 c10;(with_reducible refine uh ?_);simp only [zB,pka,pkb,pkc,pkd,pke,pkf];(repeat go_big_quiet_step (fail));refine wpQuiet_nil ?_;refine ⟨?_,?_⟩
  focus
   go_wp2_with fail
   refine (CP.out _).mono ?_
   rintro _ _ ⟨rfl,rfl⟩
   go_wp2_with fail
   refine zE (hS) ?_
   with_reducible refine zD ?_
   simp only [zB,pka,pkb,pkc,pkd,pke,pkf]
   repeat go_big_quiet_step (fail)
   refine wpQuiet_nil ?_
   go_wp2_with fail
   have HB4:=hid (show KB u2.heap.size u2 ((u2.alloc (.cells #[.string ⟨#[]⟩,.int .i64 0,.int .i64 0,.int .i64 0,.string ⟨#[]⟩,.string ⟨#[]⟩,.slice none 0 0,.slice none 0 0,.slice none 0 0,.int .u64 0,.bool false] 35)).drew) from zM (zG u2 _))
   have HBX:=hid (show Own u2.heap.size ((u2.alloc (.cells #[.string ⟨#[]⟩,.int .i64 0,.int .i64 0,.int .i64 0,.string ⟨#[]⟩,.string ⟨#[]⟩,.slice none 0 0,.slice none 0 0,.slice none 0 0,.int .u64 0,.bool false] 35)).drew) u2.heap.size [.string ⟨#[]⟩,.int .i64 0,.int .i64 0,.int .i64 0,.string ⟨#[]⟩,.string ⟨#[]⟩,.slice none 0 0,.slice none 0 0,.slice none 0 0,.int .u64 0,.bool false] from (Own.new u2 [.string ⟨#[]⟩,.int .i64 0,.int .i64 0,.int .i64 0,.string ⟨#[]⟩,.string ⟨#[]⟩,.slice none 0 0,.slice none 0 0,.slice none 0 0,.int .u64 0,.bool false] 35 (Nat.le_refl _)).kb (zM (zH _)))
   generalize ((u2.alloc (.cells #[.string ⟨#[]⟩,.int .i64 0,.int .i64 0,.int .i64 0,.string ⟨#[]⟩,.string ⟨#[]⟩,.slice none 0 0,.slice none 0 0,.slice none 0 0,.int .u64 0,.bool false] 35)).drew)=u3 at *
   refine zE HB4.out ?_
  rotate_left
  focus
   go_wp2_with fail
   have HB4:=hid (show KB u2.heap.size u2 ((u2.alloc (.cells #[.string ⟨#[]⟩,.int .i64 0,.int .i64 0,.int .i64 0,.string ⟨#[]⟩,.string ⟨#[]⟩,.slice none 0 0,.slice none 0 0,.slice none 0 0,.int .u64 0,.bool false] 35)).drew) from zM (zG u2 _))
   have HBX:=hid (show Own u2.heap.size ((u2.alloc (.cells #[.string ⟨#[]⟩,.int .i64 0,.int .i64 0,.int .i64 0,.string ⟨#[]⟩,.string ⟨#[]⟩,.slice none 0 0,.slice none 0 0,.slice none 0 0,.int .u64 0,.bool false] 35)).drew) u2.heap.size [.string ⟨#[]⟩,.int .i64 0,.int .i64 0,.int .i64 0,.string ⟨#[]⟩,.string ⟨#[]⟩,.slice none 0 0,.slice none 0 0,.slice none 0 0,.int .u64 0,.bool false] from (Own.new u2 [.string ⟨#[]⟩,.int .i64 0,.int .i64 0,.int .i64 0,.string ⟨#[]⟩,.string ⟨#[]⟩,.slice none 0 0,.slice none 0 0,.slice none 0 0,.int .u64 0,.bool false] 35 (Nat.le_refl _)).kb (zM (zH _)))
   generalize ((u2.alloc (.cells #[.string ⟨#[]⟩,.int .i64 0,.int .i64 0,.int .i64 0,.string ⟨#[]⟩,.string ⟨#[]⟩,.slice none 0 0,.slice none 0 0,.slice none 0 0,.int .u64 0,.bool false] 35)).drew)=u3 at *
   refine zE HB4.out ?_
   with_reducible refine zD ?_
   simp only [zB,pka,pkb,pkc,pkd,pke,pkf]
   repeat go_big_quiet_step (fail)
   refine wpQuiet_nil ?_
   go_wp2_with fail
   refine (CP.out _).mono ?_
   rintro _ _ ⟨rfl,rfl⟩
   go_wp2_with fail
   refine zE (HB4.out) ?_
  all_goals
   obtain ⟨o0L,o1,o2,o3,o4,o5L,o6L,o7L,o8L,o9L,o10,ol⟩:=ent11 HBX.out.box;have of_:∀ i,u3.frozen? ⟨u2.heap.size,i,none⟩=false:=HBX.out.soft;(with_reducible refine zD ?_);simp only [zB,pka,pkb,pkc,pkd,pke,pkf];(repeat go_big_quiet_step (fail));refine wpQuiet_nil ?_;(go_wp2_with fail);refine zE (yV (yV (kb_set9 HB4.out (Nat.le_refl _) _ _ _ _ _ _ _ _ _) (Nat.le_refl _) _) (Nat.le_refl _) _) ?_;(with_reducible refine zJ ?_);simp only [zB,pka,pkb,pkc,pkd,pke,pkf];(repeat go_big_quiet_step (fail));refine wpQuiet_nil ?_;clear o0L o1 o2 o3 o4 o5L o6L o7L o8L o9L o10 ol of_ x1 xl c0 cc1 c2 c3 c4 c5 c6 c7 c8 c9 c10 cl iS hS;refine nV ?_;intro u4 hu4;have HT:=hid (show Box u4 u2.heap.size [.string rn,.int .i64 rv.maj,.int .i64 rv.min,.int .i64 rv.pat,.string rv.pre,.string rv.bld,.slice A0 rne.length ca0,.slice B0 rba.length cb,.slice F0 rfe.length cf,.int .u64 sm,.bool yk] by rw [hu4]; exact HBX.out.box.set (o:=0) (vs:=[.string rn,.int .i64 rv.maj,.int .i64 rv.min,.int .i64 rv.pat,.string rv.pre,.string rv.bld,.slice A0 rne.length ca0,.slice B0 rba.length cb,.slice F0 rfe.length cf,.int .u64 sm,.bool yk]) (by simp));have HB5:=hid (show KB u2.heap.size u2 u4 by rw [hu4]; exact yV (yV (kb_set9 HB4.out (Nat.le_refl _) _ _ _ _ _ _ _ _ _) (Nat.le_refl _) _) (Nat.le_refl _) _);clear hu4 HBX HB4;have HX4:=hid (HX.out.kb HB5.out);have HE4:=hid (HE2.out.kb EntryAt.stays HB5.out);have HK4:=hid (zA HB2.out HB5.out)
   have x0:=HX4.out.2 0 _ rfl;have x1:=HX4.out.2 1 _ rfl;have xl:=HX4.out.1;obtain ⟨t0,t1,t2,t3,t4L,t5L,t6L,t7L,t8L,t9L,t10,tl⟩:=ent11 HT.out;(go_wp2_with fail);refine (HY1.out es rfl true (some ⟨b,off,none⟩) c1 u4 HK4.out HE4.out HC1.out).mono ?_;rintro _ u5 ⟨A7,c7,rfl,hE,hc,hb⟩;rw [hmk] at hE;have HE7:=hid hE;have HC7:=hid hc;have HK5:=hid (zA HK4.out hb);have HX5:=hid (HX4.out.kb hb);have HT5:=hid (HT.out.kb hb);have HE5:=hid (HE4.out.kb EntryAt.stays hb);clear hE hc hb x0 x1 xl t0 t1 t2 t3 t4L t5L t6L t7L t8L t9L t10 tl;(go_upto_region 6 with fail);refine zI ?_;intro u6 hu;(have hb:KB u5.heap.size u5 u6:=by rw [hu]; exact zG _ _);have HA7:=hid (show Box u6 u5.heap.size [.string ⟨#[111,110,101]⟩,.slice A7 n c7] by rw [hu]; exact Box.new u5 [.string ⟨#[111,110,101]⟩,.slice A7 n c7] 24);have HK6:=hid (zA HK5.out hb);have HX6:=hid (HX5.out.kb hb);have HT6:=hid (HT5.out.kb hb);have HE6:=hid (HE5.out.kb EntryAt.stays hb);have HE76:=hid (HE7.out.kb EntryAt.stays hb);clear hu hb HX5 HT5 HE5 HE7;generalize u5.heap.size=g7L at *;have x0:=HA7.out.2 0 _ rfl;have x1:=HA7.out.2 1 _ rfl;have xl:=HA7.out.1;obtain ⟨t0,t1,t2,t3,t4L,t5L,t6L,t7L,t8L,t9L,t10,tl⟩:=ent11 HT6.out;(go_wp2_with fail);refine (HY1.out ms HU1.out true A7 c7 u6 HK6.out HE76.out HC7.out).mono ?_;rintro _ u7 ⟨A9,c9,rfl,hE,hc,hb⟩;rw [HTW.out] at hE;have HE9:=hid hE;have HC9:=hid hc;have HK7:=hid (zA HK6.out hb)
   have HX7:=hid (HX6.out.kb hb);have HT7:=hid (HT6.out.kb hb);have HA77:=hid (HA7.out.kb hb);have HE7':=hid (HE6.out.kb EntryAt.stays hb);have HE77:=hid (HE76.out.kb EntryAt.stays hb);clear hE hc hb x0 x1 xl t0 t1 t2 t3 t4L t5L t6L t7L t8L t9L t10 tl;(go_upto_region 7 with fail);refine zI ?_;intro u8 hu;(have hb:KB u7.heap.size u7 u8:=by rw [hu]; exact zG _ _);have HA9:=hid (show Box u8 u7.heap.size [.string ⟨#[111,110,101]⟩,.slice A9 n c9] by rw [hu]; exact Box.new u7 [.string ⟨#[111,110,101]⟩,.slice A9 n c9] 24);have HK8:=hid (zA HK7.out hb);have HX8:=hid (HX7.out.kb hb);have HT8:=hid (HT7.out.kb hb);have HA78:=hid (HA77.out.kb hb);have HE8:=hid (HE7'.out.kb EntryAt.stays hb);have HE78:=hid (HE77.out.kb EntryAt.stays hb);have HE98:=hid (HE9.out.kb EntryAt.stays hb);clear hu hb HX7 HT7 HA77 HE7' HE77 HE9;generalize u7.heap.size=g8L at *;have x0:=HA9.out.2 0 _ rfl;have x1:=HA9.out.2 1 _ rfl;have xl:=HA9.out.1;obtain ⟨t0,t1,t2,t3,t4L,t5L,t6L,t7L,t8L,t9L,t10,tl⟩:=ent11 HT8.out;(go_wp2_with fail);refine (HY1.out ms HU1.out yk A9 c9 u8 HK8.out HE98.out HC9.out).mono ?_;rintro _ u9 ⟨Ab,cb',rfl,hE,hc,hb⟩;rw [HOW.out] at hE;have HEb:=hid hE;have HCb:=hid hc;have HK9:=hid (zA HK8.out hb);have HX9:=hid (HX8.out.kb hb);have HA79:=hid (HA78.out.kb hb);have HA99:=hid (HA9.out.kb hb);have HE9:=hid (HE8.out.kb EntryAt.stays hb);have HE79:=hid (HE78.out.kb EntryAt.stays hb);have HE99:=hid (HE98.out.kb EntryAt.stays hb)
   clear hE hc hb x0 x1 xl t0 t1 t2 t3 t4L t5L t6L t7L t8L t9L t10 tl;(go_upto_region 8 with fail);refine zI ?_;intro ua hu;(have hb:KB u9.heap.size u9 ua:=by rw [hu]; exact zG _ _);have HAb:=hid (show Box ua u9.heap.size [.string ⟨#[111,110,101]⟩,.slice Ab n cb'] by rw [hu]; exact Box.new u9 [.string ⟨#[111,110,101]⟩,.slice Ab n cb'] 24);have HKa:=hid (zA HK9.out hb);have HXa:=hid (HX9.out.kb hb);have HA7a:=hid (HA79.out.kb hb);have HA9a:=hid (HA99.out.kb hb);have HEa:=hid (HE9.out.kb EntryAt.stays hb);have HE7a:=hid (HE79.out.kb EntryAt.stays hb);have HE9a:=hid (HE99.out.kb EntryAt.stays hb);have HEba:=hid (HEb.out.kb EntryAt.stays hb);clear hu hb HX9 HA79 HA99 HE9 HE79 HE99 HEb;generalize u9.heap.size=gbL at *;(go_wp2_with fail);refine (CA.out ua HKa.out).mono ?_;rintro _ v1 ⟨rfl,hb⟩;have HB1:=hid hb;have HK1:=hid (zA HKa.out hb);clear hb;have x0:=(HA7a.out.kb HB1.out).2 0 _ rfl;have x1:=(HA7a.out.kb HB1.out).2 1 _ rfl;have xl:=(HA7a.out.kb HB1.out).1;have y0:=(HA9a.out.kb HB1.out).2 0 _ rfl;have y1:=(HA9a.out.kb HB1.out).2 1 _ rfl;have yl:=(HA9a.out.kb HB1.out).1;(go_wp2_with fail);refine (HS1.out ms ms A7 c7 A9 c9 v1 HK1.out (HE7a.out.kb EntryAt.stays HB1.out) (HE9a.out.kb EntryAt.stays HB1.out) HML.out rfl).mono ?_;rintro _ v2 ⟨rfl,hb⟩;have HBB2:=hid (zA HB1.out hb);have HK2:=hid (zA HKa.out HBB2.out);clear hb x0 x1 xl y0 y1 yl;have x0:=(HAb.out.kb HBB2.out).2 0 _ rfl;have x1:=(HAb.out.kb HBB2.out).2 1 _ rfl
   have xl:=(HAb.out.kb HBB2.out).1;have y0:=(HXa.out.kb HBB2.out).2 0 _ rfl;have y1:=(HXa.out.kb HBB2.out).2 1 _ rfl;have yl:=(HXa.out.kb HBB2.out).1;(go_wp2_with fail);refine (HS1.out es es Ab cb' (some ⟨b,off,none⟩) c1 v2 HK2.out (HEba.out.kb EntryAt.stays HBB2.out) (HEa.out.kb EntryAt.stays HBB2.out) HSL.out rfl).mono ?_;rintro _ v3 ⟨rfl,hb⟩;have HBB3:=hid (zA HBB2.out hb);have HK3:=hid (zA HKa.out HBB3.out);clear hb x0 x1 xl y0 y1 yl;have x0:=(HXa.out.kb HBB3.out).2 0 _ rfl;have x1:=(HXa.out.kb HBB3.out).2 1 _ rfl;have xl:=(HXa.out.kb HBB3.out).1;have y0:=(HA7a.out.kb HBB3.out).2 0 _ rfl;have y1:=(HA7a.out.kb HBB3.out).2 1 _ rfl;have yl:=(HA7a.out.kb HBB3.out).1;(go_wp2_with fail);refine (HG1.out es ms (some ⟨b,off,none⟩) c1 A7 c7 v3 HK3.out (HEa.out.kb EntryAt.stays HBB3.out) (HE7a.out.kb EntryAt.stays HBB3.out) rfl HU1.out HC1.out HC7.out).mono ?_;rintro _ v4 ⟨rfl,hb⟩;have HBB4:=hid (zA HBB3.out hb);have HK4':=hid (zA HKa.out HBB4.out);clear hb x0 x1 xl y0 y1 yl;have x0:=(HXa.out.kb HBB4.out).2 0 _ rfl;have x1:=(HXa.out.kb HBB4.out).2 1 _ rfl;have xl:=(HXa.out.kb HBB4.out).1;have y0:=(HA7a.out.kb HBB4.out).2 0 _ rfl;have y1:=(HA7a.out.kb HBB4.out).2 1 _ rfl;have yl:=(HA7a.out.kb HBB4.out).1;(go_wp2_with fail);refine (HG1.out ms es A7 c7 (some ⟨b,off,none⟩) c1 v4 HK4'.out (HE7a.out.kb EntryAt.stays HBB4.out) (HEa.out.kb EntryAt.stays HBB4.out) HU1.out rfl HC7.out HC1.out).mono ?_;rintro _ v5 ⟨rfl,hb⟩
   have HK5':=hid (zA HK4'.out hb);clear hb x0 x1 xl y0 y1 yl;(go_wp2_with fail);(try rw [Exit.noGoto_ret]);(try go_ret);exact ⟨rfl,HK5'.out⟩
end Go.Proofs.YtgllkohjehjphaaGreatDoor
