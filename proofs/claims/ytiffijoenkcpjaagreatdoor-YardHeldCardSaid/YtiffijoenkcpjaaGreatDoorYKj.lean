import Derived.Test.YtiffijoenkcpjaaGreatDoorYKb
set_option linter.unusedVariables false
set_option linter.unusedSimpArgs false
set_option maxRecDepth 100000
set_option maxHeartbeats 8000000
namespace Go.Proofs.YtiffijoenkcpjaaGreatDoor
open Go.RowKit Go.Lib
def yM (b:UInt8):List UInt8→List UInt8 × List UInt8 × Bool
 | []=>([],[],false)
 | c::r=>if c=b then ([],r,true) else (c::(yM b r).1,(yM b r).2.1,(yM b r).2.2)
theorem rQ {b c:UInt8} {r:List UInt8} (h:c=b):yM b (c::r)=([],r,true):=if_pos h
theorem tg {b c:UInt8} {r:List UInt8} (h:c≠b):yM b (c::r)=(c::(yM b r).1,(yM b r).2.1,(yM b r).2.2):=if_neg h
theorem ff {b:UInt8}:∀ {l:List UInt8},(yM b l).2.2=false→(yM b l).1=l∧(yM b l).2.1=[]
 | [],_=>⟨rfl,rfl⟩
 | c::r,h=>by
  by_cases hc:c=b
  ·rw [rQ hc] at h; cases h
  ·rw [tg hc] at h ⊢;obtain ⟨h1,h2⟩:=ff (l:=r) h;exact ⟨congrArg (List.cons c) h1,h2⟩
theorem mA (b:UInt8):∀ l:List UInt8,Lib.index l [b]=if (yM b l).2.2 then ((yM b l).1.length:Int) else -1
 | []=>rfl
 | c::r=>by
  have ih:=mA b r;unfold Lib.index;by_cases hc:c=b
  ·rw [rQ hc,hc];simp
  ·have hp:([b]:List UInt8).isPrefixOf (c::r)=false:=by
    show ((b==c)&&([]:List UInt8).isPrefixOf r)=false;rw [beq_eq_false_iff_ne.2 (fun e=>hc (Eq.symm e))]; rfl
   rw [hp,if_neg (by simp),tg hc,ih];cases h:(yM b r).2.2
   ·simp
   ·simp only [if_true,List.length_cons];rw [if_neg (by simp)];rfl
theorem sE (b:UInt8):∀ l:List UInt8,(yM b l).2.2=true→l=(yM b l).1++b::(yM b l).2.1
 | [],h=>by cases h
 | c::r,h=>by
  by_cases hc:c=b
  ·rw [rQ hc,hc]; rfl
  ·rw [tg hc] at h ⊢;exact congrArg (List.cons c) (sE b r h)
theorem Yq (b:UInt8) (l:List UInt8):Lib.cut l [b]=yM b l:=by
 unfold Lib.cut;rw [mA];cases h:(yM b l).2.2
 ·have:=ff h;rw [if_neg (by simp)];exact (Prod.ext this.1 (Prod.ext this.2 h)).symm
 ·have hs:=sE b l h;simp only [if_true];rw [if_pos (by omega),Int.toNat_natCast];refine Prod.ext ?_ (Prod.ext ?_ h.symm)
  ·exact (congrArg (List.take (yM b l).1.length) hs).trans List.take_left
  ·show l.drop ((yM b l).1.length+1)=_;rw [← List.drop_drop];exact congrArg (List.drop 1) ((congrArg (List.drop (yM b l).1.length) hs).trans List.drop_left)
theorem sK (b:UInt8):∀ (l cur:List UInt8),zV b cur l=if (yM b l).2.2 then (cur++(yM b l).1)::zV b [] (yM b l).2.1 else [cur++l]
 | [],cur=>by simp [zV,yM]
 | c::r,cur=>by
  show (if c=b then cur::zV b [] r else zV b (cur++[c]) r)=_;by_cases hc:c=b
  ·rw [if_pos hc,rQ hc]; simp
  ·rw [if_neg hc,tg hc,sK b r (cur++[c])];cases h:(yM b r).2.2
   ·simp
   ·simp only [if_true,List.append_assoc,List.singleton_append]
theorem lY {l:List UInt8} (h:zY l=true):(yM 47 l).2.2=false:=by
 cases hc:(yM 47 l).2.2
 ·rfl
 ·have hs:=sE 47 l hc;simp only [zY,Bool.and_eq_true] at h;have:=List.all_eq_true.1 h.2 47 (by rw [hs]; simp);exact absurd this (by decide)
theorem jY (l:List UInt8):(match zV 47 [] l with | [a,b]=>if zg a&&zY b then ((3:Int),a,b) else (0,[],[]) | _=>(0,[],[])) =
 if (yM 47 l).2.2&&(zg (yM 47 l).1&&zY (yM 47 l).2.1) then (3,(yM 47 l).1,(yM 47 l).2.1) else (0,[],[]):=by
 rw [sK]
 cases h:(yM 47 l).2.2
 ·simp
 ·simp only [if_true,List.nil_append,Bool.true_and];rw [sK];cases h2:(yM 47 (yM 47 l).2.1).2.2
  ·simp only [Bool.false_eq_true,if_false,List.nil_append]
  ·have hw:zY (yM 47 l).2.1=false:=by
    cases hw:zY (yM 47 l).2.1
    ·rfl
    ·have:=lY hw;rw [this] at h2; cases h2
   have hne:=(zk 47 (yM 47 (yM 47 l).2.1).2.1 []).1;simp only [if_true,List.nil_append,hw,Bool.and_false,Bool.false_eq_true,if_false]
   match hq:zV 47 [] (yM 47 (yM 47 l).2.1).2.1,hne with
   | p::q,_=>rfl
theorem jc {l:List UInt8} (h:zY l=true):xp l=(1,l,[]):=by rw [xp,if_pos h]
theorem sO (l:List UInt8):Lib.hasPrefix l [63]=decide (l.head?=some 63):=by
 cases l with
 | nil=>rfl
 | cons c r =>
  by_cases h:c=63
  ·subst h; simp [Lib.hasPrefix]
  ·(have h2:¬ (63:UInt8)=c:=fun e=>h (Eq.symm e));rw [decide_eq_false (by simpa using h)];show (((63:UInt8)==c)&&([]:List UInt8).isPrefixOf r)=false;rw [beq_eq_false_iff_ne.2 h2]; rfl
theorem fh {l:List UInt8} (h:zY l=false) (h1:Lib.hasPrefix l [63]=true) (h2:zY (l.drop 1)=true):xp l=(2,l.drop 1,[]):=by
 rw [sO,decide_eq_true_eq] at h1;rw [xp,if_neg (by simp [h]),if_pos ⟨h1,h2⟩]
theorem eN {l:List UInt8} (h:zY l=false) (h1:(Lib.hasPrefix l [63]&&zY (l.drop 1))=false):xp l=if (yM 47 l).2.2&&(zg (yM 47 l).1&&zY (yM 47 l).2.1) then (3,(yM 47 l).1,(yM 47 l).2.1) else (0,[],[]):=by
 rw [sO] at h1;rw [xp,if_neg (by simp [h]),if_neg (by rintro ⟨e1,e2⟩; rw [e2,decide_eq_true e1] at h1; cases h1)];exact jY l
def gZ (w:World) (r:Int × List UInt8 × List UInt8) (e:Ending) (w':World):Prop:=∃ a b:ByteArray,e = .returned (.tuple #[.int .i64 r.1,.string a,.string b])∧bts a=r.2.1∧bts b=r.2.2∧KB w.heap.size w w'
theorem YU {B:Nat} {w w1:World} (h:KB B w w1) (n:Nat):KB B w (w1.drewN n):=⟨h.os,h.tape,h.output,h.size,h.block⟩
theorem VH (s:ByteArray) (w:World) (hL:Laid w) (hs:s.size < 4294967281):Calls Tryz.prog 196 #[.string s,.string ⟨#[47]⟩] w fun e w' =>
 ∃ a b:ByteArray,e = .returned (.tuple #[.string a,.string b,.bool (yM 47 (bts s)).2.2])∧bts a=(yM 47 (bts s)).1∧bts b=(yM 47 (bts s)).2.1∧KB w.heap.size w w':=by
 obtain ⟨m,hm⟩:=hL.maxl
 refine (Any.strings_Cut Tryz.lays145 s ⟨#[47]⟩ m w hs hm).mono ?_
 rintro e w' ⟨rfl,n,rfl⟩
 have e1:Lib.cut s.data.toList (⟨#[47]⟩:ByteArray).data.toList=yM 47 (bts s):=by
  rw [show (⟨#[47]⟩:ByteArray).data.toList=[47] from rfl,Yq,bts,yX]
 rw [e1]
 exact ⟨_,_,rfl,zN _,zN _,YU (zH _) n⟩
theorem Vr (s:ByteArray) (w:World):Calls Tryz.prog 195 #[.string s,.string ⟨#[63]⟩] w fun e w' =>
 ∃ a:ByteArray,e = .returned (.tuple #[.string a,.bool (Lib.hasPrefix (bts s) [63])])∧(Lib.hasPrefix (bts s) [63]=true→bts a=(bts s).drop 1)∧w'=w:=by
 refine (Any.strings_CutPrefix Tryz.lays103 s ⟨#[63]⟩ w).mono ?_
 rintro e w' ⟨rfl,rfl⟩
 have e1:s.data.toList=bts s:=by rw [bts,yX]
 rw [e1,show (⟨#[63]⟩:ByteArray).data.toList=[63] from rfl]
 refine ⟨_,rfl,fun h=>?_,rfl⟩
 rw [zN,Lib.trimPrefix,if_pos h]; rfl
theorem mJ (s:ByteArray) (w:World) (hL:Laid w) (hs:s.size≤2097152):Calls Tryz.prog 159 #[.string s] w (gZ w (xp (bts s))):=by
 have HW:=hid (wS s w);cases hw:zY (bts s)
 ·have HIO:=hid (fun h1 h2=>fh (l:=bts s) hw h1 h2);have HIC:=hid (fun h1=>eN (l:=bts s) hw h1);have HCP:=hid (fun u=>Vr s u);have HCU:=hid (fun u (hb:KB w.heap.size w u)=>VH s u (hL.kb hb) (by omega));rw [hw] at HW;clear hw hL;generalize xp (bts s)=r at *;generalize (bts s).drop 1=d at *;generalize yM 47 (bts s)=c at *;obtain ⟨c1,c2,c3⟩:=c;simp only at HIC HCU;cases hp:Lib.hasPrefix (bts s) [63]
  ·rw [hp] at HIC HCP;replace HIC:=hid (HIC.out (by first | rfl | trivial));clear HIO;go_enter Tryz.func159,Tryz.ntmps159;(go_wp2_with fail);refine HW.out.mono ?_;rintro _ w1 ⟨rfl,hb⟩;have HB1:=hid hb.kb;clear hb;(go_wp2_with fail);refine (HCP.out w1).mono ?_;rintro _ w2 ⟨a,rfl,-,rfl⟩;(go_wp2_with fail);refine (HCU.out _ HB1.out).mono ?_;rintro _ w3 ⟨x,y,rfl,hx,hy,hb⟩;have HB3:=hid (zA HB1.out hb);have HX:=hid hx;have HY:=hid hy;have HN:=hid (vS x w3);have HWY:=hid (fun u=>wS y u);rw [hx] at HN;rw [hy] at HWY;clear hx hy hb;cases c3
   ·simp only [Bool.false_and,Bool.false_eq_true,if_false] at HIC;go_wp2_with fail
    go_ret3
    exact ⟨_,_,by first | (rw [HIC.out]; done) | (rw [HIC.out]; rfl),by rw [HIC.out]; exact zN [],by rw [HIC.out]; exact zN [],HB3.out⟩
   ·cases hn:zg c1
    ·rw [hn] at HN;simp only [hn,Bool.false_and,Bool.and_false,Bool.false_eq_true,if_false] at HIC;(go_wp2_with fail);refine HN.out.mono ?_;rintro _ w4 ⟨rfl,hb⟩;have HB4:=hid (zA HB3.out hb.kb);clear hb;go_wp2_with fail
     go_ret3
     exact ⟨_,_,by first | (rw [HIC.out]; done) | (rw [HIC.out]; rfl),by rw [HIC.out]; exact zN [],by rw [HIC.out]; exact zN [],HB4.out⟩
    ·rw [hn] at HN;cases hwy:zY c2
     ·rw [hwy] at HWY;simp only [hn,hwy,Bool.true_and,Bool.and_false,Bool.false_eq_true,if_false] at HIC;(go_wp2_with fail);refine HN.out.mono ?_;rintro _ w4 ⟨rfl,hb⟩;have HB4:=hid (zA HB3.out hb.kb);clear hb;(go_wp2_with fail);refine (HWY.out w4).mono ?_;rintro _ w5 ⟨rfl,hb⟩;have HB5:=hid (zA HB4.out hb.kb);clear hb;go_wp2_with fail
      go_ret3
      exact ⟨_,_,by first | (rw [HIC.out]; done) | (rw [HIC.out]; rfl),by rw [HIC.out]; exact zN [],by rw [HIC.out]; exact zN [],HB5.out⟩
     ·rw [hwy] at HWY;simp only [hn,hwy,Bool.true_and,if_true] at HIC;(go_wp2_with fail);refine HN.out.mono ?_;rintro _ w4 ⟨rfl,hb⟩;have HB4:=hid (zA HB3.out hb.kb);clear hb;(go_wp2_with fail);refine (HWY.out w4).mono ?_;rintro _ w5 ⟨rfl,hb⟩;have HB5:=hid (zA HB4.out hb.kb);clear hb;go_wp2_with fail
      go_ret3
      exact ⟨_,_,by first | (rw [HIC.out]; done) | (rw [HIC.out]; rfl),by rw [HIC.out]; exact HX.out,by rw [HIC.out]; exact HY.out,HB5.out⟩
  ·rw [hp] at HIO HIC HCP;simp only [Bool.true_and] at HIC;go_enter Tryz.func159,Tryz.ntmps159;(go_wp2_with fail);refine HW.out.mono ?_;rintro _ w1 ⟨rfl,hb⟩;have HB1:=hid hb.kb;clear hb;(go_wp2_with fail);refine (HCP.out w1).mono ?_;rintro _ w2 ⟨a,rfl,ha,rfl⟩;have HA:=hid (ha (by first | rfl | trivial));have HWA:=hid (wS a w2);rw [HA.out] at HWA;clear ha;cases hwd:zY d
   ·rw [hwd] at HWA HIC;replace HIC:=hid (HIC.out (by first | rfl | trivial));clear HIO;(go_wp2_with fail);refine HWA.out.mono ?_;rintro _ wa ⟨rfl,hb⟩;replace HB1:=hid (zA HB1.out hb.kb);clear hb;(go_wp2_with fail);refine (HCU.out _ HB1.out).mono ?_;rintro _ w3 ⟨x,y,rfl,hx,hy,hb⟩;have HB3:=hid (zA HB1.out hb);have HX:=hid hx;have HY:=hid hy;have HN:=hid (vS x w3);have HWY:=hid (fun u=>wS y u);rw [hx] at HN;rw [hy] at HWY;clear hx hy hb;cases c3
    ·simp only [Bool.false_and,Bool.false_eq_true,if_false] at HIC;go_wp2_with fail
     go_ret3
     exact ⟨_,_,by first | (rw [HIC.out]; done) | (rw [HIC.out]; rfl),by rw [HIC.out]; exact zN [],by rw [HIC.out]; exact zN [],HB3.out⟩
    ·cases hn:zg c1
     ·rw [hn] at HN;simp only [hn,Bool.false_and,Bool.and_false,Bool.false_eq_true,if_false] at HIC;(go_wp2_with fail);refine HN.out.mono ?_;rintro _ w4 ⟨rfl,hb⟩;have HB4:=hid (zA HB3.out hb.kb);clear hb;go_wp2_with fail
      go_ret3
      exact ⟨_,_,by first | (rw [HIC.out]; done) | (rw [HIC.out]; rfl),by rw [HIC.out]; exact zN [],by rw [HIC.out]; exact zN [],HB4.out⟩
     ·rw [hn] at HN;cases hwy:zY c2
      ·rw [hwy] at HWY;simp only [hn,hwy,Bool.true_and,Bool.and_false,Bool.false_eq_true,if_false] at HIC;(go_wp2_with fail);refine HN.out.mono ?_;rintro _ w4 ⟨rfl,hb⟩;have HB4:=hid (zA HB3.out hb.kb);clear hb;(go_wp2_with fail);refine (HWY.out w4).mono ?_;rintro _ w5 ⟨rfl,hb⟩;have HB5:=hid (zA HB4.out hb.kb);clear hb;go_wp2_with fail
       go_ret3
       exact ⟨_,_,by first | (rw [HIC.out]; done) | (rw [HIC.out]; rfl),by rw [HIC.out]; exact zN [],by rw [HIC.out]; exact zN [],HB5.out⟩
      ·rw [hwy] at HWY;simp only [hn,hwy,Bool.true_and,if_true] at HIC;(go_wp2_with fail);refine HN.out.mono ?_;rintro _ w4 ⟨rfl,hb⟩;have HB4:=hid (zA HB3.out hb.kb);clear hb;(go_wp2_with fail);refine (HWY.out w4).mono ?_;rintro _ w5 ⟨rfl,hb⟩;have HB5:=hid (zA HB4.out hb.kb);clear hb;go_wp2_with fail
       go_ret3
       exact ⟨_,_,by first | (rw [HIC.out]; done) | (rw [HIC.out]; rfl),by rw [HIC.out]; exact HX.out,by rw [HIC.out]; exact HY.out,HB5.out⟩
   ·rw [hwd] at HWA;replace HIO:=hid (HIO.out (by first | rfl | trivial) hwd);clear HIC;(go_wp2_with fail);refine HWA.out.mono ?_;rintro _ wa ⟨rfl,hb⟩;replace HB1:=hid (zA HB1.out hb.kb);clear hb;go_wp2_with fail
    go_ret3
    exact ⟨_,_,by first | (rw [HIO.out]; done) | (rw [HIO.out]; rfl),by rw [HIO.out]; exact HA.out,by rw [HIO.out]; exact zN [],HB1.out⟩
 ·have HI:=hid (jc hw);rw [hw] at HW;clear hw hL;go_enter Tryz.func159,Tryz.ntmps159;(go_wp2_with fail);refine HW.out.mono ?_;rintro _ w1 ⟨rfl,hb⟩;have HB1:=hid hb.kb;clear hb;go_wp2_with fail
  go_ret3
  exact ⟨_,_,by first | (rw [HI.out]; done) | (rw [HI.out]; rfl),by rw [HI.out],by rw [HI.out]; exact zN [],HB1.out⟩
def fs (w:World) (b:Bool) (e:Ending) (w':World):Prop:=∃ n:Int,e = .returned (.int .i64 n)∧decide (0≤n)=b∧KB w.heap.size w w'
theorem vc {w:World} {A:Option Addr} {l:List FeatL} {k:Nat} (h:RowOf 2 FeatAt w A l) (hk:k < l.length):∃ b off A' c',A=some ⟨b,off,none⟩∧b < w.heap.size∧w.cell? ⟨b,off+k * 2,none⟩=some (.string l[k].name)∧w.cell? ⟨b,off+k * 2+1,none⟩=some (.slice A' l[k].of_.length c')∧Texts w A' l[k].of_∧l[k].of_.length≤9223372036854775807:=by
 obtain ⟨b,off,hA,hl,h1,A',c',h2,h3,h4⟩:=h.at_ hk;exact ⟨b,off,A',c',hA,hl,h1,h2,h3,h4⟩
theorem cY (A:Option Addr) (c:Nat) (l:List FeatL) (x:ByteArray) (w:World) (h:RowOf 2 FeatAt w A l) (hn:l.length≤9223372036854775807):Calls Tryz.prog 197 #[.slice A l.length c,.string x] w (fs w (l.any fun f=>decide (bts f.name=bts x))):=by
 have HA:=hid h;clear h;generalize hnn:l.length=n at *;have HN:=hid hnn;clear hnn;go_enter Tryz.func197,Tryz.ntmps197;(go_upto_block 0 with fail);(go_wp2_with fail);go_loopw [9] (fun i wr=>∃ k:Nat,i = .int .i64 (k:Int)∧k≤n∧Hid ((l.any fun f=>decide (bts f.name=bts x))=(l.drop k).any fun f=>decide (bts f.name=bts x))∧Hid (KB w.heap.size w wr)) (fun i _=>n - (intOf i).toNat)
 case atStart=>exact ⟨0,rfl,Nat.zero_le _,hid rfl,hid (zH _)⟩
 case round =>
  obtain ⟨k,rfl,hk,HD,HB⟩:=hrel;by_cases hlt:k < n
  ·(have hl:k < l.length:=by rw [HN.out]; exact hlt);obtain ⟨b,off,A',c',hA,hbl,y0,y1,-,-⟩:=vc (HA.out.kb FeatAt.stays HB.out) hl;subst hA;(have i0:(0:Int)≤(k:Int):=by omega);(have i1:(k:Int) < (n:Int):=by omega);have HS:=hid (qy (p:=fun f:FeatL=>decide (bts f.name=bts x)) hl);generalize l[k].name=nm at *;generalize l[k].of_.length=ol at *;by_cases he:bts nm=bts x
   ·(have he2:(nm.toList==x.toList)=true:=by rw [beq_iff_eq]; exact he);have HE:=hid he;clear he;(go_wp2_with fail);(try rw [Exit.noGoto_ret]);(try go_ret);exact ⟨_,rfl,by rw [HD.out,HS.out,decide_eq_true HE.out,decide_eq_true i0]; rfl,zA HB.out (zG _ _)⟩
   ·(have he2:(nm.toList==x.toList)=false:=by rw [beq_eq_false_iff_ne]; exact he);have HE:=hid he;clear he;(go_wp2_with fail);go_roundw
    case rel=>exact ⟨k+1,by go_num,by omega,hid (by rw [HD.out,HS.out,decide_eq_false HE.out,Bool.false_or]),hid (zA HB.out (zG _ _))⟩
    case measure=>simp [intOf]<;>omega
  ·(have i1:¬ (k:Int) < (n:Int):=by omega);have HS:=hid (mS (p:=fun f:FeatL=>decide (bts f.name=bts x)) (l:=l) (k:=k) (by rw [HN.out]; omega));(go_wp2_with fail);(try rw [Exit.noGoto_ret]);(try go_ret);exact ⟨_,rfl,by rw [HD.out,HS.out]; rfl,HB.out⟩
theorem lT {l:List FeatL} {x:List UInt8} (h:x=rK):tT l x=true:=by rw [tT,decide_eq_true h,Bool.true_or]
theorem kQ {l:List FeatL} {x:List UInt8} (h:x≠rK):tT l x=l.any fun f=>decide (bts f.name=x):=by rw [tT,decide_eq_false h,Bool.false_or]
theorem dQ (A:Option Addr) (c:Nat) (l:List FeatL) (x:ByteArray) (w:World) (h:RowOf 2 FeatAt w A l) (hn:l.length≤9223372036854775807):Calls Tryz.prog 160 #[.slice A l.length c,.string x] w (yT w (tT l (bts x))):=by
 have HF:=hid (cY A c l x w h hn);have HKD:=hid (fun h=>lT (l:=l) (x:=bts x) h);have HKN:=hid (fun h=>kQ (l:=l) (x:=bts x) h);clear h;generalize l.length=n at *;by_cases he:bts x=rK
 ·(have he2:(x.toList==[100,101,102,97,117,108,116])=true:=by rw [beq_iff_eq]; exact he);have HE:=hid (HKD.out he);clear he;go_enter Tryz.func160,Tryz.ntmps160;(go_wp2_with fail);go_ret;exact ⟨by first | (rw [HE.out]; done) | (rw [HE.out]; rfl),zH _⟩
 ·(have he2:(x.toList==[100,101,102,97,117,108,116])=false:=by rw [beq_eq_false_iff_ne]; exact he);have HE:=hid (HKN.out he);clear he;go_enter Tryz.func160,Tryz.ntmps160;(go_wp2_with fail);refine HF.out.mono ?_;rintro _ w1 ⟨m,rfl,hm,hb⟩;have HM:=hid hm;have HB:=hid hb;clear hm hb;(go_wp2_with fail);go_ret;exact ⟨by rw [HE.out,← HM.out]<;>rfl,HB.out⟩
theorem nD (A:Option Addr) (c:Nat) (l:List ByteArray) (w:World) (h:Texts w A l) (hn:l.length≤9223372036854775807):Calls Tryz.prog 158 #[.slice A l.length c] w (yT w (xF (l.map bts))):=by
 have HA:=hid h;clear h;generalize hnn:l.length=n at *;have HN:=hid hnn;clear hnn;go_enter Tryz.func158,Tryz.ntmps158;(go_upto_block 0 with fail);(go_wp2_with fail);go_loopw [3] (fun i wr=>∃ k:Nat,i = .int .i64 ((k:Int)+1)∧k≤n∧Hid (xF (l.map bts)=xF ((l.map bts).drop k))∧Hid (KB w.heap.size w wr)) (fun i _=>n+1 - (intOf i).toNat)
 case atStart=>exact ⟨0,rfl,Nat.zero_le _,hid rfl,hid (zH _)⟩
 case round =>
  obtain ⟨k,rfl,hk,HD,HB⟩:=hrel;by_cases hlt:k+1 < n
  ·(have h1:k+1 < l.length:=by rw [HN.out]; exact hlt);have h0:k < l.length:=Nat.lt_of_succ_lt h1;obtain ⟨b,off,hA,-,-⟩:=Texts.cell HA.out h0;subst hA;have HT:=hid (fun u (hb:KB wr.heap.size wr u)=>Texts.kb (HA.out.kb HB.out) hb);(have i1:(k:Int)+1 < (n:Int):=by omega);(have i0:(k:Int) < (n:Int):=by omega);(have i2:(0:Int)≤(k:Int):=by omega);have HS:=hid (th (l:=l.map bts) (k:=k) (by rw [List.length_map]; exact h1));simp only [List.getElem_map] at HS;have hS:KB wr.heap.size wr wr.drew:=(Below.drew (Below.refl _ _)).kb;(go_upto_region 4 with fail);(refine wpS (fun u=>KB wr.heap.size wr u) (.last [0,1,2,3,4,5,6,7,8,9]) fun iS=>?_);(have q0:=fun (z:SW fun u=>KB wr.heap.size wr u)=>((HT.out z.v z.ok).lay1 h0).2);(have q1:=fun (z:SW fun u=>KB wr.heap.size wr u)=>((HT.out z.v z.ok).lay1 h1).2);(have q2:=fun (z:SW fun u=>KB wr.heap.size wr u)=>((HT.out z.v z.ok).lay1 h0).1);cases hbl:Op.bytesLess (bts l[k]) (bts l[k+1])
   ·have hbl2:Op.bytesLess l[k].toList l[k+1].toList=false:=hbl;rw [hbl] at HS;clear hbl;(with_reducible refine zJ ?_);simp only [zB,pka,pkb,pkc,pkd,pke,pkf];(repeat go_big_quiet_step (fail));refine wpQuiet_nil ?_;clear q0 q1 q2;(go_wp2_with fail);go_ret;exact ⟨by rw [HD.out,HS.out]; rfl,zA HB.out hS⟩
   ·have hbl2:Op.bytesLess l[k].toList l[k+1].toList=true:=hbl;rw [hbl,Bool.true_and] at HS;clear hbl;(with_reducible refine zJ ?_);simp only [zB,pka,pkb,pkc,pkd,pke,pkf];(repeat go_big_quiet_step (fail));refine wpQuiet_nil ?_;clear q0 q1 q2;(go_wp2_with fail);go_roundw
    case rel=>exact ⟨k+1,by go_num,by omega,hid (by rw [HD.out,HS.out]),hid (zA HB.out hS)⟩
    case measure=>simp [intOf]<;>omega
  ·(have i1:¬ (k:Int)+1 < (n:Int):=by omega);have HS:=hid (sa (l:=l.map bts) (k:=k) (by rw [List.length_map,HN.out]; omega));(go_wp2_with fail);go_ret;exact ⟨by first | (rw [HD.out,HS.out]; done) | (rw [HD.out,HS.out]; rfl),HB.out⟩
def qd (l:List FeatL) (k:Nat):Bool:=xF ((l.map fun f=>bts f.name).drop (k - 1))&&(l.drop k).all (ux l)
theorem lm (l:List FeatL):zt l=(decide (l.length≤8)&&qd l 0):=by
 unfold zt qd;rw [Bool.and_assoc]; rfl
theorem ou {l:List FeatL} (h:0 < l.length):qd l 0=(ux l l[0]&&qd l 1):=by
 unfold qd;rw [vx h,Bool.and_left_comm]
theorem nK {l:List FeatL} {j:Nat} (h:j+1 < l.length):qd l (j+1)=((Op.bytesLess (bts l[j].name) (bts l[j+1].name)&&ux l l[j+1])&&qd l (j+1+1)):=by
 unfold qd;rw [Nat.add_sub_cancel,Nat.add_sub_cancel,vx h,th (l:=l.map fun f=>bts f.name) (k:=j) (by rw [List.length_map]; exact h)];simp only [List.getElem_map];cases Op.bytesLess (bts l[j].name) (bts l[j+1].name)<;>cases ux l l[j+1]<;>simp
theorem jU {l:List FeatL} {k:Nat} (h:l.length≤k):qd l k=true:=by
 unfold qd;rw [r9 h,sa (by rw [List.length_map]; omega)]; rfl
theorem Zs {l:List FeatL} {f:FeatL} (h:zY (bts f.name)=false∨6 < f.of_.length∨xF (f.of_.map bts)=false∨f.of_.all (xi l)=false):ux l f=false:=by
 unfold ux;rcases h with h | h | h | h
 ·rw [h]; rfl
 ·rw [decide_eq_false (by omega)]; simp
 ·rw [h]; simp
 ·rw [h]; simp
theorem cF {l:List FeatL} {f:FeatL} (h1:zY (bts f.name)=true) (h2:f.of_.length≤6) (h3:xF (f.of_.map bts)=true) (h4:f.of_.all (xi l)=true):ux l f=true:=by
 unfold ux;rw [h1,h3,h4,decide_eq_true h2]; rfl
def yP (f:FeatL):Prop:=∀ s∈f.of_,s.size≤2097152
theorem m2 {l:List FeatL} {s:ByteArray} (h:(xp (bts s)).1=0):xi l s=false:=by
 unfold xi; simp only [h,decide_true,Bool.not_true,Bool.false_and]
theorem lB {l:List FeatL} {s:ByteArray} (h:(xp (bts s)).1=1):xi l s=tT l (xp (bts s)).2.1:=by
 unfold xi; simp [h]
theorem lK {l:List FeatL} {s:ByteArray} (h:(xp (bts s)).1≠0) (h1:(xp (bts s)).1≠1):xi l s=true:=by
 unfold xi; simp [h,h1]
theorem YG (A:Option Addr) (c:Nat) (l:List FeatL) (w:World) (hL:Laid w) (h:RowOf 2 FeatAt w A l) (hn:l.length≤9223372036854775807) (hsm:∀ f∈l,yP f):Calls Tryz.prog 114 #[.slice A l.length c] w (yT w (zt l)):=by
 have HA:=hid h;have HL:=hid hL;have HSM:=hid hsm;have HKN:=hid (fun x u (hb:KB w.heap.size w u)=>dQ A c l x u (h.kb FeatAt.stays hb) hn);have HMM:=hid (lm l);clear h hsm hL;generalize hnn:l.length=n at *;have HN:=hid hnn;clear hnn;by_cases h8:n≤8
 ·(have i8:¬ (8:Int) < (n:Int):=by omega);rw [decide_eq_true h8,Bool.true_and] at HMM;go_enter Tryz.func114,Tryz.ntmps114;(go_upto_block 0 with fail);(go_wp2_with fail);go_loopw [15] (fun i wr=>∃ k:Nat,i = .int .i64 (k:Int)∧k≤n∧Hid (zt l=qd l k)∧Hid (KB w.heap.size w wr)) (fun i _=>n - (intOf i).toNat)
  case atStart=>exact ⟨0,rfl,Nat.zero_le _,HMM,hid (zH _)⟩
  case round =>
   obtain ⟨k,rfl,hk,HD,HB⟩:=hrel;by_cases hlt:k < n
   ·(have hl:k < l.length:=by rw [HN.out]; exact hlt);obtain ⟨b,off,A',c',hA,hbl,y0,y1,htx,hol⟩:=vc (HA.out.kb FeatAt.stays HB.out) hl;have HFS:=hid (HSM.out _ (List.getElem_mem hl));(have i0:(0:Int)≤(k:Int):=by omega);(have i1:(k:Int) < (n:Int):=by omega);have HTX:=hid htx;have HOL:=hid hol;have HFO:=hid (fun hh=>Zs (l:=l) (f:=l[k]'hl) hh);have HFY:=hid (fun h1 h2 h3 h4=>cF (l:=l) (f:=l[k]'hl) h1 h2 h3 h4);clear htx hol;rcases k with _ | j
    ·have HST:=hid (ou hl);subst hA;generalize l[0]=f at *;obtain ⟨nm,of⟩:=f;dsimp only at y0 y1 HTX HOL HFO HFY HFS;simp only [Nat.zero_mul,Nat.add_zero] at y0 y1;(go_upto_region 6 with fail);refine zI ?_;intro u1 hu;have HX:=hid (show Box u1 wr.heap.size [.string nm,.slice A' of.length c'] by rw [hu]; exact Box.new wr [.string nm,.slice A' of.length c'] 172);have HB0:=hid (show KB wr.heap.size wr u1 by rw [hu]; exact zG _ _);have HB1:=hid (zA HB.out HB0.out);replace HTX:=hid (Texts.kb HTX.out HB0.out);clear hu y0 y1 hbl;generalize wr.heap.size=q at *;have HW:=hid (fun u=>wS nm u);have HR:=hid (fun u (hb:KB u1.heap.size u1 u)=>nD A' c' of u (HTX.out.kb hb) HOL.out);cases hw:zY (bts nm)
     ·have HE:=hid (show zt l=false from HD.out.trans (HST.out.trans (by rw [HFO.out (.inl hw)]<;>simp)));rw [hw] at HW;clear hw;have hS:KB u1.heap.size u1 u1.drew:=zM (zH _);(refine wpS (fun u=>KB u1.heap.size u1 u) (.call [0,1] 2 (.call [3,4,5,6,7,8,9,10,11,12,13,14,15,16,17,18,19,20,21,22,23,24,25,26,27] 28 (.last [29,30]))) fun iS=>?_);(have q0:=fun (z:SW fun u=>KB u1.heap.size u1 u)=>(HX.out.kb z.ok).2 0 _ rfl);(have q1:=fun (z:SW fun u=>KB u1.heap.size u1 u)=>(HX.out.kb z.ok).2 1 _ rfl);(have q2:=fun (z:SW fun u=>KB u1.heap.size u1 u)=>(HX.out.kb z.ok).1);(with_reducible refine zD ?_);simp only [zB,pka,pkb,pkc,pkd,pke,pkf];(repeat go_big_quiet_step (fail));refine wpQuiet_nil ?_;(go_wp2_with fail);refine (HW.out _).mono ?_;rintro _ u2 ⟨rfl,hb⟩;have HB2:=hid (show KB u1.heap.size u1 u2 from Go.RowKit.Below.trans hS hb.kb);clear hb;(go_wp2_with fail);refine zE (HB2.out) ?_;(with_reducible refine zD ?_);simp only [zB,pka,pkb,pkc,pkd,pke,pkf];(repeat go_big_quiet_step (fail));refine wpQuiet_nil ?_;(go_wp2_with fail);refine zE HB2.out ?_;have HB3:=HB2;(with_reducible refine zJ ?_);simp only [zB,pka,pkb,pkc,pkd,pke,pkf];(repeat go_big_quiet_step (fail));refine wpQuiet_nil ?_;clear q0 q1 q2 iS hS;(go_wp2_with fail);(try rw [Exit.noGoto_ret]);(try go_ret);exact ⟨by first | (rw [HE.out]; done) | (rw [HE.out]; rfl),zA HB1.out HB3.out⟩
     ·rw [hw] at HW;by_cases h6:of.length≤6
      ·cases hr:xF (of.map bts)
       ·have HE:=hid (show zt l=false from HD.out.trans (HST.out.trans (by rw [HFO.out (.inr (.inr (.inl hr)))]<;>simp)));rw [hr] at HR;(have i6:decide ((6:Int) < (of.length:Int))=false:=by rw [decide_eq_false_iff_not]; omega);clear hw hr;have hS:KB u1.heap.size u1 u1.drew:=zM (zH _);(refine wpS (fun u=>KB u1.heap.size u1 u) (.call [0,1] 2 (.call [3,4,5,6,7,8,9,10,11,12,13,14,15,16,17,18,19,20,21,22,23,24,25,26,27] 28 (.last [29,30]))) fun iS=>?_);(have q0:=fun (z:SW fun u=>KB u1.heap.size u1 u)=>(HX.out.kb z.ok).2 0 _ rfl);(have q1:=fun (z:SW fun u=>KB u1.heap.size u1 u)=>(HX.out.kb z.ok).2 1 _ rfl);(have q2:=fun (z:SW fun u=>KB u1.heap.size u1 u)=>(HX.out.kb z.ok).1);(with_reducible refine zD ?_);simp only [zB,pka,pkb,pkc,pkd,pke,pkf];(repeat go_big_quiet_step (fail));refine wpQuiet_nil ?_;(go_wp2_with fail);refine (HW.out _).mono ?_;rintro _ u2 ⟨rfl,hb⟩;have HB2:=hid (show KB u1.heap.size u1 u2 from Go.RowKit.Below.trans hS hb.kb);clear hb;(go_wp2_with fail);refine zE (HB2.out) ?_;(with_reducible refine zD ?_);simp only [zB,pka,pkb,pkc,pkd,pke,pkf];(repeat go_big_quiet_step (fail));refine wpQuiet_nil ?_;(go_wp2_with fail);refine (HR.out _ HB2.out).mono ?_;rintro _ u3 ⟨rfl,hb⟩;have HB3:=hid (show KB u1.heap.size u1 u3 from zA HB2.out hb);clear hb;(go_wp2_with fail);refine zE (HB3.out) ?_;(with_reducible refine zJ ?_);simp only [zB,pka,pkb,pkc,pkd,pke,pkf]
        (repeat go_big_quiet_step (fail));refine wpQuiet_nil ?_;clear q0 q1 q2 iS hS;(go_wp2_with fail);(try rw [Exit.noGoto_ret]);(try go_ret);exact ⟨by first | (rw [HE.out]; done) | (rw [HE.out]; rfl),zA HB1.out HB3.out⟩
       ·rw [hr] at HR;replace HFY:=hid (HFY.out hw h6 hr);have HFN:=hid (fun h=>HFO.out (.inr (.inr (.inr h))));(have i6:decide ((6:Int) < (of.length:Int))=false:=by rw [decide_eq_false_iff_not]; omega);clear hw hr;have hS:KB u1.heap.size u1 u1.drew:=zM (zH _);(refine wpS (fun u=>KB u1.heap.size u1 u) (.call [0,1] 2 (.call [3,4,5,6,7,8,9,10,11,12,13,14,15,16,17,18,19,20,21,22,23,24,25,26,27] 28 (.last [29,30]))) fun iS=>?_);(have q0:=fun (z:SW fun u=>KB u1.heap.size u1 u)=>(HX.out.kb z.ok).2 0 _ rfl);(have q1:=fun (z:SW fun u=>KB u1.heap.size u1 u)=>(HX.out.kb z.ok).2 1 _ rfl);(have q2:=fun (z:SW fun u=>KB u1.heap.size u1 u)=>(HX.out.kb z.ok).1);(with_reducible refine zD ?_);simp only [zB,pka,pkb,pkc,pkd,pke,pkf];(repeat go_big_quiet_step (fail));refine wpQuiet_nil ?_;(go_wp2_with fail);refine (HW.out _).mono ?_;rintro _ u2 ⟨rfl,hb⟩;have HB2:=hid (show KB u1.heap.size u1 u2 from Go.RowKit.Below.trans hS hb.kb);clear hb;(go_wp2_with fail);refine zE (HB2.out) ?_;(with_reducible refine zD ?_);simp only [zB,pka,pkb,pkc,pkd,pke,pkf];(repeat go_big_quiet_step (fail));refine wpQuiet_nil ?_;(go_wp2_with fail);refine (HR.out _ HB2.out).mono ?_;rintro _ u3 ⟨rfl,hb⟩;have HB3:=hid (show KB u1.heap.size u1 u3 from zA HB2.out hb);clear hb;(go_wp2_with fail);refine zE (HB3.out) ?_;(with_reducible refine zJ ?_);simp only [zB,pka,pkb,pkc,pkd,pke,pkf]
        (repeat go_big_quiet_step (fail));refine wpQuiet_nil ?_;clear q0 q1 q2 iS hS;have HX3:=hid (HX.out.kb HB3.out);have HTX3:=hid (Texts.kb HTX.out HB3.out);have HB4:=hid (zA HB1.out HB3.out);have x1:=HX3.out.2 1 _ rfl;have xl:=HX3.out.1;clear HW HR HX HB0 HB1 HB2 HB3;generalize hm:of.length=m at *;have HM:=hid hm;clear hm;(go_wp2_with fail);go_loopw [54] (fun i ur=>∃ p:Nat,i = .int .i64 (p:Int)∧p≤m∧Hid (of.all (xi l)=(of.drop p).all (xi l))∧Hid (KB u3.heap.size u3 ur)) (fun i _=>m - (intOf i).toNat)
        case atStart=>exact ⟨0,rfl,Nat.zero_le _,hid rfl,hid (zH _)⟩
        case round =>
         (rename World=>ur);obtain ⟨p,rfl,hp,HD2,HBU⟩:=hrel;by_cases hlp:p < m
         ·(have hlp':p < of.length:=by rw [HM.out]; exact hlp);obtain ⟨b4,off4,hA4,hbl4,cx⟩:=Texts.cell (HTX3.out.kb HBU.out) hlp';subst hA4;(have p0:(0:Int)≤(p:Int):=by omega);(have p1:(p:Int) < (m:Int):=by omega);have HSP:=hid (vx (p:=xi l) hlp');have hz:=HFS.out _ (List.getElem_mem hlp');generalize of[p]=s at *;have HBW:=hid (zA HB4.out HBU.out);have HIT:=hid (mJ s ur (HL.out.kb HBW.out) hz);have HI0:=hid (fun h=>m2 (l:=l) (s:=s) h);have HI1:=hid (fun h=>lB (l:=l) (s:=s) h);have HI2:=hid (fun h h1=>lK (l:=l) (s:=s) h h1);clear hz;generalize xp (bts s)=r at *;obtain ⟨r1,r2,r3⟩:=r;(go_wp2_with fail);refine HIT.out.mono ?_;rintro _ u4 ⟨xa,xb,rfl,hxa,-,hb⟩;have HB5:=hid (zA HBU.out hb);have HBW5:=hid (zA HBW.out hb);have HKX:=hid (HKN.out xa u4 HBW5.out);dsimp only at hxa HI0 HI1 HI2;rw [hxa] at HKX;clear hb hxa;by_cases e0:r1=0
          ·have HO:=hid (HI0.out e0);(have f0:(r1==0)=true:=by rw [beq_iff_eq]; exact e0);have HE:=hid (show zt l=false from HD.out.trans (HST.out.trans (by rw [HFN.out (by rw [HD2.out,HSP.out,HO.out]; rfl)]<;>simp)));clear e0;(go_wp2_with fail);(try rw [Exit.noGoto_ret]);(try go_ret);exact ⟨by first | (rw [HE.out]; done) | (rw [HE.out]; rfl),HBW5.out⟩
          ·(have f0:(r1==0)=false:=by rw [beq_eq_false_iff_ne]; exact e0);by_cases e1:r1=1
           ·have HO:=hid (HI1.out e1);(have f1:(r1==1)=true:=by rw [beq_iff_eq]; exact e1);clear e0 e1;cases hkn:tT l r2
            ·rw [hkn] at HKX HO;have HE:=hid (show zt l=false from HD.out.trans (HST.out.trans (by rw [HFN.out (by rw [HD2.out,HSP.out,HO.out]; rfl)]<;>simp)));clear hkn;(go_wp2_with fail);refine HKX.out.mono ?_;rintro _ u5 ⟨rfl,hb⟩;have HBW6:=hid (zA HBW5.out hb);clear hb;(go_wp2_with fail);(try rw [Exit.noGoto_ret]);(try go_ret);exact ⟨by first | (rw [HE.out]; done) | (rw [HE.out]; rfl),HBW6.out⟩
            ·rw [hkn] at HKX HO;clear hkn;(go_wp2_with fail);refine HKX.out.mono ?_;rintro _ u5 ⟨rfl,hb⟩;have HB6:=hid (zA HB5.out hb);clear hb;(go_wp2_with fail);go_roundw
             case rel=>exact ⟨p+1,by go_num,by omega,hid (by rw [HD2.out,HSP.out,HO.out,Bool.true_and]),HB6⟩
             case measure=>simp [intOf]<;>omega
           ·(have f1:(r1==1)=false:=by rw [beq_eq_false_iff_ne]; exact e1);have HO:=hid (HI2.out e0 e1);clear e0 e1;(go_wp2_with fail);go_roundw
            case rel=>exact ⟨p+1,by go_num,by omega,hid (by rw [HD2.out,HSP.out,HO.out,Bool.true_and]),HB5⟩
            case measure=>simp [intOf]<;>omega
         ·(obtain rfl:p=m:=by omega);(have p1:¬ (p:Int) < (p:Int):=by omega);have HO:=hid (HFY.out (by rw [HD2.out,r9 (by rw [HM.out]; exact Nat.le_refl _)]));(go_wp2_with fail);go_roundw
          case rel=>exact ⟨1,by go_num,by omega,hid (by rw [HD.out,HST.out,HO.out,Bool.true_and]),hid (zA HB4.out HBU.out)⟩
          case measure=>simp [intOf]<;>omega
      ·have HE:=hid (show zt l=false from HD.out.trans (HST.out.trans (by rw [HFO.out (.inr (.inl (by omega)))]<;>simp)));(have i6:decide ((6:Int) < (of.length:Int))=true:=by rw [decide_eq_true_iff]; omega);clear hw;have hS:KB u1.heap.size u1 u1.drew:=zM (zH _);(refine wpS (fun u=>KB u1.heap.size u1 u) (.call [0,1] 2 (.call [3,4,5,6,7,8,9,10,11,12,13,14,15,16,17,18,19,20,21,22,23,24,25,26,27] 28 (.last [29,30]))) fun iS=>?_);(have q0:=fun (z:SW fun u=>KB u1.heap.size u1 u)=>(HX.out.kb z.ok).2 0 _ rfl);(have q1:=fun (z:SW fun u=>KB u1.heap.size u1 u)=>(HX.out.kb z.ok).2 1 _ rfl);(have q2:=fun (z:SW fun u=>KB u1.heap.size u1 u)=>(HX.out.kb z.ok).1);(with_reducible refine zD ?_);simp only [zB,pka,pkb,pkc,pkd,pke,pkf];(repeat go_big_quiet_step (fail));refine wpQuiet_nil ?_;(go_wp2_with fail);refine (HW.out _).mono ?_;rintro _ u2 ⟨rfl,hb⟩;have HB2:=hid (show KB u1.heap.size u1 u2 from Go.RowKit.Below.trans hS hb.kb);clear hb;(go_wp2_with fail);refine zE (HB2.out) ?_;(with_reducible refine zD ?_);simp only [zB,pka,pkb,pkc,pkd,pke,pkf];(repeat go_big_quiet_step (fail));refine wpQuiet_nil ?_;(go_wp2_with fail);refine zE HB2.out ?_;have HB3:=HB2;(with_reducible refine zJ ?_);simp only [zB,pka,pkb,pkc,pkd,pke,pkf];(repeat go_big_quiet_step (fail));refine wpQuiet_nil ?_;clear q0 q1 q2 iS hS;(go_wp2_with fail);try rw [Exit.noGoto_ret]
       (try go_ret);exact ⟨by first | (rw [HE.out]; done) | (rw [HE.out]; rfl),zA HB1.out HB3.out⟩
    ·have HST:=hid (nK hl);obtain ⟨b',off',A2,c2,hA2,-,w0,-,-,-⟩:=vc (HA.out.kb FeatAt.stays HB.out) (Nat.lt_of_succ_lt hl);have HW0:=hid w0
     have HPV0:=hid (fun u (hb:KB wr.heap.size wr u)=>(show b < u.heap.size∧u.cell? ⟨b,off+j * 2,none⟩=some (.string l[j].name) by
      obtain ⟨b3,off3,A3,c3,hA3,hl3,h3,-⟩:=vc ((HA.out.kb FeatAt.stays HB.out).kb FeatAt.stays hb) (Nat.lt_of_succ_lt hl);rw [hA] at hA3;(injection hA3 with e);(injection e with e1 e2 e3);subst e1; subst e2
      exact ⟨hl3,h3⟩))
     clear hA2 w0 HW0;subst hA;generalize l[j+1]=f at *;obtain ⟨nm,of⟩:=f;dsimp only at y0 y1 HTX HOL HFO HFY HFS;generalize l[j].name=pm at *;(have j0:(0:Int)≤(j:Int):=by omega);(have j1:(j:Int) < (n:Int):=by omega);(have j2:decide ((0:Int) < (j:Int)+1)=true:=by rw [decide_eq_true_iff]; omega);(go_upto_region 6 with fail);refine zI ?_;intro u1 hu;have HX:=hid (show Box u1 wr.heap.size [.string nm,.slice A' of.length c'] by rw [hu]; exact Box.new wr [.string nm,.slice A' of.length c'] 172);have HB0:=hid (show KB wr.heap.size wr u1 by rw [hu]; exact zG _ _);have HB1:=hid (zA HB.out HB0.out);have HPV:=hid (fun u (hb:KB u1.heap.size u1 u)=>HPV0.out u (zA HB0.out hb));replace HTX:=hid (Texts.kb HTX.out HB0.out);clear hu y0 y1 hbl;generalize wr.heap.size=q at *;have HW:=hid (fun u=>wS nm u);have HR:=hid (fun u (hb:KB u1.heap.size u1 u)=>nD A' c' of u (HTX.out.kb hb) HOL.out);cases hw:zY (bts nm)
     ·have HE:=hid (show zt l=false from HD.out.trans (HST.out.trans (by rw [HFO.out (.inl hw)]<;>simp)));rw [hw] at HW;clear hw;have hS:KB u1.heap.size u1 u1.drew:=zM (zH _);(refine wpS (fun u=>KB u1.heap.size u1 u) (.call [0,1] 2 (.call [3,4,5,6,7,8,9,10,11,12,13,14,15,16,17,18,19,20,21,22,23,24,25,26,27] 28 (.last [29,30]))) fun iS=>?_);(have q0:=fun (z:SW fun u=>KB u1.heap.size u1 u)=>(HX.out.kb z.ok).2 0 _ rfl);(have q1:=fun (z:SW fun u=>KB u1.heap.size u1 u)=>(HX.out.kb z.ok).2 1 _ rfl);(have q2:=fun (z:SW fun u=>KB u1.heap.size u1 u)=>(HX.out.kb z.ok).1);(have q3:=fun (z:SW fun u=>KB u1.heap.size u1 u)=>(HPV.out z.v z.ok).1);(have q4:=fun (z:SW fun u=>KB u1.heap.size u1 u)=>(HPV.out z.v z.ok).2);(with_reducible refine zD ?_);simp only [zB,pka,pkb,pkc,pkd,pke,pkf];(repeat go_big_quiet_step (fail));refine wpQuiet_nil ?_;(go_wp2_with fail);refine (HW.out _).mono ?_;rintro _ u2 ⟨rfl,hb⟩;have HB2:=hid (show KB u1.heap.size u1 u2 from Go.RowKit.Below.trans hS hb.kb);clear hb;(go_wp2_with fail);refine zE (HB2.out) ?_;(with_reducible refine zD ?_);simp only [zB,pka,pkb,pkc,pkd,pke,pkf];(repeat go_big_quiet_step (fail));refine wpQuiet_nil ?_;(go_wp2_with fail);refine zE HB2.out ?_;have HB3:=HB2;(with_reducible refine zJ ?_);simp only [zB,pka,pkb,pkc,pkd,pke,pkf];(repeat go_big_quiet_step (fail));refine wpQuiet_nil ?_
      clear q0 q1 q2 iS hS q3 q4;(go_wp2_with fail);(try rw [Exit.noGoto_ret]);(try go_ret);exact ⟨by first | (rw [HE.out]; done) | (rw [HE.out]; rfl),zA HB1.out HB3.out⟩
     ·rw [hw] at HW;cases hls:Op.bytesLess (bts pm) (bts nm)
      ·have HE:=hid (show zt l=false from HD.out.trans (HST.out.trans (by rw [hls]<;>simp)));have hls2:Op.bytesLess pm.toList nm.toList=false:=hls;clear hls hw;have hS:KB u1.heap.size u1 u1.drew:=zM (zH _);(refine wpS (fun u=>KB u1.heap.size u1 u) (.call [0,1] 2 (.call [3,4,5,6,7,8,9,10,11,12,13,14,15,16,17,18,19,20,21,22,23,24,25,26,27] 28 (.last [29,30]))) fun iS=>?_);(have q0:=fun (z:SW fun u=>KB u1.heap.size u1 u)=>(HX.out.kb z.ok).2 0 _ rfl);(have q1:=fun (z:SW fun u=>KB u1.heap.size u1 u)=>(HX.out.kb z.ok).2 1 _ rfl);(have q2:=fun (z:SW fun u=>KB u1.heap.size u1 u)=>(HX.out.kb z.ok).1);(have q3:=fun (z:SW fun u=>KB u1.heap.size u1 u)=>(HPV.out z.v z.ok).1);(have q4:=fun (z:SW fun u=>KB u1.heap.size u1 u)=>(HPV.out z.v z.ok).2);(with_reducible refine zD ?_);simp only [zB,pka,pkb,pkc,pkd,pke,pkf];(repeat go_big_quiet_step (fail));refine wpQuiet_nil ?_;(go_wp2_with fail);refine (HW.out _).mono ?_;rintro _ u2 ⟨rfl,hb⟩;have HB2:=hid (show KB u1.heap.size u1 u2 from Go.RowKit.Below.trans hS hb.kb);clear hb;(go_wp2_with fail);refine zE (HB2.out) ?_;(with_reducible refine zD ?_);simp only [zB,pka,pkb,pkc,pkd,pke,pkf];(repeat go_big_quiet_step (fail));refine wpQuiet_nil ?_;(go_wp2_with fail);refine zE HB2.out ?_;have HB3:=HB2;(with_reducible refine zJ ?_);simp only [zB,pka,pkb,pkc,pkd,pke,pkf];repeat go_big_quiet_step (fail)
       refine wpQuiet_nil ?_;clear q0 q1 q2 iS hS q3 q4;(go_wp2_with fail);(try rw [Exit.noGoto_ret]);(try go_ret);exact ⟨by first | (rw [HE.out]; done) | (rw [HE.out]; rfl),zA HB1.out HB3.out⟩
      ·rw [hls,Bool.true_and] at HST;have hls2:Op.bytesLess pm.toList nm.toList=true:=hls;clear hls;by_cases h6:of.length≤6
       ·cases hr:xF (of.map bts)
        ·have HE:=hid (show zt l=false from HD.out.trans (HST.out.trans (by rw [HFO.out (.inr (.inr (.inl hr)))]<;>simp)));rw [hr] at HR;(have i6:decide ((6:Int) < (of.length:Int))=false:=by rw [decide_eq_false_iff_not]; omega);clear hw hr;have hS:KB u1.heap.size u1 u1.drew:=zM (zH _);(refine wpS (fun u=>KB u1.heap.size u1 u) (.call [0,1] 2 (.call [3,4,5,6,7,8,9,10,11,12,13,14,15,16,17,18,19,20,21,22,23,24,25,26,27] 28 (.last [29,30]))) fun iS=>?_);(have q0:=fun (z:SW fun u=>KB u1.heap.size u1 u)=>(HX.out.kb z.ok).2 0 _ rfl);(have q1:=fun (z:SW fun u=>KB u1.heap.size u1 u)=>(HX.out.kb z.ok).2 1 _ rfl);(have q2:=fun (z:SW fun u=>KB u1.heap.size u1 u)=>(HX.out.kb z.ok).1);(have q3:=fun (z:SW fun u=>KB u1.heap.size u1 u)=>(HPV.out z.v z.ok).1);(have q4:=fun (z:SW fun u=>KB u1.heap.size u1 u)=>(HPV.out z.v z.ok).2);(with_reducible refine zD ?_);simp only [zB,pka,pkb,pkc,pkd,pke,pkf];(repeat go_big_quiet_step (fail));refine wpQuiet_nil ?_;(go_wp2_with fail);refine (HW.out _).mono ?_;rintro _ u2 ⟨rfl,hb⟩;have HB2:=hid (show KB u1.heap.size u1 u2 from Go.RowKit.Below.trans hS hb.kb);clear hb;(go_wp2_with fail);refine zE (HB2.out) ?_;(with_reducible refine zD ?_);simp only [zB,pka,pkb,pkc,pkd,pke,pkf];(repeat go_big_quiet_step (fail));refine wpQuiet_nil ?_;(go_wp2_with fail);refine (HR.out _ HB2.out).mono ?_;rintro _ u3 ⟨rfl,hb⟩;have HB3:=hid (show KB u1.heap.size u1 u3 from zA HB2.out hb)
         clear hb;(go_wp2_with fail);refine zE (HB3.out) ?_;(with_reducible refine zJ ?_);simp only [zB,pka,pkb,pkc,pkd,pke,pkf];(repeat go_big_quiet_step (fail));refine wpQuiet_nil ?_;clear q0 q1 q2 iS hS q3 q4;(go_wp2_with fail);(try rw [Exit.noGoto_ret]);(try go_ret);exact ⟨by first | (rw [HE.out]; done) | (rw [HE.out]; rfl),zA HB1.out HB3.out⟩
        ·rw [hr] at HR;replace HFY:=hid (HFY.out hw h6 hr);have HFN:=hid (fun h=>HFO.out (.inr (.inr (.inr h))));(have i6:decide ((6:Int) < (of.length:Int))=false:=by rw [decide_eq_false_iff_not]; omega);clear hw hr;have hS:KB u1.heap.size u1 u1.drew:=zM (zH _);(refine wpS (fun u=>KB u1.heap.size u1 u) (.call [0,1] 2 (.call [3,4,5,6,7,8,9,10,11,12,13,14,15,16,17,18,19,20,21,22,23,24,25,26,27] 28 (.last [29,30]))) fun iS=>?_);(have q0:=fun (z:SW fun u=>KB u1.heap.size u1 u)=>(HX.out.kb z.ok).2 0 _ rfl);(have q1:=fun (z:SW fun u=>KB u1.heap.size u1 u)=>(HX.out.kb z.ok).2 1 _ rfl);(have q2:=fun (z:SW fun u=>KB u1.heap.size u1 u)=>(HX.out.kb z.ok).1);(have q3:=fun (z:SW fun u=>KB u1.heap.size u1 u)=>(HPV.out z.v z.ok).1);(have q4:=fun (z:SW fun u=>KB u1.heap.size u1 u)=>(HPV.out z.v z.ok).2);(with_reducible refine zD ?_);simp only [zB,pka,pkb,pkc,pkd,pke,pkf];(repeat go_big_quiet_step (fail));refine wpQuiet_nil ?_;(go_wp2_with fail);refine (HW.out _).mono ?_;rintro _ u2 ⟨rfl,hb⟩;have HB2:=hid (show KB u1.heap.size u1 u2 from Go.RowKit.Below.trans hS hb.kb);clear hb;(go_wp2_with fail);refine zE (HB2.out) ?_;(with_reducible refine zD ?_);simp only [zB,pka,pkb,pkc,pkd,pke,pkf];(repeat go_big_quiet_step (fail));refine wpQuiet_nil ?_;(go_wp2_with fail);refine (HR.out _ HB2.out).mono ?_;rintro _ u3 ⟨rfl,hb⟩;have HB3:=hid (show KB u1.heap.size u1 u3 from zA HB2.out hb)
         clear hb;(go_wp2_with fail);refine zE (HB3.out) ?_;(with_reducible refine zJ ?_);simp only [zB,pka,pkb,pkc,pkd,pke,pkf];(repeat go_big_quiet_step (fail));refine wpQuiet_nil ?_;clear q0 q1 q2 iS hS q3 q4;have HX3:=hid (HX.out.kb HB3.out);have HTX3:=hid (Texts.kb HTX.out HB3.out);have HB4:=hid (zA HB1.out HB3.out);have x1:=HX3.out.2 1 _ rfl;have xl:=HX3.out.1;clear HW HR HX HB0 HB1 HB2 HB3;generalize hm:of.length=m at *;have HM:=hid hm;clear hm;(go_wp2_with fail);go_loopw [54] (fun i ur=>∃ p:Nat,i = .int .i64 (p:Int)∧p≤m∧Hid (of.all (xi l)=(of.drop p).all (xi l))∧Hid (KB u3.heap.size u3 ur)) (fun i _=>m - (intOf i).toNat)
         case atStart=>exact ⟨0,rfl,Nat.zero_le _,hid rfl,hid (zH _)⟩
         case round =>
          (rename World=>ur);obtain ⟨p,rfl,hp,HD2,HBU⟩:=hrel;by_cases hlp:p < m
          ·(have hlp':p < of.length:=by rw [HM.out]; exact hlp);obtain ⟨b4,off4,hA4,hbl4,cx⟩:=Texts.cell (HTX3.out.kb HBU.out) hlp';subst hA4;(have p0:(0:Int)≤(p:Int):=by omega);(have p1:(p:Int) < (m:Int):=by omega);have HSP:=hid (vx (p:=xi l) hlp');have hz:=HFS.out _ (List.getElem_mem hlp');generalize of[p]=s at *;have HBW:=hid (zA HB4.out HBU.out);have HIT:=hid (mJ s ur (HL.out.kb HBW.out) hz);have HI0:=hid (fun h=>m2 (l:=l) (s:=s) h);have HI1:=hid (fun h=>lB (l:=l) (s:=s) h);have HI2:=hid (fun h h1=>lK (l:=l) (s:=s) h h1);clear hz;generalize xp (bts s)=r at *;obtain ⟨r1,r2,r3⟩:=r;(go_wp2_with fail);refine HIT.out.mono ?_;rintro _ u4 ⟨xa,xb,rfl,hxa,-,hb⟩;have HB5:=hid (zA HBU.out hb);have HBW5:=hid (zA HBW.out hb);have HKX:=hid (HKN.out xa u4 HBW5.out);dsimp only at hxa HI0 HI1 HI2;rw [hxa] at HKX;clear hb hxa;by_cases e0:r1=0
           ·have HO:=hid (HI0.out e0);(have f0:(r1==0)=true:=by rw [beq_iff_eq]; exact e0);have HE:=hid (show zt l=false from HD.out.trans (HST.out.trans (by rw [HFN.out (by rw [HD2.out,HSP.out,HO.out]; rfl)]<;>simp)));clear e0;(go_wp2_with fail);(try rw [Exit.noGoto_ret]);(try go_ret);exact ⟨by first | (rw [HE.out]; done) | (rw [HE.out]; rfl),HBW5.out⟩
           ·(have f0:(r1==0)=false:=by rw [beq_eq_false_iff_ne]; exact e0);by_cases e1:r1=1
            ·have HO:=hid (HI1.out e1);(have f1:(r1==1)=true:=by rw [beq_iff_eq]; exact e1);clear e0 e1;cases hkn:tT l r2
             ·rw [hkn] at HKX HO;have HE:=hid (show zt l=false from HD.out.trans (HST.out.trans (by rw [HFN.out (by rw [HD2.out,HSP.out,HO.out]; rfl)]<;>simp)));clear hkn;(go_wp2_with fail);refine HKX.out.mono ?_;rintro _ u5 ⟨rfl,hb⟩;have HBW6:=hid (zA HBW5.out hb);clear hb;(go_wp2_with fail);(try rw [Exit.noGoto_ret]);(try go_ret);exact ⟨by first | (rw [HE.out]; done) | (rw [HE.out]; rfl),HBW6.out⟩
             ·rw [hkn] at HKX HO;clear hkn;(go_wp2_with fail);refine HKX.out.mono ?_;rintro _ u5 ⟨rfl,hb⟩;have HB6:=hid (zA HB5.out hb);clear hb;(go_wp2_with fail);go_roundw
              case rel=>exact ⟨p+1,by go_num,by omega,hid (by rw [HD2.out,HSP.out,HO.out,Bool.true_and]),HB6⟩
              case measure=>simp [intOf]<;>omega
            ·(have f1:(r1==1)=false:=by rw [beq_eq_false_iff_ne]; exact e1);have HO:=hid (HI2.out e0 e1);clear e0 e1;(go_wp2_with fail);go_roundw
             case rel=>exact ⟨p+1,by go_num,by omega,hid (by rw [HD2.out,HSP.out,HO.out,Bool.true_and]),HB5⟩
             case measure=>simp [intOf]<;>omega
          ·(obtain rfl:p=m:=by omega);(have p1:¬ (p:Int) < (p:Int):=by omega);have HO:=hid (HFY.out (by rw [HD2.out,r9 (by rw [HM.out]; exact Nat.le_refl _)]));(go_wp2_with fail);go_roundw
           case rel=>exact ⟨j+1+1,by go_num,by omega,hid (by rw [HD.out,HST.out,HO.out,Bool.true_and]),hid (zA HB4.out HBU.out)⟩
           case measure=>simp [intOf]<;>omega
       ·have HE:=hid (show zt l=false from HD.out.trans (HST.out.trans (by rw [HFO.out (.inr (.inl (by omega)))]<;>simp)));(have i6:decide ((6:Int) < (of.length:Int))=true:=by rw [decide_eq_true_iff]; omega);clear hw;have hS:KB u1.heap.size u1 u1.drew:=zM (zH _);(refine wpS (fun u=>KB u1.heap.size u1 u) (.call [0,1] 2 (.call [3,4,5,6,7,8,9,10,11,12,13,14,15,16,17,18,19,20,21,22,23,24,25,26,27] 28 (.last [29,30]))) fun iS=>?_);(have q0:=fun (z:SW fun u=>KB u1.heap.size u1 u)=>(HX.out.kb z.ok).2 0 _ rfl);(have q1:=fun (z:SW fun u=>KB u1.heap.size u1 u)=>(HX.out.kb z.ok).2 1 _ rfl);(have q2:=fun (z:SW fun u=>KB u1.heap.size u1 u)=>(HX.out.kb z.ok).1);(have q3:=fun (z:SW fun u=>KB u1.heap.size u1 u)=>(HPV.out z.v z.ok).1);(have q4:=fun (z:SW fun u=>KB u1.heap.size u1 u)=>(HPV.out z.v z.ok).2);(with_reducible refine zD ?_);simp only [zB,pka,pkb,pkc,pkd,pke,pkf];(repeat go_big_quiet_step (fail));refine wpQuiet_nil ?_;(go_wp2_with fail);refine (HW.out _).mono ?_;rintro _ u2 ⟨rfl,hb⟩;have HB2:=hid (show KB u1.heap.size u1 u2 from Go.RowKit.Below.trans hS hb.kb);clear hb;(go_wp2_with fail);refine zE (HB2.out) ?_;(with_reducible refine zD ?_);simp only [zB,pka,pkb,pkc,pkd,pke,pkf];(repeat go_big_quiet_step (fail));refine wpQuiet_nil ?_;(go_wp2_with fail);refine zE HB2.out ?_;have HB3:=HB2;(with_reducible refine zJ ?_);simp only [zB,pka,pkb,pkc,pkd,pke,pkf]
        (repeat go_big_quiet_step (fail));refine wpQuiet_nil ?_;clear q0 q1 q2 iS hS q3 q4;(go_wp2_with fail);(try rw [Exit.noGoto_ret]);(try go_ret);exact ⟨by first | (rw [HE.out]; done) | (rw [HE.out]; rfl),zA HB1.out HB3.out⟩
   ·(obtain rfl:k=n:=by omega);have HE:=hid (jU (l:=l) (k:=k) (by rw [HN.out]; exact Nat.le_refl _));(have i1:¬ (k:Int) < (k:Int):=by omega);(go_wp2_with fail);(try rw [Exit.noGoto_ret]);(try go_ret);exact ⟨by rw [HD.out,HE.out]; rfl,HB.out⟩
 ·(have i8:(8:Int) < (n:Int):=by omega);rw [decide_eq_false h8,Bool.false_and] at HMM;go_enter Tryz.func114,Tryz.ntmps114;(go_wp2_with fail);go_ret;exact ⟨by first | (rw [HMM.out]; done) | (rw [HMM.out]; rfl),zH _⟩
end Go.Proofs.YtiffijoenkcpjaaGreatDoor
