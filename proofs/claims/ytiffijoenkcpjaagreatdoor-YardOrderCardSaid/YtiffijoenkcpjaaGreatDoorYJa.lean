import Derived.Test.YtiffijoenkcpjaaGreatDoorYDg
set_option linter.unusedVariables false
set_option linter.unusedSimpArgs false
set_option maxRecDepth 100000
set_option maxHeartbeats 1600000
namespace Go.Proofs.YtiffijoenkcpjaaGreatDoor
open Go.RowKit Go.Lib
def rT (c:UInt8):Bool:=decide (97≤c.toNat∧c.toNat≤122)
def sH (c:UInt8):Bool:=rT c || zz c || decide (c.toNat=95)
def zY (l:List UInt8):Bool:=decide (1≤l.length∧l.length≤12)&&l.all sH
theorem aF {c:UInt8} (h:sH c=true):c.toNat=95∨(48≤c.toNat∧c.toNat≤57)∨(97≤c.toNat∧c.toNat≤122):=by
 simp only [sH,rT,zz,Bool.or_eq_true,decide_eq_true_eq] at h;omega
theorem XM {c:UInt8} (h:sH c=false):c.toNat < 48∨(57 < c.toNat∧c.toNat < 95)∨c.toNat=96∨122 < c.toNat:=by
 simp only [sH,rT,zz,Bool.or_eq_false_iff,decide_eq_false_iff_not] at h;omega
theorem ml (s:ByteArray) (k:Nat) (h:k < s.size) (hd:sH s[k]=false):(Utf8.decode s k).1 < 48∨(57 < (Utf8.decode s k).1∧(Utf8.decode s k).1 < 95)∨(95 < (Utf8.decode s k).1∧(Utf8.decode s k).1 < 97)∨122 < (Utf8.decode s k).1:=by
 have hc:=XM hd;by_cases ha:s[k].toNat < 128
 ·rw [decode_ascii s k h ha]; simp only; omega
 ·have:=(decode_high s k h (by omega)).1; omega
theorem jh {s:ByteArray} (h:12 < s.size):zY (bts s)=false:=by
 have:=zF s;rw [zY,decide_eq_false (by omega)]; rfl
theorem kf {s:ByteArray} (h:s.size=0):zY (bts s)=false:=by
 have:=zF s;rw [zY,decide_eq_false (by omega)]; rfl
theorem fD {s:ByteArray} {k:Nat} (h:k < s.size) (hd:sH s[k]=false):zY (bts s)=false:=by
 rw [zY,yr s k h hd,Bool.and_false]
theorem lu {s:ByteArray} (h0:0 < s.size) (h:s.size≤12) (ha:((bts s).take s.size).all sH=true):zY (bts s)=true:=by
 have:=zF s;rw [yD] at ha;rw [zY,ha,decide_eq_true (by omega)]; rfl
def vD (p:UInt8):List UInt8→Bool
 | []=>!decide (p.toNat=45)
 | c::t=>(rT c || zz c || (decide (c.toNat=45)&&!decide (p.toNat=45)))&&vD c t
def gS:List UInt8→Bool
 | []=>false
 | c::t=>rT c&&vD c t
def zg (l:List UInt8):Bool:=decide (1≤l.length∧l.length≤16)&&gS l
def uJ (s:ByteArray) (k:Nat) (h:k < s.size):Bool:=if k=0 then rT s[k] else rT s[k] || zz s[k] || (decide (s[k].toNat=45)&&!decide ((s[k - 1]'(by omega)).toNat=45))
def oe (s:ByteArray) (k:Nat):Prop:=∃ h:0 < s.size,k=0∨∃ h:0 < k∧k≤s.size,zg (bts s)=vD (s[k - 1]'(by omega)) ((bts s).drop k)
theorem oY {s:ByteArray} {k:Nat} (h:k < s.size):(bts s).drop k=s[k]::(bts s).drop (k+1):=by
 have e:=List.drop_eq_getElem_cons (l:=bts s) (i:=k) (by rw [zF]; exact h)
 rwa [wR s k h] at e
theorem ri {s:ByteArray} (h:0 < s.size) (h16:s.size≤16):zg (bts s)=(rT s[0]&&vD s[0] ((bts s).drop 1)):=by
 have e:=oY h;rw [List.drop_zero] at e;have hl:=zF s;rw [zg,decide_eq_true (by omega),Bool.true_and];exact congrArg gS e
theorem vH {s:ByteArray} {k:Nat} (h:k < s.size) (h16:s.size≤16) (ha:oe s k) (hc:uJ s k h=true):oe s (k+1):=by
 obtain ⟨h0,ha⟩:=ha;refine ⟨h0,.inr ⟨⟨Nat.succ_pos _,h⟩,?_⟩⟩;simp only [Nat.add_sub_cancel];rcases Nat.eq_zero_or_pos k with rfl | hk
 ·rw [uJ,if_pos rfl] at hc;rw [ri h0 h16,hc,Bool.true_and]
 ·rcases ha with rfl | ⟨h1,ha⟩
  ·omega
  ·rw [uJ,if_neg (by omega)] at hc;rw [ha,oY h,vD,hc,Bool.true_and]
theorem vz {s:ByteArray} {k:Nat} (h:k < s.size) (h16:s.size≤16) (ha:oe s k) (hc:uJ s k h=false):zg (bts s)=false:=by
 obtain ⟨h0,ha⟩:=ha;rcases Nat.eq_zero_or_pos k with rfl | hk
 ·rw [uJ,if_pos rfl] at hc;rw [ri h0 h16,hc,Bool.false_and]
 ·rcases ha with rfl | ⟨h1,ha⟩
  ·omega
  ·rw [uJ,if_neg (by omega)] at hc;rw [ha,oY h,vD,hc,Bool.false_and]
theorem lQ {s:ByteArray} (ha:oe s s.size) (h0:0 < s.size):zg (bts s)=!decide ((s[s.size - 1]'(by omega)).toNat=45):=by
 obtain ⟨_,ha⟩:=ha;rcases ha with h | ⟨h1,ha⟩
 ·omega
 ·have e:(bts s).drop s.size=[]:=List.drop_eq_nil_of_le (by rw [zF]; exact Nat.le_refl _);rw [ha,e,vD]
theorem ch {s:ByteArray} (h0:0 < s.size) (h16:s.size≤16) (ha:oe s (s.size - 1)) (h:(s[s.size - 1]'(by omega)).toNat=45):zg (bts s)=false:=by
 cases hc:uJ s (s.size - 1) (by omega) with
 | false=>exact vz (by omega) h16 ha hc
 | true =>
  have hs:=vH (by omega) h16 ha hc;rw [Nat.sub_add_cancel h0] at hs;rw [lQ hs h0,decide_eq_true h]; rfl
theorem ly {s:ByteArray} (h:16 < s.size):zg (bts s)=false:=by
 have:=zF s;rw [zg,decide_eq_false (by omega)]; rfl
theorem kV {s:ByteArray} (h:s.size=0):zg (bts s)=false:=by
 have:=zF s;rw [zg,decide_eq_false (by omega)]; rfl
theorem wS (s:ByteArray) (w:World):Calls Tryz.prog 154 #[.string s] w (yc w (zY (bts s))):=by
 by_cases h0:0 < s.size
 ·obtain ⟨he,hne⟩:=zj h0;by_cases h12:s.size≤12
  ·(have hd12:decide ((12:Int) < (s.size:Int))=false:=by simp; omega);go_enter Tryz.func154,Tryz.ntmps154;(go_wp2_with fail);go_loopw [4,17] (fun c b wr=>∃ k:Nat,k≤s.size∧Hid (((bts s).take k).all sH=true)∧wr=w.iter s k) (fun _ _ wr=>s.size - wr.iterPos w.heap.size)
   case atStart=>exact ⟨0,Nat.zero_le _,hid rfl,rfl⟩
   case round =>
    obtain ⟨k,hk,HA,rfl⟩:=hrel;by_cases hlt:k < s.size
    ·by_cases hd:sH s[k]=true
     ·have HD:=hid hd;have hc:=aF hd;(have hnx:=fun ty=>run_next_ascii (P:=Tryz.prog) w s k ty hlt (by omega));clear hd;generalize hcc:s[k].toNat=c at *;clear hcc;rcases hc with rfl | ⟨hc1,hc2⟩ | ⟨hc1,hc2⟩
      all_goals
       (go_wp2_with fail);go_roundw
       case rel=>exact ⟨k+1,by omega,hid (yb s k hlt HA.out HD.out),rfl⟩
       case measure=>simp; omega
     ·(have hdf:sH s[k]=false:=by simpa using hd);(have hnx:=fun ty=>run_next_any (P:=Tryz.prog) w s k ty hlt);have hdc:=ml s k hlt hdf;have HE:=hid (fD hlt hdf);clear hd hdf;generalize (Utf8.decode s k).1=c at *;generalize (Utf8.decode s k).2=q at *;(have hc95:((c:Int)==95)=false:=by rw [beq_eq_false_iff_ne]; omega);rcases hdc with hdc | ⟨hdc,hdc2⟩ | ⟨hdc,hdc2⟩ | hdc
      all_goals
       (go_wp2_with fail);(try rw [Exit.noGoto_ret]);go_ret;exact ⟨by first | (rw [HE.out]; done) | (rw [HE.out]; rfl),yU _ _ _⟩
    ·(obtain rfl:k=s.size:=by omega);(have hnx:=fun ty=>run_next_end (P:=Tryz.prog) w s s.size ty (by omega));have HE:=hid (lu h0 h12 HA.out);(go_wp2_with fail);(try rw [Exit.noGoto_ret]);go_ret;exact ⟨by first | (rw [HE.out]; done) | (rw [HE.out]; rfl),yU _ _ _⟩
  ·(have hd12:decide ((12:Int) < (s.size:Int))=true:=by simp; omega);have HE:=hid (jh (s:=s) (by omega));go_enter Tryz.func154,Tryz.ntmps154;(go_wp2_with fail);go_ret;exact ⟨by first | (rw [HE.out]; done) | (rw [HE.out]; rfl),Below.refl _ _⟩
 ·have he:s.toList=[]:=by
   apply List.eq_nil_of_length_eq_zero;have:=zF s;simp only [bts] at this;omega
  have HE:=hid (kf (s:=s) (by omega));go_enter Tryz.func154,Tryz.ntmps154;(go_wp2_with fail);go_ret;exact ⟨by first | (rw [HE.out]; done) | (rw [HE.out]; rfl),Below.refl _ _⟩
theorem jF {s:ByteArray} {k:Nat} {h:k < s.size} (hl:97≤s[k].toNat∧s[k].toNat≤122):uJ s k h=true:=by
 (have:rT s[k]=true:=by simp only [rT,decide_eq_true_eq]; exact hl);unfold uJ;split<;>simp [this]
theorem lz {s:ByteArray} {k:Nat} {h:k < s.size} (hd:48≤s[k].toNat∧s[k].toNat≤57):uJ s k h=!decide (k=0):=by
 (have h1:rT s[k]=false:=by simp only [rT,decide_eq_false_iff_not]; omega);(have h2:zz s[k]=true:=by simp only [zz,decide_eq_true_eq]; exact hd);unfold uJ;split
 ·rename_i h; rw [h1,decide_eq_true h]; rfl
 ·rename_i h; rw [h2,decide_eq_false h]; simp
theorem mE {s:ByteArray} {k:Nat} {h:k < s.size} (hd:s[k].toNat=45) (hk:0 < k):uJ s k h=!decide ((s[k - 1]'(by omega)).toNat=45):=by
 (have h1:rT s[k]=false:=by simp only [rT,decide_eq_false_iff_not]; omega);(have h2:zz s[k]=false:=by simp only [zz,decide_eq_false_iff_not]; omega);unfold uJ;rw [if_neg (by omega),h1,h2,decide_eq_true hd]; rfl
theorem iU {s:ByteArray} {h:0 < s.size} (hd:s[0].toNat=45):uJ s 0 h=false:=by
 (have h1:rT s[0]=false:=by simp only [rT,decide_eq_false_iff_not]; omega);unfold uJ;rw [if_pos rfl,h1]
theorem fq {s:ByteArray} {k:Nat} {h:k < s.size} (h1:rT s[k]=false) (h2:zz s[k]=false) (h3:s[k].toNat≠45):uJ s k h=false:=by
 unfold uJ;split
 ·exact h1
 ·rw [h1,h2,decide_eq_false h3]; rfl
theorem lA (s:ByteArray) (k:Nat) (h:k < s.size) (h1:rT s[k]=false) (h2:zz s[k]=false) (h3:s[k].toNat≠45):(Utf8.decode s k).1 < 45∨(45 < (Utf8.decode s k).1∧(Utf8.decode s k).1 < 48)∨(57 < (Utf8.decode s k).1∧(Utf8.decode s k).1 < 97)∨122 < (Utf8.decode s k).1:=by
 simp only [rT,zz,decide_eq_false_iff_not] at h1 h2;by_cases ha:s[k].toNat < 128
 ·rw [decode_ascii s k h ha]; simp only; omega
 ·have:=(decode_high s k h (by omega)).1; omega
theorem vS (s:ByteArray) (w:World):Calls Tryz.prog 73 #[.string s] w (yc w (zg (bts s))):=by
 by_cases h0:0 < s.size
 ·obtain ⟨he,hne⟩:=zj h0;by_cases h16:s.size≤16
  ·(have hd16:decide ((16:Int) < (s.size:Int))=false:=by simp; omega);go_enter Tryz.func73,Tryz.ntmps73;(go_wp2_with fail);go_loopw [3,4,18,25,34] (fun i c b1 b2 b3 wr=>∃ k:Nat,k≤s.size∧Hid (oe s k)∧Hid (∀ j (h:j < s.size),j+1=k→j+1=s.size→s[j].toNat≠45)∧wr=w.iter s k) (fun _ _ _ _ _ wr=>s.size - wr.iterPos w.heap.size)
   case atStart=>exact ⟨0,Nat.zero_le _,hid ⟨h0,.inl rfl⟩,hid (fun j h e _=>by omega),rfl⟩
   case round =>
    obtain ⟨k,hk,HA,HD,rfl⟩:=hrel;by_cases hlt:k < s.size
    ·by_cases hl:97≤s[k].toNat∧s[k].toNat≤122
     ·have HN:=hid (vH hlt h16 HA.out (jF hl));have HDn:=hid (show ∀ j (h:j < s.size),j+1=k+1→j+1=s.size→s[j].toNat≠45 from fun j hj e1 _=>by have e:j=k:=Nat.succ.inj e1; subst e; omega);(have hnx:=fun ty=>run_next_ascii (P:=Tryz.prog) w s k ty hlt (by omega));obtain ⟨hc1,hc2⟩:=hl;generalize s[k].toNat=c at *;(go_wp2_with fail);go_roundw
      case rel=>exact ⟨k+1,by omega,HN,HDn,rfl⟩
      case measure=>simp; omega
     ·by_cases hd:48≤s[k].toNat∧s[k].toNat≤57
      ·have hC:=lz (h:=hlt) hd;(have hnx:=fun ty=>run_next_ascii (P:=Tryz.prog) w s k ty hlt (by omega));by_cases hk0:k=0
       ·have HE:=hid (vz hlt h16 HA.out (by rw [hC,decide_eq_true hk0]; rfl));clear hC;subst hk0;obtain ⟨hc1,hc2⟩:=hd;generalize s[0].toNat=c at *;(go_wp2_with fail);(try rw [Exit.noGoto_ret]);go_ret;exact ⟨by first | (rw [HE.out]; done) | (rw [HE.out]; rfl),yU _ _ _⟩
       ·have HN:=hid (vH hlt h16 HA.out (by rw [hC,decide_eq_false hk0]; rfl));have HDn:=hid (show ∀ j (h:j < s.size),j+1=k+1→j+1=s.size→s[j].toNat≠45 from fun j hj e1 _=>by have e:j=k:=Nat.succ.inj e1; subst e; omega);(have hk0':((k:Int)==0)=false:=by rw [beq_eq_false_iff_ne]; omega);clear hC;obtain ⟨hc1,hc2⟩:=hd;generalize s[k].toNat=c at *;(go_wp2_with fail);go_roundw
        case rel=>exact ⟨k+1,by omega,HN,HDn,rfl⟩
        case measure=>simp; omega
      ·by_cases h45:s[k].toNat=45
       ·(have hnx:=fun ty=>run_next_ascii (P:=Tryz.prog) w s k ty hlt (by omega));by_cases hk0:k=0
        ·subst hk0;have HE:=hid (vz hlt h16 HA.out (iU h45));generalize s[0].toNat=c at *;subst h45;(go_wp2_with fail);(try rw [Exit.noGoto_ret]);go_ret;exact ⟨by first | (rw [HE.out]; done) | (rw [HE.out]; rfl),yU _ _ _⟩
        ·(have hk0':((k:Int)==0)=false:=by rw [beq_eq_false_iff_ne]; omega);(have hkn:(0:Int)≤(k:Int) - 1:=by omega);(have hkm:(k:Int) - 1 < (s.size:Int):=by omega);by_cases hkl:k=s.size - 1
         ·have HE:=hid (ch h0 h16 (by rw [← hkl]; exact HA.out) (by simpa [hkl] using h45));(have hkl':((k:Int)==(s.size:Int) - 1)=true:=by rw [beq_iff_eq]; omega);clear hkl;generalize s[k].toNat=c at *;subst h45;(go_wp2_with fail);(try rw [Exit.noGoto_ret]);go_ret;exact ⟨by first | (rw [HE.out]; done) | (rw [HE.out]; rfl),yU _ _ _⟩
         ·(have hkl':((k:Int)==(s.size:Int) - 1)=false:=by rw [beq_eq_false_iff_ne]; omega);have hC:=mE (h:=hlt) h45 (by omega);generalize s[k].toNat=c at *;subst h45;obtain ⟨m,rfl⟩:∃ m,k=m+1:=⟨k - 1,by omega⟩;(have hm:m < s.size:=by omega);(have f1:((m:Int)+1==0)=false:=by rw [beq_eq_false_iff_ne]; omega);(have f2:((m:Int)+1==(s.size:Int) - 1)=false:=by rw [beq_eq_false_iff_ne]; omega);(have f3:(0:Int)≤(m:Int):=by omega);(have f4:(m:Int) < (s.size:Int):=by omega);clear hkl' hk0' hkm;simp only [Nat.add_sub_cancel] at hC;by_cases hp:s[m].toNat=45
          ·have HE:=hid (vz hlt h16 HA.out (by rw [hC,decide_eq_true hp]; rfl));(have hp':((s[m].toNat:Int)==45)=true:=by rw [hp]; rfl);clear hC hp;(go_wp2_with fail);(try rw [Exit.noGoto_ret]);go_ret;exact ⟨by first | (rw [HE.out]; done) | (rw [HE.out]; rfl),yU _ _ _⟩
          ·have HN:=hid (vH hlt h16 HA.out (by rw [hC,decide_eq_false hp]; rfl));(have hp':((s[m].toNat:Int)==45)=false:=by rw [beq_eq_false_iff_ne]; omega);clear hC hp;(go_wp2_with fail);go_roundw
           case rel=>exact ⟨m+2,by omega,HN,hid (fun j hj e1 e2=>by omega),rfl⟩
           case measure=>simp; omega
       ·(have e1:rT s[k]=false:=by simp only [rT,decide_eq_false_iff_not]; exact hl);(have e2:zz s[k]=false:=by simp only [zz,decide_eq_false_iff_not]; exact hd);have HE:=hid (vz hlt h16 HA.out (fq e1 e2 h45));have hdc:=lA s k hlt e1 e2 h45;(have hnx:=fun ty=>run_next_any (P:=Tryz.prog) w s k ty hlt);clear hl hd h45 e1 e2;generalize (Utf8.decode s k).1=c at *;generalize (Utf8.decode s k).2=q at *;(have hc45:((c:Int)==45)=false:=by rw [beq_eq_false_iff_ne]; omega);rcases hdc with hdc | ⟨hdc,hdc2⟩ | ⟨hdc,hdc2⟩ | hdc
        all_goals
         (go_wp2_with fail);(try rw [Exit.noGoto_ret]);go_ret;exact ⟨by first | (rw [HE.out]; done) | (rw [HE.out]; rfl),yU _ _ _⟩
    ·(obtain rfl:k=s.size:=by omega);(have hnx:=fun ty=>run_next_end (P:=Tryz.prog) w s s.size ty (by omega));have hl:=HD.out (s.size - 1) (by omega) (by omega) (by omega);have HE:=hid (lQ HA.out h0);rw [decide_eq_false hl] at HE;clear hl;(go_wp2_with fail);(try rw [Exit.noGoto_ret]);go_ret;exact ⟨by first | (rw [HE.out]; done) | (rw [HE.out]; rfl),yU _ _ _⟩
  ·(have hd16:decide ((16:Int) < (s.size:Int))=true:=by simp; omega);have HE:=hid (ly (s:=s) (by omega));go_enter Tryz.func73,Tryz.ntmps73;(go_wp2_with fail);go_ret;exact ⟨by first | (rw [HE.out]; done) | (rw [HE.out]; rfl),Below.refl _ _⟩
 ·have he:s.toList=[]:=by
   apply List.eq_nil_of_length_eq_zero;have:=zF s;simp only [bts] at this;omega
  have HE:=hid (kV (s:=s) (by omega));go_enter Tryz.func73,Tryz.ntmps73;(go_wp2_with fail);go_ret;exact ⟨by first | (rw [HE.out]; done) | (rw [HE.out]; rfl),Below.refl _ _⟩
inductive MT where
 | is (k:Nat) (v:ByteArray)
 | not (t:MT)
 | both (a b:MT)
 | one (a b:MT)
structure NodeL where
 op:Int
 a:Int
 b:Int
 key:Int
 text:ByteArray
abbrev NodeL.cells (n:NodeL):List Value:=[.int .i64 n.op,.int .i64 n.a,.int .i64 n.b,.int .i64 n.key,.string n.text]
abbrev NodeL.val (n:NodeL):Value := .agg #[.int .i64 n.op,.int .i64 n.a,.int .i64 n.b,.int .i64 n.key,.string n.text]
abbrev zc:ByteArray:=⟨#[]⟩
namespace MT
def size:MT→Nat
 | is _ _=>1
 | not t=>t.size+1
 | both a b=>a.size+b.size+1
 | one a b=>a.size+b.size+1
theorem size_pos:∀ t:MT,0 < t.size
 | is _ _=>Nat.one_pos
 | not _=>Nat.succ_pos _
 | both _ _=>Nat.succ_pos _
 | one _ _=>Nat.succ_pos _
def op:MT→Int
 | is _ _=>1
 | not _=>2
 | both _ _=>3
 | one _ _=>4
def lay (s:Nat):MT→List NodeL
 | is k v=>[⟨1,0,0,k,v⟩]
 | not t=>t.lay s++[⟨2,((s+t.size - 1:Nat):Int),0,0,zc⟩]
 | both a b=>a.lay s++(b.lay (s+a.size)++[⟨3,((s+a.size - 1:Nat):Int),((s+a.size+b.size - 1:Nat):Int),0,zc⟩])
 | one a b=>a.lay s++(b.lay (s+a.size)++[⟨4,((s+a.size - 1:Nat):Int),((s+a.size+b.size - 1:Nat):Int),0,zc⟩])
theorem lay_len:∀ (t:MT) (s:Nat),(t.lay s).length=t.size
 | is _ _,_=>rfl
 | not t,s=>by simp [lay,size,lay_len t]
 | both a b,s=>by simp [lay,size,lay_len a,lay_len b]; omega
 | one a b,s=>by simp [lay,size,lay_len a,lay_len b]; omega
def starts (s:Nat):MT→List Nat
 | is _ _=>[s]
 | not t=>t.starts s++[s]
 | both a b=>a.starts s++(b.starts (s+a.size)++[s])
 | one a b=>a.starts s++(b.starts (s+a.size)++[s])
theorem starts_len:∀ (t:MT) (s:Nat),(t.starts s).length=t.size
 | is _ _,_=>rfl
 | not t,s=>by simp [starts,size,starts_len t]
 | both a b,s=>by simp [starts,size,starts_len a,starts_len b]; omega
 | one a b,s=>by simp [starts,size,starts_len a,starts_len b]; omega
theorem starts_last:∀ (t:MT) (s:Nat),(t.starts s)[t.size - 1]?=some s
 | is _ _,_=>rfl
 | not t,s=>by
  show (t.starts s++[s])[t.size+1 - 1]?=_;rw [Nat.add_sub_cancel,List.getElem?_append_right (by rw [starts_len]; exact Nat.le_refl _),starts_len,Nat.sub_self]; rfl
 | both a b,s=>by
  show (a.starts s++(b.starts (s+a.size)++[s]))[a.size+b.size+1 - 1]?=_;rw [Nat.add_sub_cancel,← List.append_assoc,List.getElem?_append_right (by rw [List.length_append,starts_len,starts_len]; exact Nat.le_refl _),List.length_append,starts_len,starts_len,Nat.sub_self]; rfl
 | one a b,s=>by
  show (a.starts s++(b.starts (s+a.size)++[s]))[a.size+b.size+1 - 1]?=_;rw [Nat.add_sub_cancel,← List.append_assoc,List.getElem?_append_right (by rw [List.length_append,starts_len,starts_len]; exact Nat.le_refl _),List.length_append,starts_len,starts_len,Nat.sub_self]; rfl
def ok:MT→Prop
 | is k v=>k < 3∧zY (bts v)=true
 | not t=>t.ok
 | both a b=>a.ok∧b.ok
 | one a b=>a.ok∧b.ok
def NodeOk (st:Nat→Nat) (i:Nat) (n:NodeL):Prop :=
 (n.op=1∧0≤n.key∧n.key < 3∧zY (bts n.text)=true∧n.a=0∧n.b=0∧st i=i) ∨
 (n.op=2∧1≤i∧n.a=(i:Int) - 1∧n.b=0∧n.key=0∧n.text=zc∧st i=st (i - 1)) ∨
 ((n.op=3∨n.op=4)∧2≤i∧n.b=(i:Int) - 1∧1≤st (i - 1)∧n.a=(st (i - 1):Int) - 1∧n.key=0∧n.text=zc∧st i=st (st (i - 1) - 1))
theorem lay_ok (st:Nat→Nat):∀ (t:MT) (s:Nat),t.ok→(∀ j x,(t.starts s)[j]?=some x→st (s+j)=x)→∀ j n,(t.lay s)[j]?=some n→NodeOk st (s+j) n
 | is k v,s,h,hs,j,n,hn=>by
  obtain ⟨h1,h2⟩:=h
  match j with
  | 0 =>
   simp only [lay,List.getElem?_cons_zero,Option.some.injEq] at hn;subst hn;refine .inl ⟨rfl,by simp,by simp; omega,h2,rfl,rfl,?_⟩;have:=hs 0 s rfl;simpa using this
  | j+1=>simp [lay] at hn
 | not t,s,h,hs,j,n,hn=>by
  have hs':∀ j x,(t.starts s)[j]?=some x→st (s+j)=x:=fun j x hx=>hs j x (by
   rw [starts,List.getElem?_append_left]; exact hx;rcases Nat.lt_or_ge j (t.starts s).length with k | k
   ·exact k
   ·rw [List.getElem?_eq_none k] at hx; cases hx)
  have hp:=t.size_pos;rcases Nat.lt_or_ge j t.size with k | k
  ·rw [lay,List.getElem?_append_left (by rw [lay_len]; exact k)] at hn;exact lay_ok st t s h hs' j n hn
  ·rw [lay,List.getElem?_append_right (by rw [lay_len]; exact k),lay_len] at hn
   obtain rfl:j=t.size:=by
    rcases Nat.lt_or_ge 0 (j - t.size) with k2 | k2
    ·rw [List.getElem?_eq_none (by simp; omega)] at hn; cases hn
    ·omega
   rw [Nat.sub_self] at hn;simp only [List.getElem?_cons_zero,Option.some.injEq] at hn;subst hn;refine .inr (.inl ⟨rfl,by omega,by simp only []; omega,rfl,rfl,rfl,?_⟩);have e1:=hs t.size s (starts_last (.not t) s);have e2:=hs' (t.size - 1) s (starts_last t s);rw [e1,show s+t.size - 1=s+(t.size - 1) by omega,e2]
 | both a b,s,h,hs,j,n,hn=>lay_two st a b s 3 (.inl rfl) h.1 h.2 (lay_ok st a s h.1) (lay_ok st b (s+a.size) h.2) hs (starts_last (.both a b) s) j n hn
 | one a b,s,h,hs,j,n,hn=>lay_two st a b s 4 (.inr rfl) h.1 h.2 (lay_ok st a s h.1) (lay_ok st b (s+a.size) h.2) hs (starts_last (.one a b) s) j n hn
where
 lay_two (st:Nat→Nat) (a b:MT) (s:Nat) (o:Int) (ho:o=3∨o=4) (ha:a.ok) (hb:b.ok)
  (ia:(∀ j x,(a.starts s)[j]?=some x→st (s+j)=x)→∀ j n,(a.lay s)[j]?=some n→NodeOk st (s+j) n)
  (ib:(∀ j x,(b.starts (s+a.size))[j]?=some x→st (s+a.size+j)=x)→∀ j n,(b.lay (s+a.size))[j]?=some n→NodeOk st (s+a.size+j) n)
  (hs:∀ j x,(a.starts s++(b.starts (s+a.size)++[s]))[j]?=some x→st (s+j)=x) (hl:(a.starts s++(b.starts (s+a.size)++[s]))[a.size+b.size+1 - 1]?=some s) (j:Nat) (n:NodeL)
  (hn:(a.lay s++(b.lay (s+a.size)++[⟨o,((s+a.size - 1:Nat):Int),((s+a.size+b.size - 1:Nat):Int),0,zc⟩]))[j]?=some n):NodeOk st (s+j) n:=by
  have lt_of:∀ {l:List Nat} {j x:Nat},l[j]?=some x→j < l.length:=fun {l j x} hx=>by
   rcases Nat.lt_or_ge j l.length with k | k
   ·exact k
   ·rw [List.getElem?_eq_none k] at hx; cases hx
  have hsa:∀ j x,(a.starts s)[j]?=some x→st (s+j)=x:=fun j x hx=>hs j x (by
   rw [List.getElem?_append_left (lt_of hx)]; exact hx)
  have hsb:∀ j x,(b.starts (s+a.size))[j]?=some x→st (s+a.size+j)=x:=fun j x hx=>by
   rw [Nat.add_assoc];refine hs (a.size+j) x ?_;rw [List.getElem?_append_right (by rw [starts_len]; omega),starts_len,Nat.add_sub_cancel_left,List.getElem?_append_left (lt_of hx)];exact hx
  have pa:=a.size_pos
  have pb:=b.size_pos
  rcases Nat.lt_or_ge j a.size with k | k
  ·rw [List.getElem?_append_left (by rw [lay_len]; exact k)] at hn;exact ia hsa j n hn
  ·rw [List.getElem?_append_right (by rw [lay_len]; exact k),lay_len] at hn;rcases Nat.lt_or_ge (j - a.size) b.size with k2 | k2
   ·rw [List.getElem?_append_left (by rw [lay_len]; exact k2)] at hn;have:=ib hsb (j - a.size) n hn
    rwa [show s+a.size+(j - a.size)=s+j by omega] at this
   ·rw [List.getElem?_append_right (by rw [lay_len]; exact k2),lay_len] at hn
    obtain rfl:j=a.size+b.size:=by
     rcases Nat.lt_or_ge 0 (j - a.size - b.size) with k3 | k3
     ·rw [List.getElem?_eq_none (by simp; omega)] at hn; cases hn
     ·omega
    rw [show a.size+b.size - a.size - b.size=0 by omega] at hn;simp only [List.getElem?_cons_zero,Option.some.injEq] at hn;subst hn;have e1:st (s+(a.size+b.size))=s:=hs _ s (by rw [Nat.add_sub_cancel] at hl; exact hl)
    have e2:st (s+(a.size+b.size) - 1)=s+a.size:=by
     have:=hsb (b.size - 1) (s+a.size) (starts_last b (s+a.size))
     rwa [show s+a.size+(b.size - 1)=s+(a.size+b.size) - 1 by omega] at this
    have e3:st (s+a.size - 1)=s:=by
     have:=hsa (a.size - 1) s (starts_last a s)
     rwa [show s+(a.size - 1)=s+a.size - 1 by omega] at this
    refine .inr (.inr ⟨ho,by omega,?_,by omega,?_,rfl,rfl,?_⟩)
    ·simp only []; omega
    ·simp only [e2]; omega
    ·rw [e1,e2,e3]
def keyT (k:Nat):List UInt8:=if k=0 then [111,115] else if k=1 then [97,114,99,104] else [97,98,105]
def inB (x:List UInt8) (is:Bool):List UInt8:=if is then [40,32]++x++[32,41] else x
def text:MT→List UInt8
 | is k v=>keyT k++[32,61,32]++bts v
 | not (is k v)=>keyT k++[32,33,61,32]++bts v
 | not t=>[110,111,116,32]++inB t.text (t.op != 2)
 | both a b=>inB a.text (a.op==4)++[32,97,110,100,32]++inB b.text (b.op==4 || b.op==3)
 | one a b=>a.text++[32,111,114,32]++inB b.text (b.op==4)
end MT
abbrev zb:=List (List UInt8)
def cG:List UInt8:=[110,111,116]
def o5:List UInt8:=[97,110,100]
def Z5:List UInt8:=[111,114]
def tB (w:List UInt8):Option Nat:=if w=MT.keyT 0 then some 0 else if w=MT.keyT 1 then some 1 else if w=MT.keyT 2 then some 2 else none
def tu (w:List UInt8):zb→Option (MT × zb)
 | s::v::ws=>match tB w with
  | none=>none
  | some k=>if zY v then (if s=[61] then some (.is k (xP v),ws) else if s=[33,61] then some (.not (.is k (xP v)),ws) else none) else none
 | _=>none
def xY (kw:List UInt8) (mk:MT→MT→MT) (part:zb→Option (MT × zb)):Nat→MT→zb→Option (MT × zb)
 | 0,a,ws=>some (a,ws)
 | _+1,a,[]=>some (a,[])
 | n+1,a,w::ws=>if w=kw then (match part ws with | none=>none | some (b,ws')=>xY kw mk part n (mk a b) ws') else some (a,w::ws)
def vK (part:zb→Option (MT × zb)) (ws:zb):Option (MT × zb):=match part ws with
 | none=>none
 | some (a,ws')=>xY o5 .both part ws'.length a ws'
def yI (part:zb→Option (MT × zb)) (ws:zb):Option (MT × zb):=match vK part ws with
 | none=>none
 | some (a,ws')=>xY Z5 .one (vK part) ws'.length a ws'
def wW:Nat→zb→Option (MT × zb)
 | 0,_=>none
 | _+1,[]=>none
 | n+1,w::ws=>if w=cG then (match wW n ws with | none=>none | some (t,ws')=>some (.not t,ws'))
  else if w=[40] then (match yI (wW n) ws with | some (t,c::ws')=>if c=[41] then some (t,ws') else none | _=>none)
  else tu w ws
def wP (part:zb→Option (MT × zb)):Prop:=∀ ws t ws',part ws=some (t,ws')→ws'.length < ws.length∧t.ok∧t.size+ws'.length≤ws.length
theorem qs {w:List UInt8} {k:Nat} (h:tB w=some k):k < 3∧w=MT.keyT k:=by
 unfold tB at h;split at h
 ·injection h with h; subst h; exact ⟨by omega,by assumption⟩
 ·split at h
  ·injection h with h; subst h; exact ⟨by omega,by assumption⟩
  ·split at h
   ·injection h with h; subst h; exact ⟨by omega,by assumption⟩
   ·cases h
theorem WT (w:List UInt8) (ws:zb) (t:MT) (ws':zb) (h:tu w ws=some (t,ws')):ws'.length < ws.length∧t.ok∧t.size+ws'.length≤ws.length:=by
 match ws,h with
 | s::v::r,h =>
  simp only [tu] at h;cases hk:tB w with
  | none=>rw [hk] at h; cases h
  | some k =>
   rw [hk] at h;simp only at h;have hk3:=(qs hk).1;split at h
   ·rename_i hw
    (have hb:zY (bts (xP v))=true:=by rw [zx]; exact hw);split at h
    ·(injection h with h);(injection h with h1 h2);subst h1; subst h2;exact ⟨by simp; omega,⟨hk3,hb⟩,by simp [MT.size]; omega⟩
    ·split at h
     ·(injection h with h);(injection h with h1 h2);subst h1; subst h2;exact ⟨by simp; omega,⟨hk3,hb⟩,by simp [MT.size]; omega⟩
     ·cases h
   ·cases h
theorem mt {kw:List UInt8} {mk:MT→MT→MT} {part:zb→Option (MT × zb)} (hp:wP part) (hm:∀ a b,a.ok→b.ok→(mk a b).ok) (hz:∀ a b,(mk a b).size=a.size+b.size+1):∀ (n:Nat) (a:MT) (ws:zb) (t:MT) (ws':zb),a.ok→xY kw mk part n a ws=some (t,ws')→ws'.length≤ws.length∧t.ok∧t.size+ws'.length≤a.size+ws.length
 | 0,a,ws,t,ws',ha,h=>by
  simp only [xY,Option.some.injEq,Prod.mk.injEq] at h;obtain ⟨rfl,rfl⟩:=h;exact ⟨Nat.le_refl _,ha,Nat.le_refl _⟩
 | n+1,a,[],t,ws',ha,h=>by
  simp only [xY,Option.some.injEq,Prod.mk.injEq] at h;obtain ⟨rfl,rfl⟩:=h;exact ⟨Nat.le_refl _,ha,Nat.le_refl _⟩
 | n+1,a,w::ws,t,ws',ha,h=>by
  rw [xY] at h;split at h
  ·cases hq:part ws with
   | none=>rw [hq] at h; cases h
   | some q =>
    obtain ⟨b,r⟩:=q;rw [hq] at h;have h1:=hp ws b r hq;have h2:=mt hp hm hz n (mk a b) r t ws' (hm a b ha h1.2.1) h;have h3:=hz a b;have h4:=h1.2.2;have h5:=h2.2.2;exact ⟨by simp only [List.length_cons]; omega,h2.2.1,by simp only [List.length_cons]; omega⟩
  ·simp only [Option.some.injEq,Prod.mk.injEq] at h;obtain ⟨rfl,rfl⟩:=h;exact ⟨Nat.le_refl _,ha,Nat.le_refl _⟩
theorem lM {part:zb→Option (MT × zb)} (hp:wP part):wP (vK part):=fun ws t ws' h=>by
 unfold vK at h;cases hq:part ws with
 | none=>rw [hq] at h; cases h
 | some q =>
  obtain ⟨a,r⟩:=q;rw [hq] at h;have h1:=hp ws a r hq;have h2:=mt (mk:=MT.both) hp (fun a b x y=>⟨x,y⟩) (fun _ _=>rfl) _ a r t ws' h1.2.1 h;exact ⟨by omega,h2.2.1,by have:=h1.2.2; have:=h2.2.2; omega⟩
theorem vf {part:zb→Option (MT × zb)} (hp:wP part):wP (yI part):=fun ws t ws' h=>by
 unfold yI at h;cases hq:vK part ws with
 | none=>rw [hq] at h; cases h
 | some q =>
  obtain ⟨a,r⟩:=q;rw [hq] at h;have h1:=lM hp ws a r hq;have h2:=mt (mk:=MT.one) (lM hp) (fun a b x y=>⟨x,y⟩) (fun _ _=>rfl) _ a r t ws' h1.2.1 h;exact ⟨by omega,h2.2.1,by have:=h1.2.2; have:=h2.2.2; omega⟩
theorem vv:∀ n,wP (wW n)
 | 0,ws,t,ws',h=>by simp [wW] at h
 | n+1,[],t,ws',h=>by simp [wW] at h
 | n+1,w::ws,t,ws',h=>by
  rw [wW] at h;split at h
  ·cases hq:wW n ws with
   | none=>rw [hq] at h; cases h
   | some q =>
    obtain ⟨a,r⟩:=q;rw [hq] at h;simp only [Option.some.injEq,Prod.mk.injEq] at h;obtain ⟨rfl,rfl⟩:=h;have h1:=vv n ws a r hq;exact ⟨by simp only [List.length_cons]; omega,h1.2.1,by have:=h1.2.2; simp only [List.length_cons,MT.size]; omega⟩
  ·split at h
   ·cases hq:yI (wW n) ws with
    | none=>rw [hq] at h; cases h
    | some q =>
     obtain ⟨a,r⟩:=q;rw [hq] at h;have h1:=vf (vv n) ws a r hq
     match r,h,h1 with
     | [],h,_=>cases h
     | c::r,h,h1 =>
      simp only at h;split at h
      ·simp only [Option.some.injEq,Prod.mk.injEq] at h;obtain ⟨rfl,rfl⟩:=h;exact ⟨by simp only [List.length_cons] at h1 ⊢; omega,h1.2.1,by have:=h1.2.2; simp only [List.length_cons] at this ⊢; omega⟩
      ·cases h
   ·have:=WT w ws t ws' h;exact ⟨by simp only [List.length_cons]; omega,this.2.1,by have:=this.2.2; simp only [List.length_cons]; omega⟩
def yp (l:List UInt8):zb:=zV 32 [] l
def sQ (l:List UInt8):Option MT:=match yI (wW ((yp l).length+1)) (yp l) with
 | some (t,[])=>if t.size≤15∧t.text.length≤96 then some t else none
 | _=>none
def ye (l:List UInt8):Bool:=decide (l.length≤96)&&(l.isEmpty || match sQ l with | none=>false | some t=>decide (t.text=l))
theorem gB {l:List UInt8} {t:MT} (h:sQ l=some t):t.ok∧t.size≤15∧t.text.length≤96:=by
 unfold sQ at h;split at h
 ·rename_i t' hq
  split at h
  ·rename_i hs
   (injection h with h);subst h;exact ⟨(vf (vv _) _ _ _ hq).2.1,hs⟩
  ·cases h
 ·cases h
namespace MT
end MT
def RowOf {α:Type} (n:Nat) (At:World→Nat→Nat→α→Prop) (w:World) (A:Option Addr) (l:List α):Prop :=
 l=[]∨∃ b off,A=some ⟨b,off,none⟩∧b < w.heap.size∧∀ i (h:i < l.length),At w b (off+i * n) l[i]
def o0 {α:Type} (At:World→Nat→Nat→α→Prop):Prop:=∀ (w w':World) (b o:Nat) (x:α),b < w.heap.size→KB w.heap.size w w'→At w b o x→At w' b o x
section
variable {α:Type} {n:Nat} {At:World→Nat→Nat→α→Prop} {w w':World} {A:Option Addr} {l:List α}
theorem RowOf.kb (hs:o0 At) (h:RowOf n At w A l) (hb:KB w.heap.size w w'):RowOf n At w' A l:=by
 rcases h with h | ⟨b,off,rfl,hlt,hc⟩
 ·exact .inl h
 ·exact .inr ⟨b,off,rfl,Nat.lt_of_lt_of_le hlt hb.size,fun i hi=>hs w w' b _ _ hlt hb (hc i hi)⟩
theorem RowOf.at_ {k:Nat} (h:RowOf n At w A l) (hk:k < l.length):∃ b off,A=some ⟨b,off,none⟩∧b < w.heap.size∧At w b (off+k * n) l[k]:=by
 rcases h with h | ⟨b,off,rfl,hlt,hc⟩
 ·subst h; simp at hk
 ·exact ⟨b,off,rfl,hlt,hc k hk⟩
theorem RowOf.lay {b off k:Nat} (h:RowOf n At w (some ⟨b,off,none⟩) l) (hk:k < l.length):b < w.heap.size∧At w b (off+k * n) l[k]:=by
 obtain ⟨b',off',e,h1,h2⟩:=h.at_ hk;(injection e with e);(injection e with e1 e2 e3);subst e1; subst e2;exact ⟨h1,h2⟩
end
theorem zU {w w':World} {b o:Nat} {v:Value} (hl:b < w.heap.size) (hb:KB w.heap.size w w') (h:w.cell? ⟨b,o,none⟩=some v):w'.cell? ⟨b,o,none⟩=some v:=(hb.cell (p:=⟨b,o,none⟩) hl).trans h
def TextAt (w:World) (b o:Nat) (s:ByteArray):Prop:=w.cell? ⟨b,o,none⟩=some (.string s)
abbrev Texts (w:World) (A:Option Addr) (l:List ByteArray):Prop:=RowOf 1 TextAt w A l
theorem TextAt.stays:o0 TextAt:=fun _ _ _ _ _ hl hb h=>zU hl hb h
theorem Texts.kb {w w':World} {A:Option Addr} {l:List ByteArray} (h:Texts w A l) (hb:KB w.heap.size w w'):Texts w' A l:=RowOf.kb TextAt.stays h hb
structure WishL where
 name:ByteArray
 rng:ByteArray
 feats:List ByteArray
 bare:Bool
def WishAt (w:World) (b o:Nat) (x:WishL):Prop:=w.cell? ⟨b,o,none⟩=some (.string x.name)∧w.cell? ⟨b,o+1,none⟩=some (.string x.rng)∧(∃ A c,w.cell? ⟨b,o+2,none⟩=some (.slice A x.feats.length c)∧Texts w A x.feats∧x.feats.length≤9223372036854775807∧x.feats.length≤c)∧w.cell? ⟨b,o+3,none⟩=some (.bool x.bare)
theorem WishAt.stays:o0 WishAt:=fun _ _ _ _ _ hl hb ⟨h1,h2,⟨A,c,h3,h4,h6⟩,h5⟩=>⟨zU hl hb h1,zU hl hb h2,⟨A,c,zU hl hb h3,h4.kb hb,h6⟩,zU hl hb h5⟩
structure NeedL where
 any:List WishL
 whn:ByteArray
 opt:ByteArray
def NeedAt (w:World) (b o:Nat) (x:NeedL):Prop:=(∃ A c,w.cell? ⟨b,o,none⟩=some (.slice A x.any.length c)∧RowOf 4 WishAt w A x.any∧x.any.length≤9223372036854775807)∧w.cell? ⟨b,o+1,none⟩=some (.string x.whn)∧w.cell? ⟨b,o+2,none⟩=some (.string x.opt)
theorem NeedAt.stays:o0 NeedAt:=fun _ _ _ _ _ hl hb ⟨⟨A,c,h1,h2,h5⟩,h3,h4⟩=>⟨⟨A,c,zU hl hb h1,h2.kb WishAt.stays hb,h5⟩,zU hl hb h3,zU hl hb h4⟩
structure BarL where
 name:ByteArray
 rng:ByteArray
 whn:ByteArray
def BarAt (w:World) (b o:Nat) (x:BarL):Prop:=w.cell? ⟨b,o,none⟩=some (.string x.name)∧w.cell? ⟨b,o+1,none⟩=some (.string x.rng)∧w.cell? ⟨b,o+2,none⟩=some (.string x.whn)
theorem BarAt.stays:o0 BarAt:=fun _ _ _ _ _ hl hb ⟨h1,h2,h3⟩=>⟨zU hl hb h1,zU hl hb h2,zU hl hb h3⟩
structure FeatL where
 name:ByteArray
 of_:List ByteArray
def FeatAt (w:World) (b o:Nat) (x:FeatL):Prop:=w.cell? ⟨b,o,none⟩=some (.string x.name)∧∃ A c,w.cell? ⟨b,o+1,none⟩=some (.slice A x.of_.length c)∧Texts w A x.of_∧x.of_.length≤9223372036854775807
theorem FeatAt.stays:o0 FeatAt:=fun _ _ _ _ _ hl hb ⟨h1,A,c,h2,h3,h4⟩=>⟨zU hl hb h1,A,c,zU hl hb h2,h3.kb hb,h4⟩
structure RecL where
 name:ByteArray
 v:Ver
 needs:List NeedL
 bars:List BarL
 feats:List FeatL
structure RecH where
 A:Option Addr
 ca:Nat
 B:Option Addr
 cb:Nat
 F:Option Addr
 cf:Nat
abbrev RecL.cells (r:RecL) (h:RecH):List Value:=[.string r.name,.int .i64 r.v.maj,.int .i64 r.v.min,.int .i64 r.v.pat,.string r.v.pre,.string r.v.bld,.slice h.A r.needs.length h.ca,.slice h.B r.bars.length h.cb,.slice h.F r.feats.length h.cf]
abbrev RecL.val (r:RecL) (h:RecH):Value := .agg #[.string r.name,.int .i64 r.v.maj,.int .i64 r.v.min,.int .i64 r.v.pat,.string r.v.pre,.string r.v.bld,.slice h.A r.needs.length h.ca,.slice h.B r.bars.length h.cb,.slice h.F r.feats.length h.cf]
structure RecLies (w:World) (h:RecH) (r:RecL):Prop where
 needs:RowOf 3 NeedAt w h.A r.needs
 bars:RowOf 3 BarAt w h.B r.bars
 feats:RowOf 2 FeatAt w h.F r.feats
 ln:r.needs.length≤9223372036854775807
 lb:r.bars.length≤9223372036854775807
 lf:r.feats.length≤9223372036854775807
theorem RecLies.kb {w w':World} {h:RecH} {r:RecL} (k:RecLies w h r) (hb:KB w.heap.size w w'):RecLies w' h r:=⟨k.needs.kb NeedAt.stays hb,k.bars.kb BarAt.stays hb,k.feats.kb FeatAt.stays hb,k.ln,k.lb,k.lf⟩
structure EntryL where
 rc:RecL
 sum:Int
 yanked:Bool
def EntryAt (w:World) (b o:Nat) (x:EntryL):Prop:=∃ h:RecH,RecLies w h x.rc∧(∀ (j:Nat) (u:Value),(x.rc.cells h)[j]?=some u→w.cell? ⟨b,o+j,none⟩=some u)∧w.cell? ⟨b,o+9,none⟩=some (.int .u64 x.sum)∧w.cell? ⟨b,o+10,none⟩=some (.bool x.yanked)
theorem EntryAt.stays:o0 EntryAt:=fun _ _ _ _ _ hl hb ⟨h,h1,h2,h3,h4⟩=>⟨h,h1.kb hb,fun j u hj=>zU hl hb (h2 j u hj),zU hl hb h3,zU hl hb h4⟩
structure ShelfL where
 name:ByteArray
 entries:List EntryL
abbrev yL (w:World) (A:Option Addr) (l:List EntryL):Prop:=RowOf 11 EntryAt w A l
def xF:List (List UInt8)→Bool
 | a::b::r=>Op.bytesLess a b&&xF (b::r)
 | _=>true
end Go.Proofs.YtiffijoenkcpjaaGreatDoor
namespace Go.Proofs.YtiffijoenkcpjaaGreatDoor
open Go.RowKit Go.Lib
open Rw
def xp (s:List UInt8):Int × List UInt8 × List UInt8 :=
 if zY s then (1,s,[]) else
 if s.head?=some 63∧zY (s.drop 1)=true then (2,s.drop 1,[]) else
 match zV 47 [] s with
 | [a,b]=>if zg a&&zY b then (3,a,b) else (0,[],[])
 | _=>(0,[],[])
def rK:List UInt8:=[100,101,102,97,117,108,116]
def tT (l:List FeatL) (x:List UInt8):Bool:=decide (x=rK) || l.any fun f=>decide (bts f.name=x)
def xi (l:List FeatL) (s:ByteArray):Bool:=let i:=xp (bts s); !decide (i.1=0)&&(!decide (i.1=1) || tT l i.2.1)
def ux (l:List FeatL) (f:FeatL):Bool:=zY (bts f.name)&&decide (f.of_.length≤6)&&xF (f.of_.map bts)&&f.of_.all (xi l)
def zt (l:List FeatL):Bool:=decide (l.length≤8)&&xF (l.map fun f=>bts f.name)&&l.all (ux l)
def xI (s:List UInt8):Bool:=decide ((yB s).2=0)&&decide (qE (yB s).1=s)
def wY (own nm rng:List UInt8):Int:=if !zg nm then 4 else if nm=own then 8 else if !xI rng then 6 else 0
def yO (alone:Bool) (l:List ByteArray):Bool:=decide (l.length≤6)&&(alone || l.isEmpty)&&l.all (fun s=>zY (bts s))&&xF (l.map bts)
def uW (own:List UInt8) (alone:Bool) (x:WishL):Int:=if wY own (bts x.name) (bts x.rng)=0 then (if yO alone x.feats then 0 else 11) else wY own (bts x.name) (bts x.rng)
def yj {α:Type} (f:α→Int):List α→Int
 | []=>0
 | x::l=>if f x=0 then yj f l else f x
def zS {α:Type} (f:α→Int):Nat→List α→Int × Int
 | _,[]=>(0,0)
 | i,x::l=>if f x=0 then zS f (i+1) l else (f x,(i:Int))
def yg (own:List UInt8) (n:NeedL):Int :=
 if n.any.length=0 then 9 else if 3 < n.any.length then 3 else
 if yj (uW own (decide (n.any.length=1))) n.any=0 then (if ye (bts n.whn) then (if bts n.opt=[]∨zY (bts n.opt)=true then 0 else 14) else 7)
 else yj (uW own (decide (n.any.length=1))) n.any
def uY (own:List UInt8) (b:BarL):Int:=if wY own (bts b.name) (bts b.rng)=0 then (if ye (bts b.whn) then 0 else 7) else wY own (bts b.name) (bts b.rng)
def ym (l:List NeedL) (x:List UInt8):Bool:=l.any fun n=>decide (bts n.opt=x)
def vA (l:List NeedL) (x:List UInt8):Bool:=l.any fun n=>match n.any with | [w]=>decide (bts w.name=x) | _=>false
def vj (l:List NeedL) (s:ByteArray):Int:=let i:=xp (bts s); if i.1=2 then (if ym l i.2.1 then 0 else 14) else if i.1=3 then (if vA l i.2.1 then 0 else 16) else 0
def uE (l:List NeedL) (f:FeatL):Int:=yj (vj l) f.of_
def nlT:List UInt8:=[10]
def zv (ws:List (List UInt8)):List UInt8:=zT [32] ws++nlT
def si:List UInt8:=[112,97,99,107,97,103,101]
def wZ:List UInt8:=[110,101,101,100]
def Vc:List UInt8:=[97,110,121]
def lp:List UInt8:=[102,117,108,108]
def jG:List UInt8:=[98,97,114,101]
def Z8:List UInt8:=[119,104,101,110]
def uF:List UInt8:=[111,112,116,105,111,110]
def Z4:List UInt8:=[98,97,114]
def qn:List UInt8:=[102,101,97,116,117,114,101]
def xg (x:WishL):List UInt8:=zv [Vc,bts x.name,if x.feats=[] then [45] else zT [44] (x.feats.map bts),if x.bare then jG else lp,bts x.rng]
def vh (s:ByteArray):List UInt8:=if bts s=[] then [] else zv [Z8,bts s]
def zp (n:NeedL):List UInt8:=zv [wZ]++n.any.flatMap xg++vh n.whn++(if bts n.opt=[] then [] else zv [uF,bts n.opt])
def tz (b:BarL):List UInt8:=zv [Z4,bts b.name,bts b.rng]++vh b.whn
def tF (f:FeatL):List UInt8:=zv (qn::bts f.name::f.of_.map bts)
def qp (r:RecL):List UInt8:=zv [si,bts r.name,vL r.v]++r.needs.flatMap zp++r.bars.flatMap tz++r.feats.flatMap tF
def z5 (r:RecL):Int × Int :=
 if !zg (bts r.name) then (4,0) else if !yF r.v then (5,0) else if 8 < r.needs.length∨8 < r.bars.length then (3,0) else
 if (zS (yg (bts r.name)) 0 r.needs).1≠0 then zS (yg (bts r.name)) 0 r.needs else
 if (zS (uY (bts r.name)) 0 r.bars).1≠0 then zS (uY (bts r.name)) 0 r.bars else
 if !zt r.feats then (11,0) else
 if (zS (uE r.needs) 0 r.feats).1≠0 then zS (uE r.needs) 0 r.feats else
 if 4096 < (qp r).length then (3,0) else (0,0)
end Go.Proofs.YtiffijoenkcpjaaGreatDoor
namespace Go.Proofs.YtiffijoenkcpjaaGreatDoor
open Go.RowKit Go.Lib
theorem th {l:List (List UInt8)} {k:Nat} (h:k+1 < l.length):xF (l.drop k)=(Op.bytesLess l[k] l[k+1]&&xF (l.drop (k+1))):=by
 rw [List.drop_eq_getElem_cons (by omega:k < l.length),List.drop_eq_getElem_cons h];rfl
theorem sa {l:List (List UInt8)} {k:Nat} (h:l.length≤k+1):xF (l.drop k)=true:=by
 have:(l.drop k).length≤1:=by rw [List.length_drop]; omega
 match l.drop k,this with
 | [],_=>rfl
 | [a],_=>rfl
def yH (a b:ByteArray):Bool:=a.toList==b.toList
theorem sameB_self (a:ByteArray):yH a a=true:=by simp [yH]
def cJ (a b:Ver):Bool:=yF a&&yF b&&decide (xX a b=0)
def js (nm:List UInt8) (v:Ver) (x:EntryL):Bool:=decide (bts x.rc.name=nm)&&cJ x.rc.v v
def zi (nm:List UInt8) (v:Ver):Nat→List EntryL→Int
 | _,[]=>-1
 | i,x::l=>if js nm v x then (i:Int) else zi nm v (i+1) l
def vo (sumB:List UInt8→Int) (r:RecL):Int × Int:=if (z5 r).1=0 then (sumB (qp r),0) else (0,(z5 r).1)
def wD (sumB:List UInt8→Int) (ahead:List EntryL) (x:EntryL):Bool:=decide (vo sumB x.rc=(x.sum,0))&&decide (zi (bts x.rc.name) x.rc.v 0 ahead < 0)
def yA (sumB:List UInt8→Int):List EntryL→List EntryL→Bool
 | _,[]=>true
 | ahead,x::l=>wD sumB ahead x&&yA sumB (ahead++[x]) l
def zQ (sumB:List UInt8→Int) (s:ShelfL):Bool:=zg (bts s.name)&&decide (s.entries.length≤64)&&yA sumB [] s.entries
end Go.Proofs.YtiffijoenkcpjaaGreatDoor
