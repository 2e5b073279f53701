import Derived.Test.YtiebekmefjbenaaGreatDoorZJa
set_option linter.unusedVariables false
set_option linter.unusedSimpArgs false
set_option maxRecDepth 100000
set_option maxHeartbeats 2000000
namespace Go.Proofs.YtiebekmefjbenaaGreatDoor
open Go.RowKit Go.Lib
section
variable {P:Program} {ops:Array Oper} {S:World→Prop} {Q:Exit→Act→World→Prop} {md:Region.Mode}
end
section
variable {P:Program} {ops:Array Oper} {S:World→Prop} {Q:Exit→Act→World→Prop}
end
theorem lO (c:UInt8) (w:World):Calls Tryz.prog 121 #[.int .u8 c.toNat] w fun e w'=>e = .returned (.bool (rT c))∧w=w':=by
 have hd:rT c=(decide ((97:Int)≤(c.toNat:Int))&&decide ((c.toNat:Int)≤122)):=by
  rw [rT,← Bool.decide_and];exact decide_eq_decide.2 (by omega)
 rw [hd];clear hd;by_cases h0:(97:Int)≤c.toNat
 ·go_enter Tryz.func121,Tryz.ntmps121;go_wp2;go_ret;exact ⟨by simp [h0],rfl⟩
 ·(have hd:decide ((97:Int)≤(c.toNat:Int))=false:=by simpa using h0);go_enter Tryz.func121,Tryz.ntmps121;go_wp2;go_ret;exact ⟨by simp [h0],rfl⟩
theorem rN:∀ (l:List UInt8) (p:UInt8),vD p l=true→((p::l).getLast (by simp)).toNat≠45
 | [],p,h=>by simpa [vD] using h
 | c::t,p,h=>by
  rw [vD,Bool.and_eq_true] at h;rw [List.getLast_cons (by simp)];exact rN t c h.2
theorem bN {s:ByteArray} (h0:0 < s.size) (h16:s.size≤16) {k:Nat} (hk:k < s.size) (he:s.size=k+1) (h:s[k].toNat=45):zg (bts s)=false:=by
 rw [Bool.eq_false_iff];intro hn;rw [ri h0 h16,Bool.and_eq_true] at hn;have h1:=rN _ _ hn.2;have e:=oY h0;rw [List.drop_zero] at e
 have e2:(s[0]::(bts s).drop (0+1)).getLast (by simp)=s[k]:=by
  simp only [← e];rw [List.getLast_eq_getElem];(have:(bts s).length - 1=k:=by rw [zF]; omega);simp only [this];exact wR s k hk
 exact h1 (by rw [e2]; exact h)
theorem xM (s:ByteArray) (w:World):Calls Tryz.prog 158 #[.string s] w (yc w (zY (bts s))):=by
 by_cases h0:0 < s.size
 ·by_cases h12:s.size≤12
  ·(have hs:s.size≤9223372036854775807:=by omega);(have d1:¬ (s.size:Int) < 1:=by omega);(have d2:¬ (12:Int) < (s.size:Int):=by omega);go_enter Tryz.func158,Tryz.ntmps158;(go_wp2_with fail);go_loopw [3] (fun i wr=>∃ k:Nat,i = .int .i64 k∧k≤s.size∧Hid (((bts s).take k).all sH=true)∧wr=w) (fun i _=>s.size - (intOf i).toNat)
   case atStart=>exact ⟨0,rfl,Nat.zero_le _,hid rfl,rfl⟩
   case round =>
    obtain ⟨k,rfl,hk,HA,rfl⟩:=hrel;by_cases hlt:k < s.size
    ·(have i1:(k:Int) < (s.size:Int):=by omega);have HL:=hid (lO s[k] wr);have HD:=hid (rL s[k] wr);cases hc:sH s[k]
     ·have HE:=hid (fD hlt hc);simp only [sH,Bool.or_eq_false_iff,decide_eq_false_iff_not] at hc;obtain ⟨⟨c1,c2⟩,c3⟩:=hc;rw [c1] at HL;rw [c2] at HD;(have c4:((s[k].toNat:Int)==95)=false:=by rw [beq_eq_false_iff_ne]; omega);(go_wp2_with fail);refine HL.out.mono ?_;rintro _ _ ⟨rfl,rfl⟩;(go_wp2_with fail);refine HD.out.mono ?_;rintro _ _ ⟨rfl,rfl⟩;(go_wp2_with fail);go_ret;exact ⟨by first | (rw [HE.out]; done) | (rw [HE.out]; rfl),Below.refl _ _⟩
     ·have HS:=hid (yb s k hlt HA.out hc);cases hl:rT s[k]
      ·rw [hl] at HL;cases hd:zz s[k]
       ·rw [hd] at HD;(have c5:s[k].toNat=95:=by simpa [sH,hl,hd] using hc);(have c4:((s[k].toNat:Int)==95)=true:=by rw [c5]; rfl);clear hc hl hd c5;(go_wp2_with fail);refine HL.out.mono ?_;rintro _ _ ⟨rfl,rfl⟩;(go_wp2_with fail);refine HD.out.mono ?_;rintro _ _ ⟨rfl,rfl⟩;(go_wp2_with fail);go_roundw
        case rel=>exact ⟨k+1,by go_num,by omega,HS,by first | rfl | trivial⟩
        case measure=>simp [intOf]<;>omega
       ·rw [hd] at HD;clear hc hl hd;(go_wp2_with fail);refine HL.out.mono ?_;rintro _ _ ⟨rfl,rfl⟩;(go_wp2_with fail);refine HD.out.mono ?_;rintro _ _ ⟨rfl,rfl⟩;(go_wp2_with fail);go_roundw
        case rel=>exact ⟨k+1,by go_num,by omega,HS,by first | rfl | trivial⟩
        case measure=>simp [intOf]<;>omega
      ·rw [hl] at HL;clear hc hl;(go_wp2_with fail);refine HL.out.mono ?_;rintro _ _ ⟨rfl,rfl⟩;(go_wp2_with fail);go_roundw
       case rel=>exact ⟨k+1,by go_num,by omega,HS,by first | rfl | trivial⟩
       case measure=>simp [intOf]<;>omega
    ·(obtain rfl:k=s.size:=by omega);(have i1:¬ (s.size:Int) < (s.size:Int):=by omega);have HE:=hid (lu h0 h12 HA.out);(go_wp2_with fail);go_ret;exact ⟨by first | (rw [HE.out]; done) | (rw [HE.out]; rfl),Below.refl _ _⟩
  ·(have d1:¬ (s.size:Int) < 1:=by omega);(have d2:(12:Int) < (s.size:Int):=by omega);have HE:=hid (jh (s:=s) (by omega));go_enter Tryz.func158,Tryz.ntmps158;(go_wp2_with fail);go_ret;exact ⟨by first | (rw [HE.out]; done) | (rw [HE.out]; rfl),Below.refl _ _⟩
 ·(have d1:(s.size:Int) < 1:=by omega);have HE:=hid (kf (s:=s) (by omega));go_enter Tryz.func158,Tryz.ntmps158;(go_wp2_with fail);go_ret;exact ⟨by first | (rw [HE.out]; done) | (rw [HE.out]; rfl),Below.refl _ _⟩
theorem vY (s:ByteArray) (w:World):Calls Tryz.prog 86 #[.string s] w (yc w (zg (bts s))):=by
 by_cases h0:0 < s.size
 ·by_cases h16:s.size≤16
  ·(have hs:s.size≤9223372036854775807:=by omega);(have d1:¬ (s.size:Int) < 1:=by omega);(have d2:¬ (16:Int) < (s.size:Int):=by omega);(have d3:(0:Int)≤(s.size:Int) - 1:=by omega);(have d4:(s.size:Int) - 1 < (s.size:Int):=by omega);obtain ⟨n,hn⟩:∃ n,s.size=n+1:=⟨s.size - 1,by omega⟩;have HL:=hid (lO s[0] w);cases hl:rT s[0]
   ·have HE:=hid (vz h0 h16 ⟨h0,.inl rfl⟩ (show uJ s 0 h0=false by unfold uJ; rw [if_pos rfl]; exact hl));rw [hl] at HL;go_enter Tryz.func86,Tryz.ntmps86;(go_wp2_with fail);refine HL.out.mono ?_;rintro _ _ ⟨rfl,rfl⟩;(go_wp2_with fail);go_ret;exact ⟨by first | (rw [HE.out]; done) | (rw [HE.out]; rfl),Below.refl _ _⟩
   ·rw [hl] at HL;have HS0:=hid (vH h0 h16 ⟨h0,.inl rfl⟩ (show uJ s 0 h0=true by unfold uJ; rw [if_pos rfl]; exact hl));(have hlast:n < s.size:=by omega);have HNN:=hid hn;by_cases h45:s[n].toNat=45
    ·have HE:=hid (bN h0 h16 (k:=n) hlast (by omega) h45);(have g1:((s[n].toNat:Int)==45)=true:=by rw [h45]; rfl);clear h45;go_enter Tryz.func86,Tryz.ntmps86;(go_wp2_with fail);refine HL.out.mono ?_;rintro _ _ ⟨rfl,rfl⟩;(go_wp2_with fail);go_ret;exact ⟨by first | (rw [HE.out]; done) | (rw [HE.out]; rfl),Below.refl _ _⟩
    ·(have g1:((s[n].toNat:Int)==45)=false:=by rw [beq_eq_false_iff_ne]; omega);have HLA:=hid h45;clear h45;go_enter Tryz.func86,Tryz.ntmps86;(go_wp2_with fail);refine HL.out.mono ?_;rintro _ _ ⟨rfl,rfl⟩;(go_upto_block 0 with fail);(try clear d3 d4);(go_wp2_with fail);go_loopw [3] (fun i wr=>∃ k:Nat,i = .int .i64 ((k:Int)+1)∧k+1≤s.size∧Hid (oe s (k+1))∧wr=w) (fun i _=>s.size+1 - (intOf i).toNat)
     case atStart=>exact ⟨0,rfl,h0,HS0,rfl⟩
     case round =>
      obtain ⟨k,rfl,hk,HA,rfl⟩:=hrel;by_cases hlt:k+1 < s.size
      ·(have i1:(k:Int)+1 < (s.size:Int):=by omega);(have j1:(k:Int) < (n:Int):=by omega);(have j2:(k:Int) < (n:Int)+1:=by omega);(have i2:(0:Int)≤(k:Int):=by omega);(have i3:(k:Int) < (s.size:Int):=by omega);(have hk0:k < s.size:=by omega);have HL:=hid (lO s[k+1] wr);have HD:=hid (rL s[k+1] wr);cases hl2:rT s[k+1]
       ·rw [hl2] at HL;cases hd2:zz s[k+1]
        ·rw [hd2] at HD;by_cases c45:s[k+1].toNat=45
         ·(have c4:((s[k+1].toNat:Int)==45)=true:=by rw [c45]; rfl);have hC:=mE (h:=hlt) c45 (by omega);simp only [Nat.add_sub_cancel] at hC;by_cases p45:s[k].toNat=45
          ·have HE:=hid (vz hlt h16 HA.out (by rw [hC,decide_eq_true p45]; rfl));(have c5:((s[k].toNat:Int)==45)=true:=by rw [p45]; rfl);clear hC p45 c45 hl2 hd2;(go_wp2_with fail);refine HL.out.mono ?_;rintro _ _ ⟨rfl,rfl⟩;(go_wp2_with fail);refine HD.out.mono ?_;rintro _ _ ⟨rfl,rfl⟩;(go_wp2_with fail);go_ret;exact ⟨by first | (rw [HE.out]; done) | (rw [HE.out]; rfl),Below.refl _ _⟩;all_goals exact absurd (beq_iff_eq.1 c4) (by assumption)
          ·have HN:=hid (vH hlt h16 HA.out (by rw [hC,decide_eq_false p45]; rfl));(have c5:((s[k].toNat:Int)==45)=false:=by rw [beq_eq_false_iff_ne]; omega);clear hC p45 c45 hl2 hd2;(go_wp2_with fail);refine HL.out.mono ?_;rintro _ _ ⟨rfl,rfl⟩;(go_wp2_with fail);refine HD.out.mono ?_;rintro _ _ ⟨rfl,rfl⟩;(go_wp2_with fail);go_roundw
           case rel=>exact ⟨k+1,by go_num,by omega,HN,by first | rfl | trivial⟩
           case measure=>simp [intOf]<;>omega
           all_goals exact absurd (beq_iff_eq.1 c4) (by assumption)
         ·(have c4:((s[k+1].toNat:Int)==45)=false:=by rw [beq_eq_false_iff_ne]; omega);have HE:=hid (vz hlt h16 HA.out (fq hl2 hd2 c45));clear c45 hl2 hd2;(go_wp2_with fail);refine HL.out.mono ?_;rintro _ _ ⟨rfl,rfl⟩;(go_wp2_with fail);refine HD.out.mono ?_;rintro _ _ ⟨rfl,rfl⟩;(go_wp2_with fail);go_ret;exact ⟨by first | (rw [HE.out]; done) | (rw [HE.out]; rfl),Below.refl _ _⟩
        ·rw [hd2] at HD;(have hd3:48≤s[k+1].toNat∧s[k+1].toNat≤57:=by simpa [zz] using hd2);(have c4:((s[k+1].toNat:Int)==45)=false:=by rw [beq_eq_false_iff_ne]; omega);have HN:=hid (vH hlt h16 HA.out (by rw [lz hd3,decide_eq_false (by omega)]; rfl));clear hd3 hl2 hd2;(go_wp2_with fail);refine HL.out.mono ?_;rintro _ _ ⟨rfl,rfl⟩;(go_wp2_with fail);refine HD.out.mono ?_;rintro _ _ ⟨rfl,rfl⟩;(go_wp2_with fail);go_roundw
         case rel=>exact ⟨k+1,by go_num,by omega,HN,by first | rfl | trivial⟩
         case measure=>simp [intOf]<;>omega
       ·rw [hl2] at HL;(have hd3:97≤s[k+1].toNat∧s[k+1].toNat≤122:=by simpa [rT] using hl2);(have c4:((s[k+1].toNat:Int)==45)=false:=by rw [beq_eq_false_iff_ne]; omega);have HN:=hid (vH hlt h16 HA.out (jF hd3));clear hd3 hl2;(go_wp2_with fail);refine HL.out.mono ?_;rintro _ _ ⟨rfl,rfl⟩;(go_wp2_with fail);go_roundw
        case rel=>exact ⟨k+1,by go_num,by omega,HN,by first | rfl | trivial⟩
        case measure=>simp [intOf]<;>omega
      ·(have i1:¬ (k:Int)+1 < (s.size:Int):=by omega);have j1:¬ (k:Int) < (n:Int):=by omega
       have HE:=hid (show zg (bts s)=true from by
        (have hkn:k=n:=by have:=HNN.out; omega);subst hkn;have h1:=HA.out;rw [← HNN.out] at h1;have h2:=lQ h1 h0;simp only [HNN.out,Nat.add_sub_cancel] at h2
        rw [h2,decide_eq_false HLA.out]; rfl)
       (go_wp2_with fail);go_ret;exact ⟨by first | (rw [HE.out]; done) | (rw [HE.out]; rfl),Below.refl _ _⟩
  ·(have d1:¬ (s.size:Int) < 1:=by omega);(have d2:(16:Int) < (s.size:Int):=by omega);have HE:=hid (ly (s:=s) (by omega));go_enter Tryz.func86,Tryz.ntmps86;(go_wp2_with fail);go_ret;exact ⟨by first | (rw [HE.out]; done) | (rw [HE.out]; rfl),Below.refl _ _⟩
 ·(have d1:(s.size:Int) < 1:=by omega);have HE:=hid (kV (s:=s) (by omega));go_enter Tryz.func86,Tryz.ntmps86;(go_wp2_with fail);go_ret;exact ⟨by first | (rw [HE.out]; done) | (rw [HE.out]; rfl),Below.refl _ _⟩
def aD (x:Int):Int:=bits .or .u64 (IntKind.u64.wrap (x * 8192)) (x / 2251799813685248)
def YC (h:Int) (c:UInt8):Int:=IntKind.u64.wrap (aD (bits .xor .u64 h (c.toNat:Int)) * 18397679294719823053)
def lG (l:List UInt8):Int:=l.foldl YC 11400714819323198485
def z7 (l:List UInt8):Int:=bits .xor .u64 (lG l) (lG l / 536870912)
theorem nC {l:List UInt8} {k:Nat} (h:k < l.length):lG (l.take (k+1))=YC (lG (l.take k)) l[k]:=by
 rw [lG,List.take_succ_eq_append_getElem h,List.foldl_append]; rfl
theorem ki (l:List UInt8):lG (l.take l.length)=lG l:=by rw [List.take_length]
def WV (w:World) (A:Option Addr) (l:List UInt8):Prop:=l=[]∨∃ b off,A=some ⟨b,off,none⟩∧b < w.heap.size∧∀ i (h:i < l.length),w.cell? ⟨b,off+i,none⟩=some (.int .u8 (l[i].toNat:Int))
theorem YD (x:Int) (w:World):Calls Tryz.prog 62 #[.int .u64 x,.int .i64 13] w fun e w'=>e = .returned (.int .u64 (aD x))∧w=w':=by
 (have e:bits .and .u64 13 63=13:=by decide);go_enter Tryz.func62,Tryz.ntmps62;(go_wp2_with fail);go_ret;exact ⟨rfl,rfl⟩
theorem aO (x:Int) (w:World):Calls Tryz.prog 66 #[.int .u64 x,.int .u64 13] w fun e w'=>e = .returned (.int .u64 (aD x))∧w=w':=by
 go_enter Tryz.func66,Tryz.ntmps66;(go_wp2_with fail);go_ret;exact ⟨rfl,rfl⟩
theorem Yk (A:Option Addr) (c:Nat) (l:List UInt8) (w:World) (h:WV w A l) (hn:l.length≤9223372036854775807):Calls Tryz.prog 34 #[.slice A l.length c] w fun e w'=>e = .returned (.int .u64 (z7 l))∧w=w':=by
 have HA:=hid h;have HE:=hid (ki l);clear h;generalize hnn:l.length=n at *;have HN:=hid hnn;clear hnn;go_enter Tryz.func34,Tryz.ntmps34;(go_upto_block 0 with fail);(go_wp2_with fail);go_loopw [3,5,8] (fun hv cv i wr=>∃ (k:Nat) (x:Int),hv = .int .u64 x∧i = .int .i64 k∧k≤n∧Hid (x=lG (l.take k))∧wr=w) (fun _ _ i _=>n - (intOf i).toNat)
 case atStart=>exact ⟨0,_,rfl,rfl,Nat.zero_le _,hid rfl,rfl⟩
 case round =>
  obtain ⟨k,x,rfl,rfl,hk,HX,rfl⟩:=hrel;by_cases hlt:k < n
  ·(have hlt':k < l.length:=by rw [HN.out]; exact hlt);(have i1:(k:Int) < (n:Int):=by omega);have i0:(0:Int)≤(k:Int):=by omega
   obtain ⟨b,off,hA,hbl,hcell⟩:∃ b off,A=some ⟨b,off,none⟩∧b < wr.heap.size∧wr.cell? ⟨b,off+k,none⟩=some (.int .u8 (l[k].toNat:Int)):=by
    rcases HA.out with h | ⟨b,off,h1,h2,h3⟩
    ·rw [h] at hlt'; simp at hlt'
    ·exact ⟨b,off,h1,h2,h3 k hlt'⟩
   subst hA;have HS:=hid (nC hlt');(have hy:(l[k].toNat:Int) < 256:=by have:=l[k].toNat_lt; omega);(have hy0:(0:Int)≤(l[k].toNat:Int):=by omega);have HC:=hid (show YC x l[k]=IntKind.u64.wrap (aD (bits .xor .u64 x (l[k].toNat:Int)) * 18397679294719823053) from rfl);generalize (l[k].toNat:Int)=y at *;(go_wp2_with fail);refine (YD _ _).mono ?_;rintro _ _ ⟨rfl,rfl⟩;(go_wp2_with fail);go_roundw
   case rel=>exact ⟨k+1,_,rfl,by go_num,by omega,hid (by rw [HS.out,← HX.out,HC.out]),by first | rfl | trivial⟩
   case measure=>simp [intOf]<;>omega
  ·(obtain rfl:k=n:=by omega);(have i1:¬ (k:Int) < (k:Int):=by omega);(go_wp2_with fail);go_ret;exact ⟨by rw [z7,← HE.out,← HX.out]; rfl,rfl⟩
theorem ZK (A:Option Addr) (c:Nat) (l:List UInt8) (w:World) (h:WV w A l) (hn:l.length≤9223372036854775807):Calls Tryz.prog 37 #[.slice A l.length c] w fun e w'=>e = .returned (.int .u64 (z7 l))∧w=w':=by
 have HA:=hid h;have HE:=hid (ki l);clear h;generalize hnn:l.length=n at *;have HN:=hid hnn;clear hnn;go_enter Tryz.func37,Tryz.ntmps37;(go_upto_block 0 with fail);(go_wp2_with fail);go_loopw [3,4] (fun hv i wr=>∃ (k:Nat) (x:Int),hv = .int .u64 x∧i = .int .i64 k∧k≤n∧Hid (x=lG (l.take k))∧wr=w) (fun _ i _=>n - (intOf i).toNat)
 case atStart=>exact ⟨0,_,rfl,rfl,Nat.zero_le _,hid rfl,rfl⟩
 case round =>
  obtain ⟨k,x,rfl,rfl,hk,HX,rfl⟩:=hrel;by_cases hlt:k < n
  ·(have hlt':k < l.length:=by rw [HN.out]; exact hlt);(have i1:(k:Int) < (n:Int):=by omega);have i0:(0:Int)≤(k:Int):=by omega
   obtain ⟨b,off,hA,hbl,hcell⟩:∃ b off,A=some ⟨b,off,none⟩∧b < wr.heap.size∧wr.cell? ⟨b,off+k,none⟩=some (.int .u8 (l[k].toNat:Int)):=by
    rcases HA.out with h | ⟨b,off,h1,h2,h3⟩
    ·rw [h] at hlt'; simp at hlt'
    ·exact ⟨b,off,h1,h2,h3 k hlt'⟩
   subst hA;have HS:=hid (nC hlt');(have hy:(l[k].toNat:Int) < 256:=by have:=l[k].toNat_lt; omega);(have hy0:(0:Int)≤(l[k].toNat:Int):=by omega);have HC:=hid (show YC x l[k]=IntKind.u64.wrap (aD (bits .xor .u64 x (l[k].toNat:Int)) * 18397679294719823053) from rfl);generalize (l[k].toNat:Int)=y at *;(go_wp2_with fail);refine (aO _ _).mono ?_;rintro _ _ ⟨rfl,rfl⟩;(go_wp2_with fail);go_roundw
   case rel=>exact ⟨k+1,_,rfl,by go_num,by omega,hid (by rw [HS.out,← HX.out,HC.out]),by first | rfl | trivial⟩
   case measure=>simp [intOf]<;>omega
  ·(obtain rfl:k=n:=by omega);(have i1:¬ (k:Int) < (k:Int):=by omega);(go_wp2_with fail);go_ret;exact ⟨by rw [z7,← HE.out,← HX.out]; rfl,rfl⟩
theorem Texts.cell {w:World} {A:Option Addr} {l:List ByteArray} {k:Nat} (h:Texts w A l) (hk:k < l.length):∃ b off,A=some ⟨b,off,none⟩∧b < w.heap.size∧w.cell? ⟨b,off+k,none⟩=some (.string l[k]):=by
 obtain ⟨b,off,hA,hl,hc⟩:=h.at_ hk;rw [Nat.mul_one] at hc;exact ⟨b,off,hA,hl,hc⟩
theorem Texts.lay1 {w:World} {b off k:Nat} {l:List ByteArray} (h:Texts w (some ⟨b,off,none⟩) l) (hk:k < l.length):b < w.heap.size∧w.cell? ⟨b,off+k,none⟩=some (.string l[k]):=by
 obtain ⟨hl,hc⟩:=RowOf.lay h hk;rw [Nat.mul_one] at hc;exact ⟨hl,hc⟩
theorem nz (A:Option Addr) (c:Nat) (l:List ByteArray) (w:World) (h:Texts w A l) (hn:l.length≤9223372036854775807):Calls Tryz.prog 183 #[.slice A l.length c] w (yT w (xF (l.map bts))):=by
 have HA:=hid h;clear h;generalize hnn:l.length=n at *;have HN:=hid hnn;clear hnn;go_enter Tryz.func183,Tryz.ntmps183;(go_upto_block 0 with fail);(go_wp2_with fail);go_loopw [3] (fun i wr=>∃ k:Nat,i = .int .i64 ((k:Int)+1)∧k≤n∧Hid (xF (l.map bts)=xF ((l.map bts).drop k))∧Hid (KB w.heap.size w wr)) (fun i _=>n+1 - (intOf i).toNat)
 case atStart=>exact ⟨0,rfl,Nat.zero_le _,hid rfl,hid (zH _)⟩
 case round =>
  obtain ⟨k,rfl,hk,HD,HB⟩:=hrel;by_cases hlt:k+1 < n
  ·(have h1:k+1 < l.length:=by rw [HN.out]; exact hlt);have h0:k < l.length:=Nat.lt_of_succ_lt h1;obtain ⟨b,off,hA,-,-⟩:=Texts.cell HA.out h0;subst hA;have HT:=hid (fun u (hb:KB wr.heap.size wr u)=>Texts.kb (HA.out.kb HB.out) hb);(have i1:(k:Int)+1 < (n:Int):=by omega);(have i0:(k:Int) < (n:Int):=by omega);(have i2:(0:Int)≤(k:Int):=by omega);have HS:=hid (th (l:=l.map bts) (k:=k) (by rw [List.length_map]; exact h1));simp only [List.getElem_map] at HS;have hS:KB wr.heap.size wr wr.drew:=(Below.drew (Below.refl _ _)).kb;(go_upto_region 4 with fail);(refine wpS (fun u=>KB wr.heap.size wr u) (.last [0,1,2,3,4,5,6,7,8,9]) fun iS=>?_);(have q0:=fun (z:SW fun u=>KB wr.heap.size wr u)=>((HT.out z.v z.ok).lay1 h0).2);(have q1:=fun (z:SW fun u=>KB wr.heap.size wr u)=>((HT.out z.v z.ok).lay1 h1).2);(have q2:=fun (z:SW fun u=>KB wr.heap.size wr u)=>((HT.out z.v z.ok).lay1 h0).1);cases hbl:Op.bytesLess (bts l[k]) (bts l[k+1])
   ·have hbl2:Op.bytesLess l[k].toList l[k+1].toList=false:=hbl;rw [hbl] at HS;clear hbl;(with_reducible refine zJ ?_);simp only [zB,pka,pkb,pkc,pkd,pke,pkf];(repeat go_big_quiet_step (fail));refine wpQuiet_nil ?_;clear q0 q1 q2;(go_wp2_with fail);go_ret;exact ⟨by rw [HD.out,HS.out]; rfl,zA HB.out hS⟩
   ·have hbl2:Op.bytesLess l[k].toList l[k+1].toList=true:=hbl;rw [hbl,Bool.true_and] at HS;clear hbl;(with_reducible refine zJ ?_);simp only [zB,pka,pkb,pkc,pkd,pke,pkf];(repeat go_big_quiet_step (fail));refine wpQuiet_nil ?_;clear q0 q1 q2;(go_wp2_with fail);go_roundw
    case rel=>exact ⟨k+1,by go_num,by omega,hid (by rw [HD.out,HS.out]),hid (zA HB.out hS)⟩
    case measure=>simp [intOf]<;>omega
  ·(have i1:¬ (k:Int)+1 < (n:Int):=by omega);have HS:=hid (sa (l:=l.map bts) (k:=k) (by rw [List.length_map,HN.out]; omega));(go_wp2_with fail);go_ret;exact ⟨by first | (rw [HD.out,HS.out]; done) | (rw [HD.out,HS.out]; rfl),HB.out⟩
end Go.Proofs.YtiebekmefjbenaaGreatDoor
