import Derived.Test.YtgllkohjehjphaaGreatDoorVLk
set_option linter.unusedVariables false
set_option linter.unusedSimpArgs false
set_option maxRecDepth 100000
set_option maxHeartbeats 1000000
namespace Go.Proofs.YtgllkohjehjphaaGreatDoor
open Go.RowKit Go.Lib
open Rw
def gL:List ByteArray:=[⟨#[97,112,112]⟩,⟨#[98]⟩,⟨#[99]⟩,⟨#[100]⟩,⟨#[101,45,50]⟩]
def ZY:List ByteArray:=[⟨#[120]⟩,⟨#[121]⟩,⟨#[122]⟩,⟨#[119,95,49]⟩]
theorem aL:∀ s∈gL,s.size≤3:=by decide
theorem jr:∀ s∈ZY,s.size≤3:=by decide
theorem VL (w:World):(Instr.index 104 (.agg #[.string ⟨#[97,112,112]⟩,.string ⟨#[98]⟩,.string ⟨#[99]⟩,.string ⟨#[100]⟩,.string ⟨#[101,45,50]⟩]) (.int .i64 0)).run Tryz.prog w = .ok (.string ⟨#[97,112,112]⟩) w:=by kernel_rfl
theorem VO (w:World):(Instr.index 104 (.agg #[.string ⟨#[97,112,112]⟩,.string ⟨#[98]⟩,.string ⟨#[99]⟩,.string ⟨#[100]⟩,.string ⟨#[101,45,50]⟩]) (.int .i64 1)).run Tryz.prog w = .ok (.string ⟨#[98]⟩) w:=by kernel_rfl
theorem VX (w:World):(Instr.index 104 (.agg #[.string ⟨#[97,112,112]⟩,.string ⟨#[98]⟩,.string ⟨#[99]⟩,.string ⟨#[100]⟩,.string ⟨#[101,45,50]⟩]) (.int .i64 2)).run Tryz.prog w = .ok (.string ⟨#[99]⟩) w:=by kernel_rfl
theorem W9 (w:World):(Instr.index 104 (.agg #[.string ⟨#[97,112,112]⟩,.string ⟨#[98]⟩,.string ⟨#[99]⟩,.string ⟨#[100]⟩,.string ⟨#[101,45,50]⟩]) (.int .i64 3)).run Tryz.prog w = .ok (.string ⟨#[100]⟩) w:=by kernel_rfl
theorem VJ (w:World):(Instr.index 104 (.agg #[.string ⟨#[97,112,112]⟩,.string ⟨#[98]⟩,.string ⟨#[99]⟩,.string ⟨#[100]⟩,.string ⟨#[101,45,50]⟩]) (.int .i64 4)).run Tryz.prog w = .ok (.string ⟨#[101,45,50]⟩) w:=by kernel_rfl
theorem Wo (w:World):(Instr.index 125 (.agg #[.string ⟨#[120]⟩,.string ⟨#[121]⟩,.string ⟨#[122]⟩,.string ⟨#[119,95,49]⟩]) (.int .i64 0)).run Tryz.prog w = .ok (.string ⟨#[120]⟩) w:=by kernel_rfl
theorem VM (w:World):(Instr.index 125 (.agg #[.string ⟨#[120]⟩,.string ⟨#[121]⟩,.string ⟨#[122]⟩,.string ⟨#[119,95,49]⟩]) (.int .i64 1)).run Tryz.prog w = .ok (.string ⟨#[121]⟩) w:=by kernel_rfl
theorem Wy (w:World):(Instr.index 125 (.agg #[.string ⟨#[120]⟩,.string ⟨#[121]⟩,.string ⟨#[122]⟩,.string ⟨#[119,95,49]⟩]) (.int .i64 2)).run Tryz.prog w = .ok (.string ⟨#[122]⟩) w:=by kernel_rfl
theorem VA (w:World):(Instr.index 125 (.agg #[.string ⟨#[120]⟩,.string ⟨#[121]⟩,.string ⟨#[122]⟩,.string ⟨#[119,95,49]⟩]) (.int .i64 3)).run Tryz.prog w = .ok (.string ⟨#[119,95,49]⟩) w:=by kernel_rfl
theorem Wt (w:World):(Instr.index 105 (.agg #[.string ⟨#[111,115]⟩,.string ⟨#[97,114,99,104]⟩,.string ⟨#[97,98,105]⟩]) (.int .i64 0)).run Tryz.prog w = .ok (.string ⟨#[111,115]⟩) w:=by kernel_rfl
theorem VP (w:World):(Instr.index 105 (.agg #[.string ⟨#[111,115]⟩,.string ⟨#[97,114,99,104]⟩,.string ⟨#[97,98,105]⟩]) (.int .i64 1)).run Tryz.prog w = .ok (.string ⟨#[97,114,99,104]⟩) w:=by kernel_rfl
theorem W5 (w:World):(Instr.index 105 (.agg #[.string ⟨#[111,115]⟩,.string ⟨#[97,114,99,104]⟩,.string ⟨#[97,98,105]⟩]) (.int .i64 2)).run Tryz.prog w = .ok (.string ⟨#[97,98,105]⟩) w:=by kernel_rfl
theorem Wz (w:World):(Instr.index 124 (.agg #[.string ⟨#[32,61,32]⟩,.string ⟨#[32,33,61,32]⟩]) (.int .i64 0)).run Tryz.prog w = .ok (.string ⟨#[32,61,32]⟩) w:=by kernel_rfl
theorem VB (w:World):(Instr.index 124 (.agg #[.string ⟨#[32,61,32]⟩,.string ⟨#[32,33,61,32]⟩]) (.int .i64 1)).run Tryz.prog w = .ok (.string ⟨#[32,33,61,32]⟩) w:=by kernel_rfl
def Xj (w:World) (e:Ending) (w':World):Prop:=∃ s:ByteArray,e = .returned (.string s)∧Below w.heap.size w w'
theorem rF (n:Int) (w:World):Calls Tryz.prog 43 #[.int .i64 n] w fun e w'=>∃ s∈gL,e = .returned (.string s)∧w=w':=by
 have HP:=hid (s8 n 5 w (by omega) (by omega));have hb:=p9 n 5 (by omega);generalize vZ n 5=p at *;have qnm0:=VL;have qnm1:=VO;have qnm2:=VX;have qnm3:=W9;have qnm4:=VJ;go_enter Tryz.func43,Tryz.ntmps43;(go_wp2_with fail);refine HP.out.mono ?_;rintro _ _ ⟨rfl,rfl⟩;(have hp:p=0∨p=1∨p=2∨p=3∨p=4:=by omega);clear hb HP;rcases hp with rfl | rfl | rfl | rfl | rfl
 all_goals
  (go_wp2_with fail);(try rw [Exit.noGoto_ret]);(try go_ret);exact ⟨_,by simp [gL],rfl,rfl⟩
theorem jk (n:Int) (w:World):Calls Tryz.prog 99 #[.int .i64 n] w fun e w'=>∃ s∈ZY,e = .returned (.string s)∧w=w':=by
 have HP:=hid (s8 n 4 w (by omega) (by omega));have hb:=p9 n 4 (by omega);generalize vZ n 4=p at *;have qwd0:=Wo;have qwd1:=VM;have qwd2:=Wy;have qwd3:=VA;go_enter Tryz.func99,Tryz.ntmps99;(go_wp2_with fail);refine HP.out.mono ?_;rintro _ _ ⟨rfl,rfl⟩;(have hp:p=0∨p=1∨p=2∨p=3:=by omega);clear hb HP;rcases hp with rfl | rfl | rfl | rfl
 all_goals
  (go_wp2_with fail);(try rw [Exit.noGoto_ret]);(try go_ret);exact ⟨_,by simp [ZY],rfl,rfl⟩
def Vn:List Value:=[.int .i64 9,.int .i64 7,.int .i64 6,.int .i64 3,.int .i64 1,.int .i64 2]
theorem gi (A:Option Addr) (cap:Nat) (zs:List Int) (i:Int) (w:World) (h:IntsAt w A zs) (hi:0≤i) (hi2:i≤10000000) (hln:zs.length≤9223372036854775807):Calls Tryz.prog 59 #[.slice A zs.length cap,.int .i64 i] w (Xj w):=by
 (have hf:∀ (j n:Int) (w':World),Below w.heap.size w w'→0≤j→j≤1000000000→0 < n→n≤1000000→Calls Tryz.prog 23 #[.slice A zs.length cap,.int .i64 j,.int .i64 n] w' fun e w''=>e = .returned (.int .i64 (xh zs j n))∧w'=w'':=fun j n w' hb h1 h2 h3 h4=>un A cap zs j n w' (h.below hb) h1 h2 hln h3 h4);have C2:=hid (fun w' hb=>hf i 6 w' hb (by omega) (by omega) (by omega) (by omega));have C8:=hid (fun w' hb=>hf (i+1) 3 w' hb (by omega) (by omega) (by omega) (by omega));have C12:=hid (fun w' hb=>hf (i+2) 2 w' hb (by omega) (by omega) (by omega) (by omega));have b1:=vO zs i 6 (by omega);clear h hf;generalize xh zs i 6=k at *;generalize xh zs (i+1) 3=p at *;generalize xh zs (i+2) 2=q at *;generalize zs.length=n at *;obtain ⟨m,rfl⟩:∃ m:Nat,k=(m:Int):=⟨k.toNat,by omega⟩
 obtain ⟨v,hv⟩:∃ v:Int,Vn[m]?=some (.int .i64 v):=by
  (have:m=0∨m=1∨m=2∨m=3∨m=4∨m=5:=by omega);rcases this with rfl | rfl | rfl | rfl | rfl | rfl<;>exact ⟨_,rfl⟩
 have HV:=hid hv;(have m0:(0:Int)≤(m:Int):=by omega);(have m1:(m:Int) < 6:=by omega);clear hv b1;have HPR:=hid (fun u=>sI ⟨v,3,⟨p,q,0,⟨#[]⟩,⟨#[]⟩⟩⟩ u (Xw p q 0));go_enter Tryz.func59,Tryz.ntmps59;(go_upto_region 2 with fail);refine zI ?_;intro w1 hw1;have HOB:=hid (show Box w1 w.heap.size Vn by rw [hw1]; exact Box.new w Vn 120);have HB1:=hid (show Below w.heap.size w w1 by rw [hw1]; exact zL _ _);clear hw1;have hS:Below w1.heap.size w1 w1.drew:=Below.drew (Below.refl _ _);have HS1:=hid (zC HB1.out hS);(refine wpS (fun u=>Below w1.heap.size w1 u) (.two [0,1,5,6,7,9,10,11] 2 15 (.two [3,4] 8 15 (.two [] 12 15 (.call [13,14] 15 (.call [] 16 (.last []))) (.call [] 12 (.call [13,14] 16 (.last [])))) (.call [] 8 (.call [] 12 (.call [13,14] 16 (.last []))))) (.call [] 2 (.call [3,4] 8 (.call [] 12 (.call [13,14] 16 (.last [])))))) fun iS=>?_);(have oc:=fun (z:SW fun u=>Below w1.heap.size w1 u)=>(HOB.out.below z.ok).2 m _ HV.out);(have ol:=fun (z:SW fun u=>Below w1.heap.size w1 u)=>(HOB.out.below z.ok).1);(with_reducible refine uh ?_);simp only [zB,pka,pkb,pkc,pkd,pke,pkf];(repeat go_big_quiet_step (fail));refine wpQuiet_nil ?_;refine ⟨?_,?_⟩
 ·(go_wp2_with fail);refine (C2.out _ HS1.out).mono ?_;rintro _ _ ⟨rfl,rfl⟩;(go_wp2_with fail);refine zE hS ?_;(with_reducible refine uh ?_);simp only [zB,pka,pkb,pkc,pkd,pke,pkf];(repeat go_big_quiet_step (fail));refine wpQuiet_nil ?_;refine ⟨?_,?_⟩
  ·(go_wp2_with fail);refine (C8.out _ HS1.out).mono ?_;rintro _ _ ⟨rfl,rfl⟩;(go_wp2_with fail);refine zE hS ?_;(with_reducible refine uh ?_);simp only [zB,pka,pkb,pkc,pkd,pke,pkf];(repeat go_big_quiet_step (fail));refine wpQuiet_nil ?_;refine ⟨?_,?_⟩
   ·(go_wp2_with fail);refine (C12.out _ HS1.out).mono ?_;rintro _ _ ⟨rfl,rfl⟩;(go_wp2_with fail);refine zE hS ?_;(with_reducible refine zD ?_);simp only [zB,pka,pkb,pkc,pkd,pke,pkf];(repeat go_big_quiet_step (fail));refine wpQuiet_nil ?_;(go_wp2_with fail);have HB5:=hid (show Below w1.heap.size w1 ((w1.alloc (.cells #[.int .i64 0,.int .i64 0,.int .i64 0,.int .i64 0,.int .i64 0,.string ⟨#[]⟩,.string ⟨#[]⟩] 122)).drew) from Below.drew (zL w1 _));have HO5:=hid (show Own w1.heap.size ((w1.alloc (.cells #[.int .i64 0,.int .i64 0,.int .i64 0,.int .i64 0,.int .i64 0,.string ⟨#[]⟩,.string ⟨#[]⟩] 122)).drew) w1.heap.size xW from (Own.new w1 xW 122 (Nat.le_refl _)).below (Below.drew (Below.refl _ _)));generalize ((w1.alloc (.cells #[.int .i64 0,.int .i64 0,.int .i64 0,.int .i64 0,.int .i64 0,.string ⟨#[]⟩,.string ⟨#[]⟩] 122)).drew)=w5 at *;refine zE HB5.out ?_;(with_reducible refine zD ?_);simp only [zB,pka,pkb,pkc,pkd,pke,pkf];(repeat go_big_quiet_step (fail));refine wpQuiet_nil ?_;obtain ⟨y0,y1,y2,y3,y4,y5,y6⟩:=HO5.out.box.get7;have sf:∀ j,w5.frozen? ⟨w1.heap.size,j,none⟩=false:=HO5.out.soft;have yl:=HO5.out.box.1;(go_wp2_with fail);refine zE (ze HB5.out (Nat.le_refl _) _ _ _ _ _ _ _) ?_;(with_reducible refine zJ ?_);simp only [zB,pka,pkb,pkc,pkd,pke,pkf];(repeat go_big_quiet_step (fail));refine wpQuiet_nil ?_;clear oc ol iS y0 y1 y2 y3 y4 y5 y6 sf yl
    (go_upto_region 3 with fail);refine zI ?_;intro w9 hw9;(have O9:Own w1.heap.size w9 w1.heap.size [.int .i64 v,.int .i64 3,.int .i64 p,.int .i64 q,.int .i64 0,.string ⟨#[]⟩,.string ⟨#[]⟩]:=by rw [hw9]; exact HO5.out.set7 _ _ _ _ _ _ _);have B9:=hid (show Below w.heap.size w w9 by rw [hw9]; exact zC HB1.out (ze HB5.out (Nat.le_refl _) _ _ _ _ _ _ _));clear hw9;obtain ⟨k0,k1,k2,k3,k4,k5,k6⟩:=O9.box.get7;have kl:=O9.box.1;clear O9;by_cases h9:v=9
    ·subst h9;(go_wp2_with fail);(try rw [Exit.noGoto_ret]);(try go_ret);exact ⟨_,rfl,B9.out⟩
    ·(have e9:(v==9)=false:=by rw [beq_eq_false_iff_ne]; exact h9);clear h9;(go_wp2_with fail);refine (HPR.out _).mono ?_;rintro _ u ⟨s,rfl,-,hb⟩;have HBU:=hid (zC B9.out hb);clear hb;(go_wp2_with fail);(try rw [Exit.noGoto_ret]);(try go_ret);exact ⟨s,rfl,HBU.out⟩
   ·(go_wp2_with fail);have HB5:=hid (show Below w1.heap.size w1 ((w1.alloc (.cells #[.int .i64 0,.int .i64 0,.int .i64 0,.int .i64 0,.int .i64 0,.string ⟨#[]⟩,.string ⟨#[]⟩] 122)).drew) from Below.drew (zL w1 _));have HO5:=hid (show Own w1.heap.size ((w1.alloc (.cells #[.int .i64 0,.int .i64 0,.int .i64 0,.int .i64 0,.int .i64 0,.string ⟨#[]⟩,.string ⟨#[]⟩] 122)).drew) w1.heap.size xW from (Own.new w1 xW 122 (Nat.le_refl _)).below (Below.drew (Below.refl _ _)));generalize ((w1.alloc (.cells #[.int .i64 0,.int .i64 0,.int .i64 0,.int .i64 0,.int .i64 0,.string ⟨#[]⟩,.string ⟨#[]⟩] 122)).drew)=w5 at *;refine zE HB5.out ?_;(with_reducible refine zD ?_);simp only [zB,pka,pkb,pkc,pkd,pke,pkf];(repeat go_big_quiet_step (fail));refine wpQuiet_nil ?_;(go_wp2_with fail);refine (C12.out _ (zC HB1.out HB5.out)).mono ?_;rintro _ _ ⟨rfl,rfl⟩;(go_wp2_with fail);refine zE HB5.out ?_;(with_reducible refine zD ?_);simp only [zB,pka,pkb,pkc,pkd,pke,pkf];(repeat go_big_quiet_step (fail));refine wpQuiet_nil ?_;obtain ⟨y0,y1,y2,y3,y4,y5,y6⟩:=HO5.out.box.get7;have sf:∀ j,w5.frozen? ⟨w1.heap.size,j,none⟩=false:=HO5.out.soft;have yl:=HO5.out.box.1;(go_wp2_with fail);refine zE (ze HB5.out (Nat.le_refl _) _ _ _ _ _ _ _) ?_;(with_reducible refine zJ ?_);simp only [zB,pka,pkb,pkc,pkd,pke,pkf];(repeat go_big_quiet_step (fail));refine wpQuiet_nil ?_;clear oc ol iS y0 y1 y2 y3 y4 y5 y6 sf yl
    (go_upto_region 3 with fail);refine zI ?_;intro w9 hw9;(have O9:Own w1.heap.size w9 w1.heap.size [.int .i64 v,.int .i64 3,.int .i64 p,.int .i64 q,.int .i64 0,.string ⟨#[]⟩,.string ⟨#[]⟩]:=by rw [hw9]; exact HO5.out.set7 _ _ _ _ _ _ _);have B9:=hid (show Below w.heap.size w w9 by rw [hw9]; exact zC HB1.out (ze HB5.out (Nat.le_refl _) _ _ _ _ _ _ _));clear hw9;obtain ⟨k0,k1,k2,k3,k4,k5,k6⟩:=O9.box.get7;have kl:=O9.box.1;clear O9;by_cases h9:v=9
    ·subst h9;(go_wp2_with fail);(try rw [Exit.noGoto_ret]);(try go_ret);exact ⟨_,rfl,B9.out⟩
    ·(have e9:(v==9)=false:=by rw [beq_eq_false_iff_ne]; exact h9);clear h9;(go_wp2_with fail);refine (HPR.out _).mono ?_;rintro _ u ⟨s,rfl,-,hb⟩;have HBU:=hid (zC B9.out hb);clear hb;(go_wp2_with fail);(try rw [Exit.noGoto_ret]);(try go_ret);exact ⟨s,rfl,HBU.out⟩
  ·(go_wp2_with fail);have HB5:=hid (show Below w1.heap.size w1 ((w1.alloc (.cells #[.int .i64 0,.int .i64 0,.int .i64 0,.int .i64 0,.int .i64 0,.string ⟨#[]⟩,.string ⟨#[]⟩] 122)).drew) from Below.drew (zL w1 _));have HO5:=hid (show Own w1.heap.size ((w1.alloc (.cells #[.int .i64 0,.int .i64 0,.int .i64 0,.int .i64 0,.int .i64 0,.string ⟨#[]⟩,.string ⟨#[]⟩] 122)).drew) w1.heap.size xW from (Own.new w1 xW 122 (Nat.le_refl _)).below (Below.drew (Below.refl _ _)));generalize ((w1.alloc (.cells #[.int .i64 0,.int .i64 0,.int .i64 0,.int .i64 0,.int .i64 0,.string ⟨#[]⟩,.string ⟨#[]⟩] 122)).drew)=w5 at *;refine zE HB5.out ?_;(with_reducible refine zD ?_);simp only [zB,pka,pkb,pkc,pkd,pke,pkf];(repeat go_big_quiet_step (fail));refine wpQuiet_nil ?_;(go_wp2_with fail);refine (C8.out _ (zC HB1.out HB5.out)).mono ?_;rintro _ _ ⟨rfl,rfl⟩;(go_wp2_with fail);refine zE HB5.out ?_;(with_reducible refine zD ?_);simp only [zB,pka,pkb,pkc,pkd,pke,pkf];(repeat go_big_quiet_step (fail));refine wpQuiet_nil ?_;(go_wp2_with fail);refine (C12.out _ (zC HB1.out HB5.out)).mono ?_;rintro _ _ ⟨rfl,rfl⟩;(go_wp2_with fail);refine zE HB5.out ?_;(with_reducible refine zD ?_);simp only [zB,pka,pkb,pkc,pkd,pke,pkf];(repeat go_big_quiet_step (fail));refine wpQuiet_nil ?_;obtain ⟨y0,y1,y2,y3,y4,y5,y6⟩:=HO5.out.box.get7;have sf:∀ j,w5.frozen? ⟨w1.heap.size,j,none⟩=false:=HO5.out.soft
   have yl:=HO5.out.box.1;(go_wp2_with fail);refine zE (ze HB5.out (Nat.le_refl _) _ _ _ _ _ _ _) ?_;(with_reducible refine zJ ?_);simp only [zB,pka,pkb,pkc,pkd,pke,pkf];(repeat go_big_quiet_step (fail));refine wpQuiet_nil ?_;clear oc ol iS y0 y1 y2 y3 y4 y5 y6 sf yl;(go_upto_region 3 with fail);refine zI ?_;intro w9 hw9;(have O9:Own w1.heap.size w9 w1.heap.size [.int .i64 v,.int .i64 3,.int .i64 p,.int .i64 q,.int .i64 0,.string ⟨#[]⟩,.string ⟨#[]⟩]:=by rw [hw9]; exact HO5.out.set7 _ _ _ _ _ _ _);have B9:=hid (show Below w.heap.size w w9 by rw [hw9]; exact zC HB1.out (ze HB5.out (Nat.le_refl _) _ _ _ _ _ _ _));clear hw9;obtain ⟨k0,k1,k2,k3,k4,k5,k6⟩:=O9.box.get7;have kl:=O9.box.1;clear O9;by_cases h9:v=9
   ·subst h9;(go_wp2_with fail);(try rw [Exit.noGoto_ret]);(try go_ret);exact ⟨_,rfl,B9.out⟩
   ·(have e9:(v==9)=false:=by rw [beq_eq_false_iff_ne]; exact h9);clear h9;(go_wp2_with fail);refine (HPR.out _).mono ?_;rintro _ u ⟨s,rfl,-,hb⟩;have HBU:=hid (zC B9.out hb);clear hb;(go_wp2_with fail);(try rw [Exit.noGoto_ret]);(try go_ret);exact ⟨s,rfl,HBU.out⟩
 ·(go_wp2_with fail);have HB5:=hid (show Below w1.heap.size w1 ((w1.alloc (.cells #[.int .i64 0,.int .i64 0,.int .i64 0,.int .i64 0,.int .i64 0,.string ⟨#[]⟩,.string ⟨#[]⟩] 122)).drew) from Below.drew (zL w1 _));have HO5:=hid (show Own w1.heap.size ((w1.alloc (.cells #[.int .i64 0,.int .i64 0,.int .i64 0,.int .i64 0,.int .i64 0,.string ⟨#[]⟩,.string ⟨#[]⟩] 122)).drew) w1.heap.size xW from (Own.new w1 xW 122 (Nat.le_refl _)).below (Below.drew (Below.refl _ _)));generalize ((w1.alloc (.cells #[.int .i64 0,.int .i64 0,.int .i64 0,.int .i64 0,.int .i64 0,.string ⟨#[]⟩,.string ⟨#[]⟩] 122)).drew)=w5 at *;refine zE HB5.out ?_;(with_reducible refine zD ?_);simp only [zB,pka,pkb,pkc,pkd,pke,pkf];(repeat go_big_quiet_step (fail));refine wpQuiet_nil ?_;(go_wp2_with fail);refine (C2.out _ (zC HB1.out HB5.out)).mono ?_;rintro _ _ ⟨rfl,rfl⟩;(go_wp2_with fail);refine zE HB5.out ?_;(with_reducible refine zD ?_);simp only [zB,pka,pkb,pkc,pkd,pke,pkf];(repeat go_big_quiet_step (fail));refine wpQuiet_nil ?_;(go_wp2_with fail);refine (C8.out _ (zC HB1.out HB5.out)).mono ?_;rintro _ _ ⟨rfl,rfl⟩;(go_wp2_with fail);refine zE HB5.out ?_;(with_reducible refine zD ?_);simp only [zB,pka,pkb,pkc,pkd,pke,pkf];(repeat go_big_quiet_step (fail));refine wpQuiet_nil ?_;(go_wp2_with fail);refine (C12.out _ (zC HB1.out HB5.out)).mono ?_;rintro _ _ ⟨rfl,rfl⟩;(go_wp2_with fail);refine zE HB5.out ?_
  (with_reducible refine zD ?_);simp only [zB,pka,pkb,pkc,pkd,pke,pkf];(repeat go_big_quiet_step (fail));refine wpQuiet_nil ?_;obtain ⟨y0,y1,y2,y3,y4,y5,y6⟩:=HO5.out.box.get7;have sf:∀ j,w5.frozen? ⟨w1.heap.size,j,none⟩=false:=HO5.out.soft;have yl:=HO5.out.box.1;(go_wp2_with fail);refine zE (ze HB5.out (Nat.le_refl _) _ _ _ _ _ _ _) ?_;(with_reducible refine zJ ?_);simp only [zB,pka,pkb,pkc,pkd,pke,pkf];(repeat go_big_quiet_step (fail));refine wpQuiet_nil ?_;clear oc ol iS y0 y1 y2 y3 y4 y5 y6 sf yl;(go_upto_region 3 with fail);refine zI ?_;intro w9 hw9;(have O9:Own w1.heap.size w9 w1.heap.size [.int .i64 v,.int .i64 3,.int .i64 p,.int .i64 q,.int .i64 0,.string ⟨#[]⟩,.string ⟨#[]⟩]:=by rw [hw9]; exact HO5.out.set7 _ _ _ _ _ _ _);have B9:=hid (show Below w.heap.size w w9 by rw [hw9]; exact zC HB1.out (ze HB5.out (Nat.le_refl _) _ _ _ _ _ _ _));clear hw9;obtain ⟨k0,k1,k2,k3,k4,k5,k6⟩:=O9.box.get7;have kl:=O9.box.1;clear O9;by_cases h9:v=9
  ·subst h9;(go_wp2_with fail);(try rw [Exit.noGoto_ret]);(try go_ret);exact ⟨_,rfl,B9.out⟩
  ·(have e9:(v==9)=false:=by rw [beq_eq_false_iff_ne]; exact h9);clear h9;(go_wp2_with fail);refine (HPR.out _).mono ?_;rintro _ u ⟨s,rfl,-,hb⟩;have HBU:=hid (zC B9.out hb);clear hb;(go_wp2_with fail);(try rw [Exit.noGoto_ret]);(try go_ret);exact ⟨s,rfl,HBU.out⟩
theorem ji (A:Option Addr) (cap:Nat) (zs:List Int) (i:Int) (w:World) (h:IntsAt w A zs) (hi:0≤i) (hi2:i≤10000000) (hln:zs.length≤9223372036854775807):Calls Tryz.prog 60 #[.slice A zs.length cap,.int .i64 i] w (Xj w):=by
 (have hf:∀ (j n:Int) (w':World),Below w.heap.size w w'→0≤j→j≤1000000000→0 < n→n≤1000000→Calls Tryz.prog 23 #[.slice A zs.length cap,.int .i64 j,.int .i64 n] w' fun e w''=>e = .returned (.int .i64 (xh zs j n))∧w'=w'':=fun j n w' hb h1 h2 h3 h4=>un A cap zs j n w' (h.below hb) h1 h2 hln h3 h4);have C1:=hid (fun w' hb=>hf i 6 w' hb (by omega) (by omega) (by omega) (by omega));have C7:=hid (fun w' hb=>hf (i+1) 2 w' hb (by omega) (by omega) (by omega) (by omega));have C13:=hid (fun w' hb=>hf (i+1) 3 w' hb (by omega) (by omega) (by omega) (by omega));have HWD:=hid (fun n u=>jk n u);have b1:=vO zs i 6 (by omega);have b2:=vO zs (i+1) 2 (by omega);have b3:=vO zs (i+1) 3 (by omega);clear h hf;generalize xh zs i 6=k at *;generalize xh zs (i+1) 2=p at *;generalize xh zs (i+1) 3=q at *;generalize zs.length=n at *;have qos0:=Wt;have qos1:=VP;have qos2:=W5;have qeq0:=Wz;have qeq1:=VB;go_enter Tryz.func60,Tryz.ntmps60;(go_wp2_with fail);refine (C1.out _ (Below.refl _ _)).mono ?_;rintro _ _ ⟨rfl,rfl⟩;by_cases h2:2 < k
 ·have d2:decide (2 < k)=true:=decide_eq_true h2;(go_wp2_with fail);(try rw [Exit.noGoto_ret]);(try go_ret);exact ⟨_,rfl,Below.refl _ _⟩
 ·have d2:decide (2 < k)=false:=decide_eq_false h2;(have hk:k=0∨k=1∨k=2:=by omega);(have hp:p=0∨p=1:=by omega);clear b1 b2 h2 C1;(go_upto_region 4 with fail);have hS:Below w.heap.size w w.drew:=Below.drew (Below.refl _ _);rcases hk with rfl | rfl | rfl<;>rcases hp with rfl | rfl
  all_goals
   (refine wpS (fun u=>Below w.heap.size w u) (.call [0,1,2,3,4,5,6,10,11,12] 7 (.call [8,9] 13 (.call [14] 15 (.last [16,17])))) fun iS=>?_);(with_reducible refine zD ?_);simp only [zB,pka,pkb,pkc,pkd,pke,pkf];(repeat go_big_quiet_step (fail));refine wpQuiet_nil ?_;(go_wp2_with fail);refine (C7.out _ hS).mono ?_;rintro _ _ ⟨rfl,rfl⟩;(go_wp2_with fail);refine zE (hS) ?_;(with_reducible refine zD ?_);simp only [zB,pka,pkb,pkc,pkd,pke,pkf];(repeat go_big_quiet_step (fail));refine wpQuiet_nil ?_;(go_wp2_with fail);refine (C13.out _ hS).mono ?_;rintro _ _ ⟨rfl,rfl⟩;(go_wp2_with fail);refine zE (hS) ?_;(with_reducible refine zD ?_);simp only [zB,pka,pkb,pkc,pkd,pke,pkf];(repeat go_big_quiet_step (fail));refine wpQuiet_nil ?_;(go_wp2_with fail);refine (HWD.out _ _).mono ?_;rintro _ _ ⟨s,hs,rfl,rfl⟩;(go_wp2_with fail);refine zE (hS) ?_;have hsz:=jr s hs;(with_reducible refine zJ ?_);simp only [zB,pka,pkb,pkc,pkd,pke,pkf];(repeat go_big_quiet_step (fail));refine wpQuiet_nil ?_;clear iS;(go_wp2_with fail);(try rw [Exit.noGoto_ret]);(try go_ret);exact ⟨_,rfl,hS⟩
theorem nV {F:World→Prop} {w:World} (h:∀ w',w'=w→F w'):F w:=h w rfl
def xH (w:World) (B:Nat) (o:Option Nat):World:={ w with heap:=w.heap.mapIdx fun k ob=>if k < B∨o=some k then .cells #[] 9 else ob }
theorem xL (w:World) (B:Nat) (o:Option Nat):(xH w B o).heap.size=w.heap.size:=by simp [xH]
theorem wQ {w:World} {B:Nat} {o:Option Nat} {p:Addr} {v:Value}:(xH w B o).cell? p=some v↔(B≤p.block∧o≠some p.block)∧w.cell? p=some v:=by
 unfold World.cell? xH;dsimp only;rw [Array.getElem?_mapIdx];cases h:w.heap[p.block]? with
 | none=>simp
 | some ob =>
  rw [Option.map_some];by_cases h2:p.block < B∨o=some p.block
  ·rw [if_pos h2];constructor
   ·intro e;simp at e
   ·rintro ⟨⟨h3,h4⟩,-⟩;rcases h2 with h2 | h2
    ·omega
    ·exact absurd h2 h4
  ·rw [if_neg h2];constructor
   ·intro e;exact ⟨⟨by omega,fun e2=>h2 (.inr e2)⟩,e⟩
   ·rintro ⟨-,e⟩;exact e
theorem Mono.of_mask (w:World) (B:Nat) (o:Option Nat):Mono (xH w B o) w:=⟨by rw [xL]; exact Nat.le_refl _,fun _ _ e=>(wQ.1 e).2⟩
theorem vd {w w':World} {B B':Nat} {o o':Option Nat} (hs:w.heap.size≤w'.heap.size) (h:∀ k,k < w.heap.size→B≤k→o≠some k→(B'≤k∧o'≠some k)∧w'.heap[k]?=w.heap[k]?):Mono (xH w B o) (xH w' B' o'):=by
 refine ⟨by rw [xL,xL]; exact hs,fun p v e=>?_⟩;obtain ⟨⟨h1,h2⟩,h3⟩:=wQ.1 e;obtain ⟨h4,h5⟩:=h p.block (ZF h3) h1 h2;exact wQ.2 ⟨h4,(World.cell?_of_block h5).trans h3⟩
theorem rm {w w':World} {B:Nat} {o:Option Nat} (hb:KB w.heap.size w w'):Mono (xH w B o) (xH w' B o):=vd hb.size fun k hk h1 h2=>⟨⟨h1,h2⟩,hb.block k hk⟩
theorem yK {w:World} {B B':Nat} {o:Option Nat} (h:B≤B') (ho:∀ k,o=some k→k < B'):Mono (xH w B' none) (xH w B o):=vd (Nat.le_refl _) fun k _ h1 _=>⟨⟨by omega,fun e=>by have:=ho k e; omega⟩,rfl⟩
theorem ZI {w:World} {B:Nat} {o:Option Nat}:Mono (xH w B o) (xH w B none):=vd (Nat.le_refl _) fun k _ h1 _=>⟨⟨h1,fun e=>by cases e⟩,rfl⟩
theorem pA {w:World} {g j k:Nat} {x:Value} (h:k≠g):(w.setCell ⟨g,j,none⟩ x).heap[k]?=w.heap[k]?:=by
 unfold World.setCell;simp [Array.getElem?_modify,Ne.symm h]
theorem yC {w:World} {B g j:Nat} {o:Option Nat} {x:Value} (h:g < B∨o=some g):Mono (xH w B o) (xH (w.setCell ⟨g,j,none⟩ x) B o):=vd (by rw [World.size_setCell]; exact Nat.le_refl _) fun k _ h1 h2=>⟨⟨h1,h2⟩,pA fun e=>by
 subst e;rcases h with h | h
 ·omega
 ·exact h2 h⟩
section
variable {α:Type} {T:TypeId} {n:Nat} {f:α→List Value} {Sub:World→α→Prop} {w w':World} {base:Nat} {v v':Value} {ps:List α}
def Deep (T:TypeId) (n:Nat) (f:α→List Value) (Sub:World→α→Prop) (w:World) (base:Nat) (v:Value) (ps:List α):Prop:=OwnL T n f w base v ps∧∀ p∈ps,Sub (xH w base v.ownBlock) p
theorem Deep.nil:Deep T n f Sub w base (.slice none 0 0) []:=⟨OwnL.nil,fun p hp=>by cases hp⟩
theorem Deep.kb (hm:∀ (w w':World) (p:α),Mono w w'→Sub w p→Sub w' p) (h:Deep T n f Sub w base v ps) (hb:KB w.heap.size w w'):Deep T n f Sub w' base v ps:=⟨h.1.kb hb,fun p hp=>hm _ _ _ (rm hb) (h.2 p hp)⟩
theorem Deep.put (hm:∀ (w w':World) (p:α),Mono w w'→Sub w p→Sub w' p) (h:Deep T n f Sub w base v ps) {g j:Nat} (hg:g < base) (x:Value):Deep T n f Sub (w.setCell ⟨g,j,none⟩ x) base v ps :=
 ⟨oR (o:=j) (vs:=[x]) h.1 (fun e=>by have:=(World.ownsRow.lt h.1 _ e).1; omega),fun p hp=>hm _ _ _ (yC (.inl hg)) (h.2 p hp)⟩
theorem Deep.lt (h:Deep T n f Sub w base v ps):∀ k,v.ownBlock=some k→k < w.heap.size:=fun k e=>(World.ownsRow.lt h.1 k e).2
theorem Deep.snoc (hm:∀ (w w':World) (p:α),Mono w w'→Sub w p→Sub w' p) (h:Deep T n f Sub w base v ps) {a:α} (ha:Sub (xH w base v.ownBlock) a) (h2:w'.ownsRow base T n v' (ps.length+1) (ps.flatMap f++f a)) (hg:w.grownBy w' v.ownBlock) (hv:∀ k,v'.ownBlock=some k→v.ownBlock=some k∨w.heap.size≤k):Deep T n f Sub w' base v' (ps++[a]):=by
 have hM:Mono (xH w base v.ownBlock) (xH w' base v'.ownBlock):=vd hg.size fun k hk h1 h2=>⟨⟨h1,fun e=>by
  rcases hv k e with e | e
  ·exact h2 e
  ·omega⟩,hg.block k hk fun e=>h2 e.symm⟩
 refine ⟨OwnL.snoc h2,fun p hp=>?_⟩;rcases List.mem_append.1 hp with hp | hp
 ·exact hm _ _ _ hM (h.2 p hp)
 ·(rcases List.mem_singleton.1 hp with rfl);exact hm _ _ _ hM ha
theorem Deep.fresh (hf:∀ a,(f a).length=n) (hm:∀ (w w':World) (p:α),Mono w w'→Sub w p→Sub w' p) (h:Deep T n f Sub w base v ps):∃ A c,v = .slice A ps.length c∧ps.length≤c∧Lies n f (xH w base none) A ps∧∀ p∈ps,Sub (xH w base none) p:=by
 obtain ⟨A,c,hv,hl,hb,hc⟩:=OwnL.lies hf h.1;refine ⟨A,c,hv,hc,?_,fun p hp=>hm _ _ _ ZI (h.2 p hp)⟩;rcases hl with hl | ⟨b,off,rfl,hlt,hcell⟩
 ·exact .inl hl
 ·refine .inr ⟨b,off,rfl,by rw [xL]; exact hlt,fun i hi j u hj=>wQ.2 ⟨⟨(hb _ rfl).1,fun e=>by cases e⟩,hcell i hi j u hj⟩⟩
end
section
variable {P:Program} {w:World} {base size n bytes:Nat} {t e:TypeId} {v:Value} {xs:List Value}
theorem rY (E:EK P t e size bytes) {ops:Array Oper} {o:Oper} {a:Act} {K:Act→World→Prop} {Q:Exit→Act→World→Prop} {F:Prop} (hgd:o.guard=none) (s x:Operand)
 (ho:o.op = .call { callee := .builtin .append,args:=#[s,x],argTypes:=#[t,t] }) (news:List Value)
 (hown:w.ownsRow base e size v n xs) (hs:a.eval s=v) (hx:a.eval x = .slice (some ⟨w.heap.size,0,none⟩) 1 1) (hl:news.length=size) (h1:∀ u∈news,u.oneCell'=true)
 (hm:n+1≤maxLen) (hn:(n+1) * bytes≤140737488355328) (hbase:base≤w.heap.size)
 (h:∀ v' w',w'.ownsRow base e size v' (n+1) (xs++news)→Below base w w'→w.grownBy w' v.ownBlock→(∀ k,v'.ownBlock=some k→v.ownBlock=some k∨w.heap.size≤k)→K (a.put o.dst v') w') :
 if Region.wanted o (yielded ops a.tmps)=true then Oper.wp P o a (w.alloc (.cells news.toArray e)) K Q else F:=by
 rw [if_pos (by simp [Region.wanted,hgd])]
 obtain ⟨v',w',hrun,h2,h3,h4,h5⟩:=gI (P:=P) (w:=w.alloc (.cells news.toArray e)) E o.type (hown.alloc _) (ad:=⟨w.heap.size,0,none⟩) (m:=1) (c:=1) (news:=news) (by omega) (fun j u hj=>by
  have hz:(⟨w.heap.size,0,none⟩:Addr).add j=⟨w.heap.size,j,none⟩:=by
   unfold Addr.add;split<;>simp_all
  rw [hz,World.cell?_alloc_at _ _ _ _ rfl]
  simpa using hj) h1 (by omega) hm hn (by simp; omega)
 unfold Oper.wp execOp
 simp only [ho,resolve,invoke,builtin,Sem.run_bind,Sem.run_pure,Result.andThen_ok,List.map_toArray,List.map_cons,List.map_nil,hs,hx,hrun]
 refine h v' w' h2 (((Below.refl _ _).alloc hbase _).trans h3) (lD (World.grownBy_alloc w _ _) h4) fun k hk=>(h5 k hk).imp id fun h=>?_
 rw [h]; simp
end
theorem WpSub.mono (w w':World) (p:WishL × Hdr) (m:Mono w w') (h:WpSub w p):WpSub w' p:=⟨RowOf.mono TextAt.mono h.1 m,h.2⟩
theorem NpSub.mono (w w':World) (p:NeedL × Hdr) (m:Mono w w') (h:NpSub w p):NpSub w' p:=⟨RowOf.mono WishAt.mono h.1 m,h.2⟩
theorem FpSub.mono (w w':World) (p:FeatL × Hdr) (m:Mono w w') (h:FpSub w p):FpSub w' p:=⟨RowOf.mono TextAt.mono h.1 m,h.2⟩
theorem XR (p:WishL × Hdr):(ut p).length=4:=rfl
theorem W7 (p:NeedL × Hdr):(uk p).length=3:=rfl
theorem VK (p:FeatL × Hdr):(sR p).length=2:=rfl
theorem Wj (p:WishL × Hdr):∀ u∈ut p,u.oneCell'=true:=by
 intro u hu;simp only [ut,List.mem_cons,List.not_mem_nil,or_false] at hu;rcases hu with rfl | rfl | rfl | rfl<;>rfl
theorem Wu (p:NeedL × Hdr):∀ u∈uk p,u.oneCell'=true:=by
 intro u hu;simp only [uk,List.mem_cons,List.not_mem_nil,or_false] at hu;rcases hu with rfl | rfl | rfl<;>rfl
theorem Xk (p:FeatL × Hdr):∀ u∈sR p,u.oneCell'=true:=by
 intro u hu;simp only [sR,List.mem_cons,List.not_mem_nil,or_false] at hu;rcases hu with rfl | rfl<;>rfl
theorem Own.set3 {B:Nat} {w:World} {g:Nat} {a0 a1 a2:Value} (h:Own B w g [a0,a1,a2]) (b0 b1 b2:Value):Own B (((w.setCell ⟨g,0,none⟩ b0).setCell ⟨g,1,none⟩ b1).setCell ⟨g,2,none⟩ b2) g [b0,b1,b2] :=
 ⟨h.box.set (o:=0) (vs:=[b0,b1,b2]) (by simp),h.soft.set (o:=0) (vs:=[b0,b1,b2]),h.low⟩
theorem nZ {w w1:World} (h:Below w.heap.size w w1) {g:Nat} (hg:w.heap.size≤g) (b0 b1 b2:Value):Below w.heap.size w (((w1.setCell ⟨g,0,none⟩ b0).setCell ⟨g,1,none⟩ b1).setCell ⟨g,2,none⟩ b2) :=
 zR (zR (zR h hg _) hg _) hg _
theorem mC {w:World} {B g:Nat} (h:g < B) (b0 b1 b2:Value):Mono (xH w B none) (xH (((w.setCell ⟨g,0,none⟩ b0).setCell ⟨g,1,none⟩ b1).setCell ⟨g,2,none⟩ b2) B none) :=
 (((yC (.inl h)).trans (yC (.inl h))).trans (yC (.inl h)))
theorem Own.set4 {B:Nat} {w:World} {g:Nat} {a0 a1 a2 a3:Value} (h:Own B w g [a0,a1,a2,a3]) (b0 b1 b2 b3:Value):Own B ((((w.setCell ⟨g,0,none⟩ b0).setCell ⟨g,1,none⟩ b1).setCell ⟨g,2,none⟩ b2).setCell ⟨g,3,none⟩ b3) g [b0,b1,b2,b3] :=
 ⟨h.box.set (o:=0) (vs:=[b0,b1,b2,b3]) (by simp),h.soft.set (o:=0) (vs:=[b0,b1,b2,b3]),h.low⟩
theorem tm {w w1:World} (h:Below w.heap.size w w1) {g:Nat} (hg:w.heap.size≤g) (b0 b1 b2 b3:Value):Below w.heap.size w ((((w1.setCell ⟨g,0,none⟩ b0).setCell ⟨g,1,none⟩ b1).setCell ⟨g,2,none⟩ b2).setCell ⟨g,3,none⟩ b3) :=
 zR (zR (zR (zR h hg _) hg _) hg _) hg _
theorem tZ {w:World} {B g:Nat} (h:g < B) (b0 b1 b2 b3:Value):Mono (xH w B none) (xH ((((w.setCell ⟨g,0,none⟩ b0).setCell ⟨g,1,none⟩ b1).setCell ⟨g,2,none⟩ b2).setCell ⟨g,3,none⟩ b3) B none) :=
 ((((yC (.inl h)).trans (yC (.inl h))).trans (yC (.inl h))).trans (yC (.inl h)))
def Vh (w:World) (e:Ending) (w':World):Prop:=∃ (x:WishL) (A:Option Addr) (c:Nat),e = .returned (.agg #[.string x.name,.string x.rng,.slice A x.feats.length c,.bool x.bare])∧WpSub (xH w' w.heap.size none) (x,(A,c))∧x.name.size≤3∧Below w.heap.size w w'
def qJ:List ByteArray:=[⟨#[120]⟩,⟨#[121]⟩]
theorem mF {w:World} {g B n:Nat} (h:Box w g [.string ⟨#[120]⟩,.string ⟨#[121]⟩]) (hB:B≤g):Texts (xH w B none) (some ⟨g,0,none⟩) (qJ.take n):=by
 refine .inr ⟨g,0,rfl,by rw [xL]; exact h.1,fun i hi=>?_⟩;(have hi2:i < 2:=by rw [List.length_take] at hi; simp [qJ] at hi; omega);refine wQ.2 ⟨⟨hB,fun e=>by cases e⟩,?_⟩;rw [Nat.zero_add,Nat.mul_one,List.getElem_take];(have:i=0∨i=1:=by omega);rcases this with rfl | rfl
 ·exact h.2 0 _ rfl
 ·exact h.2 1 _ rfl
theorem aY (A:Option Addr) (cap:Nat) (zs:List Int) (i own:Int) (al:Bool) (w:World) (h:IntsAt w A zs) (hi:0≤i) (hi2:i≤9000000) (hln:zs.length≤9223372036854775807) (ho:0≤own) (ho2:own≤1000):Calls Tryz.prog 98 #[.slice A zs.length cap,.int .i64 i,.int .i64 own,.bool al] w (Vh w):=by
 (have hf:∀ (j n:Int) (w':World),Below w.heap.size w w'→0≤j→j≤1000000000→0 < n→n≤1000000→Calls Tryz.prog 23 #[.slice A zs.length cap,.int .i64 j,.int .i64 n] w' fun e w''=>e = .returned (.int .i64 (xh zs j n))∧w'=w'':=fun j n w' hb h1 h2 h3 h4=>un A cap zs j n w' (h.below hb) h1 h2 hln h3 h4);have C4:=hid (fun w' hb=>hf i 4 w' hb (by omega) (by omega) (by omega) (by omega));have CN:=hid (fun n u=>rF n u);have CF:=hid (fun u (hb:Below w.heap.size w u)=>gi A cap zs (i+1) u (h.below hb) (by omega) (by omega) hln);have C14:=hid (fun w' hb=>hf (i+4) 3 w' hb (by omega) (by omega) (by omega) (by omega));have C5:=hid (fun w' hb=>hf (i+5) 5 w' hb (by omega) (by omega) (by omega) (by omega));have b4:=vO zs i 4 (by omega);have b5:=vO zs (i+5) 5 (by omega);clear h hf;generalize xh zs i 4=p at *;generalize xh zs (i+4) 3=q at *;generalize xh zs (i+5) 5=n at *;generalize zs.length=zn at *;go_enter Tryz.func98,Tryz.ntmps98;(go_upto_region 1 with fail);refine zI ?_;intro w1 hw1;have HO:=hid (show Own w.heap.size w1 w.heap.size [.string ⟨#[]⟩,.string ⟨#[]⟩,.slice none 0 0,.bool false] by rw [hw1]; exact Own.new w [.string ⟨#[]⟩,.string ⟨#[]⟩,.slice none 0 0,.bool false] 113 (Nat.le_refl _));have HB1:=hid (show Below w.heap.size w w1 by rw [hw1]; exact zL _ _);clear hw1;(go_wp2_with fail);refine (C4.out _ HB1.out).mono ?_;rintro _ _ ⟨rfl,rfl⟩
 (go_wp2_with fail);refine (CN.out _ _).mono ?_;rintro _ _ ⟨s,hs,rfl,rfl⟩;have HSZ:=hid (aL s hs);clear hs;(go_wp2_with fail);refine (CF.out _ HB1.out).mono ?_;rintro _ w2 ⟨r,rfl,hb⟩;have HB2:=hid (zC HB1.out hb);replace HO:=hid (HO.out.below hb);clear hb;(go_wp2_with fail);refine (C14.out _ HB2.out).mono ?_;rintro _ _ ⟨rfl,rfl⟩;(go_upto_region 2 with fail);refine zI ?_;intro w3 hw3;have HX:=hid (show Own w.heap.size w3 w2.heap.size [.string s,.string r,.slice none 0 0,.bool (q==0)] by rw [hw3]; exact Own.new w2 [.string s,.string r,.slice none 0 0,.bool (q==0)] 113 HB2.out.size);(have hb:Below w2.heap.size w2 w3:=by rw [hw3]; exact zL _ _);have hlt:w.heap.size < w2.heap.size:=HO.out.box.1;have HB3:=hid (zC HB2.out hb);replace HO:=hid (HO.out.below hb);clear hw3 hb C4 CN CF C14 HB1 HB2;generalize w2.heap.size=g2 at *;generalize (q==0)=qb at *;(go_wp2_with fail);refine (C5.out _ HB3.out).mono ?_;rintro _ _ ⟨rfl,rfl⟩;clear C5;cases al
 ·obtain ⟨x0,x1,x2,x3⟩:=(⟨HX.out.box.2 0 _ rfl,HX.out.box.2 1 _ rfl,HX.out.box.2 2 _ rfl,HX.out.box.2 3 _ rfl⟩:_∧_∧_∧_);have xl:=HX.out.box.1;obtain ⟨y0,y1,y2,y3⟩:=(⟨HO.out.box.2 0 _ rfl,HO.out.box.2 1 _ rfl,HO.out.box.2 2 _ rfl,HO.out.box.2 3 _ rfl⟩:_∧_∧_∧_);have yl:=HO.out.box.1;have sf:∀ j,w3.frozen? ⟨w.heap.size,j,none⟩=false:=HO.out.soft;(go_wp2_with fail);refine zP ?_;intro w9 hw9;(have O9:Own w.heap.size w9 w.heap.size [.string s,.string r,.slice none 0 0,.bool qb]:=by rw [hw9]; exact HO.out.set4 _ _ _ _);(have B9:Below w.heap.size w w9:=by rw [hw9]; exact tm HB3.out (Nat.le_refl _) _ _ _ _);(have M9:Mono (xH w3 (w.heap.size+1) none) (xH w9 w.heap.size none):=by rw [hw9]; exact (tZ (Nat.lt_succ_self _) _ _ _ _).trans (yK (Nat.le_succ _) fun k e=>by cases e));clear hw9;have k0:=O9.box.2 0 _ rfl;have k1:=O9.box.2 1 _ rfl;have k2:=O9.box.2 2 _ rfl;have k3:=O9.box.2 3 _ rfl;refine bodyPost_ret (v := .agg #[.string s,.string r,.slice none 0 0,.bool qb]) (by simp [results,Tryz.results98,go_sem,k0,k1,k2,k3]) rfl ?_;exact ⟨⟨s,r,[],qb⟩,none,0,rfl,⟨.inl rfl,by simp,by simp⟩,HSZ.out,B9⟩
 ·(have hn:n≤2∨n=3∨n=4:=by omega);clear b4 b5;rcases hn with hn | rfl | rfl
  ·have d2:decide (2 < n)=false:=decide_eq_false (by omega);obtain ⟨x0,x1,x2,x3⟩:=(⟨HX.out.box.2 0 _ rfl,HX.out.box.2 1 _ rfl,HX.out.box.2 2 _ rfl,HX.out.box.2 3 _ rfl⟩:_∧_∧_∧_);have xl:=HX.out.box.1;obtain ⟨y0,y1,y2,y3⟩:=(⟨HO.out.box.2 0 _ rfl,HO.out.box.2 1 _ rfl,HO.out.box.2 2 _ rfl,HO.out.box.2 3 _ rfl⟩:_∧_∧_∧_);have yl:=HO.out.box.1;have sf:∀ j,w3.frozen? ⟨w.heap.size,j,none⟩=false:=HO.out.soft;(go_wp2_with fail);refine zP ?_;intro w9 hw9;(have O9:Own w.heap.size w9 w.heap.size [.string s,.string r,.slice none 0 0,.bool qb]:=by rw [hw9]; exact HO.out.set4 _ _ _ _);(have B9:Below w.heap.size w w9:=by rw [hw9]; exact tm HB3.out (Nat.le_refl _) _ _ _ _);(have M9:Mono (xH w3 (w.heap.size+1) none) (xH w9 w.heap.size none):=by rw [hw9]; exact (tZ (Nat.lt_succ_self _) _ _ _ _).trans (yK (Nat.le_succ _) fun k e=>by cases e));clear hw9;have k0:=O9.box.2 0 _ rfl;have k1:=O9.box.2 1 _ rfl;have k2:=O9.box.2 2 _ rfl;have k3:=O9.box.2 3 _ rfl;refine bodyPost_ret (v := .agg #[.string s,.string r,.slice none 0 0,.bool qb]) (by simp [results,Tryz.results98,go_sem,k0,k1,k2,k3]) rfl ?_;exact ⟨⟨s,r,[],qb⟩,none,0,rfl,⟨.inl rfl,by simp,by simp⟩,HSZ.out,B9⟩
  ·have x2:=HX.out.box.2 2 _ rfl;have xl:=HX.out.box.1;have xf:∀ j,w3.frozen? ⟨g2,j,none⟩=false:=HX.out.soft;(go_upto_region 5 with fail);refine zI ?_;intro w5 hw5;have hg2:g2 < w3.heap.size:=HX.out.box.1
   have HG:=hid (show Box w5 w3.heap.size [.string ⟨#[120]⟩,.string ⟨#[121]⟩] by
    rw [hw5];have:=Box.new (w3.setCell ⟨g2,2,none⟩ (.slice (some ⟨w3.heap.size,0,none⟩) 1 2)) [.string ⟨#[120]⟩,.string ⟨#[121]⟩] 9
    rwa [World.size_setCell] at this)
   have HX5:=hid (show Own w.heap.size w5 g2 [.string s,.string r,.slice (some ⟨w3.heap.size,0,none⟩) 1 2,.bool qb] by
    rw [hw5]
    exact (HX.out.put (j:=2) (by simp) (.slice (some ⟨w3.heap.size,0,none⟩) 1 2)).alloc _)
   have HO5:=hid (show Own w.heap.size w5 w.heap.size [.string ⟨#[]⟩,.string ⟨#[]⟩,.slice none 0 0,.bool false] by
    rw [hw5]
    exact (HO.out.other (by omega) _).alloc _)
   have HB5:=hid (show Below w.heap.size w w5 by
    rw [hw5]
    exact zC (zR HB3.out (Nat.le_of_lt hlt) _) (zL _ _))
   (have hg3:w.heap.size+1≤w3.heap.size:=by omega);have HT:=hid (mF (n:=1) HG.out hg3);clear hw5 x2 xl xf HX HO HB3 HG;obtain ⟨x0,x1,x2,x3⟩:=(⟨HX5.out.box.2 0 _ rfl,HX5.out.box.2 1 _ rfl,HX5.out.box.2 2 _ rfl,HX5.out.box.2 3 _ rfl⟩:_∧_∧_∧_);have xl:=HX5.out.box.1;obtain ⟨y0,y1,y2,y3⟩:=(⟨HO5.out.box.2 0 _ rfl,HO5.out.box.2 1 _ rfl,HO5.out.box.2 2 _ rfl,HO5.out.box.2 3 _ rfl⟩:_∧_∧_∧_);have yl:=HO5.out.box.1;have sf:∀ j,w5.frozen? ⟨w.heap.size,j,none⟩=false:=HO5.out.soft;(go_wp2_with fail);refine zP ?_;intro w9 hw9;(have O9:Own w.heap.size w9 w.heap.size [.string s,.string r,.slice (some ⟨w3.heap.size,0,none⟩) 1 2,.bool qb]:=by rw [hw9]; exact HO5.out.set4 _ _ _ _);(have B9:Below w.heap.size w w9:=by rw [hw9]; exact tm HB5.out (Nat.le_refl _) _ _ _ _);(have M9:Mono (xH w5 (w.heap.size+1) none) (xH w9 w.heap.size none):=by rw [hw9]; exact (tZ (Nat.lt_succ_self _) _ _ _ _).trans (yK (Nat.le_succ _) fun k e=>by cases e));clear hw9;have k0:=O9.box.2 0 _ rfl;have k1:=O9.box.2 1 _ rfl;have k2:=O9.box.2 2 _ rfl;have k3:=O9.box.2 3 _ rfl;refine bodyPost_ret (v := .agg #[.string s,.string r,.slice (some ⟨w3.heap.size,0,none⟩) 1 2,.bool qb]) (by simp [results,Tryz.results98,go_sem,k0,k1,k2,k3]) rfl ?_;exact ⟨⟨s,r,qJ.take 1,qb⟩,(some ⟨w3.heap.size,0,none⟩),2,rfl,⟨RowOf.mono TextAt.mono HT.out M9,by simp [qJ],by simp [qJ]⟩,HSZ.out,B9⟩
  ·have x2:=HX.out.box.2 2 _ rfl;have xl:=HX.out.box.1;have xf:∀ j,w3.frozen? ⟨g2,j,none⟩=false:=HX.out.soft;(go_upto_region 5 with fail);refine zI ?_;intro w5 hw5;have hg2:g2 < w3.heap.size:=HX.out.box.1
   have HG:=hid (show Box w5 w3.heap.size [.string ⟨#[120]⟩,.string ⟨#[121]⟩] by
    rw [hw5];have:=Box.new (w3.setCell ⟨g2,2,none⟩ (.slice (some ⟨w3.heap.size,0,none⟩) 2 2)) [.string ⟨#[120]⟩,.string ⟨#[121]⟩] 9
    rwa [World.size_setCell] at this)
   have HX5:=hid (show Own w.heap.size w5 g2 [.string s,.string r,.slice (some ⟨w3.heap.size,0,none⟩) 2 2,.bool qb] by
    rw [hw5]
    exact (HX.out.put (j:=2) (by simp) (.slice (some ⟨w3.heap.size,0,none⟩) 2 2)).alloc _)
   have HO5:=hid (show Own w.heap.size w5 w.heap.size [.string ⟨#[]⟩,.string ⟨#[]⟩,.slice none 0 0,.bool false] by
    rw [hw5]
    exact (HO.out.other (by omega) _).alloc _)
   have HB5:=hid (show Below w.heap.size w w5 by
    rw [hw5]
    exact zC (zR HB3.out (Nat.le_of_lt hlt) _) (zL _ _))
   (have hg3:w.heap.size+1≤w3.heap.size:=by omega);have HT:=hid (mF (n:=2) HG.out hg3);clear hw5 x2 xl xf HX HO HB3 HG;obtain ⟨x0,x1,x2,x3⟩:=(⟨HX5.out.box.2 0 _ rfl,HX5.out.box.2 1 _ rfl,HX5.out.box.2 2 _ rfl,HX5.out.box.2 3 _ rfl⟩:_∧_∧_∧_);have xl:=HX5.out.box.1;obtain ⟨y0,y1,y2,y3⟩:=(⟨HO5.out.box.2 0 _ rfl,HO5.out.box.2 1 _ rfl,HO5.out.box.2 2 _ rfl,HO5.out.box.2 3 _ rfl⟩:_∧_∧_∧_);have yl:=HO5.out.box.1;have sf:∀ j,w5.frozen? ⟨w.heap.size,j,none⟩=false:=HO5.out.soft;(go_wp2_with fail);refine zP ?_;intro w9 hw9;(have O9:Own w.heap.size w9 w.heap.size [.string s,.string r,.slice (some ⟨w3.heap.size,0,none⟩) 2 2,.bool qb]:=by rw [hw9]; exact HO5.out.set4 _ _ _ _);(have B9:Below w.heap.size w w9:=by rw [hw9]; exact tm HB5.out (Nat.le_refl _) _ _ _ _);(have M9:Mono (xH w5 (w.heap.size+1) none) (xH w9 w.heap.size none):=by rw [hw9]; exact (tZ (Nat.lt_succ_self _) _ _ _ _).trans (yK (Nat.le_succ _) fun k e=>by cases e));clear hw9;have k0:=O9.box.2 0 _ rfl;have k1:=O9.box.2 1 _ rfl;have k2:=O9.box.2 2 _ rfl;have k3:=O9.box.2 3 _ rfl;refine bodyPost_ret (v := .agg #[.string s,.string r,.slice (some ⟨w3.heap.size,0,none⟩) 2 2,.bool qb]) (by simp [results,Tryz.results98,go_sem,k0,k1,k2,k3]) rfl ?_;exact ⟨⟨s,r,qJ.take 2,qb⟩,(some ⟨w3.heap.size,0,none⟩),2,rfl,⟨RowOf.mono TextAt.mono HT.out M9,by simp [qJ],by simp [qJ]⟩,HSZ.out,B9⟩
end Go.Proofs.YtgllkohjehjphaaGreatDoor
