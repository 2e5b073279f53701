import Derived.Test.YtiffijoenkcpjaaGreatDoorYPa
set_option linter.unusedVariables false
set_option linter.unusedSimpArgs false
set_option maxRecDepth 100000
set_option maxHeartbeats 1000000
namespace Go.Proofs.YtiffijoenkcpjaaGreatDoor
open Go.RowKit Go.Lib
open Rw
def faultE (e:Int):Value:=if e=0 then .nilIface else .iface 37 (.int .i64 e)
abbrev faultC (p:Int × Int):List Value:=[faultE p.1,.int .i64 p.2]
def meetF (p:Int × Int) (b:Bool) (e at_:Int):Int × Int:=if b=true∧p.1=0 then (e,at_) else p
theorem mk_errno (x:Value) (w:World):(Instr.makeInterface 37 x).run Tryz.prog w = .ok (.iface 37 x) w:=run_makeInterface w 37 x (by kernel_rfl)
theorem as_errno (v:Value) (w:World):(Instr.typeAssert (.iface 37 v) 90 37 true).run Tryz.prog w = .ok (.tuple #[v,.bool true]) w:=by kernel_rfl
theorem as_none (w:World):(Instr.typeAssert .nilIface 90 37 true).run Tryz.prog w = .ok (.tuple #[.int .i64 0,.bool false]) w:=by kernel_rfl
def MeetK (w:World) (g:Nat) (p:Int × Int) (e:Ending) (w':World):Prop:=e = .returned (.tuple #[])∧Box w' g (faultC p)∧(∀ B,B≤g→∀ w0,KB B w0 w→KB B w0 w')∧(∀ j,w'.frozen? ⟨g,j,none⟩=false)∧w'.heap.size=w.heap.size
theorem meet_any (g:Nat) (p:Int × Int) (b:Bool) (e at_:Int) (w:World) (h:Box w g (faultC p)) (hs:∀ j,w.frozen? ⟨g,j,none⟩=false) (he:b=true→e≠0):Calls Tryz.prog 44 #[.pointer (some ⟨g,0,none⟩),.bool b,.int .i64 e,.int .i64 at_] w (MeetK w g (meetF p b e at_)):=by
 have hmk:=mk_errno;have x0:=h.2 0 _ rfl;have x1:=h.2 1 _ rfl;have xl:=h.1;obtain ⟨p1,p2⟩:=p;have HB:=hid h;have HS:=hid hs;have HN:=hid he;clear h he;dsimp only at x0 x1;cases b
 ·have HE:=hid (show meetF (p1,p2) false e at_=(p1,p2) by rw [meetF,if_neg (fun k=>by cases k.1)]);go_enter Tryz.func44,Tryz.ntmps44;(go_wp2_with fail);(try (first | go_ret | go_ret2 | go_end0));exact ⟨rfl,by rw [HE.out]; exact HB.out,fun B _ w0 k=>k,HS.out,rfl⟩
 ·have HNE:=hid (show e≠0 from HN.out rfl);clear HN;by_cases h0:p1=0
  ·subst h0;have hf:faultE 0 = .nilIface:=if_pos rfl;rw [hf] at x0;have HE:=hid (show meetF (0,p2) true e at_=(e,at_) by rw [meetF,if_pos ⟨rfl,rfl⟩]);go_enter Tryz.func44,Tryz.ntmps44;(go_wp2_with fail);(try (first | go_ret | go_ret2 | go_end0));refine ⟨rfl,?_,fun B hB w0 k=>?_,fun j=>?_,?_⟩
   ·rw [HE.out];have:=HB.out.set (o:=0) (vs:=[.iface 37 (.int .i64 e),.int .i64 at_]) (by simp);unfold faultC;dsimp only;rw [faultE,if_neg HNE.out];exact this
   ·exact Go.RowKit.Below.setCell (p:=⟨g,1,none⟩) (Go.RowKit.Below.setCell (p:=⟨g,0,none⟩) k hB _) hB _
   ·rw [World.frozen?_setCell,World.frozen?_setCell]; exact HS.out j
   ·rw [World.size_setCell,World.size_setCell]
  ·have hf:faultE p1 = .iface 37 (.int .i64 p1):=if_neg h0;rw [hf] at x0;have HE:=hid (show meetF (p1,p2) true e at_=(p1,p2) by rw [meetF,if_neg (fun k=>h0 k.2)]);clear h0;go_enter Tryz.func44,Tryz.ntmps44;(go_wp2_with fail);(try (first | go_ret | go_ret2 | go_end0));exact ⟨rfl,by rw [HE.out]; exact HB.out,fun B _ w0 k=>k,HS.out,rfl⟩
theorem code_any (g:Nat) (p:Int × Int) (w:World) (h:Box w g (faultC p)):Calls Tryz.prog 46 #[.pointer (some ⟨g,0,none⟩)] w fun e w'=>e = .returned (.int .i64 p.1)∧w=w':=by
 have has1:=as_errno;have has2:=as_none;have x0:=h.2 0 _ rfl;have xl:=h.1;obtain ⟨p1,p2⟩:=p;clear h;dsimp only at x0;by_cases h0:p1=0
 ·subst h0;have hf:faultE 0 = .nilIface:=if_pos rfl;rw [hf] at x0;go_enter Tryz.func46,Tryz.ntmps46;(go_wp2_with fail);(try rw [Exit.noGoto_ret]);(try (first | go_ret | go_ret2 | go_end0));exact ⟨rfl,rfl⟩
 ·have hf:faultE p1 = .iface 37 (.int .i64 p1):=if_neg h0;rw [hf] at x0;clear h0;go_enter Tryz.func46,Tryz.ntmps46;(go_wp2_with fail);(try rw [Exit.noGoto_ret]);(try (first | go_ret | go_ret2 | go_end0));exact ⟨rfl,rfl⟩
theorem index_man (F:Nat) (cb:Array Value) (q:ManL→Bool) (A:Option Addr) (c:Nat) (l:List ManL) (w:World) (hA:Mans w A l) (hn:l.length≤9223372036854775807)
 (eg:∀ args w,(callFunc F args).run Tryz.prog w = .ok (.enter F args) w)
 (hC:∀ (x:ManL) (hd:ManH) (u:World),x∈l→KB w.heap.size w u→Calls Tryz.prog F (#[x.val hd]++cb) u (yT u (q x))) :
 Calls Tryz.prog 63 #[.slice A l.length c,.func (.func F) #[] cb] w (Wf w (zd q 0 l)):=by
 have HA:=hid hA
 have HIT:=hid hC
 clear hA hC
 generalize hnn:l.length=n at *
 have HN:=hid hnn
 clear hnn
 go_enter Tryz.func63,Tryz.ntmps63
 go_upto_block 0 with fail
 go_wp2_with fail
 go_loopw [8] (fun i wr=>∃ k:Nat,i = .int .i64 (k:Int)∧k≤n∧Hid (zd q 0 l=zd q k (l.drop k))∧Hid (KB w.heap.size w wr)) (fun i _=>n - (intOf i).toNat)
 case atStart=>exact ⟨0,rfl,Nat.zero_le _,hid rfl,hid (zH _)⟩
 case round =>
  obtain ⟨k,rfl,hk,HD,HB⟩:=hrel;by_cases hlt:k < n
  ·(have hlt':k < l.length:=by rw [HN.out]; exact hlt);obtain ⟨b,off,hd,hA,-,⟨c0,c1,c2,c3,c4,c5,c6,c7,c8,c9,c10,cl⟩⟩:=man_at (HA.out.kb ManAt.stays HB.out) hlt';subst hA;have HS:=hid (p8 (q:=q) hlt');have HM:=hid (List.getElem_mem hlt');(have k0:(0:Int)≤(k:Int):=by omega);(have k1:(k:Int) < (n:Int):=by omega);generalize l[k]=x at *;have HC:=hid (HIT.out x hd wr HM.out HB.out);generalize q x=bq at *;obtain ⟨⟨rn,rv,rne,rba,rfe⟩,ps,hs⟩:=x;dsimp only [ManL.val] at c0 c1 c2 c3 c4 c5 c6 c7 c8 c9 c10 HC;generalize rne.length=n1 at *;generalize rba.length=n2 at *;generalize rfe.length=n3 at *;generalize ps.length=n4 at *;generalize hs.length=n5 at *;clear HM;(go_wp2_with fail);refine HC.out.mono ?_;rintro _ u2 ⟨rfl,hb⟩;have HB2:=hid (zA HB.out hb);clear hb c0 c1 c2 c3 c4 c5 c6 c7 c8 c9 c10 cl;cases bq
   ·(go_wp2_with fail);go_roundw
    case rel=>exact ⟨k+1,by go_num,by omega,hid (by rw [HD.out,HS.out]; rfl),HB2⟩
    case measure=>simp [intOf]<;>omega
   ·have HE:=hid (show zd q 0 l=(k:Int) by rw [HD.out,HS.out]; rfl);(go_wp2_with fail);(try rw [Exit.noGoto_ret]);(try (first | go_ret | go_ret2 | go_end0));exact ⟨by rw [HE.out]<;>rfl,HB2.out⟩
  ·(obtain rfl:k=n:=by omega);(have k1:¬ (k:Int) < (k:Int):=by omega);have HE:=hid (show zd q 0 l=-1 by rw [HD.out,mL (by rw [HN.out]; exact Nat.le_refl _)]);(go_wp2_with fail);(try rw [Exit.noGoto_ret]);(try (first | go_ret | go_ret2 | go_end0));exact ⟨by rw [HE.out]<;>rfl,HB.out⟩
theorem index_pin (F:Nat) (cb:Array Value) (q:PinL→Bool) (A:Option Addr) (c:Nat) (l:List PinL) (w:World) (hA:Z6 w A l) (hn:l.length≤9223372036854775807)
 (eg:∀ args w,(callFunc F args).run Tryz.prog w = .ok (.enter F args) w)
 (hC:∀ (x:PinL) (u:World),x∈l→KB w.heap.size w u→Calls Tryz.prog F (#[.agg #[.string x.name,.string x.shelf]]++cb) u (yT u (q x))) :
 Calls Tryz.prog 25 #[.slice A l.length c,.func (.func F) #[] cb] w (Wf w (zd q 0 l)):=by
 have HA:=hid hA
 have HIT:=hid hC
 clear hA hC
 generalize hnn:l.length=n at *
 have HN:=hid hnn
 clear hnn
 go_enter Tryz.func25,Tryz.ntmps25
 go_upto_block 0 with fail
 go_wp2_with fail
 go_loopw [8] (fun i wr=>∃ k:Nat,i = .int .i64 (k:Int)∧k≤n∧Hid (zd q 0 l=zd q k (l.drop k))∧Hid (KB w.heap.size w wr)) (fun i _=>n - (intOf i).toNat)
 case atStart=>exact ⟨0,rfl,Nat.zero_le _,hid rfl,hid (zH _)⟩
 case round =>
  obtain ⟨k,rfl,hk,HD,HB⟩:=hrel;by_cases hlt:k < n
  ·(have hlt':k < l.length:=by rw [HN.out]; exact hlt);obtain ⟨b,off,hA,hbl,c0,c1⟩:=aJ (HA.out.kb PinAt.stays HB.out) hlt';subst hA;have HS:=hid (p8 (q:=q) hlt');have HM:=hid (List.getElem_mem hlt');(have k0:(0:Int)≤(k:Int):=by omega);(have k1:(k:Int) < (n:Int):=by omega);generalize l[k]=x at *;have HC:=hid (HIT.out x wr HM.out HB.out);generalize q x=bq at *;obtain ⟨xn,xe⟩:=x;dsimp only at c0 c1 HC;clear HM;(go_wp2_with fail);refine HC.out.mono ?_;rintro _ u2 ⟨rfl,hb⟩;have HB2:=hid (zA HB.out hb);clear hb c0 c1 hbl;cases bq
   ·(go_wp2_with fail);go_roundw
    case rel=>exact ⟨k+1,by go_num,by omega,hid (by rw [HD.out,HS.out]; rfl),HB2⟩
    case measure=>simp [intOf]<;>omega
   ·have HE:=hid (show zd q 0 l=(k:Int) by rw [HD.out,HS.out]; rfl);(go_wp2_with fail);(try rw [Exit.noGoto_ret]);(try (first | go_ret | go_ret2 | go_end0));exact ⟨by rw [HE.out]<;>rfl,HB2.out⟩
  ·(obtain rfl:k=n:=by omega);(have k1:¬ (k:Int) < (k:Int):=by omega);have HE:=hid (show zd q 0 l=-1 by rw [HD.out,mL (by rw [HN.out]; exact Nat.le_refl _)]);(go_wp2_with fail);(try rw [Exit.noGoto_ret]);(try (first | go_ret | go_ret2 | go_end0));exact ⟨by rw [HE.out]<;>rfl,HB.out⟩
theorem member1_any (x:ManL) (hd:ManH) (nm:ByteArray) (g:Nat) (w:World) (hg:Box w g [.string nm]):Calls Tryz.prog 64 #[x.val hd,.pointer (some ⟨g,0,none⟩)] w (yT w (isN nm x)):=by
 have HG:=hid (hg.kb (zG w (.cells #[.string x.rc.name,.int .i64 x.rc.v.maj,.int .i64 x.rc.v.min,.int .i64 x.rc.v.pat,.string x.rc.v.pre,.string x.rc.v.bld,.slice hd.r.A x.rc.needs.length hd.r.ca,.slice hd.r.B x.rc.bars.length hd.r.cb,.slice hd.r.F x.rc.feats.length hd.r.cf,.slice hd.P x.pins.length hd.cp,.slice hd.H x.holds.length hd.ch] 36)));have HB:=hid (show KB w.heap.size w (w.alloc (.cells #[.string x.rc.name,.int .i64 x.rc.v.maj,.int .i64 x.rc.v.min,.int .i64 x.rc.v.pat,.string x.rc.v.pre,.string x.rc.v.bld,.slice hd.r.A x.rc.needs.length hd.r.ca,.slice hd.r.B x.rc.bars.length hd.r.cb,.slice hd.r.F x.rc.feats.length hd.r.cf,.slice hd.P x.pins.length hd.cp,.slice hd.H x.holds.length hd.ch] 36)) from zG _ _);clear hg;have HS:=hid (show isN nm x=(x.rc.name.toList==nm.toList) from rfl);obtain ⟨⟨rn,rv,rne,rba,rfe⟩,ps,hs⟩:=x;dsimp only [ManL.val] at HG HB HS ⊢;generalize rne.length=n1 at *;generalize rba.length=n2 at *;generalize rfe.length=n3 at *;generalize ps.length=n4 at *;generalize hs.length=n5 at *;go_enter Tryz.func64,Tryz.ntmps64;(go_upto_region 1 with fail);refine zI ?_;intro u1 hu;have HX:=hid (show Box u1 w.heap.size [.string rn,.int .i64 rv.maj,.int .i64 rv.min,.int .i64 rv.pat,.string rv.pre,.string rv.bld,.slice hd.r.A n1 hd.r.ca,.slice hd.r.B n2 hd.r.cb,.slice hd.r.F n3 hd.r.cf,.slice hd.P n4 hd.cp,.slice hd.H n5 hd.ch] by rw [hu]; exact Box.new w [.string rn,.int .i64 rv.maj,.int .i64 rv.min,.int .i64 rv.pat,.string rv.pre,.string rv.bld,.slice hd.r.A n1 hd.r.ca,.slice hd.r.B n2 hd.r.cb,.slice hd.r.F n3 hd.r.cf,.slice hd.P n4 hd.cp,.slice hd.H n5 hd.ch] 36)
 replace HG:=hid (show Box u1 g [.string nm] by rw [hu]; exact HG.out);replace HB:=hid (show KB w.heap.size w u1 by rw [hu]; exact HB.out);clear hu;have x0:=HX.out.2 0 _ rfl;have xl:=HX.out.1;have y0:=HG.out.2 0 _ rfl;have yl:=HG.out.1;(go_wp2_with fail);(try rw [Exit.noGoto_ret]);(try (first | go_ret | go_ret2 | go_end0));exact ⟨by rw [HS.out]<;>rfl,HB.out⟩
theorem pins1_any (xn xs nm sh:ByteArray) (g:Nat) (w:World) (hg:Box w g [.string nm,.string sh]):Calls Tryz.prog 26 #[.agg #[.string xn,.string xs],.pointer (some ⟨g,0,none⟩)] w (yT w (yH xn nm)):=by
 have HG:=hid (hg.kb (zG w (.cells #[.string xn,.string xs] 53)));have HB:=hid (show KB w.heap.size w (w.alloc (.cells #[.string xn,.string xs] 53)) from zG _ _);clear hg;go_enter Tryz.func26,Tryz.ntmps26;(go_upto_region 1 with fail);refine zI ?_;intro u1 hu;have HX:=hid (show Box u1 w.heap.size [.string xn,.string xs] by rw [hu]; exact Box.new w [.string xn,.string xs] 53);replace HG:=hid (show Box u1 g [.string nm,.string sh] by rw [hu]; exact HG.out);replace HB:=hid (show KB w.heap.size w u1 by rw [hu]; exact HB.out);clear hu;have x0:=HX.out.2 0 _ rfl;have xl:=HX.out.1;have y0:=HG.out.2 0 _ rfl;have yl:=HG.out.1;have HS:=hid (show yH xn nm=(xn.toList==nm.toList) from rfl);(go_wp2_with fail);(try rw [Exit.noGoto_ret]);(try (first | go_ret | go_ret2 | go_end0));exact ⟨by rw [HS.out]<;>rfl,HB.out⟩
theorem enter_member1 (args:Array Value) (w:World):(callFunc 64 args).run Tryz.prog w = .ok (.enter 64 args) w:=enters_of Tryz.func64 (by kernel_rfl) rfl args w
theorem enter_pins1 (args:Array Value) (w:World):(callFunc 26 args).run Tryz.prog w = .ok (.enter 26 args) w:=enters_of Tryz.func26 (by kernel_rfl) rfl args w
theorem member_any (A:Option Addr) (c:Nat) (l:List ManL) (nm:ByteArray) (w:World) (hA:Mans w A l) (hn:l.length≤9223372036854775807):Calls Tryz.prog 40 #[.slice A l.length c,.string nm] w (Wf w (zd (isN nm) 0 l)):=by
 have HI:=hid (fun g u (hb:KB w.heap.size w u) (hg:Box u g [.string nm])=>index_man 64 #[.pointer (some ⟨g,0,none⟩)] (isN nm) A c l u (hA.kb ManAt.stays hb) hn enter_member1 (fun x hd u2 _ hu=>member1_any x hd nm g u2 (hg.kb hu)));clear hA;generalize zd (isN nm) 0 l=f at *;generalize l.length=n at *;go_enter Tryz.func40,Tryz.ntmps40;(go_upto_region 1 with fail);refine zI ?_;intro u1 hu;have HX:=hid (show Box u1 w.heap.size [.string nm] by rw [hu]; exact Box.new w [.string nm] 9);have HB:=hid (show KB w.heap.size w u1 by rw [hu]; exact zG _ _);clear hu;(have hmf:∀ (fn:Fn) (first cap:Array Value) (w:World),(Instr.makeFunc fn first cap).run Tryz.prog w = .ok (.func fn first cap) w:=fun _ _ _ _=>rfl);(go_wp2_with fail);refine (HI.out _ _ HB.out HX.out).mono ?_;rintro _ u2 ⟨rfl,hb⟩;have HB2:=hid (zA HB.out hb);clear hb;(go_wp2_with fail);(try rw [Exit.noGoto_ret]);(try (first | go_ret | go_ret2 | go_end0));exact ⟨rfl,HB2.out⟩
end Go.Proofs.YtiffijoenkcpjaaGreatDoor
