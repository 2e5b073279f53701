import Derived.Shelf.Abstract
import Derived.Test.YtiffijoenkcpjaaGreatDoorYJn
set_option linter.unusedVariables false
set_option linter.unusedSimpArgs false
set_option maxRecDepth 100000
set_option maxHeartbeats 4000000
namespace Go.Proofs.YtiffijoenkcpjaaGreatDoor
open Go.RowKit Go.Lib
def gA (w0 wr:World):Nat:=match wr.cell? ⟨w0.heap.size,0,none⟩ with
 | some (.slice _ n _)=>n
 | _=>0
theorem PS.left {w0 w:World} {ws:List ByteArray} {ns:List NodeL} {bad:Bool} (h:PS w0 w ws ns bad):gA w0 w=ws.length:=by
 obtain ⟨A,c,v,ho,-⟩:=h.st;have:=ho.box.2 0 _ rfl;unfold gA;rw [this]
def ej (w0:World) (f:FuncId) (part:zb→Option (MT × zb)) (n:Nat):Prop :=
 ∀ (w:World) (ws:List ByteArray) (ns:List NodeL) (bad:Bool),PS w0 w ws ns bad→ws.length < n→ws.length+ns.length≤800000→Calls Tryz.prog f #[cI w0] w (yE w0 ws ns (if bad=true then none else part (ws.map bts)))
theorem nE {kw:List UInt8} {mk:MT→MT→MT} {part:zb→Option (MT × zb)} (hp:wP part):∀ (n m:Nat) (a:MT) (ws:zb),ws.length≤n→ws.length≤m→xY kw mk part n a ws=xY kw mk part m a ws
 | 0,0,_,_,_,_=>rfl
 | 0,m+1,a,[],_,_=>rfl
 | n+1,0,a,[],_,_=>rfl
 | n+1,m+1,a,[],_,_=>rfl
 | 0,_,_,x::ws,h,_=>absurd h (by simp)
 | _,0,_,x::ws,_,h=>absurd h (by simp)
 | n+1,m+1,a,x::ws,h1,h2=>by
  simp only [xY];split
  ·cases hq:part ws with
   | none=>rfl
   | some q =>
    obtain ⟨b,r⟩:=q;have:=(hp ws b r hq).1;simp only [List.length_cons] at h1 h2;exact nE hp n m _ r (by omega) (by omega)
  ·rfl
def vq (kw:List UInt8) (mk:MT→MT→MT) (part:zb→Option (MT × zb)) (ws:zb):Option (MT × zb):=match part ws with
 | none=>none
 | some (a,ws')=>xY kw mk part ws'.length a ws'
theorem n8 {kw:List UInt8} {mk:MT→MT→MT} {part:zb→Option (MT × zb)} (hp:wP part) (a:MT) (x:List UInt8) (ws:zb) (h:x=kw) :
 xY kw mk part (x::ws).length a (x::ws)=match part ws with | none=>none | some (b,r)=>xY kw mk part r.length (mk a b) r:=by
 rw [List.length_cons]
 simp only [xY]
 rw [if_pos h]
 cases hq:part ws with
 | none=>rfl
 | some q =>
  obtain ⟨b,r⟩:=q
  have:=(hp ws b r hq).1
  exact nE hp _ _ _ _ (by omega) (Nat.le_refl _)
theorem ed {kw:List UInt8} {mk:MT→MT→MT} {part:zb→Option (MT × zb)} (a:MT) (ws:List ByteArray) (hk:kw≠[]) (h:bts (wU ws)≠kw) :
 xY kw mk part (ws.map bts).length a (ws.map bts)=some (a,ws.map bts):=by
 rcases ws with _ | ⟨x,ws⟩
 ·rfl
 ·simp only [List.map_cons,List.length_cons,xY];exact if_neg (show ¬ bts x=kw from h)
def iZ (w0:World) (ws:List ByteArray) (ns:List NodeL) (kw:List UInt8) (mk:MT→MT→MT) (part:zb→Option (MT × zb)) (R:Option (MT × zb)) (x:Int) (wr:World):Prop :=
 (∃ (a:MT) (ws':List ByteArray),x=((ns.length+a.size - 1:Nat):Int)∧PS w0 wr ws' (ns++a.lay ns.length) false∧ws'.length+a.size≤ws.length∧R=xY kw mk part (ws'.map bts).length a (ws'.map bts)) ∨
 (∃ (ws':List ByteArray) (ns':List NodeL),PS w0 wr ws' ns' true∧ws'.length+ns'.length≤ws.length+ns.length∧ws'.length≤ws.length∧R=none)
theorem iO {w0:World} {ws:List ByteArray} {ns:List NodeL} {kw:List UInt8} {mk:MT→MT→MT} {part:zb→Option (MT × zb)} {bad:Bool} (hp:wP part) {e:Ending} {w':World}
 (h:yE w0 ws ns (if bad=true then none else part (ws.map bts)) e w'):∃ x:Int,e = .returned (.int .i64 x)∧Hid (iZ w0 ws ns kw mk part (if bad=true then none else vq kw mk part (ws.map bts)) x w'):=by
 cases bad with
 | true =>
  rw [if_pos rfl] at h ⊢
  obtain ⟨x,ws',ns',h1,h2,h3,h4⟩:=h
  exact ⟨x,h1,hid (.inr ⟨ws',ns',h2,h3,h4,rfl⟩)⟩
 | false =>
  rw [if_neg (by simp)] at h ⊢
  unfold vq
  cases hq:part (ws.map bts) with
  | none =>
   rw [hq] at h
   obtain ⟨x,ws',ns',h1,h2,h3,h4⟩:=h
   exact ⟨x,h1,hid (.inr ⟨ws',ns',h2,h3,h4,rfl⟩)⟩
  | some q =>
   obtain ⟨a,r⟩:=q
   rw [hq] at h
   obtain ⟨h1,ws',rfl,h2⟩:=h
   have h3:=(hp _ _ _ hq).2.2
   rw [List.length_map,List.length_map] at h3
   exact ⟨_,h1,hid (.inl ⟨a,ws',rfl,h2,by omega,rfl⟩)⟩
theorem dw {w0:World} {ws r:List ByteArray} {ns:List NodeL} {kw:List UInt8} {mk:MT→MT→MT} {part:zb→Option (MT × zb)} {R:Option (MT × zb)} {a:MT} {op:Int} {y:ByteArray}
 (hp:wP part) (hz:∀ a b,(mk a b).size=a.size+b.size+1)
 (hm:∀ a b s,(mk a b).lay s=a.lay s++(b.lay (s+a.size)++[⟨op,((s+a.size - 1:Nat):Int),((s+a.size+b.size - 1:Nat):Int),0,zc⟩]))
 (hr:r.length+1+a.size≤ws.length) (hR:R=xY kw mk part ((y::r).map bts).length a ((y::r).map bts)) (hy:bts y=kw) {e:Ending} {w':World}
 (h:yE w0 r (ns++a.lay ns.length) (if false=true then none else part (r.map bts)) e w'):∃ x:Int,e = .returned (.int .i64 x)∧∃ (ws':List ByteArray) (ns':List NodeL) (bad:Bool),ws'.length≤r.length∧ws'.length+ns'.length≤ws.length+ns.length∧Hid (PS w0 w' ws' ns' bad) ∧
  Hid (∀ u,PS w0 u ws' (ns'++[⟨op,((ns.length+a.size - 1:Nat):Int),x,0,zc⟩]) bad→iZ w0 ws ns kw mk part R ((ns'.length:Nat):Int) u):=by
 rw [if_neg (by simp)] at h
 rw [List.map_cons,n8 hp a _ _ hy] at hR
 have ha:=a.size_pos
 cases hq:part (r.map bts) with
 | none =>
  rw [hq] at h hR
  obtain ⟨x,ws',ns',h1,h2,h3,h4⟩:=h
  rw [List.length_append,MT.lay_len] at h3
  refine ⟨x,h1,ws',ns',true,h4,by omega,hid h2,hid fun u hu => .inr ⟨ws',_,hu,?_,by omega,hR⟩⟩
  rw [List.length_append,List.length_singleton]; omega
 | some q =>
  obtain ⟨b,r2⟩:=q
  rw [hq] at h hR
  obtain ⟨h1,ws',rfl,h2⟩:=h
  rw [List.length_append,MT.lay_len] at h1 h2
  have h3:=(hp _ _ _ hq).2.2
  rw [List.length_map,List.length_map] at h3
  have hb:=b.size_pos
  have h4:=(hp _ _ _ hq).1
  rw [List.length_map,List.length_map] at h4
  refine ⟨_,h1,ws',_,false,by omega,?_,hid h2,hid fun u hu => .inl ⟨mk a b,ws',?_,?_,?_,hR⟩⟩
  ·simp only [List.length_append,MT.lay_len]; omega
  ·rw [hz]; simp only [List.length_append,MT.lay_len]; omega
  ·rw [hm];simpa only [List.append_assoc] using hu
  ·rw [hz]; omega
theorem lU (w0 w:World) (kwb:ByteArray) (op:Int) (f:FuncId) (part:zb→Option (MT × zb)) (mk:MT→MT→MT) (n:Nat) (ws:List ByteArray) (ns:List NodeL) (bad:Bool) (hk:bts kwb≠[])
 (hp:wP part) (hc:ej w0 f part n) (he:∀ args w,(callFunc f args).run Tryz.prog w = .ok (.enter f args) w)
 (hm:∀ a b s,(mk a b).lay s=a.lay s++(b.lay (s+a.size)++[⟨op,((s+a.size - 1:Nat):Int),((s+a.size+b.size - 1:Nat):Int),0,zc⟩])) (hz:∀ a b,(mk a b).size=a.size+b.size+1)
 (h:PS w0 w ws ns bad) (hn:ws.length < n) (hl:ws.length+ns.length≤800000) :
 Calls Tryz.prog 214 #[cI w0,.string kwb,.int .i64 op,.func (.func f) #[] #[]] w (yE w0 ws ns (if bad=true then none else vq (bts kwb) mk part (ws.map bts))):=by
 have HF:=hid (fun (x:Int) ws' ns' e w' (h1:e = .returned (.int .i64 x)) (h2:PS w0 w' ws' ns' true) (h3:ws'.length+ns'.length≤ws.length+ns.length) (h4:ws'.length≤ws.length)=>(show yE w0 ws ns none e w' from ⟨x,ws',ns',h1,h2,h3,h4⟩))
 have HG:=hid (fun t (ws':List ByteArray) e w' (h1:e = .returned (.int .i64 ((ns.length+t.size - 1:Nat):Int))) (h2:PS w0 w' ws' (ns++t.lay ns.length) false)=>(show yE w0 ws ns (some (t,ws'.map bts)) e w' from ⟨h1,ws',rfl,h2⟩))
 have HC:=hid hc
 have HP:=hid hp
 have HM:=hid hm
 have HZ:=hid hz
 have HK:=hid hk
 have HC1:=hid ((hc w ws ns bad h hn (by omega)).mono fun e w' h=>iO (kw:=bts kwb) (mk:=mk) hp h)
 have HLT:=hid hl
 have HN:=hid hn
 generalize (if bad=true then none else vq (bts kwb) mk part (ws.map bts))=R at *
 generalize yE w0 ws ns=F at *
 clear hp hc hm hz hk h hn hl
 go_enter Tryz.func214,Tryz.ntmps214
 go_wp2_with (go_at_fn f; refine HC1.out.mono ?_)
 rintro _ w1 ⟨x1,rfl,HS⟩
 go_wp2_with fail
 go_loopw [9] (fun av wr=>∃ x:Int,av = .int .i64 x∧Hid (iZ w0 ws ns (bts kwb) mk part R x wr)) (fun _ wr=>gA w0 wr)
 case atStart=>exact ⟨x1,rfl,HS⟩
 case round =>
  obtain ⟨x,rfl,HS⟩:=hrel;rcases HS.out with ⟨a,ws',hx,hps,hw,hR⟩ | ⟨ws',ns',hps,hw1,hw2,hR⟩
  ·have HPS:=hid hps;have HX:=hid hx;have HR:=hid hR;have hLT:=HLT.out;have hNN:=HN.out;have ha:=a.size_pos;have HNW:=hid (cN w0 wr ws' _ false hps (by omega));have HTK:=hid (rB w0 wr ws' _ false hps (by omega));have hwl:=hps.left;obtain ⟨A4,c4,v4,ho,-⟩:=hps.st;have x2:=ho.box.2 2 _ rfl;have xl:=ho.box.1;clear ho hps hx hR;by_cases hnw:bts (wU ws')=bts kwb
   ·(have he2:((wU ws').toList==kwb.toList)=true:=by rw [beq_iff_eq]; exact hnw);rcases ws' with _ | ⟨y,r⟩
    ·exact absurd (hnw.symm.trans mi) HK.out
    ·have HY:=hid (show bts y=bts kwb from hnw)
     have ht:tkW (y::r,false)=(r,false):=by
      unfold tkW;rw [if_neg (by intro e; exact HK.out (hnw.symm.trans e))]; rfl
     rw [ht] at HTK;(have hwr:r.length+1+a.size≤ws.length:=by simpa [Nat.add_comm] using hw);have HWR:=hid hwr;simp only [wU] at he2 HNW HTK;clear hnw ht hw;(go_wp2_with fail);refine HNW.out.mono ?_;rintro _ _ ⟨rfl,rfl⟩;(go_wp2_with fail);refine HTK.out.mono ?_;rintro _ w2 ⟨rfl,P2⟩;have HCB:=hid ((HC.out w2 r _ false P2 (by omega) (by rw [List.length_append,MT.lay_len]; omega)).mono fun e w' h=>dw HP.out HZ.out HM.out HWR.out HR.out HY.out h);clear P2;(go_wp2_with (go_at_fn f; refine HCB.out.mono ?_));rintro _ w3 ⟨x3,rfl,ws3,ns3,b3,hl3,hl4,HP3,HN3⟩;have HPU:=hid (sy w0 w3 ws3 ns3 b3 ⟨op,x,x3,0,zc⟩ HP3.out (by omega));(go_wp2_with fail);refine HPU.out.mono ?_;rintro _ w4 ⟨rfl,P4⟩;have P4:=hid P4;(go_wp2_with fail);go_roundw
     case rel=>exact ⟨_,rfl,hid (HN3.out _ (by rw [← HX.out]; exact P4.out))⟩
     case measure =>
      rw [P4.out.left,hwl];simp only [List.length_cons]; omega
   ·(have he2:((wU ws').toList==kwb.toList)=false:=by rw [beq_eq_false_iff_ne]; exact hnw);have HS:=hid (HR.out.trans (ed (mk:=mk) (part:=part) a ws' HK.out hnw));clear hnw;(go_wp2_with fail);refine HNW.out.mono ?_;rintro _ _ ⟨rfl,rfl⟩;(go_wp2_with fail);(try rw [Exit.noGoto_ret]);(try go_ret);rw [HS.out];exact HG.out _ _ _ _ (by rw [HX.out]; rfl) HPS.out
  ·have HPS:=hid hps;have HR:=hid hR;obtain ⟨A4,c4,v4,ho,-⟩:=hps.st;have x2:=ho.box.2 2 _ rfl;have xl:=ho.box.1;clear ho hps hR;(go_wp2_with fail);(try rw [Exit.noGoto_ret]);(try go_ret);rw [HR.out];exact HF.out _ _ _ _ _ rfl HPS.out hw1 hw2
theorem dj (args:Array Value) (w:World):(callFunc 235 args).run Tryz.prog w = .ok (.enter 235 args) w:=enters_of Tryz.func235 (by kernel_rfl) rfl args w
theorem hI (args:Array Value) (w:World):(callFunc 215 args).run Tryz.prog w = .ok (.enter 215 args) w:=enters_of Tryz.func215 (by kernel_rfl) rfl args w
theorem m7 {w0 w':World} {ws:List ByteArray} {ns:List NodeL} {r:Option (MT × zb)} {e:Ending} (h:yE w0 ws ns r e w'):∃ x:Int,e = .returned (.int .i64 x)∧Hid (yE w0 ws ns r (.returned (.int .i64 x)) w'):=by
 cases r with
 | none =>
  obtain ⟨x,ws',ns',rfl,h⟩:=h;exact ⟨x,rfl,hid ⟨x,ws',ns',rfl,h⟩⟩
 | some q =>
  obtain ⟨t,r⟩:=q;obtain ⟨rfl,h⟩:=h;exact ⟨_,rfl,hid ⟨rfl,h⟩⟩
theorem ai (w0:World) (part:zb→Option (MT × zb)) (n:Nat) (hp:wP part) (hc:ej w0 235 part n):ej w0 215 (vK part) n:=fun w ws ns bad h hn hl=>by
 have HC:=hid ((lU w0 w ⟨#[97,110,100]⟩ 3 _ part .both n ws ns bad (by decide +kernel) hp hc dj (fun a b s=>rfl) (fun a b=>rfl) h hn hl).mono fun e w' h=>m7 h);rw [show bts (⟨#[97,110,100]⟩:ByteArray)=o5 by decide +kernel] at HC;rw [show (if bad=true then none else vK part (ws.map bts))=if bad=true then none else vq o5 .both part (ws.map bts) from rfl];generalize yE w0 ws ns=F at *;generalize (if bad=true then none else vq o5 .both part (ws.map bts))=R at *;clear h hc;go_enter Tryz.func215,Tryz.ntmps215;(go_wp2_with fail);refine HC.out.mono ?_;rintro _ w1 ⟨x,rfl,H⟩;go_wp2_with fail
 first | exact H.out | (go_ret; exact H.out)
theorem gK (w0:World) (part:zb→Option (MT × zb)) (n:Nat) (hp:wP part) (hc:ej w0 235 part n):ej w0 192 (yI part) n:=fun w ws ns bad h hn hl=>by
 have HC:=hid ((lU w0 w ⟨#[111,114]⟩ 4 _ (vK part) .one n ws ns bad (by decide +kernel) (lM hp) (ai w0 part n hp hc) hI (fun a b s=>rfl) (fun a b=>rfl) h hn hl).mono fun e w' h=>m7 h);rw [show bts (⟨#[111,114]⟩:ByteArray)=Z5 by decide +kernel] at HC;rw [show (if bad=true then none else yI part (ws.map bts))=if bad=true then none else vq Z5 .one (vK part) (ws.map bts) from rfl];generalize yE w0 ws ns=F at *;generalize (if bad=true then none else vq Z5 .one (vK part) (ws.map bts))=R at *;clear h hc;go_enter Tryz.func192,Tryz.ntmps192;(go_wp2_with fail);refine HC.out.mono ?_;rintro _ w1 ⟨x,rfl,H⟩;go_wp2_with fail
 first | exact H.out | (go_ret; exact H.out)
theorem XE {w0 w':World} {x:ByteArray} {r:List ByteArray} {ns:List NodeL} {n:Nat} {e:Ending} (hx:bts x=cG) (h:yE w0 r ns (if false=true then none else wW n (r.map bts)) e w') :
 ∃ y:Int,e = .returned (.int .i64 y)∧∃ (ws':List ByteArray) (ns':List NodeL) (bad:Bool),ws'.length+ns'.length≤r.length+ns.length∧Hid (PS w0 w' ws' ns' bad) ∧
  Hid (∀ u,PS w0 u ws' (ns'++[⟨2,y,0,0,zc⟩]) bad→yE w0 (x::r) ns (wW (n+1) ((x::r).map bts)) (.returned (.int .i64 ns'.length)) u):=by
 rw [if_neg (by simp)] at h
 have hf:wW (n+1) ((x::r).map bts)=match wW n (r.map bts) with | none=>none | some (t,ws')=>some (.not t,ws'):=by
  rw [List.map_cons,wW,if_pos hx]; rfl
 rw [hf]
 cases hq:wW n (r.map bts) with
 | none =>
  rw [hq] at h
  obtain ⟨y,ws',ns',h1,h2,h3,h4⟩:=h
  refine ⟨y,h1,ws',ns',true,h3,hid h2,hid fun u hu=>⟨_,ws',_,rfl,hu,?_,?_⟩⟩
  ·simp only [List.length_append,List.length_cons,List.length_nil]; omega
  ·simp only [List.length_cons]; omega
 | some q =>
  obtain ⟨t,r2⟩:=q
  rw [hq] at h
  obtain ⟨h1,ws',rfl,h2⟩:=h
  have h3:=(vv n _ _ _ hq).2.2
  rw [List.length_map,List.length_map] at h3
  have hb:=t.size_pos
  refine ⟨_,h1,ws',_,false,?_,hid h2,hid fun u hu=>⟨?_,ws',rfl,?_⟩⟩
  ·rw [List.length_append,MT.lay_len]; omega
  ·rw [List.length_append,MT.lay_len,MT.size];rfl
  ·rw [MT.lay];simpa only [List.append_assoc] using hu
theorem dE {w0 w':World} {x:ByteArray} {r:List ByteArray} {ns:List NodeL} {n:Nat} {e:Ending} (hx:bts x=[40]) (h:yE w0 r ns (if false=true then none else yI (wW n) (r.map bts)) e w') :
 ∃ y:Int,e = .returned (.int .i64 y)∧∃ (ws':List ByteArray) (ns':List NodeL) (bad:Bool),ws'.length≤r.length∧ws'.length+ns'.length≤r.length+ns.length∧Hid (PS w0 w' ws' ns' bad) ∧
  Hid (∀ u,PS w0 u (tkW (ws',bad)).1 ns' (tkW (ws',bad)).2→bts (wU ws')=[41]→yE w0 (x::r) ns (wW (n+1) ((x::r).map bts)) (.returned (.int .i64 y)) u) ∧
  Hid (∀ u,PS w0 u (tkW (ws',bad)).1 ns' true→bts (wU ws')≠[41]→yE w0 (x::r) ns (wW (n+1) ((x::r).map bts)) (.returned (.int .i64 y)) u):=by
 rw [if_neg (by simp)] at h
 have hf:wW (n+1) ((x::r).map bts)=match yI (wW n) (r.map bts) with | some (t,c::ws')=>if c=[41] then some (t,ws') else none | _=>none:=by
  rw [List.map_cons,wW,if_neg (by rw [hx]; decide),if_pos hx]; rfl
 rw [hf]
 cases hq:yI (wW n) (r.map bts) with
 | none =>
  rw [hq] at h
  obtain ⟨y,ws',ns',h1,h2,h3,h4⟩:=h
  have hl:=g7 (ws',true)
  simp only at hl
  refine ⟨y,h1,ws',ns',true,h4,h3,hid h2,hid fun u hu _=>⟨y,(tkW (ws',true)).1,ns',rfl,?_,?_,?_⟩,hid fun u hu _=>⟨y,(tkW (ws',true)).1,ns',rfl,hu,?_,?_⟩⟩
  ·(have:(tkW (ws',true)).2=true:=by unfold tkW; split<;>rfl);rw [this] at hu; exact hu
  all_goals (simp only [List.length_cons]; omega)
 | some q =>
  obtain ⟨t,r2⟩:=q
  rw [hq] at h
  obtain ⟨h1,ws',rfl,h2⟩:=h
  have h3:=vf (vv n) _ _ _ hq
  rw [List.length_map,List.length_map] at h3
  have hl:=g7 (ws',false)
  simp only at hl
  refine ⟨_,h1,ws',_,false,by omega,?_,hid h2,hid fun u hu hc=>?_,hid fun u hu hc=>?_⟩
  ·rw [List.length_append,MT.lay_len]; omega
  ·rcases ws' with _ | ⟨c,ws'⟩
   ·exact absurd (show bts zc=[41] from hc) (by rw [show bts zc=[] from mi]; simp)
   ·have hc2:bts c=[41]:=hc
    have ht:tkW (c::ws',false)=(ws',false):=by
     unfold tkW;rw [if_neg (by intro e; exact absurd (hc.symm.trans e) (by simp))]; rfl
    rw [ht] at hu;simp only [List.map_cons];rw [if_pos hc2];exact ⟨rfl,ws',rfl,hu⟩
  ·have hn:(match (some (t,ws'.map bts):Option (MT × zb)) with | some (t,c::ws')=>if c=[41] then some (t,ws') else none | _=>none)=none:=by
    rcases ws' with _ | ⟨c,ws'⟩
    ·rfl
    ·exact if_neg hc
   rw [hn];refine ⟨_,(tkW (ws',false)).1,_,rfl,hu,?_,?_⟩
   ·rw [List.length_append,MT.lay_len]; simp only [List.length_cons]; omega
   ·simp only [List.length_cons]; omega
theorem eQ (w0:World):∀ n,ej w0 235 (wW n) n
 | 0=>fun w ws ns bad h hn hl=>absurd hn (Nat.not_lt_zero _)
 | n+1=>fun w ws ns bad h hn hl=>by
  have IH:=eQ w0 n;have HI:=hid IH;have HO:=hid (gK w0 (wW n) n (vv n) IH);clear IH;have HPS:=hid h;obtain ⟨A4,c4,v4,ho,-⟩:=h.st;have x2:=ho.box.2 2 _ rfl;have xl:=ho.box.1;clear ho;have HF:=hid (fun (x:Int) ws' ns' e w' (h1:e = .returned (.int .i64 x)) (h2:PS w0 w' ws' ns' true) (h3:ws'.length+ns'.length≤ws.length+ns.length) (h4:ws'.length≤ws.length)=>(show yE w0 ws ns none e w' from ⟨x,ws',ns',h1,h2,h3,h4⟩));cases bad with
  | true =>
   rw [if_pos rfl];generalize yE w0 ws ns none=F at *;clear h;go_enter Tryz.func235,Tryz.ntmps235;go_wp2_with fail
   first | exact HF.out _ _ _ _ _ rfl HPS.out (Nat.le_refl _) (Nat.le_refl _) | (go_ret; exact HF.out _ _ _ _ _ rfl HPS.out (Nat.le_refl _) (Nat.le_refl _))
  | false =>
   rw [if_neg (by simp)];have HTK:=hid (rB w0 w ws ns false h (by omega));clear h;by_cases hx:bts (wU ws)=[]
   ·
    have ht:tkW (ws,false)=(ws,true):=by unfold tkW; rw [if_pos hx]
    rw [ht] at HTK
    have hz:wW (n+1) (ws.map bts)=none:=by
     rcases ws with _ | ⟨y,r⟩
     ·rfl
     ·have hy:bts y=[]:=hx;rw [List.map_cons,hy,wW,if_neg (by decide),if_neg (by decide)];unfold tu;split
      ·rfl
      ·rfl
    rw [hz]
    have n1:((wU ws).toList==[110,111,116])=false:=by rw [show (wU ws).toList=[] from hx]; rfl
    have n2:((wU ws).toList==[40])=false:=by rw [show (wU ws).toList=[] from hx]; rfl
    clear hx
    generalize wU ws=y at *
    have HIS:=hid (fun w1 (h:PS w0 w1 ws ns true)=>(XZ w0 w1 y ws ns true h (by omega)).mono fun e w' h=>m7 h)
    simp only [if_true] at HIS
    generalize yE w0 ws ns none=F at *
    go_enter Tryz.func235,Tryz.ntmps235
    go_wp2_with fail
    refine HTK.out.mono ?_
    rintro _ w1 ⟨rfl,P1⟩
    have HIS:=hid (HIS.out w1 P1)
    clear P1
    go_wp2_with fail
    refine HIS.out.mono ?_
    rintro _ w2 ⟨x,rfl,H⟩
    go_wp2_with fail
    first | exact H.out | (go_ret; exact H.out)
   ·rcases ws with _ | ⟨y,r⟩
    ·exact absurd mi hx
    ·have hy:¬ bts y=[]:=hx;(have ht:tkW (y::r,false)=(r,false):=by unfold tkW; rw [if_neg hx]; rfl);rw [ht] at HTK;(have hn2:r.length < n:=by simp only [List.length_cons] at hn; omega);(have hl2:r.length+ns.length≤800000:=by simp only [List.length_cons] at hl; omega);by_cases h1:bts y=cG
     ·(have n1:(y.toList==[110,111,116])=true:=by rw [beq_iff_eq]; exact h1);have HY:=hid h1;have HNP:=hid (fun w1 (h:PS w0 w1 r ns false)=>(HI.out w1 r ns false h hn2 hl2).mono fun e w' h=>XE (n:=n) h1 h);simp only [wU] at HTK;clear h1 hx hy ht;generalize yE w0 (y::r) ns (wW (n+1) ((y::r).map bts))=F at *;go_enter Tryz.func235,Tryz.ntmps235;(go_wp2_with fail);refine HTK.out.mono ?_;rintro _ w1 ⟨rfl,P1⟩;have HNP:=hid (HNP.out w1 P1);clear P1;(go_wp2_with fail);refine HNP.out.mono ?_;rintro _ w2 ⟨x,rfl,ws',ns',b2,hl3,HP2,HN2⟩;have HPU:=hid (sy w0 w2 ws' ns' b2 ⟨2,x,0,0,zc⟩ HP2.out (by omega));(go_wp2_with fail);refine HPU.out.mono ?_;rintro _ w3 ⟨rfl,P3⟩;have H:=hid (HN2.out _ P3);clear P3;go_wp2_with fail
      first | exact H.out | (go_ret; exact H.out)
     ·(have n1:(y.toList==[110,111,116])=false:=by rw [beq_eq_false_iff_ne]; exact h1);by_cases h2:bts y=[40]
      ·(have n2:(y.toList==[40])=true:=by rw [beq_iff_eq]; exact h2);have HNP:=hid (fun w1 (h:PS w0 w1 r ns false)=>(HO.out w1 r ns false h hn2 hl2).mono fun e w' h=>dE (n:=n) h2 h);simp only [wU] at HTK;clear h1 h2 hx hy ht;generalize yE w0 (y::r) ns (wW (n+1) ((y::r).map bts))=F at *;go_enter Tryz.func235,Tryz.ntmps235;(go_wp2_with fail);refine HTK.out.mono ?_;rintro _ w1 ⟨rfl,P1⟩;have HNP:=hid (HNP.out w1 P1);clear P1;(go_wp2_with fail);refine HNP.out.mono ?_;rintro _ w2 ⟨x,rfl,ws',ns',b2,hl3,hl4,HP2,HGO,HNO⟩;have HT2:=hid (rB w0 w2 ws' ns' b2 HP2.out (by omega));by_cases hc:bts (wU ws')=[41]
       ·(have c1:((wU ws').toList==[41])=true:=by rw [beq_iff_eq]; exact hc);have HG2:=hid (fun u h=>HGO.out u h hc);clear hc HNO HGO;generalize wU ws'=cw at *;(go_wp2_with fail);refine HT2.out.mono ?_;rintro _ w3 ⟨rfl,P3⟩;have H:=hid (HG2.out _ P3);clear P3;go_wp2_with fail
        first | exact H.out | (go_ret; exact H.out)
       ·(have c1:((wU ws').toList==[41])=false:=by rw [beq_eq_false_iff_ne]; exact hc);have HN2:=hid (fun u h=>HNO.out u h hc);clear hc HGO HNO;generalize wU ws'=cw at *;(go_wp2_with fail);refine HT2.out.mono ?_;rintro _ w3 ⟨rfl,P3⟩;have P3:=hid P3;obtain ⟨A5,c5,v5,ho,-⟩:=P3.out.st;have z2:=ho.box.2 2 _ rfl;have zl:=ho.box.1;have zf:w3.frozen? ⟨w0.heap.size,2,none⟩=false:=ho.soft _;clear ho;go_wp2_with fail
        first | exact HN2.out _ P3.out.worse | (go_ret; exact HN2.out _ P3.out.worse)
      ·(have n2:(y.toList==[40])=false:=by rw [beq_eq_false_iff_ne]; exact h2);have hf:wW (n+1) ((y::r).map bts)=tu (bts y) (r.map bts):=by rw [List.map_cons,wW,if_neg h1,if_neg h2]
       have HIS:=hid (fun w1 (h:PS w0 w1 r ns false)=>(XZ w0 w1 y r ns false h (by omega)).mono fun e w' h=>(show ∃ x:Int,e = .returned (.int .i64 x)∧Hid (yE w0 (y::r) ns (wW (n+1) ((y::r).map bts)) (.returned (.int .i64 x)) w') from by
        rw [hf];rw [if_neg (by simp)] at h;obtain ⟨x,rfl,h⟩:=m7 h;refine ⟨x,rfl,hid ?_⟩;have h:=Hid.out h;cases hq:tu (bts y) (r.map bts) with
        | none =>
         rw [hq] at h;obtain ⟨x2,ws',ns',e1,e2,e3,e4⟩:=h;exact ⟨x2,ws',ns',e1,e2,by simp only [List.length_cons]; omega,by simp only [List.length_cons]; omega⟩
        | some q =>
         rw [hq] at h
         exact h))
       simp only [wU] at HTK;clear h1 h2 hx hy ht hf;generalize yE w0 (y::r) ns (wW (n+1) ((y::r).map bts))=F at *;go_enter Tryz.func235,Tryz.ntmps235;(go_wp2_with fail);refine HTK.out.mono ?_;rintro _ w1 ⟨rfl,P1⟩;have HIS:=hid (HIS.out w1 P1);clear P1;(go_wp2_with fail);refine HIS.out.mono ?_;rintro _ w2 ⟨x,rfl,H⟩;go_wp2_with fail
       first | exact H.out | (go_ret; exact H.out)
structure Arr (B:Nat) (w:World) (g N:Nat) (f:Nat→Int):Prop where
 lt:g < w.heap.size
 low:B≤g
 soft:Soft w g
 cell:∀ j,j < N→w.cell? ⟨g,j,none⟩=some (.int .i64 (f j))
section
variable {B:Nat} {w w':World} {g N:Nat} {f:Nat→Int}
theorem Arr.kb (h:Arr B w g N f) (hb:KB w.heap.size w w'):Arr B w' g N f :=
 ⟨Nat.lt_of_lt_of_le h.lt hb.size,h.low,fun j=>(Go.RowKit.Below.frozen hb (p:=⟨g,j,none⟩) h.lt).trans (h.soft j),fun j hj=>(Go.RowKit.Below.cell hb (p:=⟨g,j,none⟩) h.lt).trans (h.cell j hj)⟩
theorem Arr.put {k:Nat} (h:Arr B w g N f) (hk:k < N) (x:Int):Arr B (w.setCell ⟨g,k,none⟩ (.int .i64 x)) g N (fun j=>if j=k then x else f j) :=
 ⟨by rw [World.size_setCell]; exact h.lt,h.low,h.soft.put _,fun q hq=>by
  by_cases e:q=k
  ·subst e;simp only [if_true];exact World.cell?_setCell_same _ _ _ (h.cell q hq)
  ·simp only [if_neg e]
   exact (World.cell?_setCell_other _ _ _ _ (by simp only [ne_eq,Addr.mk.injEq,not_and]; intro _ e2; exact absurd e2.symm e)).trans (h.cell q hq)⟩
theorem Arr.of_own {e:TypeId} (h:w.ownsRow B e 1 (.slice (some ⟨g,0,none⟩) N N) N (madeCells #[.int .i64 0] (N * 1)).toList):g < w.heap.size→B≤g→Arr B w g N (fun _=>0):=fun hg hB =>
 ⟨hg,hB,fun j=>World.ownsRow.frozenAt h j,fun j hj=>by
  rw [h.cellAt j (by omega)]
  simp [madeCells,hj,Nat.mod_one]⟩
end
theorem YB:∃ i:TypeInfo,Tryz.prog.info? 3=some i∧i.zero=some (.int .i64 0)∧i.size=1∧i.bytes=8:=by
 (have h:(Tryz.prog.info? 3).map (fun i=>(i.zero,i.size,i.bytes))=some (some (.int .i64 0),1,8):=by kernel_rfl);cases hi:Tryz.prog.info? 3 with
 | none=>rw [hi] at h; cases h
 | some i =>
  rw [hi] at h;simp only [Option.map_some,Option.some.injEq,Prod.mk.injEq] at h;exact ⟨i,rfl,h.1,h.2.1,h.2.2⟩
theorem Lies.at5 {w:World} {A:Option Addr} {l:List NodeL} {k:Nat} (h:Lies 5 NodeL.cells w A l) (hk:k < l.length):∃ b off,A=some ⟨b,off,none⟩∧b < w.heap.size∧w.cell? ⟨b,off+k * 5,none⟩=some (.int .i64 l[k].op)∧w.cell? ⟨b,off+k * 5+1,none⟩=some (.int .i64 l[k].a)∧w.cell? ⟨b,off+k * 5+2,none⟩=some (.int .i64 l[k].b)∧w.cell? ⟨b,off+k * 5+3,none⟩=some (.int .i64 l[k].key)∧w.cell? ⟨b,off+k * 5+4,none⟩=some (.string l[k].text):=by
 obtain ⟨b,off,hA,hl,hc⟩:=h.at_ hk;exact ⟨b,off,hA,hl,hc 0 _ rfl,hc 1 _ rfl,hc 2 _ rfl,hc 3 _ rfl,hc 4 _ rfl⟩
theorem fG (A:Option Addr) (c:Nat) (ns:List NodeL) (st:Nat→Nat) (w:World) (h:Lies 5 NodeL.cells w A ns) (hs:∀ j x,ns[j]?=some x→MT.NodeOk st j x) (hle:∀ j,st j≤j) (h0:0 < ns.length→st (ns.length - 1)=0) (hn:ns.length≤9223372036854775807) :
 Calls Tryz.prog 216 #[.slice A ns.length c] w (yT w (decide (ns.length≤15))):=by
 have HA:=hid h
 have HS:=hid hs
 have H0:=hid h0
 clear h hs h0
 generalize hnn:ns.length=n at *
 have HN:=hid hnn
 clear hnn
 by_cases h15:n≤15
 ·(have i15:¬ (15:Int) < (n:Int):=by omega);rw [decide_eq_true h15];go_enter Tryz.func216,Tryz.ntmps216;obtain ⟨ii,e1,e2,e3,e4⟩:=YB;(go_wp2_with (at_make; refine wpList_make_full w rfl _ _ _ rfl w.heap.size 3 ii (.int .i64 0) 1 Tryz.underlying22 e1 e2 e3 .i64 .i64 n n n rfl rfl rfl rfl (by rw [e4]; omega) (by unfold maxLen; omega) (Nat.le_refl _) ?_; intro w1 h1 h2; have HR:=hid (Arr.of_own h1 (h1.lt _ rfl).2 (h1.lt _ rfl).1); have HB:=hid (show KB w.heap.size w w1 from (Go.RowKit.Below.refl _ _).grown h2 (Nat.le_refl _) (fun k hk=>by cases hk)); clear h1 h2));generalize hgg:w.heap.size=g at *;have HG:=hid hgg;clear hgg;go_loopw [14] (fun i wr=>∃ (k:Nat) (f:Nat→Int),i = .int .i64 k∧k≤n∧Hid (Arr g wr g n f)∧Hid (∀ j,j < k→f j=(st j:Int))∧Hid (KB g w wr)) (fun i _=>n - (intOf i).toNat)
  case atStart=>exact ⟨0,_,rfl,Nat.zero_le _,HR,hid (fun j hj=>absurd hj (Nat.not_lt_zero _)),HB⟩
  case round =>
   obtain ⟨k,f,rfl,hk,HR,HF,HB⟩:=hrel;by_cases hlt:k < n
   ·(have hl:k < ns.length:=by rw [HN.out]; exact hlt);obtain ⟨b,off,hA,hbl,y0,y1,y2,y3,y4⟩:=Lies.at5 (HA.out.kb (by rw [HG.out]; exact HB.out)) hl;subst hA;have hOK:=HS.out k ns[k] (List.getElem?_eq_getElem hl);(have i0:(0:Int)≤(k:Int):=by omega);(have i1:(k:Int) < (n:Int):=by omega);have c0:=HR.out.cell k hlt;have cf:=HR.out.soft k;have cl:=HR.out.lt;generalize ns[k]=x at *;obtain ⟨op,xa,xb,key,txt⟩:=x;simp only at y0 y1 y2 y3 y4;(go_upto_region 8 with fail);refine zI ?_;intro u1 hu;have HR1:=hid (show Arr g u1 g n (fun j=>if j=k then (k:Int) else f j) by rw [hu]; exact (HR.out.put hlt k).kb (zG _ _))
    have HX:=hid (show Box u1 wr.heap.size [.int .i64 op,.int .i64 xa,.int .i64 xb,.int .i64 key,.string txt] by
     rw [hu]; exact (by rw [World.size_setCell]:(wr.setCell ⟨g,k,none⟩ (.int .i64 k)).heap.size=wr.heap.size)▸Box.new (wr.setCell ⟨g,k,none⟩ (.int .i64 k)) [.int .i64 op,.int .i64 xa,.int .i64 xb,.int .i64 key,.string txt] 278)
    have hgx:g≠wr.heap.size:=Nat.ne_of_lt cl;have HB1:=hid (show KB g w u1 by rw [hu]; exact Go.RowKit.Below.trans (Go.RowKit.Below.setCell HB.out (p:=⟨g,k,none⟩) (Nat.le_refl _) _) (Go.RowKit.Below.mono (zG _ _) (by rw [World.size_setCell]; exact Nat.le_of_lt cl)));clear hu y0 y1 y2 y3 y4 c0 cf hbl;generalize wr.heap.size=q at *;have y0:=HX.out.2 0 _ rfl;have y1:=HX.out.2 1 _ rfl;have y2:=HX.out.2 2 _ rfl;have y3:=HX.out.2 3 _ rfl;have y4:=HX.out.2 4 _ rfl;have yl:=HX.out.1
    have HFS:=hid (fun (x:Int) (hx:x=(st k:Int))=>(show ∀ j,j < k+1→(fun j=>if j=k then x else f j) j=(st j:Int) from fun j hj=>by
     by_cases e:j=k
     ·subst e; simp only [if_true]; exact hx
     ·simp only [if_neg e]; exact HF.out j (by omega)))
    have HFS2:=hid (fun (x:Int) (hx:x=(st k:Int))=>(show ∀ j,j < k+1→(fun j=>if j=k then x else (fun j=>if j=k then (k:Int) else f j) j) j=(st j:Int) from fun j hj=>by
     by_cases e:j=k
     ·subst e; simp only [if_true]; exact hx
     ·simp only [if_neg e]; exact HF.out j (by omega)))
    rcases hOK with ⟨rfl,hk0,hk3,hwt,rfl,rfl,hst⟩ | ⟨rfl,hk1,rfl,rfl,rfl,rfl,hst⟩ | ⟨hop,hk2,rfl,hs1,rfl,rfl,rfl,hst⟩
    ·simp only at hk0 hk3 hwt y0 y1 y2 y3 y4;(have k0:¬ key < 0:=by omega);(have k3:¬ 3≤key:=by omega);have HST:=hid hst;have HW:=hid (wS txt u1);rw [hwt] at HW;clear hst hwt hk0 hk3;(go_wp2_with fail);refine HW.out.mono ?_;rintro _ u2 ⟨rfl,hb2⟩;have HR2:=hid (HR1.out.kb hb2.kb);have HX2:=hid (HX.out.kb hb2.kb);have HB2:=hid (Go.RowKit.Below.trans HB1.out (Go.RowKit.Below.mono hb2.kb (Nat.le_of_lt HR1.out.lt)));clear hb2;have z1:=HX2.out.2 1 _ rfl;have z2:=HX2.out.2 2 _ rfl;have zl:=HX2.out.1;(go_wp2_with fail);go_roundw
     case rel=>exact ⟨k+1,_,by go_num,by omega,HR2,hid (HFS.out _ (by rw [HST.out])),HB2⟩
     case measure=>simp [intOf]<;>omega
    ·obtain ⟨p,rfl⟩:∃ p,k=p+1:=⟨k - 1,by omega⟩;(have k1:¬ (p:Int)+1 < 1:=by omega);(have i2:(0:Int)≤(p:Int):=by omega);(have i3:(p:Int) < (n:Int):=by omega);(have i4:(p:Int)+1 < (n:Int):=by omega);have HST:=hid hst;have c1:=HR1.out.cell p (by omega);rw [if_neg (show ¬ p=p+1 by omega)] at c1;(have c0:u1.cell? ⟨g,p+1,none⟩=some (.int .i64 ((p:Int)+1)):=by have:=HR1.out.cell (p+1) hlt; simpa using this);(have y1:u1.cell? ⟨q,1,none⟩=some (.int .i64 (p:Int)):=by simpa using y1);have cf:=HR1.out.soft (p+1);have cl:=HR1.out.lt;have HFP:=hid (HF.out p (by omega));clear hst;(go_upto_region 22 with fail);refine zI ?_;intro u2 hu2;have HR2:=hid (show Arr g u2 g n _ by rw [hu2]; exact HR1.out.put hlt (f p));have HX2:=hid (show Box u2 q _ by rw [hu2]; exact HX.out.putOther (fun e=>hgx e.symm) _);have HB2:=hid (show KB g w u2 by rw [hu2]; exact Go.RowKit.Below.setCell HB1.out (p:=⟨g,p+1,none⟩) (Nat.le_refl _) _);clear hu2 y0 y1 y2 y3 y4 c0 c1;have z3:=HX2.out.2 3 _ rfl;have z4:=HX2.out.2 4 _ rfl;have zl:=HX2.out.1;(go_wp2_with fail);go_roundw
     case rel=>exact ⟨p+1+1,_,by go_num,by omega,HR2,hid (HFS2.out _ (by rw [HFP.out,HST.out]; rfl)),HB2⟩
     case measure=>simp [intOf]<;>omega
    ·obtain ⟨p,rfl⟩:∃ p,k=p+1:=⟨k - 1,by omega⟩;(have k1:¬ (p:Int)+1 < 2:=by omega);(have i2:(0:Int)≤(p:Int):=by omega);(have i3:(p:Int) < (n:Int):=by omega);(have i4:(p:Int)+1 < (n:Int):=by omega);simp only [Nat.add_sub_cancel] at hs1 hst y1;have HST:=hid hst;have hsl:=hle p;generalize hsp:st p=sp at *;obtain ⟨r,rfl⟩:∃ r,sp=r+1:=⟨sp - 1,by omega⟩
     have c1:u1.cell? ⟨g,p,none⟩=some (.int .i64 ((r:Int)+1)):=by
      have:=HR1.out.cell p (by omega);rw [if_neg (show ¬ p=p+1 by omega),HF.out p (by omega),hsp] at this;simpa using this
     have c2:=HR1.out.cell r (by omega);rw [if_neg (show ¬ r=p+1 by omega)] at c2;(have c0:u1.cell? ⟨g,p+1,none⟩=some (.int .i64 ((p:Int)+1)):=by have:=HR1.out.cell (p+1) hlt; simpa using this);(have y1:u1.cell? ⟨q,1,none⟩=some (.int .i64 (r:Int)):=by simpa using y1);(have y2:u1.cell? ⟨q,2,none⟩=some (.int .i64 (p:Int)):=by simpa using y2);have cf:=HR1.out.soft (p+1);have cl:=HR1.out.lt;have HFP:=hid (HF.out r (by omega));have HS2:=hid (show st (p+1)=st r by rw [HST.out]; rfl);clear hst HST hsp;(have r0:(0:Int)≤(r:Int):=by omega);(have r1:(r:Int) < (n:Int):=by omega);(have r2:¬ (r:Int)+1 < 1:=by omega);rcases hop with rfl | rfl
     all_goals
      (go_upto_region 19 with fail);have hS:KB u1.heap.size u1 u1.drew:=(Below.drew (Below.refl _ _)).kb;(refine wpS (fun u=>KB u1.heap.size u1 u) (.last [0,1,2,3,4,5,6,7,8,9,10,11,12,13,14,15,16,17,18,19,20,21,22,23,24,25,26,27]) fun iS=>?_);(have q1:=fun (z:SW fun u=>KB u1.heap.size u1 u)=>(Go.RowKit.Below.cell z.ok (p:=⟨q,1,none⟩) yl).trans y1);(have q2:=fun (z:SW fun u=>KB u1.heap.size u1 u)=>(Go.RowKit.Below.cell z.ok (p:=⟨q,2,none⟩) yl).trans y2);(have q3:=fun (z:SW fun u=>KB u1.heap.size u1 u)=>(HX.out.kb z.ok).1);(have q4:=fun (z:SW fun u=>KB u1.heap.size u1 u)=>(Go.RowKit.Below.cell z.ok (p:=⟨g,p,none⟩) cl).trans c1);(have q5:=fun (z:SW fun u=>KB u1.heap.size u1 u)=>(HR1.out.kb z.ok).lt);(with_reducible refine zJ ?_);simp only [zB,pka,pkb,pkc,pkd,pke,pkf];(repeat go_big_quiet_step (fail));refine wpQuiet_nil ?_;clear q1 q2 q3 q4 q5;(go_upto_region 22 with fail);refine zI ?_;intro u2 hu2;have HR2:=hid (show Arr g u2 g n _ by rw [hu2]; exact ((HR1.out.put hlt (f r)).kb (show KB (u1.setCell ⟨g,p+1,none⟩ (.int .i64 (f r))).heap.size (u1.setCell ⟨g,p+1,none⟩ (.int .i64 (f r))) (u1.setCell ⟨g,p+1,none⟩ (.int .i64 (f r))).drew from (Below.drew (Below.refl _ _)).kb)));have HX2:=hid (show Box u2 q _ by rw [hu2]; exact (HX.out.putOther (fun e=>hgx e.symm) _).drew)
      have HB2:=hid (show KB g w u2 by
       rw [hu2];have h1:=Go.RowKit.Below.setCell HB1.out (p:=⟨g,p+1,none⟩) (Nat.le_refl _) (.int .i64 (f r));have h2:KB g (u1.setCell ⟨g,p+1,none⟩ (.int .i64 (f r))) (u1.setCell ⟨g,p+1,none⟩ (.int .i64 (f r))).drew:=(Below.drew (Below.refl g _)).kb
       exact Go.RowKit.Below.trans h1 h2)
      clear hu2 y0 y1 y2 y3 y4 c0 c1 c2 hS;have z3:=HX2.out.2 3 _ rfl;have z4:=HX2.out.2 4 _ rfl;have zl:=HX2.out.1;(go_wp2_with fail);go_roundw
      case rel=>exact ⟨p+1+1,_,by go_num,by omega,HR2,hid (HFS2.out _ (by rw [HFP.out,HS2.out])),HB2⟩
      case measure=>simp [intOf]<;>omega
   ·(obtain rfl:k=n:=by omega);rcases k with _ | m
    ·(go_wp2_with fail);(try rw [Exit.noGoto_ret]);(try go_ret);exact ⟨rfl,by rw [HG.out]; exact HB.out⟩
    ·have c0:=HR.out.cell m (Nat.lt_succ_self _);rw [HF.out m (Nat.lt_succ_self _),show st m=0 from H0.out (Nat.succ_pos _)] at c0;have cl:=HR.out.lt;(have e0:(((m:Int)+1)==0)=false:=by rw [beq_eq_false_iff_ne]; omega);(have i0:(0:Int)≤(m:Int):=by omega);(have i1:(m:Int) < (m:Int)+1:=by omega);(go_wp2_with fail);(try rw [Exit.noGoto_ret]);(try go_ret);exact ⟨rfl,by rw [HG.out]; exact HB.out⟩
 ·(have i15:(15:Int) < (n:Int):=by omega);rw [decide_eq_false h15];go_enter Tryz.func216,Tryz.ntmps216;(go_wp2_with fail);go_ret;exact ⟨rfl,zH _⟩
end Go.Proofs.YtiffijoenkcpjaaGreatDoor
