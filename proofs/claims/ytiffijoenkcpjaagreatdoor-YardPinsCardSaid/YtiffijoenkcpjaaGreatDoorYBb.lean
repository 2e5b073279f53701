import Derived.Deep.DeepCutAuto
import Derived.Deep.RegionHeld3
import Derived.Test.YtiffijoenkcpjaaGreatDoorYBa
set_option linter.unusedVariables false
set_option linter.unusedSimpArgs false
set_option maxRecDepth 100000
set_option maxHeartbeats 4000000
namespace Go.Proofs.YtiffijoenkcpjaaGreatDoor
open Go.RowKit Go.Lib
structure Ver where
 maj:Int
 min:Int
 pat:Int
 pre:ByteArray
 bld:ByteArray
abbrev Ver.cells (v:Ver):List Value:=[.int .i64 v.maj,.int .i64 v.min,.int .i64 v.pat,.string v.pre,.string v.bld]
abbrev Ver.val (v:Ver):Value := .agg #[.int .i64 v.maj,.int .i64 v.min,.int .i64 v.pat,.string v.pre,.string v.bld]
def wV (n:Int):Bool:=decide (0≤n∧n≤9999)
def tI (l:List UInt8):Bool:=l.isEmpty || fF l
def oz (l:List UInt8):Bool:=l.isEmpty || uI l
def yF (v:Ver):Bool:=wV v.maj&&wV v.min&&wV v.pat&&tI (bts v.pre)&&oz (bts v.bld)
theorem kH {s:ByteArray} (h:s.toList=[]):tI (bts s)=true:=by rw [bts,h]; rfl
theorem jj {s:ByteArray} (h:s.toList=[]):oz (bts s)=true:=by rw [bts,h]; rfl
theorem mR {s:ByteArray} (h:s.toList.isEmpty=false):tI (bts s)=fF (bts s):=by rw [tI,h]; rfl
theorem gz {s:ByteArray} (h:s.toList.isEmpty=false):oz (bts s)=uI (bts s):=by rw [oz,h]; rfl
def Ver.fit (v:Ver):Prop:=v.pre.size≤4398046511104∧v.bld.size≤4398046511104
theorem qD (n:Int) (w:World):Calls Tryz.prog 150 #[.int .i64 n] w fun e w'=>e = .returned (.bool (wV n))∧w=w':=XA n w
theorem VF (s:ByteArray) (w:World) (hs:s.size≤4398046511104) (r:Bool) (HR:Hid (uI (bts s)=true∧(zO (bts s)).all yx=r)):Calls Tryz.prog 151 #[.string s] w (yc w r):=by
 have ht0:=HR.out.1;go_enter Tryz.func151,Tryz.ntmps151;(go_wp2_with fail);refine (qe s _ hs).mono ?_;rintro e w0 ⟨rfl,hb0⟩;(go_wp2_with fail);refine (pu s _ hs).mono ?_;rintro e w1 ⟨g,cap,rfl,hg,hgs,hcap,hcell,hb⟩;have HH:=hid (show Held w1 g (zO (bts s)) from ⟨hgs,hcell⟩);have hbw:=zC hb0 hb;clear hcell ht0;(have hnb:(zO (bts s)).length≤4398046511105:=by have:=(zk 46 (bts s) []).2; rw [zF] at this; exact Nat.le_trans this (by omega));generalize hn:(zO (bts s)).length=n at *;have HN:=hid hn;clear hn;(go_wp2_with fail);go_loopw [4,13] (fun t i wr=>∃ k:Nat,i = .int .i64 k∧k≤n∧Hid (((zO (bts s)).take k).all yx=true)∧Hid (Held wr g (zO (bts s)))∧Below w.heap.size w wr) (fun _ i _=>n - (intOf i).toNat)
 case atStart=>exact ⟨0,rfl,Nat.zero_le _,rfl,HH,hbw⟩
 case round =>
  obtain ⟨k,rfl,hk,HA,HW,hbr⟩:=hrel;by_cases hlt:k < n
  ·(have hlt':k < (zO (bts s)).length:=by rw [HN.out]; exact hlt);obtain ⟨x,hx1,hx2,hx3⟩:=qg s k hlt';have hck:=HW.out.2 k hlt';rw [hx1] at hck;have HX:=hid hx2;clear hx1 hx2;have hsz:=hbr.size;have hgw:=HW.out.1;cases hn1:zr (bts x)
   ·have HF:=hid (show yx (zO (bts s))[k]=true by rw [← HX.out,yx,hn1]; rfl);(go_wp2_with (first | (go_at_call 171; refine (vV _ _).mono ?_; rintro e w2 ⟨rfl,hb2⟩) | (go_at_call 191; refine (yW _ _ (by omega)).mono ?_; rintro e w' ⟨rfl,rfl⟩)));go_roundw
    case rel=>exact ⟨k+1,by go_num,by omega,xU hlt' HA.out HF.out,HW.out.below hb2,zC hbr hb2⟩
    case measure=>simp [intOf]; omega
   ·cases hn2:(za (bts x)).2
    ·have HF:=hid (show (zO (bts s)).all yx=false from yz hlt' (by rw [← HX.out,yx,hn1,hn2]; rfl));(go_wp2_with (first | (go_at_call 171; refine (vV _ _).mono ?_; rintro e w2 ⟨rfl,hb2⟩) | (go_at_call 191; refine (yW _ _ (by omega)).mono ?_; rintro e w' ⟨rfl,rfl⟩)));go_ret;exact ⟨by rw [← HR.out.2,HF.out]; rfl,zC hbr hb2⟩
    ·have HF:=hid (show yx (zO (bts s))[k]=true by rw [← HX.out,yx,hn1,hn2]; rfl);(go_wp2_with (first | (go_at_call 171; refine (vV _ _).mono ?_; rintro e w2 ⟨rfl,hb2⟩) | (go_at_call 191; refine (yW _ _ (by omega)).mono ?_; rintro e w' ⟨rfl,rfl⟩)));go_roundw
     case rel=>exact ⟨k+1,by go_num,by omega,xU hlt' HA.out HF.out,HW.out.below hb2,zC hbr hb2⟩
     case measure=>simp [intOf]; omega
  ·(obtain rfl:k=n:=by omega);(go_wp2_with fail);go_ret;exact ⟨by rw [← HR.out.2]; have:=HA.out; rw [← HN.out] at this; rw [uq this]; rfl,hbr⟩
theorem iC (s:ByteArray) (w:World) (hs:s.size≤4398046511104):Calls Tryz.prog 151 #[.string s] w (yc w (fF (bts s))):=by
 cases ht:uI (bts s)
 ·(have e:fF (bts s)=false:=by rw [fF,ht]; rfl);rw [e];clear e;go_enter Tryz.func151,Tryz.ntmps151;(go_wp2_with fail);refine (qe s _ hs).mono ?_;rintro e w0 ⟨rfl,hb0⟩;(go_wp2_with fail);go_ret;exact ⟨rfl,hb0⟩
 ·(have e:fF (bts s)=(zO (bts s)).all yx:=by rw [fF,ht]; rfl);rw [e];exact VF s w hs _ ⟨ht,rfl⟩
theorem xj {w w1:World} {o:Obj} (hb:Below (w.alloc o).heap.size (w.alloc o) w1):Below w.heap.size w w1:=zC ((Below.refl _ _).alloc (Nat.le_refl _) o) hb
theorem zL (w:World) (o:Obj):Below w.heap.size w (w.alloc o):=(Below.refl _ _).alloc (Nat.le_refl _) o
theorem vm (v:Ver) (w:World) (hv:v.fit):Calls Tryz.prog 110 #[v.val] w (yc w (yF v)):=by
 obtain ⟨hp,hq⟩:=hv;generalize hr:yF v=r;have HR:=hid hr;clear hr;cases h1:wV v.maj
 ·go_enter Tryz.func110,Tryz.ntmps110;(go_wp2_with (go_at_call 150; refine (qD _ _).mono ?_; rintro e w' ⟨rfl,rfl⟩));go_ret;exact ⟨by rw [← HR.out,yF,h1]; rfl,zL _ _⟩
 ·cases h2:wV v.min
  ·go_enter Tryz.func110,Tryz.ntmps110;(go_wp2_with (go_at_call 150; refine (qD _ _).mono ?_; rintro e w' ⟨rfl,rfl⟩));go_ret;exact ⟨by rw [← HR.out,yF,h1,h2]; rfl,zL _ _⟩
  ·cases h3:wV v.pat
   ·go_enter Tryz.func110,Tryz.ntmps110;(go_wp2_with (go_at_call 150; refine (qD _ _).mono ?_; rintro e w' ⟨rfl,rfl⟩));go_ret;exact ⟨by rw [← HR.out,yF,h1,h2,h3]; rfl,zL _ _⟩
   ·by_cases h4:0 < v.pre.size
    ·obtain ⟨e4,n4⟩:=zj h4;cases h5:fF (bts v.pre)
     ·go_enter Tryz.func110,Tryz.ntmps110;(go_wp2_with (first | (go_at_call 150; refine (qD _ _).mono ?_; rintro e w' ⟨rfl,rfl⟩) | (go_at_call 151; refine (iC _ _ hp).mono ?_; rintro e w1 ⟨rfl,hb⟩)));go_ret;exact ⟨by rw [← HR.out,yF,h1,h2,h3,mR e4,h5]; rfl,xj hb⟩
     ·by_cases h6:0 < v.bld.size
      ·obtain ⟨e6,n6⟩:=zj h6;go_enter Tryz.func110,Tryz.ntmps110;(go_wp2_with (first | (go_at_call 150; refine (qD _ _).mono ?_; rintro e w' ⟨rfl,rfl⟩) | (go_at_call 151; refine (iC _ _ hp).mono ?_; rintro e w1 ⟨rfl,hb⟩; obtain ⟨hc1,hf1⟩:=XH hb) | (go_at_call 152; refine (qe _ _ hq).mono ?_; rintro e w2 ⟨rfl,hb2⟩)));go_ret;exact ⟨by rw [← HR.out,yF,h1,h2,h3,mR e4,h5,gz e6]; rfl,zC (xj hb) hb2⟩
      ·have e6:=yi h6;go_enter Tryz.func110,Tryz.ntmps110;(go_wp2_with (first | (go_at_call 150; refine (qD _ _).mono ?_; rintro e w' ⟨rfl,rfl⟩) | (go_at_call 151; refine (iC _ _ hp).mono ?_; rintro e w1 ⟨rfl,hb⟩; obtain ⟨hc1,hf1⟩:=XH hb)));go_ret;exact ⟨by rw [← HR.out,yF,h1,h2,h3,mR e4,h5,jj e6]; rfl,xj hb⟩
    ·have e4:=yi h4;by_cases h6:0 < v.bld.size
     ·obtain ⟨e6,n6⟩:=zj h6;go_enter Tryz.func110,Tryz.ntmps110;(go_wp2_with (first | (go_at_call 150; refine (qD _ _).mono ?_; rintro e w' ⟨rfl,rfl⟩) | (go_at_call 152; refine (qe _ _ hq).mono ?_; rintro e w2 ⟨rfl,hb2⟩)));go_ret;exact ⟨by rw [← HR.out,yF,h1,h2,h3,kH e4,gz e6]; rfl,xj hb2⟩
     ·have e6:=yi h6;go_enter Tryz.func110,Tryz.ntmps110;(go_wp2_with (first | (go_at_call 150; refine (qD _ _).mono ?_; rintro e w' ⟨rfl,rfl⟩)));go_ret;exact ⟨by rw [← HR.out,yF,h1,h2,h3,kH e4,jj e6]; rfl,zL _ _⟩
theorem pj (n:Int) (w:World):Calls Tryz.prog 57 #[.int .i64 n] w fun e w'=>e = .returned (.bool (wV n))∧w=w':=by
 by_cases h0:0≤n
 ·by_cases h1:n≤9999
  ·go_enter Tryz.func57,Tryz.ntmps57;go_wp2;go_ret;exact ⟨by simp [wV,h0,h1],rfl⟩
  ·(have hd:decide (n≤9999)=false:=by simpa using h1);go_enter Tryz.func57,Tryz.ntmps57;go_wp2;go_ret;exact ⟨by simp [wV,h1],rfl⟩
 ·(have hd:decide (0≤n)=false:=by simpa using h0);go_enter Tryz.func57,Tryz.ntmps57;go_wp2;go_ret;exact ⟨by simp [wV]; omega,rfl⟩
theorem iE (l:List UInt8):vi true l=tI l:=by
 have h:∀ ts:List (List UInt8),ts.all (wN true)=(ts.all tC&&ts.all yx):=by
  intro ts;induction ts with
  | nil=>rfl
  | cons t ts ih=>simp only [List.all_cons,ih,wN]; cases tC t<;>cases yx t<;>simp
 rw [vi,tI,fF,uI,h,Bool.and_assoc]
theorem gC (l:List UInt8):vi false l=oz l:=by
 (have h:(wN false)=tC:=by funext t; simp [wN]);rw [vi,oz,uI,h]
theorem jO (s:ByteArray) (w:World) (hs:s.size≤4398046511104):Calls Tryz.prog 58 #[.string s,.bool true] w (yc w (tI (bts s))):=by rw [← iE]; exact ku s true w hs
theorem cR (s:ByteArray) (w:World) (hs:s.size≤4398046511104):Calls Tryz.prog 58 #[.string s,.bool false] w (yc w (oz (bts s))):=by rw [← gC]; exact ku s false w hs
theorem vC (v:Ver) (w:World) (hv:v.fit):Calls Tryz.prog 36 #[v.val] w (yc w (yF v)):=by
 obtain ⟨hp,hq⟩:=hv;generalize hr:yF v=r;have HR:=hid hr;clear hr;cases h1:wV v.maj
 ·go_enter Tryz.func36,Tryz.ntmps36;(go_wp2_with (go_at_call 57; refine (pj _ _).mono ?_; rintro e w' ⟨rfl,rfl⟩));go_ret;exact ⟨by rw [← HR.out,yF,h1]; rfl,zL _ _⟩
 ·cases h2:wV v.min
  ·go_enter Tryz.func36,Tryz.ntmps36;(go_wp2_with (go_at_call 57; refine (pj _ _).mono ?_; rintro e w' ⟨rfl,rfl⟩));go_ret;exact ⟨by rw [← HR.out,yF,h1,h2]; rfl,zL _ _⟩
  ·cases h3:wV v.pat
   ·go_enter Tryz.func36,Tryz.ntmps36;(go_wp2_with (go_at_call 57; refine (pj _ _).mono ?_; rintro e w' ⟨rfl,rfl⟩));go_ret;exact ⟨by rw [← HR.out,yF,h1,h2,h3]; rfl,zL _ _⟩
   ·cases h4:tI (bts v.pre)
    ·go_enter Tryz.func36,Tryz.ntmps36;(go_wp2_with (first | (go_at_call 57; refine (pj _ _).mono ?_; rintro e w' ⟨rfl,rfl⟩) | (go_at_call 58; refine (jO _ _ hp).mono ?_; rintro e w1 ⟨rfl,hb⟩; obtain ⟨hc1,hf1⟩:=XH hb)));go_ret;exact ⟨by rw [← HR.out,yF,h1,h2,h3,h4]; rfl,xj hb⟩
    ·go_enter Tryz.func36,Tryz.ntmps36;(go_wp2_with (go_at_call 57; refine (pj _ _).mono ?_; rintro e w' ⟨rfl,rfl⟩));refine (jO _ _ hp).mono ?_;rintro e w1 ⟨rfl,hb⟩;obtain ⟨hc1,hf1⟩:=XH hb;(go_wp2_with fail);refine (cR _ _ hq).mono ?_;rintro e w2 ⟨rfl,hb2⟩;(go_wp2_with fail);go_ret;exact ⟨by rw [← HR.out,yF,h1,h2,h3,h4]; rfl,zC (xj hb) hb2⟩
end Go.Proofs.YtiffijoenkcpjaaGreatDoor
namespace Go.Proofs.YtiffijoenkcpjaaGreatDoor
def xT (a b:Int):Int:=if a < b then -1 else if b < a then 1 else 0
def mc (a b:List UInt8):Int:=if Op.bytesLess a b then -1 else if Op.bytesLess b a then 1 else 0
def z6 (a b:List UInt8):Int :=
 if zr a&&zr b then xT (za a).1 (za b).1 else if zr a then -1 else if zr b then 1 else mc a b
def yG:List (List UInt8)→List (List UInt8)→Int
 | a::x,b::y=>if z6 a b≠0 then z6 a b else yG x y
 | x,y=>xT x.length y.length
def xS (a b:List UInt8):Int:=if a=b then 0 else if a=[] then 1 else if b=[] then -1 else yG (zO a) (zO b)
def zu (a b:Ver):Int:=if xT a.maj b.maj≠0 then xT a.maj b.maj else if xT a.min b.min≠0 then xT a.min b.min else xT a.pat b.pat
def xX (a b:Ver):Int:=if yF a=false∨yF b=false then 0 else if zu a b≠0 then zu a b else xS (bts a.pre) (bts b.pre)
theorem kg (a:Int):xT a a=0:=by simp [xT]
theorem wO {a b:Int}:xT a b=0↔a=b:=by unfold xT; split<;>(try split)<;>omega
theorem tO {a b:Int}:xT a b < 0↔a < b:=by unfold xT; split<;>(try split)<;>omega
theorem mZ {a b:Int}:0 < xT a b↔b < a:=by unfold xT; split<;>(try split)<;>omega
structure TO {α:Type} (ok:α→Prop) (cmp:α→α→Int):Prop where
 zero:∀ a b,ok a→ok b→(cmp a b=0↔a=b)
 anti:∀ a b,ok a→ok b→(cmp a b < 0↔0 < cmp b a)
 tran:∀ a b c,ok a→ok b→ok c→cmp a b < 0→cmp b c < 0→cmp a c < 0
theorem TO.int:TO (fun _:Int=>True) xT :=
 ⟨fun _ _ _ _=>wO,fun _ _ _ _=>by rw [tO,mZ],fun _ _ _ _ _ _=>by rw [tO,tO,tO]; omega⟩
theorem oD:∀ a:List UInt8,Op.bytesLess a a=false
 | []=>rfl
 | a::x=>by simp [Op.bytesLess,oD x]
theorem mD:∀ a b:List UInt8,Op.bytesLess a b=true→Op.bytesLess b a=false
 | [],[],h=>by simp [Op.bytesLess] at h
 | [],_::_,_=>rfl
 | _::_,[],h=>by simp [Op.bytesLess] at h
 | a::x,b::y,h=>by
  simp only [Op.bytesLess,Bool.or_eq_true,Bool.and_eq_true,decide_eq_true_eq,beq_iff_eq,Bool.or_eq_false_iff,Bool.and_eq_false_iff,decide_eq_false_iff_not,beq_eq_false_iff_ne] at h ⊢;rw [UInt8.lt_iff_toNat_lt] at *;rcases h with h | ⟨rfl,h⟩
  ·exact ⟨by omega,.inl (fun e=>by subst e; omega)⟩
  ·exact ⟨by omega,.inr (mD x y h)⟩
theorem sX:∀ a b:List UInt8,Op.bytesLess a b=false→Op.bytesLess b a=false→a=b
 | [],[],_,_=>rfl
 | [],_::_,h,_=>by simp [Op.bytesLess] at h
 | _::_,[],_,h=>by simp [Op.bytesLess] at h
 | a::x,b::y,h,k=>by
  simp only [Op.bytesLess,Bool.or_eq_false_iff,Bool.and_eq_false_iff,decide_eq_false_iff_not,beq_eq_false_iff_ne] at h k;rw [UInt8.lt_iff_toNat_lt] at *;have e:a=b:=UInt8.toNat_inj.1 (by omega);subst e;rw [sX x y (h.2.resolve_left (by simp)) (k.2.resolve_left (by simp))]
theorem nk:∀ a b c:List UInt8,Op.bytesLess a b=true→Op.bytesLess b c=true→Op.bytesLess a c=true
 | [],_,[],_,h=>by cases ‹List UInt8›<;>simp [Op.bytesLess] at h
 | [],_,_::_,_,_=>rfl
 | _::_,[],_,h,_=>by simp [Op.bytesLess] at h
 | _::_,_::_,[],_,h=>by simp [Op.bytesLess] at h
 | a::x,b::y,c::z,h,k=>by
  simp only [Op.bytesLess,Bool.or_eq_true,Bool.and_eq_true,decide_eq_true_eq,beq_iff_eq] at h k ⊢;simp only [UInt8.lt_iff_toNat_lt] at *;rcases h with h | ⟨rfl,h⟩
  ·rcases k with k | ⟨rfl,k⟩
   ·exact .inl (by omega)
   ·exact .inl h
  ·rcases k with k | ⟨rfl,k⟩
   ·exact .inl k
   ·exact .inr ⟨rfl,nk x y z h k⟩
theorem oT {a b:List UInt8}:mc a b < 0↔Op.bytesLess a b=true:=by unfold mc; split<;>(try split)<;>simp_all
theorem bG {a b:List UInt8}:0 < mc a b↔Op.bytesLess b a=true:=by
 unfold mc;split
 ·rename_i h; simp [mD a b h]
 ·split<;>simp_all
theorem TO.bytes:TO (fun _:List UInt8=>True) mc:=by
 refine ⟨fun a b _ _=>?_,fun a b _ _=>by rw [oT,bG],fun a b c _ _ _ h k=>oT.2 (nk a b c (oT.1 h) (oT.1 k))⟩;constructor
 ·intro h;refine sX a b ?_ ?_
  ·rw [Bool.eq_false_iff]; intro e; have:=oT.2 e; omega
  ·rw [Bool.eq_false_iff]; intro e; have:=bG.2 e; omega
 ·rintro rfl;simp [mc,oD]
theorem qS:∀ (n:Nat) (a b:List UInt8),a.length=n→b.length=n→a.all zz=true→b.all zz=true→tq a=tq b→a=b
 | 0,a,b,ha,hb,_,_,_=>by rw [List.eq_nil_of_length_eq_zero ha,List.eq_nil_of_length_eq_zero hb]
 | n+1,a,b,ha,hb,da,db,h=>by
  obtain ⟨a',c,rfl⟩:∃ l' c,a=l'++[c]:=⟨a.dropLast,a.getLast (by intro e; subst e; simp at ha),(List.dropLast_concat_getLast _).symm⟩;obtain ⟨b',d,rfl⟩:∃ l' c,b=l'++[c]:=⟨b.dropLast,b.getLast (by intro e; subst e; simp at hb),(List.dropLast_concat_getLast _).symm⟩;rw [List.all_append,Bool.and_eq_true] at da db;(have hc:zz c=true:=by simpa using da.2);(have hd:zz d=true:=by simpa using db.2);simp only [zz,decide_eq_true_eq] at hc hd;rw [uQ,uQ] at h;have hcd:c=d:=UInt8.toNat_inj.1 (by omega);subst hcd;rw [qS n a' b' (by simpa using ha) (by simpa using hb) da.1 db.1 (by omega)]
theorem ag {l:List UInt8} (h:yv l=false):1≤l.length∧l.length≤4∧l.all zz=true∧(l.length=1∨∃ c r,l=c::r∧c≠48):=by
 simp only [yv,Bool.or_eq_false_iff,decide_eq_false_iff_not,Bool.and_eq_false_iff,Bool.not_eq_false'] at h;obtain ⟨⟨⟨h1,h2⟩,h3⟩,h4⟩:=h;cases l with
 | nil=>simp at h1
 | cons c r =>
  refine ⟨by simp,by omega,h4,?_⟩;rcases h3 with h3 | h3
  ·refine .inr ⟨c,r,rfl,fun e=>?_⟩;subst e;simp at h3
  ·exact .inl (by simp only [List.length_cons] at h3 ⊢; omega)
theorem ZL {l:List UInt8} (h:yv l=false) (h2:1 < l.length):10 ^ (l.length - 1)≤tq l:=by
 obtain ⟨_,_,ha,h1 | ⟨c,r,rfl,hc⟩⟩:=ag h
 ·omega
 ·rw [List.all_cons,Bool.and_eq_true] at ha;have hd:=ha.1;simp only [zz,decide_eq_true_eq] at hd;have hr:=wE r.length r rfl ha.2;(have hc':¬ c.toNat=48:=fun e=>hc (UInt8.toNat_inj.1 e));have h3:1 * (10:Int) ^ r.length≤((c.toNat:Int) - 48) * 10 ^ r.length:=Int.mul_le_mul_of_nonneg_right (by omega) (Int.le_of_lt (Int.pow_pos (by omega)));rw [kY];simp only [List.length_cons,Nat.add_sub_cancel];omega
theorem Yn {a b:List UInt8} (ha:yv a=false) (hb:yv b=false) (h:tq a=tq b):a=b:=by
 obtain ⟨a1,a2,a3,_⟩:=ag ha;obtain ⟨b1,b2,b3,_⟩:=ag hb;have ba:=wE a.length a rfl a3;have bb:=wE b.length b rfl b3;rcases Nat.lt_trichotomy a.length b.length with hl | hl | hl
 ·have:=ZL hb (by omega);have:=vy (show a.length≤b.length - 1 by omega);omega
 ·exact qS _ a b rfl hl.symm a3 b3 h
 ·have:=ZL ha (by omega);have:=vy (show b.length≤a.length - 1 by omega);omega
theorem Zo {l:List UInt8} (h:(za l).2=true):yv l=false∧(za l).1=tq l:=by
 unfold za at h ⊢;cases hb:yv l
 ·simp
 ·rw [hb] at h; simp at h
theorem TO.tag:TO (fun t=>yx t=true) z6:=by
 have pr:∀ t,yx t=true→zr t=true→yv t=false∧(za t).1=tq t:=by
  intro t h hn;rw [yx,hn] at h;exact Zo (by simpa using h)
 refine ⟨fun a b ha hb=>?_,fun a b ha hb=>?_,fun a b c ha hb hc=>?_⟩
 ·unfold z6;cases hna:zr a<;>cases hnb:zr b<;>simp only [Bool.and_true,Bool.and_false,Bool.false_eq_true,if_false,if_true]
  ·exact TO.bytes.zero a b trivial trivial
  ·constructor
   ·intro h; omega
   ·rintro rfl; rw [hna] at hnb; cases hnb
  ·constructor
   ·intro h; omega
   ·rintro rfl; rw [hna] at hnb; cases hnb
  ·obtain ⟨a1,a2⟩:=pr a ha hna;obtain ⟨b1,b2⟩:=pr b hb hnb;rw [wO,a2,b2];exact ⟨Yn a1 b1,fun e=>by rw [e]⟩
 ·unfold z6;cases hna:zr a<;>cases hnb:zr b<;>simp only [Bool.and_true,Bool.and_false,Bool.false_eq_true,if_false,if_true]
  ·exact TO.bytes.anti a b trivial trivial
  ·omega
  ·omega
  ·exact TO.int.anti _ _ trivial trivial
 ·unfold z6;cases hna:zr a<;>cases hnb:zr b<;>cases hnc:zr c<;>simp only [Bool.and_true,Bool.and_false,Bool.false_eq_true,if_false,if_true]
  ·exact TO.bytes.tran a b c trivial trivial trivial
  all_goals try (intro h k; omega)
  ·exact TO.int.tran _ _ _ trivial trivial trivial
theorem TO.tags:TO (fun ts:List (List UInt8)=>ts.all yx=true) yG:=by
 have all1:∀ t (ts:List (List UInt8)),(t::ts).all yx=true→yx t=true∧ts.all yx=true:=by
  intro t ts h; rw [List.all_cons,Bool.and_eq_true] at h; exact h
 refine ⟨?_,?_,?_⟩
 ·intro a;induction a with
  | nil=>intro b _ _; cases b<;>simp [yG,xT]<;>omega
  | cons a x ih =>
   intro b ha hb;cases b with
   | nil=>simp [yG,xT]; omega
   | cons b y =>
    obtain ⟨a1,a2⟩:=all1 _ _ ha;obtain ⟨b1,b2⟩:=all1 _ _ hb;have hz:=TO.tag.zero a b a1 b1;unfold yG;by_cases h:z6 a b=0
    ·rw [if_neg (by simp [h]),ih y a2 b2,List.cons.injEq];exact ⟨fun e=>⟨hz.1 h,e⟩,fun e=>e.2⟩
    ·rw [if_pos h,List.cons.injEq];exact ⟨fun e=>absurd e h,fun e=>absurd (hz.2 e.1) h⟩
 ·intro a;induction a with
  | nil=>intro b _ _; cases b<;>simp [yG,xT]<;>omega
  | cons a x ih =>
   intro b ha hb;cases b with
   | nil=>simp [yG,xT]; omega
   | cons b y =>
    obtain ⟨a1,a2⟩:=all1 _ _ ha;obtain ⟨b1,b2⟩:=all1 _ _ hb;have h1:=TO.tag.anti a b a1 b1;have h2:=TO.tag.anti b a b1 a1;have hz:=TO.tag.zero a b a1 b1;have hz2:=TO.tag.zero b a b1 a1;unfold yG;by_cases h:z6 a b=0
    ·have h':z6 b a=0:=hz2.2 (hz.1 h).symm;rw [if_neg (by simp [h]),if_neg (by simp [h'])];exact ih y a2 b2
    ·(have h':¬ z6 b a=0:=fun e=>h (hz.2 (hz2.1 e).symm));rw [if_pos h,if_pos h'];exact h1
 ·intro a;induction a with
  | nil =>
   intro b c _ _ _ h k;cases c with
   | nil=>cases b<;>simp [yG,xT] at h k<;>omega
   | cons c z=>simp [yG,xT]
  | cons a x ih =>
   intro b c ha hb hc h k;cases b with
   | nil=>simp [yG,xT] at h; omega
   | cons b y =>
    cases c with
    | nil=>simp [yG,xT] at k; omega
    | cons c z =>
     obtain ⟨a1,a2⟩:=all1 _ _ ha;obtain ⟨b1,b2⟩:=all1 _ _ hb;obtain ⟨c1,c2⟩:=all1 _ _ hc;have t:=TO.tag.tran a b c a1 b1 c1;have zab:=TO.tag.zero a b a1 b1;have zbc:=TO.tag.zero b c b1 c1;have zac:=TO.tag.zero a c a1 c1;unfold yG at h k ⊢;by_cases h1:z6 a b=0
     ·rw [if_neg (by simp [h1])] at h;obtain rfl:=zab.1 h1;by_cases k1:z6 a c=0
      ·rw [if_neg (by simp [k1])] at k;rw [if_neg (by simp [k1])];exact ih y z a2 b2 c2 h k
      ·rw [if_pos k1] at k;rw [if_pos k1]; exact k
     ·rw [if_pos h1] at h;by_cases k1:z6 b c=0
      ·obtain rfl:=zbc.1 k1;rw [if_pos h1]; exact h
      ·rw [if_pos k1] at k;have:=t h k;rw [if_pos (by omega)]; exact this
def sG:List (List UInt8)→List UInt8
 | []=>[]
 | [t]=>t
 | t::r=>t++46::sG r
theorem dW (t:List UInt8) {r:List (List UInt8)} (h:r≠[]):sG (t::r)=t++46::sG r:=by
 cases r with
 | nil=>exact absurd rfl h
 | cons a b=>rfl
theorem vU:∀ (l cur:List UInt8),sG (zV 46 cur l)=cur++l
 | [],cur=>by simp [zV,sG]
 | c::r,cur=>by
  unfold zV;split
  ·rename_i h
   subst h
   have hne:zV 46 [] r≠[]:=by
    have:=(zk 46 r []).1;intro e; rw [e] at this; simp at this
   rw [dW _ hne,vU r []];simp
  ·rw [vU r (cur++[c])]; simp
theorem dp {a b:List UInt8} (h:zO a=zO b):a=b:=by
 have ha:=vU a [];have hb:=vU b [];rw [show zV 46 [] a=zO a from rfl] at ha;rw [show zV 46 [] b=zO b from rfl,← h,ha] at hb;simpa using hb
theorem YM {l:List UInt8} (h:fF l=true):(zO l).all yx=true:=by rw [fF,Bool.and_eq_true] at h; exact h.2
theorem xO {l:List UInt8} (h:tI l=true):l=[]∨(l≠[]∧(zO l).all yx=true):=by
 cases l with
 | nil=>exact .inl rfl
 | cons c r=>exact .inr ⟨by simp,YM (by simpa [tI] using h)⟩
theorem TO.pre:TO (fun l:List UInt8=>tI l=true) xS:=by
 refine ⟨fun a b ha hb=>?_,fun a b ha hb=>?_,fun a b c ha hb hc=>?_⟩
 ·unfold xS;by_cases e:a=b
  ·simp [e]
  ·rw [if_neg e];rcases xO ha with rfl | ⟨na,a1⟩
   ·rw [if_pos rfl]; exact ⟨fun h=>by omega,fun h=>absurd h e⟩
   ·rw [if_neg na];rcases xO hb with rfl | ⟨nb,b1⟩
    ·rw [if_pos rfl]; exact ⟨fun h=>by omega,fun h=>absurd h e⟩
    ·rw [if_neg nb,TO.tags.zero _ _ a1 b1];exact ⟨dp,fun h=>absurd h e⟩
 ·unfold xS;by_cases e:a=b
  ·subst e; simp
  ·(have e':¬ b=a:=fun h=>e h.symm);rw [if_neg e,if_neg e'];rcases xO ha with rfl | ⟨na,a1⟩
   ·rcases xO hb with rfl | ⟨nb,b1⟩
    ·exact absurd rfl e
    ·rw [if_pos rfl,if_neg nb,if_pos rfl]; omega
   ·rcases xO hb with rfl | ⟨nb,b1⟩
    ·rw [if_neg na,if_pos rfl,if_pos rfl]; omega
    ·rw [if_neg na,if_neg nb,if_neg nb,if_neg na];exact TO.tags.anti _ _ a1 b1
 ·intro h k;unfold xS at h k ⊢;by_cases e1:a=b
  ·rw [if_pos e1] at h; omega
  by_cases e2:b=c
  ·rw [if_pos e2] at k; omega
  rw [if_neg e1] at h;rw [if_neg e2] at k;rcases xO ha with rfl | ⟨na,a1⟩
  ·rw [if_pos rfl] at h; omega
  rcases xO hb with rfl | ⟨nb,b1⟩
  ·rw [if_pos rfl] at k; omega
  rw [if_neg na,if_neg nb] at h;rw [if_neg nb] at k;by_cases e3:a=c
  ·subst e3;rw [if_neg na] at k;have:=(TO.tags.anti _ _ a1 b1).1 h;omega
  ·rw [if_neg e3,if_neg na];rcases xO hc with rfl | ⟨nc,c1⟩
   ·rw [if_pos rfl]; omega
   ·rw [if_neg nc] at k ⊢;exact TO.tags.tran _ _ _ a1 b1 c1 h k
theorem uv {v:Ver} (h:yF v=true):tI (bts v.pre)=true:=by
 simp only [yF,Bool.and_eq_true] at h; exact h.1.2
theorem ve {a b:Ver}:zu a b=0↔a.maj=b.maj∧a.min=b.min∧a.pat=b.pat:=by
 have h1:=@wO a.maj b.maj;have h2:=@wO a.min b.min;have h3:=@wO a.pat b.pat;unfold zu;split
 ·omega
 ·split<;>omega
theorem sx {a b:Ver}:zu a b < 0↔a.maj < b.maj∨(a.maj=b.maj∧(a.min < b.min∨(a.min=b.min∧a.pat < b.pat))):=by
 have h1:=@wO a.maj b.maj;have h2:=@wO a.min b.min;have k1:=@tO a.maj b.maj;have k2:=@tO a.min b.min;have k3:=@tO a.pat b.pat;unfold zu;split
 ·omega
 ·split<;>omega
theorem jS {a b:Ver}:0 < zu a b↔zu b a < 0:=by
 rw [sx];have h1:=@wO a.maj b.maj;have h2:=@wO a.min b.min;have k1:=@mZ a.maj b.maj;have k2:=@mZ a.min b.min;have k3:=@mZ a.pat b.pat;unfold zu;split
 ·omega
 ·split<;>omega
theorem oh {a b:Ver} (ha:yF a=true) (hb:yF b=true):xX a b=0↔a.maj=b.maj∧a.min=b.min∧a.pat=b.pat∧bts a.pre=bts b.pre:=by
 unfold xX;rw [if_neg (by simp [ha,hb])];have hz:=@ve a b;have hp:=TO.pre.zero _ _ (uv ha) (uv hb);split
 ·constructor
  ·intro h; contradiction
  ·rintro ⟨h1,h2,h3,_⟩; exact absurd (hz.2 ⟨h1,h2,h3⟩) ‹_›
 ·rename_i h
  (have h0:zu a b=0:=by omega);rw [hp];have:=hz.1 h0;exact ⟨fun e=>⟨this.1,this.2.1,this.2.2,e⟩,fun e=>e.2.2.2⟩
theorem pU {a b:Ver} (ha:yF a=true) (hb:yF b=true):xX a b < 0↔0 < xX b a:=by
 unfold xX;(have hab:¬ (yF a=false∨yF b=false):=by simp [ha,hb]);(have hba:¬ (yF b=false∨yF a=false):=by simp [ha,hb]);rw [if_neg hab,if_neg hba];have g1:=@jS a b;have g2:=@jS b a;have hp:=TO.pre.anti _ _ (uv ha) (uv hb);split
 ·split<;>omega
 ·split<;>omega
theorem ic {a b c:Ver} (h:zu a b < 0) (k:zu b c≤0):zu a c < 0:=by
 (have:zu b c < 0∨zu b c=0:=by omega);rw [sx] at h ⊢;rcases this with k | k
 ·rw [sx] at k; omega
 ·rw [ve] at k; omega
theorem kk {a b c:Ver} (h:zu a b=0) (k:zu b c < 0):zu a c < 0:=by
 rw [ve] at h; rw [sx] at k ⊢; omega
theorem jB {a b c:Ver} (h:zu a b=0) (k:zu b c=0):zu a c=0:=by
 rw [ve] at *; omega
theorem pt {a b c:Ver} (ha:yF a=true) (hb:yF b=true) (hc:yF c=true) (h:xX a b < 0) (k:xX b c < 0):xX a c < 0:=by
 have hp:=TO.pre.tran _ _ _ (uv ha) (uv hb) (uv hc);unfold xX at h k ⊢;rw [if_neg (by simp [ha,hb])] at h;rw [if_neg (by simp [hb,hc])] at k;rw [if_neg (by simp [ha,hc])];by_cases h1:zu a b=0
 ·rw [if_neg (by simp [h1])] at h;by_cases k1:zu b c=0
  ·rw [if_neg (by simp [k1])] at k;rw [if_neg (by simp [jB h1 k1])];exact hp h k
  ·rw [if_pos k1] at k;have:=kk h1 k;rw [if_pos (by omega)]; exact this
 ·rw [if_pos h1] at h
  have hle:zu b c≤0:=by
   by_cases k1:zu b c=0
   ·omega
   ·rw [if_pos k1] at k; omega
  have:=ic h hle;rw [if_pos (by omega)]; exact this
end Go.Proofs.YtiffijoenkcpjaaGreatDoor
namespace Go.Proofs.YtiffijoenkcpjaaGreatDoor
open Go.RowKit Go.Lib
theorem q8 (a b:Int) (w:World):Calls Tryz.prog 142 #[.int .i64 a,.int .i64 b] w fun e w'=>e = .returned (.int .i64 (xT a b))∧w=w':=by
 rcases Int.lt_trichotomy a b with h | h | h
 ·(have e:xT a b=-1:=by simp [xT,h]);rw [e];clear e;go_enter Tryz.func142,Tryz.ntmps142;go_wp2;go_ret;exact ⟨rfl,rfl⟩
 ·subst h;rw [kg];go_enter Tryz.func142,Tryz.ntmps142;go_wp2;go_ret;exact ⟨rfl,rfl⟩
 ·(have e:xT a b=1:=by unfold xT; rw [if_neg (by omega),if_pos h]);rw [e];clear e;(have h2:¬ a < b:=by omega);go_enter Tryz.func142,Tryz.ntmps142;go_wp2;go_ret;exact ⟨rfl,rfl⟩
theorem us (a b:Int) (w:World):Calls Tryz.prog 145 #[.int .i64 a,.int .i64 b] w fun e w'=>e = .returned (.int .i64 (xT a b))∧w=w':=by
 rcases Int.lt_trichotomy a b with h | h | h
 ·(have e:xT a b=-1:=by simp [xT,h]);rw [e];clear e;go_enter Tryz.func145,Tryz.ntmps145;go_wp2;go_ret;exact ⟨rfl,rfl⟩
 ·subst h;rw [kg];go_enter Tryz.func145,Tryz.ntmps145;go_wp2;go_ret;exact ⟨rfl,rfl⟩
 ·(have e:xT a b=1:=by unfold xT; rw [if_neg (by omega),if_pos h]);rw [e];clear e;(have h2:¬ a < b:=by omega);go_enter Tryz.func145,Tryz.ntmps145;go_wp2;go_ret;exact ⟨rfl,rfl⟩
theorem fo {a b:List UInt8} (h:Op.bytesLess a b=true):(a==b)=false:=by
 rw [beq_eq_false_iff_ne]; intro e; subst e; rw [oD] at h; cases h
theorem Y7 (a b:ByteArray) (w:World):Calls Tryz.prog 29 #[.string a,.string b] w fun e w'=>e = .returned (.int .i64 (mc (bts a) (bts b)))∧w=w':=by
 cases h:Op.bytesLess a.toList b.toList
 ·cases k:Op.bytesLess b.toList a.toList
  ·have e:=sX _ _ h k;have e2:=xE e;subst e2;rw [(TO.bytes.zero _ _ trivial trivial).2 rfl];clear e k;go_enter Tryz.func29,Tryz.ntmps29;go_wp2;go_ret;exact ⟨rfl,rfl⟩
  ·(have e:mc (bts a) (bts b)=1:=by simp [mc,h,k]);rw [e];(have hne:(a.toList==b.toList)=false:=by have:=fo k; rw [beq_eq_false_iff_ne] at this ⊢; exact fun e=>this e.symm);(have hne2:¬ a.toList=b.toList:=by simpa using hne);clear e k;go_enter Tryz.func29,Tryz.ntmps29;go_wp2;go_ret;exact ⟨rfl,rfl⟩
 ·(have e:mc (bts a) (bts b)=-1:=by simp [mc,h]);rw [e];clear e;go_enter Tryz.func29,Tryz.ntmps29;go_wp2;go_ret;exact ⟨rfl,rfl⟩
theorem aA (a b:ByteArray) (w:World):Calls Tryz.prog 231 #[.string a,.string b] w fun e w'=>e = .returned (.int .i64 (mc (bts a) (bts b)))∧w=w':=by
 cases h:Op.bytesLess a.toList b.toList
 ·cases k:Op.bytesLess b.toList a.toList
  ·have e:=sX _ _ h k;have e2:=xE e;subst e2;rw [(TO.bytes.zero _ _ trivial trivial).2 rfl];clear e k;go_enter Tryz.func231,Tryz.ntmps231;go_wp2;go_ret;exact ⟨rfl,rfl⟩
  ·(have e:mc (bts a) (bts b)=1:=by simp [mc,h,k]);rw [e];(have hne:(a.toList==b.toList)=false:=by have:=fo k; rw [beq_eq_false_iff_ne] at this ⊢; exact fun e=>this e.symm);(have hne2:¬ a.toList=b.toList:=by simpa using hne);clear e k;go_enter Tryz.func231,Tryz.ntmps231;go_wp2;go_ret;exact ⟨rfl,rfl⟩
 ·(have e:mc (bts a) (bts b)=-1:=by simp [mc,h]);rw [e];clear e;go_enter Tryz.func231,Tryz.ntmps231;go_wp2;go_ret;exact ⟨rfl,rfl⟩
def sB (w:World) (n:Int) (e:Ending) (w':World):Prop:=e = .returned (.int .i64 n)∧Below w.heap.size w w'
theorem WG (a b:ByteArray) (w:World) (ha:a.size≤9223372036854775807) (hb:b.size≤9223372036854775807):Calls Tryz.prog 189 #[.string a,.string b] w (sB w (z6 (bts a) (bts b))):=by
 cases h1:zr (bts a)<;>cases h2:zr (bts b)
 ·(have e:z6 (bts a) (bts b)=mc (bts a) (bts b):=by simp [z6,h1,h2]);rw [e];clear e;go_enter Tryz.func189,Tryz.ntmps189;(go_wp2_with (first | (go_at_call_of 191 a; refine (yW a _ ha).mono ?_; rintro e w' ⟨rfl,rfl⟩) | (go_at_call_of 191 b; refine (yW b _ hb).mono ?_; rintro e w' ⟨rfl,rfl⟩) | (go_at_call 29; refine (Y7 _ _ _).mono ?_; rintro e w' ⟨rfl,rfl⟩)));go_ret;exact ⟨rfl,Below.refl _ _⟩
 ·(have e:z6 (bts a) (bts b)=1:=by simp [z6,h1,h2]);rw [e];clear e;go_enter Tryz.func189,Tryz.ntmps189;(go_wp2_with (first | (go_at_call_of 191 a; refine (yW a _ ha).mono ?_; rintro e w' ⟨rfl,rfl⟩) | (go_at_call_of 191 b; refine (yW b _ hb).mono ?_; rintro e w' ⟨rfl,rfl⟩)));go_ret;exact ⟨rfl,Below.refl _ _⟩
 ·(have e:z6 (bts a) (bts b)=-1:=by simp [z6,h1,h2]);rw [e];clear e;go_enter Tryz.func189,Tryz.ntmps189;(go_wp2_with (first | (go_at_call_of 191 a; refine (yW a _ ha).mono ?_; rintro e w' ⟨rfl,rfl⟩) | (go_at_call_of 191 b; refine (yW b _ hb).mono ?_; rintro e w' ⟨rfl,rfl⟩)));go_ret;exact ⟨rfl,Below.refl _ _⟩
 ·(have e:z6 (bts a) (bts b)=xT (za (bts a)).1 (za (bts b)).1:=by simp [z6,h1,h2]);rw [e];clear e;go_enter Tryz.func189,Tryz.ntmps189;(go_wp2_with (first | (go_at_call_of 191 a; refine (yW a _ ha).mono ?_; rintro e w' ⟨rfl,rfl⟩) | (go_at_call_of 191 b; refine (yW b _ hb).mono ?_; rintro e w' ⟨rfl,rfl⟩)));refine (vV a _).mono ?_;rintro e w1 ⟨rfl,hb1⟩;(go_wp2_with fail);refine (vV b _).mono ?_;rintro e w2 ⟨rfl,hb2⟩;(go_wp2_with (go_at_call 142; refine (q8 _ _ _).mono ?_; rintro e w' ⟨rfl,rfl⟩));go_ret;exact ⟨rfl,zC hb1 hb2⟩
theorem WH (a b:ByteArray) (w:World) (ha:a.size≤9223372036854775807) (hb:b.size≤9223372036854775807):Calls Tryz.prog 213 #[.string a,.string b] w (sB w (z6 (bts a) (bts b))):=by
 cases h1:zr (bts a)<;>cases h2:zr (bts b)
 ·(have e:z6 (bts a) (bts b)=mc (bts a) (bts b):=by simp [z6,h1,h2]);rw [e];clear e;go_enter Tryz.func213,Tryz.ntmps213;(go_wp2_with (first | (go_at_call_of 101 a; refine (yJ a _ ha).mono ?_; rintro e w' ⟨rfl,rfl⟩) | (go_at_call_of 101 b; refine (yJ b _ hb).mono ?_; rintro e w' ⟨rfl,rfl⟩) | (go_at_call 231; refine (aA _ _ _).mono ?_; rintro e w' ⟨rfl,rfl⟩)));go_ret;exact ⟨rfl,Below.refl _ _⟩
 ·(have e:z6 (bts a) (bts b)=1:=by simp [z6,h1,h2]);rw [e];clear e;go_enter Tryz.func213,Tryz.ntmps213;(go_wp2_with (first | (go_at_call_of 101 a; refine (yJ a _ ha).mono ?_; rintro e w' ⟨rfl,rfl⟩) | (go_at_call_of 101 b; refine (yJ b _ hb).mono ?_; rintro e w' ⟨rfl,rfl⟩)));go_ret;exact ⟨rfl,Below.refl _ _⟩
 ·(have e:z6 (bts a) (bts b)=-1:=by simp [z6,h1,h2]);rw [e];clear e;go_enter Tryz.func213,Tryz.ntmps213;(go_wp2_with (first | (go_at_call_of 101 a; refine (yJ a _ ha).mono ?_; rintro e w' ⟨rfl,rfl⟩) | (go_at_call_of 101 b; refine (yJ b _ hb).mono ?_; rintro e w' ⟨rfl,rfl⟩)));go_ret;exact ⟨rfl,Below.refl _ _⟩
 ·(have e:z6 (bts a) (bts b)=xT (za (bts a)).1 (za (bts b)).1:=by simp [z6,h1,h2]);rw [e];clear e;go_enter Tryz.func213,Tryz.ntmps213;(go_wp2_with (first | (go_at_call_of 101 a; refine (yJ a _ ha).mono ?_; rintro e w' ⟨rfl,rfl⟩) | (go_at_call_of 101 b; refine (yJ b _ hb).mono ?_; rintro e w' ⟨rfl,rfl⟩)));refine (wC a _).mono ?_;rintro e w1 ⟨rfl,hb1⟩;(go_wp2_with fail);refine (wC b _).mono ?_;rintro e w2 ⟨rfl,hb2⟩;(go_wp2_with (go_at_call 145; refine (us _ _ _).mono ?_; rintro e w' ⟨rfl,rfl⟩));go_ret;exact ⟨rfl,zC hb1 hb2⟩
def Ver.core (v:Ver):Ver:={ v with bld:=⟨#[]⟩ }
def WD (w:World) (v:Ver) (e:Ending) (w':World):Prop:=e = .returned v.val∧Below w.heap.size w w'
theorem fu (v:Ver) (w:World):Calls Tryz.prog 187 #[v.val] w (WD w v.core):=by
 go_enter Tryz.func187,Tryz.ntmps187;go_wp2;refine bodyPost_ret (v := .agg #[.int .i64 v.maj,.int .i64 v.min,.int .i64 v.pat,.string v.pre,.string ⟨#[]⟩]) (by simp [results,Tryz.results187,go_sem]) rfl ⟨rfl,?_⟩;exact ((zL _ _).alloc (by simp) _)
def or3 (x y z:Int):Int:=if x≠0 then x else if y≠0 then y else z
theorem W1 (g:Nat) (x y z:Int) (w:World) (h0:w.cell? ⟨g,0,none⟩=some (.int .i64 x)) (h1:w.cell? ⟨g,1,none⟩=some (.int .i64 y)) (h2:w.cell? ⟨g,2,none⟩=some (.int .i64 z)) :
 Calls Tryz.prog 188 #[.slice (some ⟨g,0,none⟩) 3 3] w fun e w'=>e = .returned (.int .i64 (or3 x y z))∧w=w':=by
 generalize hr:or3 x y z=r
 have HR:=hid hr
 clear hr
 go_enter Tryz.func188,Tryz.ntmps188
 go_wp2
 go_loop [5,8] (fun v i=>∃ k:Nat,k≤3∧i = .int .i64 k∧Hid ((0 < k→x=0)∧(1 < k→y=0)∧(2 < k→z=0))) (fun _ i=>3 - (intOf i).toNat)
 case atStart=>exact ⟨0,by omega,rfl,⟨fun h=>by omega,fun h=>by omega,fun h=>by omega⟩⟩
 case round =>
  obtain ⟨k,hk,rfl,HZ⟩:=hrel;rcases (show k=0∨k=1∨k=2∨k=3 from by omega) with rfl | rfl | rfl | rfl
  ·by_cases hx:x=0
   ·(have hx':(x != 0)=false:=by simp [hx]);have HX:=hid hx;clear hx;go_wp2
    go_round
    case rel=>exact ⟨1,by omega,by go_num,⟨fun _=>HX.out,fun h=>by omega,fun h=>by omega⟩⟩
    case measure=>simp [intOf]
   ·(have hx':(x != 0)=true:=by simpa using hx);go_wp2;go_ret;exact ⟨by rw [← HR.out,or3,if_pos hx]; rfl,rfl⟩
  ·have HX:=hid (HZ.out.1 (by omega));by_cases hx:y=0
   ·(have hx':(y != 0)=false:=by simp [hx]);have HY:=hid hx;clear hx;go_wp2
    go_round
    case rel=>exact ⟨2,by omega,by go_num,⟨fun _=>HX.out,fun _=>HY.out,fun h=>by omega⟩⟩
    case measure=>simp [intOf]
   ·(have hx':(y != 0)=true:=by simpa using hx);go_wp2;go_ret;exact ⟨by rw [← HR.out,or3,if_neg (by simp [HX.out]),if_pos hx]; rfl,rfl⟩
  ·have HX:=hid (HZ.out.1 (by omega));have HY:=hid (HZ.out.2.1 (by omega));by_cases hx:z=0
   ·(have hx':(z != 0)=false:=by simp [hx]);have HV:=hid hx;clear hx;go_wp2
    go_round
    case rel=>exact ⟨3,by omega,by go_num,⟨fun _=>HX.out,fun _=>HY.out,fun _=>HV.out⟩⟩
    case measure=>simp [intOf]
   ·(have hx':(z != 0)=true:=by simpa using hx);go_wp2;go_ret;exact ⟨by rw [← HR.out,or3,if_neg (by simp [HX.out]),if_neg (by simp [HY.out])]; rfl,rfl⟩
  ·have HX:=hid (HZ.out.1 (by omega));have HY:=hid (HZ.out.2.1 (by omega));have HV:=hid (HZ.out.2.2 (by omega));go_wp2;go_ret;exact ⟨by rw [← HR.out,or3,HX.out,HY.out,HV.out]; rfl,rfl⟩
def mj (a b:Ver):Bool:=a.maj==b.maj&&a.min==b.min&&a.pat==b.pat&&bts a.pre==bts b.pre&&bts a.bld==bts b.bld
theorem rC {a b:Ver}:mj a b=true↔a=b:=by
 simp only [mj,Bool.and_eq_true,beq_iff_eq];constructor
 ·rintro ⟨⟨⟨⟨h1,h2⟩,h3⟩,h4⟩,h5⟩;cases a; cases b;simp only at h1 h2 h3 h4 h5;rw [h1,h2,h3,xE h4,xE h5]
 ·rintro rfl; simp
theorem fields27:Tryz.prog.underlying 27=some (.struct (Tryz.prog.fieldsOf 27)):=by kernel_rfl
theorem stood27:Tryz.prog.stoodInHeld 27=false:=by kernel_rfl
theorem guard27:Tryz.prog.eqGuardType Tryz.prog.depth 27=false:=by kernel_rfl
theorem UE (a b:Ver) (w:World):(binOp .eql 27 a.val b.val).run Tryz.prog w = .ok (.bool (mj a b)) w:=by
 rw [run_eql_struct,show (10000:Nat)=9999+1 from rfl,run_equalIn_agg w 9999 27 _ _ fields27 stood27];simp only [Program.fieldsOf,Tryz.underlying27];have u3:=Tryz.underlying3;have u9:=Tryz.underlying9;have a3:=Tryz.isAgg3;have z3:=Tryz.sizeOf3;have a9:=Tryz.isAgg9;have z9:=Tryz.sizeOf9
 go_simp
 unfold mj;cases h1:a.maj==b.maj<;>cases h2:a.min==b.min<;>cases h3:a.pat==b.pat<;>cases h4:a.pre.toList==b.pre.toList<;>cases h5:a.bld.toList==b.bld.toList<;>simp_all
theorem UG (op:BinOp) (x y:Operand) (a b:Ver) (w:World):(eqGuard op 27 x y a.val b.val).run Tryz.prog w = .ok () w:=run_eqGuard_agg w op _ x y _ _ guard27
def pX (a b:Ver):Bool:=!yF a || !yF b || mj a.core b.core
theorem bC {a b:Ver} (h:pX a b=true):xX a b=0:=by
 cases ha:yF a
 ·simp [xX,ha]
 ·cases hb:yF b
  ·simp [xX,hb]
  ·rw [pX,ha,hb] at h;have h':=rC.1 (by simpa using h);rw [oh ha hb];(have e:∀ v:Ver,v.core.maj=v.maj∧v.core.min=v.min∧v.core.pat=v.pat∧v.core.pre=v.pre:=fun v=>⟨rfl,rfl,rfl,rfl⟩);refine ⟨?_,?_,?_,?_⟩
   ·rw [← (e a).1,h',(e b).1]
   ·rw [← (e a).2.1,h',(e b).2.1]
   ·rw [← (e a).2.2.1,h',(e b).2.2.1]
   ·rw [← (e a).2.2.2,h',(e b).2.2.2]
theorem cQ (a b:Ver):zu a b=or3 (xT a.maj b.maj) (xT a.min b.min) (xT a.pat b.pat):=rfl
theorem fk {a b:Ver} (h:pX a b=false):yF a=true∧yF b=true∧mj a.core b.core=false:=by
 simp only [pX,Bool.or_eq_false_iff,Bool.not_eq_false'] at h;exact ⟨h.1.1,h.1.2,h.2⟩
theorem Y5 {a b:Ver} (h:pX a b=false) (h1:zu a b≠0):xX a b=zu a b:=by
 obtain ⟨ha,hb,_⟩:=fk h;rw [xX,if_neg (by simp [ha,hb]),if_pos h1]
theorem XI {a b:Ver} (h:pX a b=false) (h1:zu a b=0):xX a b=if bts a.pre=[] then 1 else if bts b.pre=[] then -1 else yG (zO (bts a.pre)) (zO (bts b.pre)):=by
 obtain ⟨ha,hb,hne⟩:=fk h;rw [xX,if_neg (by simp [ha,hb]),if_neg (by simp [h1]),xS,if_neg];intro e;obtain ⟨n1,n2,n3⟩:=ve.1 h1
 have:mj a.core b.core=true:=by
  rw [rC];simp only [Ver.core,n1,n2,n3,xE e]
 rw [this] at hne; cases hne
theorem la {x y:List (List UInt8)} {k:Nat} (hx:k < x.length) (hy:k < y.length):yG (x.drop k) (y.drop k)=if z6 x[k] y[k]≠0 then z6 x[k] y[k] else yG (x.drop (k+1)) (y.drop (k+1)):=by
 rw [List.drop_eq_getElem_cons hx,List.drop_eq_getElem_cons hy]; rfl
theorem pw {x y:List (List UInt8)} {k:Nat} (hx:k≤x.length) (hy:k≤y.length) (h:¬ (k < x.length∧k < y.length)):yG (x.drop k) (y.drop k)=xT x.length y.length:=by
 have e:∀ u v:List (List UInt8),(u=[]∨v=[])→yG u v=xT u.length v.length:=by
  intro u v h;rcases h with rfl | rfl
  ·rfl
  ·cases u<;>rfl
 have hc:x.drop k=[]∨y.drop k=[]:=by
  by_cases h1:k < x.length
  ·exact .inr (List.drop_eq_nil_of_le (by omega))
  ·exact .inl (List.drop_eq_nil_of_le (by omega))
 rw [e _ _ hc,List.length_drop,List.length_drop];unfold xT;split<;>split<;>(try split)<;>(try split)<;>omega
abbrev ju (w:World) (a:Ver):World:=w.alloc (.cells #[.int .i64 a.maj,.int .i64 a.min,.int .i64 a.pat,.string a.pre,.string a.bld] 27)
abbrev WW (w:World) (a b:Ver):World:=ju (ju w a) b
theorem nh (w:World) (a b:Ver):Below w.heap.size w (WW w a b):=zC (zL _ _) (zL _ _)
theorem vG {w w1:World} (h:Below w.drew.heap.size w.drew w1):Below w.heap.size w w1:=⟨⟨h.os,h.tape,h.output,h.size,h.block⟩,Nat.le_trans (Nat.le_succ _) h.drawn⟩
def BoxV (w:World) (g:Nat) (v:Ver):Prop:=w.cell? ⟨g,0,none⟩=some (.int .i64 v.maj)∧w.cell? ⟨g,1,none⟩=some (.int .i64 v.min)∧w.cell? ⟨g,2,none⟩=some (.int .i64 v.pat)∧w.cell? ⟨g,3,none⟩=some (.string v.pre)∧w.cell? ⟨g,4,none⟩=some (.string v.bld)
theorem BoxV.new (w:World) (v:Ver):BoxV (ju w v) w.heap.size v:=by
 refine ⟨?_,?_,?_,?_,?_⟩<;>simp [ju]
theorem BoxV.below {w w':World} {g:Nat} {v:Ver} (h:BoxV w g v) (hg:g < w.heap.size) (hb:Below w.heap.size w w'):BoxV w' g v:=by
 obtain ⟨h0,h1,h2,h3,h4⟩:=h;exact ⟨(hb.cell (p:=⟨g,0,none⟩) hg).trans h0,(hb.cell (p:=⟨g,1,none⟩) hg).trans h1,(hb.cell (p:=⟨g,2,none⟩) hg).trans h2,(hb.cell (p:=⟨g,3,none⟩) hg).trans h3,(hb.cell (p:=⟨g,4,none⟩) hg).trans h4⟩
theorem tX {w w1:World} {a b:Ver} (hb:Below (WW w a b).heap.size (WW w a b) w1):BoxV w1 w.heap.size a∧BoxV w1 (w.heap.size+1) b∧w.heap.size+1 < w1.heap.size:=by
 have hs:=hb.size;simp [WW,ju] at hs;refine ⟨?_,?_,by omega⟩
 ·exact ((BoxV.new w a).below (by simp [ju]) (zL (ju w a) _)).below (by simp [WW,ju]; omega) hb
 ·have:=(BoxV.new (ju w a) b).below (by simp [ju]) hb;simpa [ju] using this
theorem sl {w:World} {g k:Nat} {s:ByteArray} {n:Nat} (h:Held w g (zO (bts s))) (hn:(zO (bts s)).length=n) (hk:k < n):∃ x:ByteArray,w.cell? ⟨g,k,none⟩=some (.string x)∧bts x=(zO (bts s)).getD k []∧x.size≤s.size:=by
 obtain ⟨x,h1,h2,h3⟩:=qg s k (by omega);refine ⟨x,by rw [← h1]; exact h.2 k (by omega),?_,h3⟩;rw [h2]; simp [show k < (zO (bts s)).length by omega]
theorem rI {x y:List (List UInt8)} {k:Nat} (hx:k < x.length) (hy:k < y.length):yG (x.drop k) (y.drop k)=if z6 (x.getD k []) (y.getD k [])≠0 then z6 (x.getD k []) (y.getD k []) else yG (x.drop (k+1)) (y.drop (k+1)):=by
 rw [la hx hy]; simp [hx,hy]
theorem qO (a b:Ver) (w:World) (ha:a.fit) (hb:b.fit):Calls Tryz.prog 143 #[a.val,b.val] w (sB w (xX a b)):=by
 generalize hr:xX a b=r;have HR:=hid hr;clear hr;have hq:=UE;have hqg:=UG;have hB2:=nh w a b;go_enter Tryz.func143,Tryz.ntmps143;(go_upto_region 1 with fail);go_cut [24] (fun c wx=>c = .bool (pX a b)∧Below (WW w a b).heap.size (WW w a b) wx)
 case first =>
  cases h1:yF a
  ·go_region_with (go_at_call 110; refine (vm a _ ha).mono ?_; rintro e w1 ⟨rfl,hb1⟩)
   all_goals (go_wp2_with fail; go_meet; exact ⟨by simp [pX,h1],vG hb1⟩)
  ·cases h2:yF b
   ·go_region_with (first | (go_at_call_of 110 a.pre; refine (vm a _ ha).mono ?_; rintro e w1 ⟨rfl,hb1⟩; have hB1:=vG hb1; obtain ⟨⟨a10,a11,a12,a13,a14⟩,⟨b10,b11,b12,b13,b14⟩,hz1⟩:=tX hB1) | (go_at_call_of 110 b.pre; refine (vm b _ hb).mono ?_; rintro e w2 ⟨rfl,hb2⟩))
    all_goals (go_wp2_with fail; go_meet; exact ⟨by simp [pX,h1,h2],zC hB1 hb2⟩)
   ·go_region_with (first | (go_at_call_of 110 a.pre; refine (vm a _ ha).mono ?_; rintro e w1 ⟨rfl,hb1⟩; have hB1:=vG hb1; obtain ⟨⟨a10,a11,a12,a13,a14⟩,⟨b10,b11,b12,b13,b14⟩,hz1⟩:=tX hB1) | (go_at_call_of 110 b.pre; refine (vm b _ hb).mono ?_; rintro e w2 ⟨rfl,hb2⟩; have hB2:=zC hB1 hb2; obtain ⟨⟨a20,a21,a22,a23,a24⟩,⟨b20,b21,b22,b23,b24⟩,hz2⟩:=tX hB2) | (go_at_call_of 187 a.pre; refine (fu a _).mono ?_; rintro e w3 ⟨rfl,hb3⟩; have hB3:=zC hB2 hb3; obtain ⟨⟨a30,a31,a32,a33,a34⟩,⟨b30,b31,b32,b33,b34⟩,hz3⟩:=tX hB3) | (go_at_call_of 187 b.pre; refine (fu b _).mono ?_; rintro e w4 ⟨rfl,hb4⟩; have hB4:=zC hB3 hb4; obtain ⟨⟨a40,a41,a42,a43,a44⟩,⟨b40,b41,b42,b43,b44⟩,hz4⟩:=tX hB4))
    all_goals (go_wp2_with fail; go_meet; exact ⟨by simp [pX,h1,h2],zC hB3 hb4⟩)
 case rest =>
  obtain ⟨rfl,hB⟩:=hcut;obtain ⟨⟨a0,a1,a2,a3,a4⟩,⟨b0,b1,b2,b3,b4⟩,hz⟩:=tX hB;have hBw:=zC hB2 hB;(have hz0:w.heap.size < wc.heap.size:=by omega);cases hs:pX a b
  ·have HS:=hid hs;clear hs hq hqg;go_wp2_with fail
   go_region_held3 (fun w'=>w'.cell? ⟨w.heap.size,0,none⟩=some (.int .i64 a.maj)∧w'.cell? ⟨w.heap.size,1,none⟩=some (.int .i64 a.min)∧w'.cell? ⟨w.heap.size,2,none⟩=some (.int .i64 a.pat)∧w'.cell? ⟨w.heap.size+1,0,none⟩=some (.int .i64 b.maj)∧w'.cell? ⟨w.heap.size+1,1,none⟩=some (.int .i64 b.min)∧w'.cell? ⟨w.heap.size+1,2,none⟩=some (.int .i64 b.pat)) (go_keep)
    (first | (go_at_call 142; refine (q8 _ _ _).mono ?_; rintro e w' ⟨rfl,rfl⟩) | (go_at_call 188; refine (W1 _ (xT a.maj b.maj) (xT a.min b.min) (xT a.pat b.pat) _ ?_ ?_ ?_).mono ?_; (simp); (simp); (simp); rintro e w' ⟨rfl,rfl⟩))
   rw [← cQ];by_cases hn:zu a b=0
   ·have HN:=hid hn;(have hn':(zu a b != 0)=false:=by simp [hn]);clear hn;have HP:=hid (XI HS.out HN.out);by_cases hp:0 < a.pre.size
    ·obtain ⟨ep,np⟩:=zj hp;by_cases hq:0 < b.pre.size
     ·obtain ⟨eq,nq⟩:=zj hq;have HT:=hid (show xX a b=yG (zO (bts a.pre)) (zO (bts b.pre)) by rw [HP.out,if_neg (by rw [bts]; exact np),if_neg (by rw [bts]; exact nq)]);clear a0 a1 a2 b0 b1 b2;go_wp2_with fail
      go_region_held3 (fun w'=>w'.cell? ⟨w.heap.size,3,none⟩=some (.string a.pre)∧w'.cell? ⟨w.heap.size+1,3,none⟩=some (.string b.pre)) (go_keep)
       (first | (go_at_call_of 170 a.pre; refine (pu a.pre _ ha.1).mono ?_; rintro e w5 ⟨g5,cap5,rfl,hg5,hgs5,hcap5,hcell5,hb5⟩; have HH5:=hid (show Held w5 g5 (zO (bts a.pre)) from ⟨hgs5,hcell5⟩); clear hcell5; have hB5:=zC (by exact ((hB.alloc hB.size _).drew).drew) hb5; obtain ⟨⟨p0,p1,p2,p3,p4⟩,⟨q0,q1,q2,q3,q4⟩,hz5⟩:=tX hB5; clear p0 p1 p2 p4 q0 q1 q2 q4) | (go_at_call_of 170 b.pre; refine (pu b.pre _ hb.1).mono ?_; rintro e w6 ⟨g6,cap6,rfl,hg6,hgs6,hcap6,hcell6,hb6⟩; have HH6:=hid (show Held w6 g6 (zO (bts b.pre)) from ⟨hgs6,hcell6⟩); clear hcell6; have hB6:=zC hB5 hb6; obtain ⟨⟨r0,r1,r2,r3,r4⟩,⟨s0,s1,s2,s3,s4⟩,hz6⟩:=tX hB6; clear r0 r1 r2 r4 s0 s1 s2 s4))
      have hBw6:=zC hB2 hB6;have H5:=hid (HH5.out.below hb6);(have hnx:(zO (bts a.pre)).length≤4398046511105:=by have:=(zk 46 (bts a.pre) []).2; rw [zF] at this; exact Nat.le_trans this (by have:=ha.1; omega));(have hny:(zO (bts b.pre)).length≤4398046511105:=by have:=(zk 46 (bts b.pre) []).2; rw [zF] at this; exact Nat.le_trans this (by have:=hb.1; omega));generalize hxl:(zO (bts a.pre)).length=nx at *;generalize hyl:(zO (bts b.pre)).length=ny at *;have HX:=hid hxl;have HY:=hid hyl;have hpa:=ha.1;have hpb:=hb.1;clear hxl hyl HH5 hb5 hb6 hB5 hB6 hB hBw a3 a4 b3 b4 hz0 hz hB2 ep np eq nq hn' hg5 hg6 hcap5 hcap6 p3 q3 r3 s3 hz5 hz6 hgs5 hgs6;(go_wp2_with fail);go_loopw [8,9] (fun i d wr=>∃ k:Nat,i = .int .i64 k∧k≤nx∧k≤ny∧Hid (yG ((zO (bts a.pre)).drop k) ((zO (bts b.pre)).drop k)=xX a b)∧Hid (Held wr g5 (zO (bts a.pre)))∧Hid (Held wr g6 (zO (bts b.pre)))∧Below w.heap.size w wr) (fun i _ _=>nx - (intOf i).toNat)
      case atStart=>exact ⟨0,rfl,Nat.zero_le _,Nat.zero_le _,by rw [List.drop_zero,List.drop_zero]; exact HT.out.symm,H5,HH6,hBw6⟩
      case round =>
       obtain ⟨k,rfl,hkx,hky,HC,H5r,H6r,hbr⟩:=hrel;by_cases hl:k < nx∧k < ny
       ·obtain ⟨hl1,hl2⟩:=hl;obtain ⟨x,hx1,hx2,hx3⟩:=sl H5r.out HX.out hl1;obtain ⟨y,hy1,hy2,hy3⟩:=sl H6r.out HY.out hl2;have HT2:=hid (rI (x:=zO (bts a.pre)) (y:=zO (bts b.pre)) (k:=k) (by rw [HX.out]; exact hl1) (by rw [HY.out]; exact hl2));rw [← hx2,← hy2] at HT2;have hi0:(0:Int)≤(k:Int):=Int.natCast_nonneg _;(have hi1:(k:Int) < (nx:Int):=by omega);(have hi2:(k:Int) < (ny:Int):=by omega);have hg5r:=H5r.out.1;have hg6r:=H6r.out.1;clear hx2 hy2;go_wp2_with fail
        go_region_held3 (fun w'=>w'.cell? ⟨g5,k,none⟩=some (.string x)∧w'.cell? ⟨g6,k,none⟩=some (.string y)) (go_keep)
         (first | (go_at_call 189; refine (WG x y _ (by omega) (by omega)).mono ?_; rintro e w7 ⟨rfl,hb7'⟩; have hb7:=vG hb7'; have c7:=(hb7.cell (p:=⟨g5,k,none⟩) hg5r).trans hx1; have d7:=(hb7.cell (p:=⟨g6,k,none⟩) hg6r).trans hy1))
        clear c7 d7 hx1 hy1 hb7';by_cases ht:z6 (bts x) (bts y)=0
        ·(have hcond:(z6 (bts x) (bts y) != 0)=false:=by simp [ht]);have HN2:=hid (show yG ((zO (bts a.pre)).drop (k+1)) ((zO (bts b.pre)).drop (k+1))=xX a b by have:=HC.out; rw [HT2.out,if_neg (by simp [ht])] at this; exact this);clear ht;(go_wp2_with fail);go_roundw
         case rel=>exact ⟨k+1,by go_num,by omega,by omega,HN2,H5r.out.below hb7,H6r.out.below hb7,zC hbr hb7⟩
         case measure=>simp [intOf]; omega
        ·(have hcond:(z6 (bts x) (bts y) != 0)=true:=by simpa using ht);have HN2:=hid (show xX a b=z6 (bts x) (bts y) by have:=HC.out; rw [HT2.out,if_pos ht] at this; exact this.symm);clear ht;(go_wp2_with fail);go_ret;exact ⟨by rw [← HR.out,HN2.out]; rfl,zC hbr hb7⟩
       ·have HE:=hid (show xX a b=xT nx ny by rw [← HC.out,pw (by rw [HX.out]; exact hkx) (by rw [HY.out]; exact hky) (by rw [HX.out,HY.out]; exact hl),HX.out,HY.out]);by_cases hl1:k < nx
        ·(have hl2:¬ k < ny:=fun h=>hl ⟨hl1,h⟩);(have hd2:decide ((k:Int) < (ny:Int))=false:=by simp; omega);(have hi1:(k:Int) < (nx:Int):=by omega);(go_wp2_with (go_at_call 142; refine (q8 _ _ _).mono ?_; rintro e w' ⟨rfl,rfl⟩));go_ret;exact ⟨by rw [← HR.out,HE.out]; rfl,hbr⟩
        ·(have hd1:decide ((k:Int) < (nx:Int))=false:=by simp; omega);(go_wp2_with (go_at_call 142; refine (q8 _ _ _).mono ?_; rintro e w' ⟨rfl,rfl⟩));go_ret;exact ⟨by rw [← HR.out,HE.out]; rfl,hbr⟩
     ·have eq:=yi hq;have HE:=hid (show xX a b=-1 by rw [HP.out,if_neg (by rw [bts]; exact np),if_pos (by rw [bts]; exact eq)]);(go_wp2_with fail);go_ret;exact ⟨by rw [← HR.out,HE.out]; rfl,(hBw.alloc hBw.size _).drew⟩
    ·have ep:=yi hp;have HE:=hid (show xX a b=1 by rw [HP.out,if_pos (by rw [bts]; exact ep)]);(go_wp2_with fail);go_ret;exact ⟨by rw [← HR.out,HE.out]; rfl,(hBw.alloc hBw.size _).drew⟩
   ·(have hn':(zu a b != 0)=true:=by simpa using hn);have HE:=hid (Y5 HS.out hn);clear hn;(go_wp2_with fail);go_ret;exact ⟨by rw [← HR.out,HE.out]; rfl,(hBw.alloc hBw.size _).drew⟩
  ·(go_wp2_with fail);go_ret;exact ⟨by rw [← HR.out,bC hs]; rfl,hBw⟩
theorem iV {a:List UInt8}:xS a a=0:=by simp [xS]
theorem Yx (a b:ByteArray) (w:World) (ha:a.size≤4398046511104) (hb:b.size≤4398046511104):Calls Tryz.prog 190 #[.string a,.string b] w (sB w (xS (bts a) (bts b))):=by
 generalize hr:xS (bts a) (bts b)=r;have HR:=hid hr;clear hr;cases he:a.toList==b.toList
 ·(have hne:¬ a.toList=b.toList:=by simpa using he);have HNE:=hid hne;by_cases hp:0 < a.size
  ·obtain ⟨ep,np⟩:=zj hp;by_cases hq:0 < b.size
   ·obtain ⟨eq,nq⟩:=zj hq;have HT:=hid (show xS (bts a) (bts b)=yG (zO (bts a)) (zO (bts b)) by rw [xS,if_neg HNE.out,if_neg (by rw [bts]; exact np),if_neg (by rw [bts]; exact nq)]);clear hne;go_enter Tryz.func190,Tryz.ntmps190;(go_wp2_with fail);refine (rS a _ ha).mono ?_;rintro e w5 ⟨g5,cap5,rfl,hg5,hgs5,hcap5,hcell5,hb5⟩;have HH5:=hid (show Held w5 g5 (zO (bts a)) from ⟨hgs5,hcell5⟩);clear hcell5;(go_wp2_with fail);refine (rS b _ hb).mono ?_;rintro e w6 ⟨g6,cap6,rfl,hg6,hgs6,hcap6,hcell6,hb6⟩;have HH6:=hid (show Held w6 g6 (zO (bts b)) from ⟨hgs6,hcell6⟩);clear hcell6;have hBw6:=zC hb5 hb6;have H5:=hid (HH5.out.below hb6);(have hnx:(zO (bts a)).length≤4398046511105:=by have:=(zk 46 (bts a) []).2; rw [zF] at this; exact Nat.le_trans this (by omega));(have hny:(zO (bts b)).length≤4398046511105:=by have:=(zk 46 (bts b) []).2; rw [zF] at this; exact Nat.le_trans this (by omega));generalize hxl:(zO (bts a)).length=nx at *;generalize hyl:(zO (bts b)).length=ny at *;have HX:=hid hxl;have HY:=hid hyl;clear hxl hyl HH5 hb5 hb6 ep np eq nq hg5 hg6 hcap5 hcap6 hgs5 hgs6 he;(go_wp2_with fail);go_loopw [7,8] (fun i d wr=>∃ k:Nat,i = .int .i64 k∧k≤nx∧k≤ny∧Hid (yG ((zO (bts a)).drop k) ((zO (bts b)).drop k)=xS (bts a) (bts b))∧Hid (Held wr g5 (zO (bts a)))∧Hid (Held wr g6 (zO (bts b)))∧Below w.heap.size w wr) (fun i _ _=>nx - (intOf i).toNat)
    case atStart=>exact ⟨0,rfl,Nat.zero_le _,Nat.zero_le _,by rw [List.drop_zero,List.drop_zero]; exact HT.out.symm,H5,HH6,hBw6⟩
    case round =>
     obtain ⟨k,rfl,hkx,hky,HC,H5r,H6r,hbr⟩:=hrel;by_cases hl:k < nx∧k < ny
     ·obtain ⟨hl1,hl2⟩:=hl;obtain ⟨x,hx1,hx2,hx3⟩:=sl H5r.out HX.out hl1;obtain ⟨y,hy1,hy2,hy3⟩:=sl H6r.out HY.out hl2;have HT2:=hid (rI (x:=zO (bts a)) (y:=zO (bts b)) (k:=k) (by rw [HX.out]; exact hl1) (by rw [HY.out]; exact hl2));rw [← hx2,← hy2] at HT2;have hi0:(0:Int)≤(k:Int):=Int.natCast_nonneg _;(have hi1:(k:Int) < (nx:Int):=by omega);(have hi2:(k:Int) < (ny:Int):=by omega);have hg5r:=H5r.out.1;have hg6r:=H6r.out.1;clear hx2 hy2;go_wp2_with fail
      go_region_held3 (fun w'=>w'.cell? ⟨g5,k,none⟩=some (.string x)∧w'.cell? ⟨g6,k,none⟩=some (.string y)) (go_keep)
       (first | (go_at_call 213; refine (WH x y _ (by omega) (by omega)).mono ?_; rintro e w7 ⟨rfl,hb7'⟩; have hb7:=vG hb7'; have c7:=(hb7.cell (p:=⟨g5,k,none⟩) hg5r).trans hx1; have d7:=(hb7.cell (p:=⟨g6,k,none⟩) hg6r).trans hy1))
      clear c7 d7 hx1 hy1 hb7';by_cases ht:z6 (bts x) (bts y)=0
      ·(have hcond:(z6 (bts x) (bts y) != 0)=false:=by simp [ht]);have HN2:=hid (show yG ((zO (bts a)).drop (k+1)) ((zO (bts b)).drop (k+1))=xS (bts a) (bts b) by have:=HC.out; rw [HT2.out,if_neg (by simp [ht])] at this; exact this);clear ht;(go_wp2_with fail);go_roundw
       case rel=>exact ⟨k+1,by go_num,by omega,by omega,HN2,H5r.out.below hb7,H6r.out.below hb7,zC hbr hb7⟩
       case measure=>simp [intOf]; omega
      ·(have hcond:(z6 (bts x) (bts y) != 0)=true:=by simpa using ht);have HN2:=hid (show xS (bts a) (bts b)=z6 (bts x) (bts y) by have:=HC.out; rw [HT2.out,if_pos ht] at this; exact this.symm);clear ht;(go_wp2_with fail);go_ret;exact ⟨by rw [← HR.out,HN2.out]; rfl,zC hbr hb7⟩
     ·have HE:=hid (show xS (bts a) (bts b)=xT nx ny by rw [← HC.out,pw (by rw [HX.out]; exact hkx) (by rw [HY.out]; exact hky) (by rw [HX.out,HY.out]; exact hl),HX.out,HY.out]);by_cases hl1:k < nx
      ·(have hl2:¬ k < ny:=fun h=>hl ⟨hl1,h⟩);(have hd2:decide ((k:Int) < (ny:Int))=false:=by simp; omega);(have hi1:(k:Int) < (nx:Int):=by omega);(go_wp2_with (go_at_call 145; refine (us _ _ _).mono ?_; rintro e w' ⟨rfl,rfl⟩));go_ret;exact ⟨by rw [← HR.out,HE.out]; rfl,hbr⟩
      ·(have hd1:decide ((k:Int) < (nx:Int))=false:=by simp; omega);(go_wp2_with (go_at_call 145; refine (us _ _ _).mono ?_; rintro e w' ⟨rfl,rfl⟩));go_ret;exact ⟨by rw [← HR.out,HE.out]; rfl,hbr⟩
   ·have eq:=yi hq;have HE:=hid (show xS (bts a) (bts b)=-1 by rw [xS,if_neg HNE.out,if_neg (by rw [bts]; exact np),if_pos (by rw [bts]; exact eq)]);clear hne;go_enter Tryz.func190,Tryz.ntmps190;(go_wp2_with fail);go_ret;exact ⟨by rw [← HR.out,HE.out]; rfl,Below.refl _ _⟩
  ·have ep:=yi hp
   have hq:0 < b.size:=by
    rcases Nat.lt_or_ge 0 b.size with h | h
    ·exact h
    ·exact absurd (ep.trans (yi (by omega)).symm) hne
   obtain ⟨eb,nb⟩:=zj hq;have HE:=hid (show xS (bts a) (bts b)=1 by rw [xS,if_neg HNE.out,if_pos (by rw [bts]; exact ep)]);clear hne;go_enter Tryz.func190,Tryz.ntmps190;(go_wp2_with fail);go_ret;exact ⟨by rw [← HR.out,HE.out]; rfl,Below.refl _ _⟩
 ·have hee:a=b:=xE (by simpa [bts] using he);subst hee;have HE:=hid (iV (a:=bts a));clear he;go_enter Tryz.func190,Tryz.ntmps190;(go_wp2_with fail);go_ret;exact ⟨by rw [← HR.out,HE.out]; rfl,Below.refl _ _⟩
theorem Yw {a b:Ver} (h:xT a.maj b.maj≠0):zu a b=xT a.maj b.maj:=by rw [zu,if_pos h]
theorem YV {a b:Ver} (h:xT a.maj b.maj=0) (h2:xT a.min b.min≠0):zu a b=xT a.min b.min:=by rw [zu,if_neg (by simp [h]),if_pos h2]
theorem gT {a b:Ver} (h:xT a.maj b.maj=0) (h2:xT a.min b.min=0):zu a b=xT a.pat b.pat:=by rw [zu,if_neg (by simp [h]),if_neg (by simp [h2])]
theorem Xm {a b:Ver} (ha:yF a=true) (hb:yF b=true):xX a b=if zu a b≠0 then zu a b else xS (bts a.pre) (bts b.pre):=by rw [xX,if_neg (by simp [ha,hb])]
theorem jf (a b:Ver) (w:World) (ha:a.fit) (hb:b.fit):Calls Tryz.prog 146 #[a.val,b.val] w (sB w (xX a b)):=by
 generalize hr:xX a b=r;have HR:=hid hr;clear hr;have hB2:=nh w a b;cases h1:yF a
 ·go_enter Tryz.func146,Tryz.ntmps146;(go_wp2_with (go_at_call 36; refine (vC a _ ha).mono ?_; rintro e w1 ⟨rfl,hb1⟩));go_ret;exact ⟨by rw [← HR.out,xX,if_pos (.inl h1)]; rfl,zC hB2 hb1⟩
 ·cases h2:yF b
  ·go_enter Tryz.func146,Tryz.ntmps146;(go_wp2_with fail);refine (vC a _ ha).mono ?_;rintro e w1 ⟨rfl,hb1⟩;obtain ⟨⟨a0,a1,a2,a3,a4⟩,⟨b0,b1,b2,b3,b4⟩,hz⟩:=tX hb1;(go_wp2_with fail);refine (vC b _ hb).mono ?_;rintro e w2 ⟨rfl,hb2⟩;(go_wp2_with fail);go_ret;exact ⟨by rw [← HR.out,xX,if_pos (.inr h2)]; rfl,zC hB2 (zC hb1 hb2)⟩
  ·have HV:=hid (Xm h1 h2);go_enter Tryz.func146,Tryz.ntmps146;(go_wp2_with fail);refine (vC a _ ha).mono ?_;rintro e w1 ⟨rfl,hb1⟩;obtain ⟨⟨a0,a1,a2,a3,a4⟩,⟨b0,b1,b2,b3,b4⟩,hz⟩:=tX hb1;(go_wp2_with fail);refine (vC b _ hb).mono ?_;rintro e w2 ⟨rfl,hb2⟩;clear a0 a1 a2 a3 a4 b0 b1 b2 b3 b4 hz;have hbb:=zC hb1 hb2;obtain ⟨⟨a0,a1,a2,a3,a4⟩,⟨b0,b1,b2,b3,b4⟩,hz⟩:=tX hbb;have hbw:=zC hB2 hbb;by_cases c1:xT a.maj b.maj=0
   ·(have e1:(xT a.maj b.maj != 0)=false:=by simp [c1]);have C1:=hid c1;clear c1;by_cases c2:xT a.min b.min=0
    ·(have e2:(xT a.min b.min != 0)=false:=by simp [c2]);have C2:=hid c2;clear c2;by_cases c3:xT a.pat b.pat=0
     ·(have e3:(xT a.pat b.pat != 0)=false:=by simp [c3]);have HE:=hid (show xX a b=xS (bts a.pre) (bts b.pre) by rw [HV.out,gT C1.out C2.out,if_neg (by simp [c3])]);clear c3;(go_wp2_with (first | (go_at_call 145; refine (us _ _ _).mono ?_; rintro e w' ⟨rfl,rfl⟩) | (go_at_call 190; refine (Yx _ _ _ ha.1 hb.1).mono ?_; rintro e w3 ⟨rfl,hb3⟩)));go_ret;exact ⟨by rw [← HR.out,HE.out]; rfl,zC hbw hb3⟩
     ·(have e3:(xT a.pat b.pat != 0)=true:=by simpa using c3);have HE:=hid (show xX a b=xT a.pat b.pat by rw [HV.out,gT C1.out C2.out,if_pos c3]);clear c3;(go_wp2_with (first | (go_at_call 145; refine (us _ _ _).mono ?_; rintro e w' ⟨rfl,rfl⟩)));go_ret;exact ⟨by rw [← HR.out,HE.out]; rfl,hbw⟩
    ·(have e2:(xT a.min b.min != 0)=true:=by simpa using c2);have HE:=hid (show xX a b=xT a.min b.min by rw [HV.out,YV C1.out c2,if_pos c2]);clear c2;(go_wp2_with (first | (go_at_call 145; refine (us _ _ _).mono ?_; rintro e w' ⟨rfl,rfl⟩)));go_ret;exact ⟨by rw [← HR.out,HE.out]; rfl,hbw⟩
   ·(have e1:(xT a.maj b.maj != 0)=true:=by simpa using c1);have HE:=hid (show xX a b=xT a.maj b.maj by rw [HV.out,Yw c1,if_pos c1]);clear c1;(go_wp2_with (first | (go_at_call 145; refine (us _ _ _).mono ?_; rintro e w' ⟨rfl,rfl⟩)));go_ret;exact ⟨by rw [← HR.out,HE.out]; rfl,hbw⟩
end Go.Proofs.YtiffijoenkcpjaaGreatDoor
