import Derived.Shelf.Strings.BuilderK
import Derived.Test.YtiffijoenkcpjaaGreatDoorYKk
import Derived.Test.YtiffijoenkcpjaaGreatDoorYKn
set_option linter.unusedVariables false
set_option linter.unusedSimpArgs false
set_option maxRecDepth 100000
set_option maxHeartbeats 2000000
namespace Go.Proofs.YtiffijoenkcpjaaGreatDoor
open Go.RowKit Go.Lib
theorem Tryz.lays166:Lays.n166 Tryz.prog Tryz.lays156_ren:={ Tryz.lays156 with }
def Tryz.ren167:Go.Shelf.Ren:={ Tryz.lays156_ren with f:=fun | 167=>198 | n=>Tryz.lays156_ren.f n }
theorem Tryz.lays167:Lays.n167 Tryz.prog Tryz.ren167:={ Tryz.lays156 with f167:=by kernel_rfl,t5:=Tryz.underlying5,a5:=Tryz.isAgg5,z5:=Tryz.sizeOf5,v5:=Tryz.zeroValue5 }
theorem Tryz.lays169j:Lays.n169 Tryz.prog Tryz.lays156_ren:={ Tryz.lays156 with }
theorem Tryz.extra167:Builder.Extra Tryz.prog Tryz.ren167 where
 sizeBuilder:=by kernel_rfl
 liesBuilder:=by kernel_rfl
 t5:=Tryz.underlying5
 a5:=Tryz.isAgg5
 z5:=Tryz.sizeOf5
 v5:=Tryz.zeroValue5
 infoByte:=by kernel_rfl
 cellsByte:=by kernel_rfl
 sizeByte:=by kernel_rfl
 neB5:=by decide
def Bld (b:Nat) (l:List UInt8) (w:World):Prop:=Lib.IsBuilderF 217 5 b b (Lib.byteCells l) w
theorem Bld.lt {b:Nat} {l:List UInt8} {w:World} (h:Bld b l w):b < w.heap.size:=by
 rcases h with h | h
 ·exact h.lt
 ·exact h.lt
theorem Bld.new (w:World):Bld w.heap.size [] (w.alloc (.cells #[.pointer none,.slice none 0 0] 217)) :=
 .inl ⟨Nat.le_refl _,.slice none 0 0,heap_alloc_new w _,⟨by simp [Lib.byteCells],.inl ⟨rfl,rfl⟩⟩,by simp [Value.ownBlock]⟩
theorem eC {b:Nat} {p:Value} {bs:List Value} {w w':World} (h:Lib.BuilderAtF 217 5 b b p bs w) (hb:KB w.heap.size w w'):Lib.BuilderAtF 217 5 b b p bs w':=by
 have hlt:=h.lt;obtain ⟨hB,v,hh,hown,hne⟩:=h;exact ⟨hB,v,(hb.block b hlt).trans hh,hown.kept (row:=none) ⟨hb.os,hb.tape,hb.output,hb.size,fun k hk _=>hb.block k hk⟩ (by cases hv:v.ownBlock<;>simp),hne⟩
theorem Bld.kb {b:Nat} {l:List UInt8} {w w':World} (h:Bld b l w) (hb:KB w.heap.size w w'):Bld b l w':=by
 rcases h with h | h
 ·exact .inl (eC h hb)
 ·exact .inr (eC h hb)
structure WroteK (b:Nat) (w w':World):Prop where
 kb:KB b w w'
 kept:Lib.OthersKept 5 (some b) w w'
theorem WroteK.trans {b:Nat} {w w1 w2:World} (h:WroteK b w w1) (k:WroteK b w1 w2):WroteK b w w2:=⟨Go.RowKit.Below.trans h.kb k.kb,h.kept.trans k.kept⟩
theorem WroteK.of_kb {b:Nat} {w w':World} (h:KB w.heap.size w w') (hb:b≤w.heap.size):WroteK b w w' :=
 ⟨Go.RowKit.Below.mono h hb,fun k o hk _ _=>(h.block k (Array.getElem?_eq_some_iff.1 hk).1).trans hk⟩
def TBox (w:World) (g:Nat) (cs:List Value) (T:TypeId):Prop:=w.heap[g]?=some (.cells cs.toArray T (0,0))
theorem TBox.new (w:World) (cs:List Value) (T:TypeId):TBox (w.alloc (.cells cs.toArray T)) w.heap.size cs T:=heap_alloc_new w _
theorem TBox.lt {w:World} {g:Nat} {cs:List Value} {T:TypeId} (h:TBox w g cs T):g < w.heap.size:=(Array.getElem?_eq_some_iff.1 h).1
theorem TBox.kb {w w':World} {g:Nat} {cs:List Value} {T:TypeId} (h:TBox w g cs T) (hb:KB w.heap.size w w'):TBox w' g cs T:=(hb.block g h.lt).trans h
theorem TBox.wrote {w w':World} {g b:Nat} {cs:List Value} {T:TypeId} (h:TBox w g cs T) (hb:WroteK b w w') (hg:g≠b) (hT:T≠5):TBox w' g cs T :=
 hb.kept g _ h (fun e=>hg (Option.some.inj e)) (fun c fz e=>hT (by injection e))
theorem TBox.box {w:World} {g:Nat} {cs:List Value} {T:TypeId} (h:TBox w g cs T):Box w g cs:=by
 refine ⟨h.lt,fun j u hj=>?_⟩;unfold World.cell?;rw [show w.heap[g]?=_ from h];simpa using hj
theorem YO (l:List UInt8) (s:ByteArray):Lib.byteCells l++Lib.strCells s=Lib.byteCells (l++bts s):=by rw [Lib.byteCells_append,Lib.strCells_eq,bts,yX]
theorem dy (b:Nat) (l:List UInt8) (s:ByteArray) (w:World) (h:Bld b l w) (hl:l.length≤1000000) (hs:s.size≤1000000):Calls Tryz.prog 178 #[.pointer (some ⟨b,0,none⟩),.string s] w fun e w'=>e = .returned (.tuple #[.int .i64 s.size,.nilIface])∧Bld b (l++bts s) w'∧WroteK b w w':=by
 refine (Any.Builder_WriteString_k Tryz.lays166 Tryz.extraJoin b b (Lib.byteCells l) s w h (by rw [Lib.byteCells_length]; omega) (Nat.le_of_lt h.lt)).mono ?_;rintro e w' ⟨rfl,h1,h2,h3⟩;rw [YO] at h1;exact ⟨rfl,.inr h1,h2,h3⟩
theorem cE (b:Nat) (l:List UInt8) (w:World) (h:Bld b l w) (hl:l.length≤10000000):Calls Tryz.prog 198 #[.pointer (some ⟨b,0,none⟩),.int .u8 10] w fun e w'=>e = .returned .nilIface∧Bld b (l++[10]) w'∧WroteK b w w':=by
 refine (Any.Builder_WriteByte_k Tryz.lays167 Tryz.extra167 b b (Lib.byteCells l) 10 w h (by rw [Lib.byteCells_length]; omega) (Nat.le_of_lt h.lt)).mono ?_;rintro e w' ⟨rfl,h1,h2,h3⟩;refine ⟨rfl,.inr ?_,h2,h3⟩;rw [Lib.byteCells_append];exact h1
theorem dJ (b:Nat) (l:List UInt8) (w:World) (h:Bld b l w):Calls Tryz.prog 163 #[.pointer (some ⟨b,0,none⟩)] w fun e w'=>∃ s:ByteArray,e = .returned (.string s)∧bts s=l∧KB b w w':=by
 refine (Any.Builder_String_any_k Tryz.lays169j Tryz.extraJoin b b l w h (Nat.le_of_lt h.lt)).mono ?_;rintro e w' ⟨rfl,h1,h2,h3⟩;exact ⟨_,rfl,zN _,h2⟩
theorem Xi:bts (⟨#[32]⟩:ByteArray)=[32]:=zN [32]
theorem eM (b:Nat) (l:List UInt8) (g c:Nat) (ds:List ByteArray) (T:List UInt8) (w:World) (h:Bld b l w) (hx:Box w g (ds.map Value.string)) (hc:ds.length≤c) (hT:zv (ds.map bts)=T) (hl:l.length≤100000) (hTl:T.length≤100000) (hd:ds.length≤1000) :
 Calls Tryz.prog 161 #[.pointer (some ⟨b,0,none⟩),.slice (some ⟨g,0,none⟩) ds.length c] w fun e w'=>e = .returned (.tuple #[])∧Bld b (l++T) w'∧WroteK b w w':=by
 have hjl:(zT [32] (ds.map bts)).length≤100000:=by
  rw [← hT] at hTl;simp only [zv,List.length_append] at hTl;omega
 have HJ:=hid (oZ g c ds ⟨#[32]⟩ w hx hc (by omega) (by rw [Xi]; omega))
 rw [Xi] at HJ
 have HSW:=hid (fun s u (h:Bld b l u) hs=>dy b l s u h (by omega) hs)
 have HBW:=hid (fun m u (h:Bld b m u) hm=>cE b m u h hm)
 have HBL:=hid h
 have hlt:=h.lt
 have HLB:=hid (Nat.le_of_lt hlt)
 clear h hx
 generalize ds.length=n at *
 go_enter Tryz.func161,Tryz.ntmps161
 go_wp2_with fail
 refine HJ.out.mono ?_
 rintro _ w1 ⟨s,rfl,hs,hb⟩
 have HB1:=hid (HBL.out.kb hb)
 have HW1:=hid (WroteK.of_kb hb HLB.out)
 have HS:=hid hs
 have hsz:s.size≤100000:=by rw [← zF,hs]; exact hjl
 clear hb hs
 go_wp2_with fail
 refine (HSW.out s w1 HB1.out (by omega)).mono ?_
 rintro _ w2 ⟨rfl,hb2,hw2⟩
 have HB2:=hid hb2
 have HW2:=hid (HW1.out.trans hw2)
 clear hb2 hw2
 go_wp2_with fail
 refine (HBW.out _ w2 HB2.out (by rw [List.length_append,zF]; omega)).mono ?_
 rintro _ w3 ⟨rfl,hb3,hw3⟩
 have HB3:=hid hb3
 have HW3:=hid (HW2.out.trans hw3)
 clear hb3 hw3
 go_wp2_with fail
 go_end0
 refine ⟨rfl,?_,HW3.out⟩
 have:=HB3.out
 rw [HS.out,List.append_assoc] at this
 rw [← hT]
 exact this
theorem wX (b:Nat) (l:List UInt8) (ds:List ByteArray) (T:List UInt8) (w:World) (h:Bld b l w) (hT:zv (ds.map bts)=T) (hl:l.length≤100000) (hTl:T.length≤100000) (hd:ds.length≤1000) :
 Calls Tryz.prog 161 #[.pointer (some ⟨b,0,none⟩),.slice (some ⟨w.heap.size,0,none⟩) ds.length ds.length] (w.alloc (.cells (ds.map Value.string).toArray 9)) fun e w'=>e = .returned (.tuple #[])∧Bld b (l++T) w'∧WroteK b w w':=by
 refine (eM b l w.heap.size ds.length ds T _ (h.kb (zG _ _)) (Box.new w _ 9) (Nat.le_refl _) hT hl hTl hd).mono ?_
 rintro e w' ⟨h1,h2,h3⟩
 exact ⟨h1,h2,(WroteK.of_kb (zG w _) (Nat.le_of_lt h.lt)).trans h3⟩
theorem cL {v:Ver} (h:yF v=true):v.fit:=by
 obtain ⟨-,-,-,h1,h2⟩:=yN h;constructor
 ·rw [← zF];rw [tI,Bool.or_eq_true] at h1;rcases h1 with h1 | h1
  ·rw [List.isEmpty_iff.1 h1]; simp
  ·rw [fF,Bool.and_eq_true] at h1;have:=qr h1.1; omega
 ·rw [← zF];rw [oz,Bool.or_eq_true] at h2;rcases h2 with h2 | h2
  ·rw [List.isEmpty_iff.1 h2]; simp
  ·have:=qr h2; omega
theorem lw1:bts (⟨#[112,97,99,107,97,103,101]⟩:ByteArray)=si:=zN _
theorem lw2:bts (⟨#[110,101,101,100]⟩:ByteArray)=wZ:=zN _
theorem lw3:bts (⟨#[97,110,121]⟩:ByteArray)=Vc:=zN _
theorem lw4:bts (⟨#[102,117,108,108]⟩:ByteArray)=lp:=zN _
theorem lw5:bts (⟨#[98,97,114,101]⟩:ByteArray)=jG:=zN _
theorem lw6:bts (⟨#[119,104,101,110]⟩:ByteArray)=Z8:=zN _
theorem lw7:bts (⟨#[111,112,116,105,111,110]⟩:ByteArray)=uF:=zN _
theorem lw8:bts (⟨#[98,97,114]⟩:ByteArray)=Z4:=zN _
theorem lw9:bts (⟨#[102,101,97,116,117,114,101]⟩:ByteArray)=qn:=zN _
theorem V7:bts (⟨#[45]⟩:ByteArray)=[45]:=zN _
theorem gX (b off c:Nat) (ds:List ByteArray) (w:World) (h:Texts w (some ⟨b,off,none⟩) ds) (h0:ds≠[]) (hc:ds.length≤c) (hn:ds.length≤1000) (hlen:(zT [44] (ds.map bts)).length≤1000000):Calls Tryz.prog 133 #[.slice (some ⟨b,off,none⟩) ds.length c,.string ⟨#[44]⟩] w (nM w (zT [44] (ds.map bts))):=by
 have hpos:0 < ds.length:=List.length_pos_iff.2 h0;have hbl:=(Texts.lay1 h hpos).1;(have e2:(bts:ByteArray→List UInt8)=fun x=>x.data.toList:=funext fun x=>by rw [bts,yX]);(have he:Lib.join (ds.map (·.data.toList)) (⟨#[44]⟩:ByteArray).data.toList=zT [44] (ds.map bts):=by rw [oF,e2]);refine (Any.strings_Join Tryz.lays156 Tryz.extraJoin b off c ds ⟨#[44]⟩ w (fun j x hj=>?_) hbl (by omega) hc (by rw [he]; omega)).mono ?_
 ·have hj2:j < ds.length:=by
   rcases Nat.lt_or_ge j ds.length with k | k
   ·exact k
   ·rw [List.getElem?_eq_none k] at hj; cases hj
  rw [List.getElem?_eq_getElem hj2] at hj;rw [(Texts.lay1 h hj2).2,Option.some.inj hj]
 ·rintro e w' ⟨rfl,h⟩;rw [he];exact ⟨_,rfl,zN _,h⟩
theorem eG {w:World} {A:Option Addr} {l:List BarL} {k:Nat} (h:RowOf 3 BarAt w A l) (hk:k < l.length):∃ b off,A=some ⟨b,off,none⟩∧b < w.heap.size∧w.cell? ⟨b,off+k * 3,none⟩=some (.string l[k].name)∧w.cell? ⟨b,off+k * 3+1,none⟩=some (.string l[k].rng)∧w.cell? ⟨b,off+k * 3+2,none⟩=some (.string l[k].whn):=by
 obtain ⟨b,off,hA,hl,h1,h2,h3⟩:=h.at_ hk;exact ⟨b,off,hA,hl,h1,h2,h3⟩
structure TS (w:World) (b:Nat) (l:List UInt8) (u:World):Prop where
 bld:Bld b l u
 kb:KB b w u
theorem TS.step {w u u':World} {b:Nat} {l l':List UInt8} (h:TS w b l u) (h1:Bld b l' u') (h2:WroteK b u u'):TS w b l' u':=⟨h1,Go.RowKit.Below.trans h.kb h2.kb⟩
theorem TS.grow {w u u':World} {b:Nat} {l:List UInt8} (h:TS w b l u) (h1:KB u.heap.size u u'):TS w b l u':=⟨h.bld.kb h1,Go.RowKit.Below.trans h.kb (Go.RowKit.Below.mono h1 (Nat.le_of_lt h.bld.lt))⟩
theorem sZ (x:WishL) (f how:ByteArray) (hf:bts f=if x.feats=[] then [45] else zT [44] (x.feats.map bts)) (hh:bts how=if x.bare then jG else lp):zv ([⟨#[97,110,121]⟩,x.name,f,how,x.rng].map bts)=xg x:=by
 simp only [List.map_cons,List.map_nil,lw3,hf,hh]; rfl
theorem jC {s:ByteArray} (h:bts s≠[]):zv ([⟨#[119,104,101,110]⟩,s].map bts)=vh s:=by
 simp only [List.map_cons,List.map_nil,lw6];rw [vh,if_neg h]
theorem gV {s:ByteArray} (h:bts s≠[]):zv ([⟨#[111,112,116,105,111,110]⟩,s].map bts)=if bts s=[] then [] else zv [uF,bts s]:=by
 simp only [List.map_cons,List.map_nil,lw7];rw [if_neg h]
theorem YK (x:BarL):zv ([⟨#[98,97,114]⟩,x.name,x.rng].map bts)=zv [Z4,bts x.name,bts x.rng]:=by
 simp only [List.map_cons,List.map_nil,lw8]
theorem ZA (r:RecL) (p:ByteArray) (hp:bts p=vL r.v):zv ([⟨#[112,97,99,107,97,103,101]⟩,r.name,p].map bts)=zy r:=by
 simp only [List.map_cons,List.map_nil,lw1,hp]; rfl
theorem ap:zv ([⟨#[110,101,101,100]⟩].map bts)=zv [wZ]:=by
 simp only [List.map_cons,List.map_nil,lw2]
theorem lo (f:FeatL):zv ((([⟨#[102,101,97,116,117,114,101]⟩,f.name]:List ByteArray)++f.of_).map bts)=tF f:=by
 simp only [List.map_append,List.map_cons,List.map_nil,lw9]; rfl
theorem Box.kbB {B:Nat} {w w':World} {g:Nat} {cs:List Value} (h:Box w g cs) (hg:g < B) (hb:KB B w w'):Box w' g cs :=
 ⟨Nat.lt_of_lt_of_le h.1 hb.size,fun j u hj=>(Go.RowKit.Below.cell hb (p:=⟨g,j,none⟩) hg).trans (h.2 j u hj)⟩
theorem uw {w u:World} {b o:Nat} {v:Value} (hb:KB w.heap.size w u) (hl:b < w.heap.size) (h:w.cell? ⟨b,o,none⟩=some v):u.cell? ⟨b,o,none⟩=some v:=(Go.RowKit.Below.cell hb (p:=⟨b,o,none⟩) hl).trans h
theorem pQ {s:ByteArray} (h:bts s=[]):vh s=[]:=by rw [vh,if_pos h]
theorem mW {a b:List UInt8} {m n:Nat} (ha:a.length≤m) (hb:b.length≤n):(a++b).length≤m+n:=by rw [List.length_append]; omega
theorem v8 {α:Type} {f:α→List UInt8} {l:List α} {p:List UInt8} {B m k:Nat} (hp:p.length≤m) (h:∀ x∈l,(f x).length≤B) (hk:k≤l.length):(p++(l.take k).flatMap f).length≤m+B * k:=mW hp (xV h k hk)
theorem kh (w:World) (a b:ByteArray):(w.alloc (.cells #[.string a,.string b] 9)).ownsRow w.heap.size 9 1 (.slice (some ⟨w.heap.size,0,none⟩) 2 2) 2 [.string a,.string b] :=
 World.ownsRow_lit (base:=w.heap.size) (e:=9) (size:=1) w #[.string a,.string b] 2 (Nat.le_refl _) (by decide) rfl
theorem kO {w:World} {A:Option Addr} {l:List ByteArray} (h:Texts w A l) (c:Nat) (o:Obj):tw (w.alloc o) A l.length 1 (l.map Value.string):=by
 have h:=Texts.kb h (zG w o);refine ⟨by simp,fun hA=>?_,fun ad hA j u hj=>?_⟩
 ·rcases h with h | ⟨b,off,h1,-⟩
  ·simp [h]
  ·rw [h1] at hA; cases hA
 ·have hjl:j < l.length:=by
   rcases Nat.lt_or_ge j l.length with k | k
   ·exact k
   ·rw [List.getElem?_eq_none (by simpa using k)] at hj; cases hj
  obtain ⟨b,off,h1,h2,h3⟩:=Texts.cell h hjl;rw [h1] at hA;(injection hA with hA);subst hA;rw [uR,h3];rw [List.getElem?_map,List.getElem?_eq_getElem hjl] at hj;exact hj
theorem lR (l:List ByteArray):∀ u∈l.map Value.string,u.oneCell'=true:=by
 intro u hu;obtain ⟨s,-,rfl⟩:=List.mem_map.1 hu;rfl
theorem jR {w:World} {base:Nat} {v:Value} {a b:ByteArray} {l:List ByteArray} (h:w.ownsRow base 9 1 v (2+l.length) ([.string a,.string b]++l.map Value.string)):∃ g cap,v = .slice (some ⟨g,0,none⟩) (([a,b]++l).length) cap∧Box w g (([a,b]++l).map Value.string)∧([a,b]++l).length≤cap:=by
 obtain ⟨g,cap,rfl,hg,hlt,hc,hcell⟩:=vN h (by omega);(have e:([a,b]++l).length=2+l.length:=by simp; omega);refine ⟨g,cap,by rw [e],⟨hlt,fun j u hj=>?_⟩,by rw [e]; exact hc⟩
 have hj2:j < 2+l.length:=by
  rcases Nat.lt_or_ge j (2+l.length) with k | k
  ·exact k
  ·rw [List.getElem?_eq_none (by simp; omega)] at hj; cases hj
 rw [hcell j (by omega)];exact hj
theorem p6 (r:RecL) (hd:RecH) (w:World) (hL:Laid w) (hr:RecLies w hd r) (hok:RecOk r):Calls Tryz.prog 116 #[r.val hd] w (nM w (qp r)):=by
 obtain ⟨A0,ca,B0,cb,F0,cf⟩:=hd;have HNE:=hid (show RowOf 3 NeedAt w A0 r.needs from hr.needs);have HBA:=hid (show RowOf 3 BarAt w B0 r.bars from hr.bars);have HFE:=hid (show RowOf 2 FeatAt w F0 r.feats from hr.feats);have HVP:=hid (fun u (hb:KB w.heap.size w u)=>dS r.v u (hL.kb hb) (cL hok.v));have HOK:=hid hok;have HPL:=hid (og hok.name);have hn8:r.needs.length≤8:=hok.needs;have hb8:r.bars.length≤8:=hok.bars;have hf8:r.feats.length≤8:=hok.feats;have HRE:=hid (iQ r);clear hL hr hok;go_enter Tryz.func116,Tryz.ntmps116;(go_upto_region 1 with fail);refine zI ?_;intro u0 hu;have HX0:=hid (show TBox u0 w.heap.size (r.cells ⟨A0,ca,B0,cb,F0,cf⟩) 32 by rw [hu]; exact TBox.new w (r.cells ⟨A0,ca,B0,cb,F0,cf⟩) 32);have HB0:=hid (show KB w.heap.size w u0 by rw [hu]; exact zG _ _);clear hu;(go_upto_region 2 with fail);refine zI ?_;intro u1 hu;have HTS:=hid (show TS u0 u0.heap.size [] u1 by rw [hu]; exact ⟨Bld.new u0,zG _ _⟩);have HXB:=hid (fun u (h:KB u0.heap.size u0 u)=>HX0.out.box.kbB HX0.out.lt h);have HKW:=hid (fun u (h:KB u0.heap.size u0 u)=>zA HB0.out h);clear hu;have hS:KB u0.heap.size u0 u1.drew:=zM HTS.out.kb;(refine wpS (fun u=>KB u0.heap.size u0 u) (.call [0,1,2,3] 4 (.call [] 5 (.call [] 6 (.last [])))) fun iS=>?_);(have q0:=fun (z:SW fun u=>KB u0.heap.size u0 u)=>(HXB.out z.v z.ok).2 0 _ rfl);have q1:=fun (z:SW fun u=>KB u0.heap.size u0 u)=>(HXB.out z.v z.ok).2 1 _ rfl
 (have q2:=fun (z:SW fun u=>KB u0.heap.size u0 u)=>(HXB.out z.v z.ok).2 2 _ rfl);(have q3:=fun (z:SW fun u=>KB u0.heap.size u0 u)=>(HXB.out z.v z.ok).2 3 _ rfl);(have q4:=fun (z:SW fun u=>KB u0.heap.size u0 u)=>(HXB.out z.v z.ok).2 4 _ rfl);(have q5:=fun (z:SW fun u=>KB u0.heap.size u0 u)=>(HXB.out z.v z.ok).2 5 _ rfl);(have q6:=fun (z:SW fun u=>KB u0.heap.size u0 u)=>(HXB.out z.v z.ok).1);(with_reducible refine zD ?_);simp only [zB,pka,pkb,pkc,pkd,pke,pkf];(repeat go_big_quiet_step (fail));refine wpQuiet_nil ?_;(go_wp2_with fail);refine (HVP.out _ (HKW.out _ hS)).mono ?_;rintro _ u2 ⟨p,rfl,hp,hb⟩;have HT2:=hid ((HTS.out.grow (zM (zH _))).grow hb.kb);have HP:=hid hp;clear hb hp;(go_wp2_with fail);refine zE (HT2.out.kb) ?_;(with_reducible refine zD ?_);simp only [zB,pka,pkb,pkc,pkd,pke,pkf];(repeat go_big_quiet_step (fail));refine wpQuiet_nil ?_;(go_wp2_with fail);refine zE (uX HT2.out.kb (Nat.le_of_lt HT2.out.bld.lt) _) ?_;(with_reducible refine zD ?_);simp only [zB,pka,pkb,pkc,pkd,pke,pkf];(repeat go_big_quiet_step (fail));refine wpQuiet_nil ?_;(go_wp2_with fail);refine (wX _ [] [⟨#[112,97,99,107,97,103,101]⟩,r.name,p] (zy r) u2 HT2.out.bld (ZA r p HP.out) (by simp) (by have:=HPL.out; omega) (by simp)).mono ?_;rintro _ u3 ⟨rfl,hb3,hw3⟩;have HT3:=hid (show TS u0 u0.heap.size (zy r) u3 from HT2.out.step (by simpa using hb3) hw3)
 clear hb3 hw3;(go_wp2_with fail);refine zE (HT3.out.kb) ?_;(with_reducible refine zJ ?_);simp only [zB,pka,pkb,pkc,pkd,pke,pkf];(repeat go_big_quiet_step (fail));refine wpQuiet_nil ?_;clear q0 q1 q2 q3 q4 q5 q6 iS hS HTS HT2 HVP;have x6:u3.cell? ⟨w.heap.size,6,none⟩=some (.slice A0 r.needs.length ca):=(HXB.out u3 HT3.out.kb).2 6 _ rfl;have xl:=(HXB.out u3 HT3.out.kb).1;generalize hnn:r.needs.length=n at *;have HN:=hid hnn;clear hnn;(go_upto_block 0 with fail);(go_wp2_with fail);go_loopw [24] (fun i wr=>∃ k:Nat,i = .int .i64 (k:Int)∧k≤n∧Hid (TS u0 u0.heap.size (zy r++(r.needs.take k).flatMap zp) wr)) (fun i _=>n - (intOf i).toNat)
 case atStart=>exact ⟨0,rfl,Nat.zero_le _,hid (by simpa using HT3.out)⟩
 case round =>
  obtain ⟨k,rfl,hk,HT⟩:=hrel;have HKR:=hid (HKW.out wr HT.out.kb);have HLEN:=hid (show (zy r++(r.needs.take k).flatMap zp).length≤120+1100 * k from v8 HPL.out (fun x hx=>oJ (HOK.out.need x hx)) (by rw [HN.out]; exact hk));by_cases hlt:k < n
  ·(have hlt':k < r.needs.length:=by rw [HN.out]; exact hlt);obtain ⟨b,off,A',c',hA,hbl,c0,c1,c2,hrow,hal⟩:=uC HNE.out hlt';subst hA;replace c0:=uw HKR.out hbl c0;replace c1:=uw HKR.out hbl c1;replace c2:=uw HKR.out hbl c2;replace hbl:=Nat.lt_of_lt_of_le hbl HKR.out.size;have HROW:=hid hrow;have HNO:=hid (HOK.out.need _ (List.getElem_mem hlt'));have HSTEP:=hid (show zy r++(r.needs.take (k+1)).flatMap zp=zy r++(r.needs.take k).flatMap zp++zp r.needs[k] by rw [wM hlt',List.append_assoc]);(have k0:(0:Int)≤(k:Int):=by omega);(have k1:(k:Int) < (n:Int):=by omega);clear hrow;generalize r.needs[k]=nd at *;obtain ⟨any,whn,opt⟩:=nd;dsimp only at c0 c1 c2 HROW hal;have HWN:=hid (uO HNO.out.whn);have HON:=hid (eB HNO.out.opt);have hm3:any.length≤3:=HNO.out.any3;dsimp only at HWN HON;(go_upto_region 6 with fail);refine zI ?_;intro u4 hu;have HY:=hid (show TBox u4 wr.heap.size [.slice A' any.length c',.string whn,.string opt] 122 by rw [hu]; exact TBox.new wr [.slice A' any.length c',.string whn,.string opt] 122);have HT4:=hid (HT.out.grow (show KB wr.heap.size wr u4 by rw [hu]; exact zG _ _));(have hqb:wr.heap.size≠u0.heap.size:=by have:=HT.out.bld.lt; omega);clear hu c0 c1 c2 hbl;generalize wr.heap.size=q at *;(go_wp2_with fail);refine (wX _ (zy r++(r.needs.take k).flatMap zp) [⟨#[110,101,101,100]⟩] (zv [wZ]) _ HT4.out.bld ap (by have:=HLEN.out; omega) (by decide) (by simp)).mono ?_
   rintro _ u5 ⟨rfl,hb5,hw5⟩;have HT5:=hid (HT4.out.step hb5 hw5);have HY5:=hid (HY.out.wrote hw5 hqb (by decide));clear hb5 hw5 HY HT4 HT HKR;have y0:=HY5.out.box.2 0 _ rfl;have yl:=HY5.out.lt;generalize hm:any.length=m at *;have HM:=hid hm;clear hm;(go_wp2_with fail);go_loopw [33] (fun i ur=>∃ j:Nat,i = .int .i64 (j:Int)∧j≤m∧Hid (TS u0 u0.heap.size (zy r++(r.needs.take k).flatMap zp++zv [wZ]++(any.take j).flatMap xg) ur)∧Hid (TBox ur q [.slice A' m c',.string whn,.string opt] 122)) (fun i _=>m - (intOf i).toNat)
   case atStart=>exact ⟨0,rfl,Nat.zero_le _,hid (by simpa using HT5.out),HY5⟩
   case round =>
    (rename World=>ur);obtain ⟨j,rfl,hj,HTU,HYU⟩:=hrel;have HKU:=hid (HKW.out ur HTU.out.kb);have HLE2:=hid (show (zy r++(r.needs.take k).flatMap zp++zv [wZ]++(any.take j).flatMap xg).length≤120+1100 * k+5+300 * j from v8 (mW HLEN.out (by decide)) (fun x hx=>tN (HNO.out.wishes x hx)) (by rw [HM.out]; exact hj));by_cases hlj:j < m
    ·(have hlj':j < any.length:=by rw [HM.out]; exact hlj);obtain ⟨b,off,A2,c2,hA,hbl,d0,d1,d2,d3,htx,hfl,hfc⟩:=t9 HROW.out hlj';subst hA;replace d0:=uw HKU.out hbl d0;replace d1:=uw HKU.out hbl d1;replace d2:=uw HKU.out hbl d2;replace d3:=uw HKU.out hbl d3;replace hbl:=Nat.lt_of_lt_of_le hbl HKU.out.size;have HTX:=hid htx;have HWO:=hid (HNO.out.wishes _ (List.getElem_mem hlj'));have HWS:=hid (show zy r++(r.needs.take k).flatMap zp++zv [wZ]++(any.take (j+1)).flatMap xg=zy r++(r.needs.take k).flatMap zp++zv [wZ]++(any.take j).flatMap xg++xg any[j] by rw [wM hlj',List.append_assoc (zy r++(r.needs.take k).flatMap zp++zv [wZ])]);(have j0:(0:Int)≤(j:Int):=by omega);(have j1:(j:Int) < (m:Int):=by omega);clear htx;generalize any[j]=x at *;have HWW:=hid (tN HWO.out);have hof6:x.feats.length≤6:=(lF HWO.out).2.2.1;have HFW:=hid (lF HWO.out).2.2.2;obtain ⟨xnm,xrg,of,xb⟩:=x;dsimp only at d0 d1 d2 d3 HTX hfl hfc hof6 HFW;(go_upto_region 10 with fail);refine zI ?_;intro u6 hu;have HZ:=hid (show Box u6 ur.heap.size [.string xnm,.string xrg,.slice A2 of.length c2,.bool xb] by rw [hu]; exact Box.new ur [.string xnm,.string xrg,.slice A2 of.length c2,.bool xb] 167);have HBU:=hid (show KB ur.heap.size ur u6 by rw [hu]; exact zG _ _);have HT6:=hid (HTU.out.grow HBU.out);have HY6:=hid (HYU.out.kb HBU.out)
     clear hu d0 d1 d2 d3 hbl HYU HTU HBU;generalize ur.heap.size=qz at *;by_cases hof:of.length=0
     ·cases xb
      ·(have f0:¬ (0:Int) < (of.length:Int):=by omega);obtain rfl:of=[]:=List.eq_nil_of_length_eq_zero (by omega);have HLN:=hid (sZ ⟨xnm,xrg,[],false⟩ ⟨#[45]⟩ ⟨#[102,117,108,108]⟩ (by rw [V7]; rfl) (by rw [lw4]; rfl));have z0:=HZ.out.2 0 _ rfl;have z1:=HZ.out.2 1 _ rfl;have z2:=HZ.out.2 2 _ rfl;have z3:=HZ.out.2 3 _ rfl;have zl:=HZ.out.1;(go_wp2_with fail);refine (wX _ _ [⟨#[97,110,121]⟩,xnm,⟨#[45]⟩,⟨#[102,117,108,108]⟩,xrg] _ _ HT6.out.bld HLN.out (by have:=HLE2.out; omega) (by have:=HWW.out; omega) (by simp)).mono ?_;rintro _ u10 ⟨rfl,hb10,hw10⟩;have HT10:=hid (HT6.out.step hb10 hw10);have HY10:=hid (HY6.out.wrote hw10 hqb (by decide));clear hb10 hw10;(go_wp2_with fail);go_roundw
       case rel=>exact ⟨j+1,by go_num,by omega,hid (by rw [HWS.out]; exact HT10.out),HY10⟩
       case measure=>simp [intOf]<;>omega
      ·(have f0:¬ (0:Int) < (of.length:Int):=by omega);obtain rfl:of=[]:=List.eq_nil_of_length_eq_zero (by omega);have HLN:=hid (sZ ⟨xnm,xrg,[],true⟩ ⟨#[45]⟩ ⟨#[98,97,114,101]⟩ (by rw [V7]; rfl) (by rw [lw5]; rfl));have z0:=HZ.out.2 0 _ rfl;have z1:=HZ.out.2 1 _ rfl;have z2:=HZ.out.2 2 _ rfl;have z3:=HZ.out.2 3 _ rfl;have zl:=HZ.out.1;(go_wp2_with fail);refine (wX _ _ [⟨#[97,110,121]⟩,xnm,⟨#[45]⟩,⟨#[98,97,114,101]⟩,xrg] _ _ HT6.out.bld HLN.out (by have:=HLE2.out; omega) (by have:=HWW.out; omega) (by simp)).mono ?_;rintro _ u10 ⟨rfl,hb10,hw10⟩;have HT10:=hid (HT6.out.step hb10 hw10);have HY10:=hid (HY6.out.wrote hw10 hqb (by decide));clear hb10 hw10;(go_wp2_with fail);go_roundw
       case rel=>exact ⟨j+1,by go_num,by omega,hid (by rw [HWS.out]; exact HT10.out),HY10⟩
       case measure=>simp [intOf]<;>omega
     ·cases xb
      ·(have f0:(0:Int) < (of.length:Int):=by omega);(have hne:of≠[]:=fun e=>hof (by rw [e]; rfl));obtain ⟨b5,off5,hA5,-,-⟩:=Texts.cell HTX.out (k:=0) (by omega);subst hA5;have HJ:=hid (gX b5 off5 c2 of u6 (Texts.kb HTX.out (HKW.out _ HT6.out.kb)) hne hfc (by omega) (by have:=xC [44] 12 (of.map bts) (fun p hp=>by obtain ⟨s,hs,rfl⟩:=List.mem_map.1 hp; exact (wA (HFW.out s hs)).2); simp only [List.length_map,List.length_cons,List.length_nil] at this; omega));have HLN:=hid (fun f (hf:bts f=zT [44] (of.map bts))=>sZ ⟨xnm,xrg,of,false⟩ f ⟨#[102,117,108,108]⟩ (by rw [hf]; exact (if_neg hne).symm) (by rw [lw4]; rfl));clear hne;have z2:=HZ.out.2 2 _ rfl;have zl:=HZ.out.1;generalize hofl:of.length=ol at *;have HOFL:=hid hofl;clear hofl;(go_wp2_with fail);refine HJ.out.mono ?_;rintro _ u9 ⟨f,rfl,hf,hb⟩;have HT9:=hid (HT6.out.grow hb);have HY9:=hid (HY6.out.kb hb);have HZ9:=hid (HZ.out.kb hb);replace HLN:=hid (HLN.out f hf);clear hb hf z2 zl;have z0:=HZ9.out.2 0 _ rfl;have z1:=HZ9.out.2 1 _ rfl;have z2:=HZ9.out.2 2 _ rfl;have z3:=HZ9.out.2 3 _ rfl;have zl:=HZ9.out.1;(go_wp2_with fail);refine (wX _ _ [⟨#[97,110,121]⟩,xnm,f,⟨#[102,117,108,108]⟩,xrg] _ _ HT9.out.bld HLN.out (by have:=HLE2.out; omega) (by have:=HWW.out; omega) (by simp)).mono ?_;rintro _ u10 ⟨rfl,hb10,hw10⟩;have HT10:=hid (HT9.out.step hb10 hw10);have HY10:=hid (HY9.out.wrote hw10 hqb (by decide))
       clear hb10 hw10;(go_wp2_with fail);go_roundw
       case rel=>exact ⟨j+1,by go_num,by omega,hid (by rw [HWS.out]; exact HT10.out),HY10⟩
       case measure=>simp [intOf]<;>omega
      ·(have f0:(0:Int) < (of.length:Int):=by omega);(have hne:of≠[]:=fun e=>hof (by rw [e]; rfl));obtain ⟨b5,off5,hA5,-,-⟩:=Texts.cell HTX.out (k:=0) (by omega);subst hA5;have HJ:=hid (gX b5 off5 c2 of u6 (Texts.kb HTX.out (HKW.out _ HT6.out.kb)) hne hfc (by omega) (by have:=xC [44] 12 (of.map bts) (fun p hp=>by obtain ⟨s,hs,rfl⟩:=List.mem_map.1 hp; exact (wA (HFW.out s hs)).2); simp only [List.length_map,List.length_cons,List.length_nil] at this; omega));have HLN:=hid (fun f (hf:bts f=zT [44] (of.map bts))=>sZ ⟨xnm,xrg,of,true⟩ f ⟨#[98,97,114,101]⟩ (by rw [hf]; exact (if_neg hne).symm) (by rw [lw5]; rfl));clear hne;have z2:=HZ.out.2 2 _ rfl;have zl:=HZ.out.1;generalize hofl:of.length=ol at *;have HOFL:=hid hofl;clear hofl;(go_wp2_with fail);refine HJ.out.mono ?_;rintro _ u9 ⟨f,rfl,hf,hb⟩;have HT9:=hid (HT6.out.grow hb);have HY9:=hid (HY6.out.kb hb);have HZ9:=hid (HZ.out.kb hb);replace HLN:=hid (HLN.out f hf);clear hb hf z2 zl;have z0:=HZ9.out.2 0 _ rfl;have z1:=HZ9.out.2 1 _ rfl;have z2:=HZ9.out.2 2 _ rfl;have z3:=HZ9.out.2 3 _ rfl;have zl:=HZ9.out.1;(go_wp2_with fail);refine (wX _ _ [⟨#[97,110,121]⟩,xnm,f,⟨#[98,97,114,101]⟩,xrg] _ _ HT9.out.bld HLN.out (by have:=HLE2.out; omega) (by have:=HWW.out; omega) (by simp)).mono ?_;rintro _ u10 ⟨rfl,hb10,hw10⟩;have HT10:=hid (HT9.out.step hb10 hw10);have HY10:=hid (HY9.out.wrote hw10 hqb (by decide))
       clear hb10 hw10;(go_wp2_with fail);go_roundw
       case rel=>exact ⟨j+1,by go_num,by omega,hid (by rw [HWS.out]; exact HT10.out),HY10⟩
       case measure=>simp [intOf]<;>omega
    ·(obtain rfl:j=m:=by omega);(have j1:¬ (j:Int) < (j:Int):=by omega);have HTW:=hid (show TS u0 u0.heap.size (zy r++(r.needs.take k).flatMap zp++zv [wZ]++any.flatMap xg) ur by have:=HTU.out; rwa [← HM.out,List.take_length] at this);have HLW:=hid (show (zy r++(r.needs.take k).flatMap zp++zv [wZ]++any.flatMap xg).length≤120+1100 * k+5+300 * 3 by have:=HLE2.out; rw [← HM.out,List.take_length] at this; have:=HM.out; omega);have y1:=HYU.out.box.2 1 _ rfl;have yl:=HYU.out.lt;by_cases hwh:bts whn=[]
     ·(have o1:(whn.toList==[])=true:=by rw [beq_iff_eq]; exact hwh);(have o2:(whn.toList != [])=false:=by rw [bne,o1]; rfl);have HWT:=hid (pQ hwh);clear hwh;(go_upto_region 19 with fail);refine zI ?_;intro u7 hu7;have HT7:=hid (show TS u0 u0.heap.size (zy r++(r.needs.take k).flatMap zp++zv [wZ]++any.flatMap xg++vh whn) u7 by rw [hu7,HWT.out,List.append_nil]; exact HTW.out);have HY7:=hid (show TBox u7 q [.slice A' j c',.string whn,.string opt] 122 by rw [hu7]; exact HYU.out);clear hu7;have z2:=HY7.out.box.2 2 _ rfl;have zl:=HY7.out.lt;by_cases hop:bts opt=[]
      ·(have o3:(opt.toList==[])=true:=by rw [beq_iff_eq]; exact hop);(have o4:(opt.toList != [])=false:=by rw [bne,o3]; rfl);have HNT:=hid (show zp ⟨any,whn,opt⟩=zv [wZ]++any.flatMap xg++vh whn by rw [zp]; simp only [hop,if_true,List.append_nil]);clear hop;(go_wp2_with fail);go_roundw
       case rel=>exact ⟨k+1,by go_num,by omega,hid (by rw [HSTEP.out,HNT.out]; have:=HT7.out; simpa only [List.append_assoc] using this)⟩
       case measure=>simp [intOf]<;>omega
      ·(have o3:(opt.toList==[])=false:=by rw [beq_eq_false_iff_ne]; exact hop);(have o4:(opt.toList != [])=true:=by rw [bne,o3]; rfl);have HOL:=hid (gV hop);have HNT:=hid (show zp ⟨any,whn,opt⟩=zv [wZ]++any.flatMap xg++vh whn++(if bts opt=[] then [] else zv [uF,bts opt]) from rfl);clear hop;(go_wp2_with fail);refine (wX _ (zy r++(r.needs.take k).flatMap zp++zv [wZ]++any.flatMap xg++vh whn) [⟨#[111,112,116,105,111,110]⟩,opt] _ _ HT7.out.bld HOL.out (by have:=HLW.out; have:=HWN.out; rw [List.length_append]; omega) (by have:=HON.out; omega) (by simp)).mono ?_;rintro _ u8 ⟨rfl,hb8',hw8⟩;have HT8:=hid (HT7.out.step hb8' hw8);clear hb8' hw8;(go_wp2_with fail);go_roundw
       case rel=>exact ⟨k+1,by go_num,by omega,hid (by rw [HSTEP.out,HNT.out]; have:=HT8.out; simpa only [List.append_assoc] using this)⟩
       case measure=>simp [intOf]<;>omega
     ·(have o1:(whn.toList==[])=false:=by rw [beq_eq_false_iff_ne]; exact hwh);(have o2:(whn.toList != [])=true:=by rw [bne,o1]; rfl);have HWL:=hid (jC hwh);clear hwh;(go_wp2_with fail);refine (wX _ (zy r++(r.needs.take k).flatMap zp++zv [wZ]++any.flatMap xg) [⟨#[119,104,101,110]⟩,whn] (vh whn) _ HTW.out.bld HWL.out (by have:=HLW.out; omega) (by have:=HWN.out; omega) (by simp)).mono ?_;rintro _ u7 ⟨rfl,hb7,hw7⟩;have HT7:=hid (HTW.out.step hb7 hw7);have HY7:=hid (HYU.out.wrote hw7 hqb (by decide));clear hb7 hw7;(go_upto_region 19 with fail);have z2:=HY7.out.box.2 2 _ rfl;have zl:=HY7.out.lt;by_cases hop:bts opt=[]
      ·(have o3:(opt.toList==[])=true:=by rw [beq_iff_eq]; exact hop);(have o4:(opt.toList != [])=false:=by rw [bne,o3]; rfl);have HNT:=hid (show zp ⟨any,whn,opt⟩=zv [wZ]++any.flatMap xg++vh whn by rw [zp]; simp only [hop,if_true,List.append_nil]);clear hop;(go_wp2_with fail);go_roundw
       case rel=>exact ⟨k+1,by go_num,by omega,hid (by rw [HSTEP.out,HNT.out]; have:=HT7.out; simpa only [List.append_assoc] using this)⟩
       case measure=>simp [intOf]<;>omega
      ·(have o3:(opt.toList==[])=false:=by rw [beq_eq_false_iff_ne]; exact hop);(have o4:(opt.toList != [])=true:=by rw [bne,o3]; rfl);have HOL:=hid (gV hop);have HNT:=hid (show zp ⟨any,whn,opt⟩=zv [wZ]++any.flatMap xg++vh whn++(if bts opt=[] then [] else zv [uF,bts opt]) from rfl);clear hop;(go_wp2_with fail);refine (wX _ (zy r++(r.needs.take k).flatMap zp++zv [wZ]++any.flatMap xg++vh whn) [⟨#[111,112,116,105,111,110]⟩,opt] _ _ HT7.out.bld HOL.out (by have:=HLW.out; have:=HWN.out; rw [List.length_append]; omega) (by have:=HON.out; omega) (by simp)).mono ?_;rintro _ u8 ⟨rfl,hb8',hw8⟩;have HT8:=hid (HT7.out.step hb8' hw8);clear hb8' hw8;(go_wp2_with fail);go_roundw
       case rel=>exact ⟨k+1,by go_num,by omega,hid (by rw [HSTEP.out,HNT.out]; have:=HT8.out; simpa only [List.append_assoc] using this)⟩
       case measure=>simp [intOf]<;>omega
  ·(obtain rfl:k=n:=by omega);(have k1:¬ (k:Int) < (k:Int):=by omega);have HTB:=hid (show TS u0 u0.heap.size (zy r++r.needs.flatMap zp) wr by have:=HT.out; rwa [← HN.out,List.take_length] at this);have HLB:=hid (show (zy r++r.needs.flatMap zp).length≤120+1100 * 8 by have:=HLEN.out; rw [← HN.out,List.take_length] at this; have:=HN.out; omega);clear x6 xl HT HLEN HT3;have x7:wr.cell? ⟨w.heap.size,7,none⟩=some (.slice B0 r.bars.length cb):=(HXB.out wr HTB.out.kb).2 7 _ rfl;have xl:=(HXB.out wr HTB.out.kb).1;generalize hmm:r.bars.length=mb at *;have HMB:=hid hmm;clear hmm;(go_wp2_with fail);go_loopw [73] (fun i vr=>∃ j:Nat,i = .int .i64 (j:Int)∧j≤mb∧Hid (TS u0 u0.heap.size (zy r++r.needs.flatMap zp++(r.bars.take j).flatMap tz) vr)) (fun i _=>mb - (intOf i).toNat)
   case atStart=>exact ⟨0,rfl,Nat.zero_le _,hid (by simpa using HTB.out)⟩
   case round =>
    (rename World=>vr);obtain ⟨j,rfl,hj,HTV⟩:=hrel;have HKV:=hid (HKW.out vr HTV.out.kb);have HLV:=hid (show (zy r++r.needs.flatMap zp++(r.bars.take j).flatMap tz).length≤120+1100 * 8+300 * j from v8 HLB.out (fun x hx=>qt (HOK.out.bar x hx)) (by rw [HMB.out]; exact hj));by_cases hlj:j < mb
    ·(have hlj':j < r.bars.length:=by rw [HMB.out]; exact hlj);obtain ⟨b,off,hA,hbl,d0,d1,d2⟩:=eG HBA.out hlj';subst hA;replace d0:=uw HKV.out hbl d0;replace d1:=uw HKV.out hbl d1;replace d2:=uw HKV.out hbl d2;replace hbl:=Nat.lt_of_lt_of_le hbl HKV.out.size;have HBO:=hid (HOK.out.bar _ (List.getElem_mem hlj'));have HBS:=hid (show zy r++r.needs.flatMap zp++(r.bars.take (j+1)).flatMap tz=zy r++r.needs.flatMap zp++(r.bars.take j).flatMap tz++tz r.bars[j] by rw [wM hlj',List.append_assoc (zy r++r.needs.flatMap zp)]);(have j0:(0:Int)≤(j:Int):=by omega);(have j1:(j:Int) < (mb:Int):=by omega);generalize r.bars[j]=x at *;obtain ⟨xnm,xrg,whn⟩:=x;dsimp only at d0 d1 d2;have HWN:=hid (uO HBO.out.whn);have HBT:=hid (qt HBO.out);have HBE:=hid (show tz ⟨xnm,xrg,whn⟩=zv [Z4,bts xnm,bts xrg]++vh whn from rfl);have HBN:=hid (show (zv [Z4,bts xnm,bts xrg]).length≤300 by have:=HBT.out; rw [HBE.out,List.length_append] at this; omega);dsimp only at HWN;(go_upto_region 25 with fail);refine zI ?_;intro u4 hu;have HY:=hid (show TBox u4 vr.heap.size [.string xnm,.string xrg,.string whn] 125 by rw [hu]; exact TBox.new vr [.string xnm,.string xrg,.string whn] 125);have HT4:=hid (HTV.out.grow (show KB vr.heap.size vr u4 by rw [hu]; exact zG _ _));have hqb:vr.heap.size≠u0.heap.size:=by have:=HTV.out.bld.lt; omega
     clear hu d0 d1 d2 hbl HTV;generalize vr.heap.size=q at *;have y0:=HY.out.box.2 0 _ rfl;have y1:=HY.out.box.2 1 _ rfl;have yl:=HY.out.lt;(go_wp2_with fail);refine (wX _ _ [⟨#[98,97,114]⟩,xnm,xrg] _ _ HT4.out.bld (YK ⟨xnm,xrg,whn⟩) (by have:=HLV.out; omega) (by have:=HBN.out; dsimp only; omega) (by simp)).mono ?_;rintro _ u5 ⟨rfl,hb5,hw5⟩;have HTW:=hid (HT4.out.step hb5 hw5);have HYU:=hid (HY.out.wrote hw5 hqb (by decide));have HLW:=hid (show (zy r++r.needs.flatMap zp++(r.bars.take j).flatMap tz++zv [Z4,bts xnm,bts xrg]).length≤120+1100 * 8+300 * j+300 from mW HLV.out HBN.out);clear hb5 hw5 HY HT4 y0 y1 yl;have y2:=HYU.out.box.2 2 _ rfl;have yl:=HYU.out.lt;by_cases hwh:bts whn=[]
     ·(have o1:(whn.toList==[])=true:=by rw [beq_iff_eq]; exact hwh);(have o2:(whn.toList != [])=false:=by rw [bne,o1]; rfl);have HWT:=hid (pQ hwh);clear hwh;(go_wp2_with fail);go_roundw
      case rel=>exact ⟨j+1,by go_num,by omega,hid (by rw [HBS.out,HBE.out,HWT.out,List.append_nil]; exact HTW.out)⟩
      case measure=>simp [intOf]<;>omega
     ·(have o1:(whn.toList==[])=false:=by rw [beq_eq_false_iff_ne]; exact hwh);(have o2:(whn.toList != [])=true:=by rw [bne,o1]; rfl);have HWL:=hid (jC hwh);clear hwh;(go_wp2_with fail);refine (wX _ _ [⟨#[119,104,101,110]⟩,whn] (vh whn) _ HTW.out.bld HWL.out (by have:=HLW.out; omega) (by have:=HWN.out; omega) (by simp)).mono ?_;rintro _ u7 ⟨rfl,hb7,hw7⟩;have HT7:=hid (HTW.out.step hb7 hw7);clear hb7 hw7;(go_wp2_with fail);go_roundw
      case rel=>exact ⟨j+1,by go_num,by omega,hid (by rw [HBS.out,HBE.out]; have:=HT7.out; simpa only [List.append_assoc] using this)⟩
      case measure=>simp [intOf]<;>omega
    ·(obtain rfl:j=mb:=by omega);(have j1:¬ (j:Int) < (j:Int):=by omega);have HTF:=hid (show TS u0 u0.heap.size (zy r++r.needs.flatMap zp++r.bars.flatMap tz) vr by have:=HTV.out; rwa [← HMB.out,List.take_length] at this);have HLF:=hid (show (zy r++r.needs.flatMap zp++r.bars.flatMap tz).length≤120+1100 * 8+300 * 8 by have:=HLV.out; rw [← HMB.out,List.take_length] at this; have:=HMB.out; omega);clear x7 xl HTV HLV HTB;have x8:vr.cell? ⟨w.heap.size,8,none⟩=some (.slice F0 r.feats.length cf):=(HXB.out vr HTF.out.kb).2 8 _ rfl;have xl:=(HXB.out vr HTF.out.kb).1;generalize hff:r.feats.length=mf at *;have HMF:=hid hff;clear hff;(go_wp2_with fail);go_loopw [94] (fun i tr=>∃ p:Nat,i = .int .i64 (p:Int)∧p≤mf∧Hid (TS u0 u0.heap.size (zy r++r.needs.flatMap zp++r.bars.flatMap tz++(r.feats.take p).flatMap tF) tr)) (fun i _=>mf - (intOf i).toNat)
     case atStart=>exact ⟨0,rfl,Nat.zero_le _,hid (by simpa using HTF.out)⟩
     case round =>
      (rename World=>tr);obtain ⟨p,rfl,hp,HTG⟩:=hrel;have HKG:=hid (HKW.out tr HTG.out.kb);have HLG:=hid (show (zy r++r.needs.flatMap zp++r.bars.flatMap tz++(r.feats.take p).flatMap tF).length≤120+1100 * 8+300 * 8+300 * p from v8 HLF.out (fun x hx=>tH (HOK.out.feat x hx)) (by rw [HMF.out]; exact hp));by_cases hlp:p < mf
      ·(have hlp':p < r.feats.length:=by rw [HMF.out]; exact hlp);obtain ⟨b,off,A2,c2,hA,hbl,d0,d1,htx,hfl⟩:=vc HFE.out hlp';subst hA;replace d0:=uw HKG.out hbl d0;replace d1:=uw HKG.out hbl d1;replace hbl:=Nat.lt_of_lt_of_le hbl HKG.out.size;have HTX:=hid htx;have HFO:=hid (HOK.out.feat _ (List.getElem_mem hlp'));have HFS:=hid (show zy r++r.needs.flatMap zp++r.bars.flatMap tz++(r.feats.take (p+1)).flatMap tF=zy r++r.needs.flatMap zp++r.bars.flatMap tz++(r.feats.take p).flatMap tF++tF r.feats[p] by rw [wM hlp',List.append_assoc (zy r++r.needs.flatMap zp++r.bars.flatMap tz)]);(have p0:(0:Int)≤(p:Int):=by omega);(have p1:(p:Int) < (mf:Int):=by omega);clear htx;generalize r.feats[p]=x at *;have HFT:=hid (tH HFO.out);have HFL:=hid (lo x);have hof6:x.of_.length≤6:=HFO.out.len;obtain ⟨xnm,of⟩:=x;dsimp only at d0 d1 HTX hfl hof6 HFL;(go_upto_region 32 with fail);refine zI ?_;intro u4 hu;have HY:=hid (show Box u4 tr.heap.size [.string xnm,.slice A2 of.length c2] by rw [hu]; exact Box.new tr [.string xnm,.slice A2 of.length c2] 172);have HT4:=hid (HTG.out.grow (show KB tr.heap.size tr u4 by rw [hu]; exact zG _ _));have HTX4:=hid (Texts.kb HTX.out (HKW.out _ HT4.out.kb));clear hu d0 d1 hbl HTG;generalize tr.heap.size=q at *;have y0:=HY.out.2 0 _ rfl;have y1:=HY.out.2 1 _ rfl;have yl:=HY.out.1;have S5:=hid (kh u4 ⟨#[102,101,97,116,117,114,101]⟩ xnm)
       have S4:=hid (kO (HTX4.out) c2 (.cells #[.string ⟨#[102,101,97,116,117,114,101]⟩,.string xnm] 9));go_wp2_with (at_builtin; refine zW yd rfl (.tmp 100) (.tmp 102) rfl rfl S5.out rfl S4.out (lR of) (by unfold maxLen; omega) (by omega) (by rw [World.size_alloc]; omega) ?_; intro v' w' h2 h3 h4; have H2:=hid h2; have H3:=hid h3.kb; clear h2 h3 h4)
       all_goals
        obtain ⟨gq,cap,hv,hbq,hcq⟩:=jR H2.out;subst hv;have HT5:=hid (HT4.out.grow (show KB u4.heap.size u4 w' from Go.RowKit.Below.trans (zG _ _) H3.out));refine (eM _ _ gq cap ([⟨#[102,101,97,116,117,114,101]⟩,xnm]++of) _ _ HT5.out.bld hbq hcq HFL.out (by have:=HLG.out; omega) (by have:=HFT.out; omega) (by simp; omega)).mono ?_;rintro _ u5 ⟨rfl,hb5,hw5⟩;have HT6:=hid (HT5.out.step hb5 hw5);clear hb5 hw5;(go_wp2_with fail);go_roundw
        case rel=>exact ⟨p+1,by go_num,by omega,hid (by rw [HFS.out]; exact HT6.out)⟩
        case measure=>simp [intOf]<;>omega
      ·(obtain rfl:p=mf:=by omega);(have p1:¬ (p:Int) < (p:Int):=by omega);have HTE:=hid (show TS u0 u0.heap.size (qp r) tr by rw [HRE.out]; have:=HTG.out; rwa [← HMF.out,List.take_length] at this);have HSB:=hid (dJ u0.heap.size (qp r) tr HTE.out.bld);(go_wp2_with fail);refine HSB.out.mono ?_;rintro _ u5 ⟨s,rfl,hs,hb⟩;have HB5:=hid (HKW.out u5 (Go.RowKit.Below.trans HTE.out.kb hb));have HS:=hid hs;clear hs hb;(go_wp2_with fail);(try rw [Exit.noGoto_ret]);(try go_ret);exact ⟨s,rfl,HS.out,HB5.out⟩
end Go.Proofs.YtiffijoenkcpjaaGreatDoor
