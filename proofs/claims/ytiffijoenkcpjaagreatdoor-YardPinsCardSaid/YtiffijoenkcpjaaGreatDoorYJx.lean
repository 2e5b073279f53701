import Derived.Test.YtiffijoenkcpjaaGreatDoorYJu
set_option linter.unusedVariables false
set_option linter.unusedSimpArgs false
set_option maxRecDepth 100000
set_option maxHeartbeats 4000000
namespace Go.Proofs.YtiffijoenkcpjaaGreatDoor
open Go.RowKit Go.Lib
namespace MT
def root (s:Nat):MT→NodeL
 | is k v=>⟨1,0,0,k,v⟩
 | not t=>⟨2,((s+t.size - 1:Nat):Int),0,0,zc⟩
 | both a b=>⟨3,((s+a.size - 1:Nat):Int),((s+a.size+b.size - 1:Nat):Int),0,zc⟩
 | one a b=>⟨4,((s+a.size - 1:Nat):Int),((s+a.size+b.size - 1:Nat):Int),0,zc⟩
def Sits (ns:List NodeL) (s:Nat) (t:MT):Prop:=∃ pre post,ns=pre++(t.lay s++post)∧pre.length=s
theorem Sits.not {ns:List NodeL} {s:Nat} {t:MT} (h:Sits ns s (.not t)):Sits ns s t:=by
 obtain ⟨pre,post,rfl,hs⟩:=h;exact ⟨pre,_,by rw [lay,List.append_assoc],hs⟩
theorem Sits.both {ns:List NodeL} {s:Nat} {a b:MT} (h:Sits ns s (.both a b)):Sits ns s a∧Sits ns (s+a.size) b:=by
 obtain ⟨pre,post,rfl,hs⟩:=h;exact ⟨⟨pre,_,by rw [lay,List.append_assoc],hs⟩,⟨pre++a.lay s,[⟨3,((s+a.size - 1:Nat):Int),((s+a.size+b.size - 1:Nat):Int),0,zc⟩]++post,by rw [lay]; simp only [List.append_assoc],by rw [List.length_append,lay_len,hs]⟩⟩
theorem Sits.one {ns:List NodeL} {s:Nat} {a b:MT} (h:Sits ns s (.one a b)):Sits ns s a∧Sits ns (s+a.size) b:=by
 obtain ⟨pre,post,rfl,hs⟩:=h;exact ⟨⟨pre,_,by rw [lay,List.append_assoc],hs⟩,⟨pre++a.lay s,[⟨4,((s+a.size - 1:Nat):Int),((s+a.size+b.size - 1:Nat):Int),0,zc⟩]++post,by rw [lay]; simp only [List.append_assoc],by rw [List.length_append,lay_len,hs]⟩⟩
theorem lay_root (s:Nat):∀ t:MT,(t.lay s)[t.size - 1]?=some (t.root s)
 | is k v=>rfl
 | not t=>by
  rw [lay,size,Nat.add_sub_cancel,List.getElem?_append_right (by rw [lay_len]; exact Nat.le_refl _),lay_len,Nat.sub_self]; rfl
 | both a b=>by
  rw [lay,size,Nat.add_sub_cancel,← List.append_assoc,List.getElem?_append_right (by rw [List.length_append,lay_len,lay_len]; exact Nat.le_refl _),List.length_append,lay_len,lay_len,Nat.sub_self]; rfl
 | one a b=>by
  rw [lay,size,Nat.add_sub_cancel,← List.append_assoc,List.getElem?_append_right (by rw [List.length_append,lay_len,lay_len]; exact Nat.le_refl _),List.length_append,lay_len,lay_len,Nat.sub_self]; rfl
theorem Sits.root {ns:List NodeL} {s:Nat} {t:MT} (h:Sits ns s t):∃ hl:s+t.size - 1 < ns.length,ns[s+t.size - 1]=t.root s:=by
 obtain ⟨pre,post,rfl,hs⟩:=h;have hp:=t.size_pos
 have e:(pre++(t.lay s++post))[s+t.size - 1]?=some (t.root s):=by
  rw [List.getElem?_append_right (by omega),hs,show s+t.size - 1 - s=t.size - 1 by omega,List.getElem?_append_left (by rw [lay_len]; omega)];exact lay_root s t
 have hl:s+t.size - 1 < (pre++(t.lay s++post)).length:=by
  simp only [List.length_append,lay_len]; omega
 exact ⟨hl,Option.some.inj ((List.getElem?_eq_getElem hl).symm.trans e)⟩
theorem inB_len (x:List UInt8) (b:Bool):(inB x b).length≤x.length+4:=by
 unfold inB; cases b<;>simp
theorem keyT_len (k:Nat):(keyT k).length≤4:=by
 unfold keyT; split
 ·simp
 ·split<;>simp
theorem text_len:∀ t:MT,t.ok→t.text.length≤20 * t.size
 | is k v,h=>by
  have h1:=keyT_len k;have h2:=h.2;simp only [zY,Bool.and_eq_true,decide_eq_true_eq] at h2;simp only [text,size,List.length_append,List.length_cons,List.length_nil]; omega
 | not t,h=>by
  have ih:=text_len t h;have hp:=t.size_pos;cases t with
  | is k v =>
   have h1:=keyT_len k;have h2:=h.2;simp only [zY,Bool.and_eq_true,decide_eq_true_eq] at h2;simp only [text,size,List.length_append,List.length_cons,List.length_nil]; omega
  | not u=>exact wide _ _ _ ih
  | both u v=>exact wide _ _ _ ih
  | one u v=>exact wide _ _ _ ih
 | both a b,h=>by
  have i1:=text_len a h.1;have i2:=text_len b h.2;have l1:=inB_len a.text (a.op==4);have l2:=inB_len b.text (b.op==4 || b.op==3);simp only [text,size,List.length_append,List.length_cons,List.length_nil]; omega
 | one a b,h=>by
  have i1:=text_len a h.1;have i2:=text_len b h.2;have l2:=inB_len b.text (b.op==4);simp only [text,size,List.length_append,List.length_cons,List.length_nil]; omega
where
 wide (x:List UInt8) (b:Bool) (n:Nat) (h:x.length≤20 * n):([110,111,116,32]++inB x b).length≤20 * (n+1):=by
  have:=inB_len x b;simp only [List.length_append,List.length_cons,List.length_nil]; omega
end MT
theorem bk1:bts (⟨#[32,61,32]⟩:ByteArray)=[32,61,32]:=zN _
theorem bk2:bts (⟨#[40,32]⟩:ByteArray)=[40,32]:=zN _
theorem bk3:bts (⟨#[32,41]⟩:ByteArray)=[32,41]:=zN _
theorem bk4:bts (⟨#[32,33,61,32]⟩:ByteArray)=[32,33,61,32]:=zN _
theorem bk5:bts (⟨#[110,111,116,32]⟩:ByteArray)=[110,111,116,32]:=zN _
theorem bk6:bts (⟨#[32,97,110,100,32]⟩:ByteArray)=[32,97,110,100,32]:=zN _
theorem bk7:bts (⟨#[32,111,114,32]⟩:ByteArray)=[32,111,114,32]:=zN _
def qc (ns:List NodeL) (A:Option Addr) (c:Nat) (i:Nat) (T:List UInt8):Prop:=∀ w,Lies 5 NodeL.cells w A ns→Calls Tryz.prog 217 #[.slice A ns.length c,.int .i64 i] w (nM w T)
theorem g8 {ns:List NodeL} {A:Option Addr} {c i:Nat} {T:List UInt8} (h:qc ns A c i T) (hT:T.length≤4096) (b:Bool) (w:World) (hl:Lies 5 NodeL.cells w A ns) :
 Calls Tryz.prog 237 #[.slice A ns.length c,.int .i64 i,.bool b] w (nM w (MT.inB T b)):=by
 have HT:=hid (h w hl)
 have HL:=hid hT
 clear h hl hT
 generalize ns.length=n at *
 cases b
 ·go_enter Tryz.func237,Tryz.ntmps237;(go_wp2_with fail);refine HT.out.mono ?_;rintro _ w1 ⟨s,rfl,hs,hb⟩;have HS:=hid hs;have HB:=hid hb;clear hs hb;(go_wp2_with fail);go_ret;exact ⟨s,rfl,HS.out,HB.out⟩
 ·go_enter Tryz.func237,Tryz.ntmps237;(go_wp2_with fail);refine HT.out.mono ?_;rintro _ w1 ⟨s,rfl,hs,hb⟩;have HS:=hid hs;have HB:=hid hb;(have hsz:s.size≤4096:=by rw [← zF,hs]; exact HL.out);clear hs hb;(go_wp2_with fail);go_ret;exact ⟨_,rfl,by rw [← HS.out,zK,zK,bk2,bk3]; rfl,HB.out⟩
theorem zM {B:Nat} {w w1:World} (h:KB B w w1):KB B w w1.drew:=Go.RowKit.Below.trans h (show KB B w1 w1.drew from (Below.drew (Below.refl B _)).kb)
theorem Lies.lay5 {w:World} {b off:Nat} {l:List NodeL} {k:Nat} (h:Lies 5 NodeL.cells w (some ⟨b,off,none⟩) l) (hk:k < l.length):b < w.heap.size∧w.cell? ⟨b,off+k * 5,none⟩=some (.int .i64 l[k].op)∧w.cell? ⟨b,off+k * 5+1,none⟩=some (.int .i64 l[k].a)∧w.cell? ⟨b,off+k * 5+2,none⟩=some (.int .i64 l[k].b)∧w.cell? ⟨b,off+k * 5+3,none⟩=some (.int .i64 l[k].key)∧w.cell? ⟨b,off+k * 5+4,none⟩=some (.string l[k].text):=by
 obtain ⟨hl,hc⟩:=h.lay hk;exact ⟨hl,hc 0 _ rfl,hc 1 _ rfl,hc 2 _ rfl,hc 3 _ rfl,hc 4 _ rfl⟩
theorem t6 {w:World} {b off:Nat} {l:List NodeL} {k:Nat} {o a c key:Int} {t:ByteArray} (h:Lies 5 NodeL.cells w (some ⟨b,off,none⟩) l) (hk:k < l.length) (hx:l[k]=⟨o,a,c,key,t⟩):∀ u,KB w.heap.size w u→b < u.heap.size∧u.cell? ⟨b,off+k * 5,none⟩=some (.int .i64 o)∧u.cell? ⟨b,off+k * 5+1,none⟩=some (.int .i64 a)∧u.cell? ⟨b,off+k * 5+2,none⟩=some (.int .i64 c)∧u.cell? ⟨b,off+k * 5+3,none⟩=some (.int .i64 key)∧u.cell? ⟨b,off+k * 5+4,none⟩=some (.string t):=fun u hb=>by
 have:=Lies.lay5 (h.kb hb) hk;rw [hx] at this;exact this
theorem fS (w:World) (k:Nat) (hk:k < 3):∃ x:ByteArray,bts x=MT.keyT k∧x.size≤4∧(w.alloc (.cells j5.toArray 9)).cell? ⟨w.heap.size,k,none⟩=some (.string x):=by
 obtain ⟨x,h1,h2⟩:=je w k hk;exact ⟨x,h1,by rw [← zF,h1]; exact MT.keyT_len k,h2⟩
theorem WR {ns:List NodeL} {A:Option Addr} {c i:Nat} {k:Nat} {v:ByteArray} (hi:i < ns.length) (hr:ns[i]=⟨1,0,0,k,v⟩) (hk:k < 3) (hv:v.size≤12) (hn:ns.length≤9223372036854775807) :
 qc ns A c i (MT.keyT k++[32,61,32]++bts v):=fun w hl=>by
 obtain ⟨b,off,hA,hbl,y0,y1,y2,y3,y4⟩:=Lies.at5 hl hi
 rw [hr] at y0 y1 y2 y3 y4
 simp only at y0 y1 y2 y3 y4
 subst hA
 have i0:(0:Int)≤(i:Int):=by omega
 have i1:(i:Int) < (ns.length:Int):=by omega
 have k0:(0:Int)≤(k:Int):=by omega
 have k1:(k:Int) < 3:=by omega
 have HK:=hid hk
 clear hl hr hi hk
 generalize ns.length=n at *
 have mixed:Tryz.prog.follows .mixedOrders=true:=by kernel_rfl
 go_enter Tryz.func217,Tryz.ntmps217
 go_upto_region 2 with fail
 refine zI ?_
 intro u1 hu
 have HX:=hid (show Box u1 w.heap.size (NodeL.cells ⟨1,0,0,k,v⟩) by rw [hu]; exact Box.new w _ 278)
 have HB:=hid (show KB w.heap.size w u1 by rw [hu]; exact zG _ _)
 clear hu y0 y1 y2 y3 y4 hbl
 generalize hgg:w.heap.size=g at *
 have HG:=hid hgg
 clear hgg
 have y0:=HX.out.2 0 _ rfl
 have y3:=HX.out.2 3 _ rfl
 have y4:=HX.out.2 4 _ rfl
 have yl:=HX.out.1
 go_upto_region 4 with fail
 go_region_with (refine (mT _).mono ?_; rintro _ _ ⟨rfl,rfl⟩; obtain ⟨x,hx,hxs,hc⟩:=fS u1 k HK.out; have HXX:=hid hx; clear hx)
 all_goals
  (go_wp2_with fail);(try rw [Exit.noGoto_ret]);(try go_ret);refine ⟨_,rfl,by rw [zK,zK,HXX.out,bk1],?_⟩;rw [HG.out];exact Go.RowKit.Below.trans HB.out (Go.RowKit.Below.mono (zM (zG _ _)) (Nat.le_of_lt yl))
theorem dM {ns:List NodeL} {A:Option Addr} {c i ia:Nat} {k:Nat} {v:ByteArray} (hi:i < ns.length) (hr:ns[i]=⟨2,ia,0,0,zc⟩) (hia:ia < ns.length) (hra:ns[ia]=⟨1,0,0,k,v⟩) (hk:k < 3) (hv:v.size≤12) (hn:ns.length≤9223372036854775807) :
 qc ns A c i (MT.keyT k++[32,33,61,32]++bts v):=fun w hl=>by
 obtain ⟨b,off,hA,hbl,y0,y1,y2,y3,y4⟩:=Lies.at5 hl hi
 rw [hr] at y0 y1 y2 y3 y4
 simp only at y0 y1 y2 y3 y4
 subst hA
 have i0:(0:Int)≤(i:Int):=by omega
 have i1:(i:Int) < (ns.length:Int):=by omega
 have j0:(0:Int)≤(ia:Int):=by omega
 have j1:(ia:Int) < (ns.length:Int):=by omega
 have k0:(0:Int)≤(k:Int):=by omega
 have k1:(k:Int) < 3:=by omega
 have HK:=hid hk
 have HL:=hid hl
 have HROW:=hid (t6 hl hia hra)
 clear hl hr hi hk hra hia
 generalize hnn:ns.length=n at *
 have HN:=hid hnn
 clear hnn
 have mixed:Tryz.prog.follows .mixedOrders=true:=by kernel_rfl
 go_enter Tryz.func217,Tryz.ntmps217
 go_upto_region 2 with fail
 refine zI ?_
 intro u0 hu
 have HX:=hid (show Box u0 w.heap.size (NodeL.cells ⟨2,ia,0,0,zc⟩) by rw [hu]; exact Box.new w _ 278)
 have HB:=hid (show KB w.heap.size w u0 by rw [hu]; exact zG _ _)
 clear hu y0 y1 y2 y3 y4 hbl
 obtain ⟨hbl,z0,z1,z2,z3,z4⟩:=HROW.out u0 HB.out
 generalize hgg:w.heap.size=g at *
 have HG:=hid hgg
 clear hgg
 have y0:=HX.out.2 0 _ rfl
 have y1:=HX.out.2 1 _ rfl
 have yl:=HX.out.1
 go_upto_region 7 with fail
 refine zI ?_
 intro u1 hu
 have HX1:=hid (show Box u1 u0.heap.size (NodeL.cells ⟨1,0,0,k,v⟩) by rw [hu]; exact Box.new u0 _ 278)
 have HB:=hid (show KB g w u1 by rw [hu]; exact Go.RowKit.Below.trans HB.out (Go.RowKit.Below.mono (zG _ _) (Nat.le_of_lt yl)))
 have hg1:g≤u1.heap.size:=by rw [hu,World.size_alloc]; omega
 clear hu y0 y1 yl z0 z1 z2 z3 z4
 generalize u0.heap.size=g1 at *
 have y0:=HX1.out.2 0 _ rfl
 have y3:=HX1.out.2 3 _ rfl
 have y4:=HX1.out.2 4 _ rfl
 have yl:=HX1.out.1
 go_upto_region 8 with fail
 go_region_with (refine (mT _).mono ?_; rintro _ _ ⟨rfl,rfl⟩; obtain ⟨x,hx,hxs,hc⟩:=fS u1 k HK.out; have HXX:=hid hx; clear hx)
 all_goals
  (go_wp2_with fail);(try rw [Exit.noGoto_ret]);(try go_ret);refine ⟨_,rfl,by rw [zK,zK,HXX.out,bk4],?_⟩;rw [HG.out];exact Go.RowKit.Below.trans HB.out (Go.RowKit.Below.mono (zM (zG _ _)) hg1)
theorem mV {ns:List NodeL} {A:Option Addr} {c i ia:Nat} {oa:Int} {T:List UInt8} (hi:i < ns.length) (hr:ns[i]=⟨2,ia,0,0,zc⟩) (hia:ia < ns.length) (hoa:ns[ia].op=oa) (h1:oa≠1) (hT:T.length≤4096) (hc:qc ns A c ia T) (hn:ns.length≤9223372036854775807) :
 qc ns A c i ([110,111,116,32]++MT.inB T (oa != 2)):=fun w hl=>by
 obtain ⟨b,off,hA,hbl,y0,y1,y2,y3,y4⟩:=Lies.at5 hl hi
 rw [hr] at y0 y1 y2 y3 y4
 simp only at y0 y1 y2 y3 y4
 subst hA
 have i0:(0:Int)≤(i:Int):=by omega
 have i1:(i:Int) < (ns.length:Int):=by omega
 have j0:(0:Int)≤(ia:Int):=by omega
 have j1:(ia:Int) < (ns.length:Int):=by omega
 have h1':(oa==1)=false:=by rw [beq_eq_false_iff_ne]; exact h1
 have HH:=hid (fun u hl=>g8 hc hT (oa != 2) u hl)
 have hIT:(MT.inB T (oa != 2)).length≤5000:=by have:=MT.inB_len T (oa != 2); omega
 have HIT:=hid hIT
 have HL:=hid hl
 obtain ⟨⟨xo,xxa,xxb,xk,xt⟩,hra⟩:∃ x,ns[ia]=x:=⟨_,rfl⟩
 have hxo:xo=oa:=by rw [hra] at hoa; exact hoa
 subst hxo
 have HROW:=hid (t6 hl hia hra)
 clear hl hr hi hra hoa hc hT hIT hia
 generalize hnn:ns.length=n at *
 have HN:=hid hnn
 clear hnn
 go_enter Tryz.func217,Tryz.ntmps217
 go_upto_region 2 with fail
 refine zI ?_
 intro u0 hu
 have HX:=hid (show Box u0 w.heap.size (NodeL.cells ⟨2,ia,0,0,zc⟩) by rw [hu]; exact Box.new w _ 278)
 have HB:=hid (show KB w.heap.size w u0 by rw [hu]; exact zG _ _)
 clear hu y0 y1 y2 y3 y4 hbl
 obtain ⟨hbl,z0,z1,z2,z3,z4⟩:=HROW.out u0 HB.out
 generalize hgg:w.heap.size=g at *
 have HG:=hid hgg
 clear hgg
 have y0:=HX.out.2 0 _ rfl
 have y1:=HX.out.2 1 _ rfl
 have yl:=HX.out.1
 go_upto_region 7 with fail
 refine zI ?_
 intro u1 hu
 have HX1:=hid (show Box u1 u0.heap.size [.int .i64 xo,.int .i64 xxa,.int .i64 xxb,.int .i64 xk,.string xt] by rw [hu]; exact Box.new u0 _ 278)
 have HX0:=hid (show Box u1 g _ by rw [hu]; exact HX.out.kb (zG _ _))
 have HB1:=hid (show KB g w u1 by rw [hu]; exact Go.RowKit.Below.trans HB.out (Go.RowKit.Below.mono (zG _ _) (Nat.le_of_lt yl)))
 have hg1:g≤u1.heap.size:=by rw [hu,World.size_alloc]; omega
 clear hu y0 y1 yl z0 z1 z2 z3 z4
 generalize u0.heap.size=g1 at *
 have y0:=HX1.out.2 0 _ rfl
 have yl:=HX1.out.1
 have x1:=HX0.out.2 1 _ rfl
 have xl:=HX0.out.1
 have HH:=hid (HH.out u1 (HL.out.kb (by rw [HG.out]; exact HB1.out)))
 go_upto_region 9 with fail
 go_wp2_with fail
 refine HH.out.mono ?_
 rintro _ u2 ⟨s,rfl,hs,hb⟩
 have HS:=hid hs
 have HB2:=hid hb
 have hsz:s.size≤5000:=by rw [← zF,hs]; exact HIT.out
 clear hs hb
 go_wp2_with fail
 try rw [Exit.noGoto_ret]
 try go_ret
 refine ⟨_,rfl,by rw [zK,HS.out,bk5]<;>rfl,?_⟩
 rw [HG.out]
 exact Go.RowKit.Below.trans HB1.out (Go.RowKit.Below.mono HB2.out hg1)
theorem o6 {w w1 w2:World} {g:Nat} (hg:g≤w1.heap.size) (h:KB g w w1) (k:KB w1.heap.size w1 w2):KB g w w2:=Go.RowKit.Below.trans h (Go.RowKit.Below.mono k hg)
theorem s7 {w w1 w2:World} {g:Nat} (hg:w.heap.size=g) (h:KB g w w1) (k:KB w1.heap.size w1 w2):KB w.heap.size w w2:=by subst hg; exact zA h k
theorem bv {ns:List NodeL} {A:Option Addr} {c i ia ib:Nat} {oa ob:Int} {Ta Tb:List UInt8} (hi:i < ns.length) (hr:ns[i]=⟨3,ia,ib,0,zc⟩) (hia:ia < ns.length) (hoa:ns[ia].op=oa) (hib:ib < ns.length) (hob:ns[ib].op=ob)
 (hTa:Ta.length≤4096) (hTb:Tb.length≤4096) (hca:qc ns A c ia Ta) (hcb:qc ns A c ib Tb) (hn:ns.length≤9223372036854775807) :
 qc ns A c i (MT.inB Ta (oa==4)++[32,97,110,100,32]++MT.inB Tb (ob==4 || ob==3)):=fun w hl=>by
 obtain ⟨b,off,hA,hbl,y0,y1,y2,y3,y4⟩:=Lies.at5 hl hi
 rw [hr] at y0 y1 y2 y3 y4
 simp only at y0 y1 y2 y3 y4
 subst hA
 have i0:(0:Int)≤(i:Int):=by omega
 have i1:(i:Int) < (ns.length:Int):=by omega
 have j0:(0:Int)≤(ia:Int):=by omega
 have j1:(ia:Int) < (ns.length:Int):=by omega
 have j2:(0:Int)≤(ib:Int):=by omega
 have j3:(ib:Int) < (ns.length:Int):=by omega
 have HHA:=hid (fun u hl=>g8 hca hTa (oa==4) u hl)
 have HHB:=hid (fun bb u hl=>g8 hcb hTb bb u hl)
 have HLA:=hid (show (MT.inB Ta (oa==4)).length≤5000 by have:=MT.inB_len Ta (oa==4); omega)
 have HLB:=hid (fun bb=>show (MT.inB Tb bb).length≤5000 by have:=MT.inB_len Tb bb; omega)
 have HL:=hid hl
 obtain ⟨⟨xo,xxa,xxb,xk,xt⟩,hra⟩:∃ x,ns[ia]=x:=⟨_,rfl⟩
 have hxo:xo=oa:=by rw [hra] at hoa; exact hoa
 subst hxo
 obtain ⟨⟨yo,yya,yyb,yk,yt⟩,hrb⟩:∃ x,ns[ib]=x:=⟨_,rfl⟩
 have hyo:yo=ob:=by rw [hrb] at hob; exact hob
 subst hyo
 have HRA:=hid (t6 hl hia hra)
 have HRB:=hid (t6 hl hib hrb)
 clear hl hr hi hra hoa hrb hob hca hcb hTa hTb hia hib
 generalize hnn:ns.length=n at *
 have HN:=hid hnn
 clear hnn
 go_enter Tryz.func217,Tryz.ntmps217
 go_upto_region 2 with fail
 refine zI ?_
 intro u1 hu
 have HX:=hid (show Box u1 w.heap.size (NodeL.cells ⟨3,ia,ib,0,zc⟩) by rw [hu]; exact Box.new w _ 278)
 have HB:=hid (show KB w.heap.size w u1 by rw [hu]; exact zG _ _)
 clear hu y0 y1 y2 y3 y4 hbl
 have HG:=hid (Nat.le_of_lt HX.out.1)
 generalize hgg:w.heap.size=g at *
 have HGG:=hid hgg
 clear hgg
 have y0:=HX.out.2 0 _ rfl
 go_upto_region 11 with fail
 have hS:KB u1.heap.size u1 u1.drew:=zM (zH _)
 obtain ⟨bb,hbb,hcase⟩:∃ bb:Bool,bb=(yo==4 || yo==3)∧(((yo==4)=true∧bb=true)∨((yo==4)=false∧(yo==3)=bb)):=by
  refine ⟨_,rfl,?_⟩;cases h4:(yo==4)
  ·exact .inr ⟨rfl,by simp⟩
  ·exact .inl ⟨rfl,by simp⟩
 have HBB:=hid hbb
 have HHB:=hid (HHB.out bb)
 have HLB:=hid (HLB.out bb)
 clear hbb
 rcases hcase with ⟨h4,rfl⟩ | ⟨h4,h3⟩
 all_goals
  (refine wpS (fun u=>KB u1.heap.size u1 u) (.call [0,1,2,3,4,5,6,7,8,9,12,13,14,15,16,17,18,19,20,21] 10 (.call [11,22,23,24,25,26,27,28,29,30] 31 (.last [32,33]))) fun iS=>?_);(have q1:=fun (z:SW fun u=>KB u1.heap.size u1 u)=>(HX.out.kb z.ok).2 1 _ rfl);(have q2:=fun (z:SW fun u=>KB u1.heap.size u1 u)=>(HX.out.kb z.ok).2 2 _ rfl);(have q3:=fun (z:SW fun u=>KB u1.heap.size u1 u)=>(HX.out.kb z.ok).1);(have q4:=fun (z:SW fun u=>KB u1.heap.size u1 u)=>(HRA.out z.v (o6 HG.out HB.out z.ok)).1);(have q5:=fun (z:SW fun u=>KB u1.heap.size u1 u)=>(HRA.out z.v (o6 HG.out HB.out z.ok)).2.1);(have q6:=fun (z:SW fun u=>KB u1.heap.size u1 u)=>(HRB.out z.v (o6 HG.out HB.out z.ok)).2.1);(with_reducible refine zD ?_);simp only [zB,pka,pkb,pkc,pkd,pke,pkf];(repeat go_big_quiet_step (fail));refine wpQuiet_nil ?_;(go_wp2_with fail);refine (HHA.out _ (HL.out.kb (s7 HGG.out HB.out hS))).mono ?_;rintro _ u2 ⟨s1,rfl,hs,hb⟩;have HS1:=hid hs;have HB2:=hid (show KB u1.heap.size u1 u2 from Go.RowKit.Below.trans hS hb);(have hz1:s1.size≤5000:=by rw [← zF,hs]; exact HLA.out);clear hs hb;(go_wp2_with fail);refine zE (HB2.out) ?_;(with_reducible refine zD ?_);simp only [zB,pka,pkb,pkc,pkd,pke,pkf];(repeat go_big_quiet_step (fail));refine wpQuiet_nil ?_;(go_wp2_with fail);refine (HHB.out _ (HL.out.kb (s7 HGG.out HB.out HB2.out))).mono ?_;rintro _ u3 ⟨s2,rfl,hs,hb⟩
  have HS2:=hid hs;have HB3:=hid (show KB u1.heap.size u1 u3 from zA HB2.out hb);(have hz2:s2.size≤5000:=by rw [← zF,hs]; exact HLB.out);clear hs hb;(go_wp2_with fail);refine zE (HB3.out) ?_;(with_reducible refine zJ ?_);simp only [zB,pka,pkb,pkc,pkd,pke,pkf];(repeat go_big_quiet_step (fail));refine wpQuiet_nil ?_;clear q1 q2 q3 q4 q5 q6 iS hS;(go_wp2_with fail);(try rw [Exit.noGoto_ret]);(try go_ret);refine ⟨_,rfl,by rw [← HBB.out,zK,zK,HS1.out,HS2.out,bk6]<;>rfl,?_⟩;exact s7 HGG.out HB.out HB3.out
theorem Ys {ns:List NodeL} {A:Option Addr} {c i ia ib:Nat} {oa ob:Int} {Ta Tb:List UInt8} (hi:i < ns.length) (hr:ns[i]=⟨4,ia,ib,0,zc⟩) (hia:ia < ns.length) (hoa:ns[ia].op=oa) (hib:ib < ns.length) (hob:ns[ib].op=ob)
 (hTa:Ta.length≤4096) (hTb:Tb.length≤4096) (hca:qc ns A c ia Ta) (hcb:qc ns A c ib Tb) (hn:ns.length≤9223372036854775807) :
 qc ns A c i (Ta++[32,111,114,32]++MT.inB Tb (ob==4)):=fun w hl=>by
 obtain ⟨b,off,hA,hbl,y0,y1,y2,y3,y4⟩:=Lies.at5 hl hi
 rw [hr] at y0 y1 y2 y3 y4
 simp only at y0 y1 y2 y3 y4
 subst hA
 have i0:(0:Int)≤(i:Int):=by omega
 have i1:(i:Int) < (ns.length:Int):=by omega
 have j0:(0:Int)≤(ia:Int):=by omega
 have j1:(ia:Int) < (ns.length:Int):=by omega
 have j2:(0:Int)≤(ib:Int):=by omega
 have j3:(ib:Int) < (ns.length:Int):=by omega
 have HHA:=hid (fun u (hl:Lies 5 NodeL.cells u (some ⟨b,off,none⟩) ns)=>hca u hl)
 have HHB:=hid (fun bb u hl=>g8 hcb hTb bb u hl)
 have HLA:=hid (show Ta.length≤5000 by omega)
 have HLB:=hid (fun bb=>show (MT.inB Tb bb).length≤5000 by have:=MT.inB_len Tb bb; omega)
 have HL:=hid hl
 obtain ⟨⟨yo,yya,yyb,yk,yt⟩,hrb⟩:∃ x,ns[ib]=x:=⟨_,rfl⟩
 have hyo:yo=ob:=by rw [hrb] at hob; exact hob
 subst hyo
 have HRB:=hid (t6 hl hib hrb)
 clear hl hr hi hoa hrb hob hca hcb hTa hTb hia hib
 generalize hnn:ns.length=n at *
 have HN:=hid hnn
 clear hnn
 go_enter Tryz.func217,Tryz.ntmps217
 go_upto_region 2 with fail
 refine zI ?_
 intro u1 hu
 have HX:=hid (show Box u1 w.heap.size (NodeL.cells ⟨4,ia,ib,0,zc⟩) by rw [hu]; exact Box.new w _ 278)
 have HB:=hid (show KB w.heap.size w u1 by rw [hu]; exact zG _ _)
 clear hu y0 y1 y2 y3 y4 hbl
 have HG:=hid (Nat.le_of_lt HX.out.1)
 generalize hgg:w.heap.size=g at *
 have HGG:=hid hgg
 clear hgg
 have y0:=HX.out.2 0 _ rfl
 go_upto_region 12 with fail
 have hS:KB u1.heap.size u1 u1.drew:=zM (zH _)
 have HHB:=hid (HHB.out (yo==4))
 have HLB:=hid (HLB.out (yo==4))
 refine wpS (fun u=>KB u1.heap.size u1 u) (.call [0,1,2,5,6,7,8,9,10,11,12,13,14] 3 (.call [4] 15 (.last [16,17]))) fun iS=>?_
 have q1:=fun (z:SW fun u=>KB u1.heap.size u1 u)=>(HX.out.kb z.ok).2 1 _ rfl
 have q2:=fun (z:SW fun u=>KB u1.heap.size u1 u)=>(HX.out.kb z.ok).2 2 _ rfl
 have q3:=fun (z:SW fun u=>KB u1.heap.size u1 u)=>(HX.out.kb z.ok).1
 have q4:=fun (z:SW fun u=>KB u1.heap.size u1 u)=>(HRB.out z.v (o6 HG.out HB.out z.ok)).1
 have q5:=fun (z:SW fun u=>KB u1.heap.size u1 u)=>(HRB.out z.v (o6 HG.out HB.out z.ok)).2.1
 with_reducible refine zD ?_
 simp only [zB,pka,pkb,pkc,pkd,pke,pkf]
 repeat go_big_quiet_step (fail)
 refine wpQuiet_nil ?_
 go_wp2_with fail
 refine (HHA.out _ (HL.out.kb (s7 HGG.out HB.out hS))).mono ?_
 rintro _ u2 ⟨s1,rfl,hs,hb⟩
 have HS1:=hid hs
 have HB2:=hid (show KB u1.heap.size u1 u2 from Go.RowKit.Below.trans hS hb)
 have hz1:s1.size≤5000:=by rw [← zF,hs]; exact HLA.out
 clear hs hb
 go_wp2_with fail
 refine zE (HB2.out) ?_
 with_reducible refine zD ?_
 simp only [zB,pka,pkb,pkc,pkd,pke,pkf]
 repeat go_big_quiet_step (fail)
 refine wpQuiet_nil ?_
 go_wp2_with fail
 refine (HHB.out _ (HL.out.kb (s7 HGG.out HB.out HB2.out))).mono ?_
 rintro _ u3 ⟨s2,rfl,hs,hb⟩
 have HS2:=hid hs
 have HB3:=hid (show KB u1.heap.size u1 u3 from zA HB2.out hb)
 have hz2:s2.size≤5000:=by rw [← zF,hs]; exact HLB.out
 clear hs hb
 go_wp2_with fail
 refine zE (HB3.out) ?_
 with_reducible refine zJ ?_
 simp only [zB,pka,pkb,pkc,pkd,pke,pkf]
 repeat go_big_quiet_step (fail)
 refine wpQuiet_nil ?_
 clear q1 q2 q3 q4 q5 iS hS
 go_wp2_with fail
 try rw [Exit.noGoto_ret]
 try go_ret
 refine ⟨_,rfl,by rw [zK,zK,HS1.out,HS2.out,bk7]<;>rfl,?_⟩
 exact s7 HGG.out HB.out HB3.out
theorem MT.root_op (s:Nat):∀ t:MT,(t.root s).op=t.op
 | .is _ _=>rfl
 | .not _=>rfl
 | .both _ _=>rfl
 | .one _ _=>rfl
theorem td {v:ByteArray} (h:zY (bts v)=true):v.size≤12:=by
 have h2:=h;simp only [zY,Bool.and_eq_true,decide_eq_true_eq] at h2;have:=zF v;omega
theorem MT.short {t:MT} (h:t.ok) (hz:t.size≤15):t.text.length≤4096:=by
 have:=MT.text_len t h;omega
theorem uM {ns:List NodeL} {A:Option Addr} {c:Nat} (hn:ns.length≤9223372036854775807):∀ (t:MT) (s:Nat),t.ok→t.size≤15→t.Sits ns s→qc ns A c (s+t.size - 1) t.text
 | .is k v,s,h,hz,hs=>by
  obtain ⟨hl,hr⟩:=hs.root;exact WR hl hr h.1 (td h.2) hn
 | .not u,s,h,hz,hs=>by
  (have hzu:u.size≤15:=by simp only [MT.size] at hz; omega);have ih:=uM (A:=A) (c:=c) hn u s h hzu hs.not;obtain ⟨hl,hr⟩:=hs.root;obtain ⟨hla,hra⟩:=hs.not.root;cases u with
  | is k v=>exact dM hl hr hla hra h.1 (td h.2) hn
  | not x=>exact mV hl hr hla (by rw [hra]; rfl) (by simp [MT.op]) (MT.short (t := .not x) h hzu) ih hn
  | both x y=>exact mV hl hr hla (by rw [hra]; rfl) (by simp [MT.op]) (MT.short (t := .both x y) h hzu) ih hn
  | one x y=>exact mV hl hr hla (by rw [hra]; rfl) (by simp [MT.op]) (MT.short (t := .one x y) h hzu) ih hn
 | .both x y,s,h,hz,hs=>by
  (have hzx:x.size≤15:=by simp only [MT.size] at hz; omega);(have hzy:y.size≤15:=by simp only [MT.size] at hz; omega);have ix:=uM (A:=A) (c:=c) hn x s h.1 hzx hs.both.1;have iy:=uM (A:=A) (c:=c) hn y (s+x.size) h.2 hzy hs.both.2;obtain ⟨hl,hr⟩:=hs.root;obtain ⟨hla,hra⟩:=hs.both.1.root;obtain ⟨hlb,hrb⟩:=hs.both.2.root;exact bv hl hr hla (by rw [hra,MT.root_op]) hlb (by rw [hrb,MT.root_op]) (MT.short h.1 hzx) (MT.short h.2 hzy) ix iy hn
 | .one x y,s,h,hz,hs=>by
  (have hzx:x.size≤15:=by simp only [MT.size] at hz; omega);(have hzy:y.size≤15:=by simp only [MT.size] at hz; omega);have ix:=uM (A:=A) (c:=c) hn x s h.1 hzx hs.one.1;have iy:=uM (A:=A) (c:=c) hn y (s+x.size) h.2 hzy hs.one.2;obtain ⟨hl,hr⟩:=hs.root;obtain ⟨hla,hra⟩:=hs.one.1.root;obtain ⟨hlb,hrb⟩:=hs.one.2.root;exact Ys hl hr hla (by rw [hra,MT.root_op]) hlb (by rw [hrb,MT.root_op]) (MT.short h.1 hzx) (MT.short h.2 hzy) ix iy hn
theorem MT.starts_le:∀ (t:MT) (s:Nat) (j x:Nat),(t.starts s)[j]?=some x→s≤x∧x≤s+j
 | .is k v,s,j,x,h=>by
  match j with
  | 0=>simp [MT.starts] at h; omega
  | j+1=>simp [MT.starts] at h
 | .not t,s,j,x,h=>by
  rcases Nat.lt_or_ge j t.size with k | k
  ·rw [MT.starts,List.getElem?_append_left (by rw [MT.starts_len]; exact k)] at h;exact MT.starts_le t s j x h
  ·rw [MT.starts,List.getElem?_append_right (by rw [MT.starts_len]; exact k)] at h;obtain rfl:x=s:=one_el h;omega
 | .both a b,s,j,x,h=>two a b s j x (MT.starts_le a s) (MT.starts_le b (s+a.size)) h
 | .one a b,s,j,x,h=>two a b s j x (MT.starts_le a s) (MT.starts_le b (s+a.size)) h
where
 one_el {s k x:Nat} (h:[s][k]?=some x):x=s:=by
  match k with
  | 0=>simp at h; omega
  | k+1=>simp at h
 two (a b:MT) (s j x:Nat) (ia:∀ j x,(a.starts s)[j]?=some x→s≤x∧x≤s+j) (ib:∀ j x,(b.starts (s+a.size))[j]?=some x→s+a.size≤x∧x≤s+a.size+j)
  (h:(a.starts s++(b.starts (s+a.size)++[s]))[j]?=some x):s≤x∧x≤s+j:=by
  rcases Nat.lt_or_ge j a.size with k | k
  ·rw [List.getElem?_append_left (by rw [MT.starts_len]; exact k)] at h;exact ia j x h
  ·rw [List.getElem?_append_right (by rw [MT.starts_len]; exact k),MT.starts_len] at h;rcases Nat.lt_or_ge (j - a.size) b.size with k2 | k2
   ·rw [List.getElem?_append_left (by rw [MT.starts_len]; exact k2)] at h;have:=ib _ x h;omega
   ·rw [List.getElem?_append_right (by rw [MT.starts_len]; exact k2)] at h;obtain rfl:x=s:=one_el h;omega
def MT.st (t:MT) (j:Nat):Nat:=(t.starts 0).getD j 0
theorem MT.st_le (t:MT) (j:Nat):t.st j≤j:=by
 unfold MT.st;rw [List.getD_eq_getElem?_getD];cases h:(t.starts 0)[j]? with
 | none=>exact Nat.zero_le _
 | some x=>have:=MT.starts_le t 0 j x h; simp; omega
theorem MT.st_ok (t:MT) (h:t.ok):∀ j n,(t.lay 0)[j]?=some n→NodeOk t.st j n:=fun j n hn=>by
 have:=MT.lay_ok t.st t 0 h (fun j x hx=>by rw [Nat.zero_add]; unfold MT.st; rw [List.getD_eq_getElem?_getD,hx]; rfl) j n hn
 rwa [Nat.zero_add] at this
theorem MT.st_last (t:MT):t.st ((t.lay 0).length - 1)=0:=by
 unfold MT.st;rw [List.getD_eq_getElem?_getD,MT.lay_len,MT.starts_last]; rfl
theorem MT.sits0 (t:MT):t.Sits (t.lay 0) 0:=⟨[],[],by simp,rfl⟩
namespace MT
end MT
end Go.Proofs.YtiffijoenkcpjaaGreatDoor
