import Derived.Test.YtiffijoenkcpjaaGreatDoorYOa
set_option linter.unusedVariables false
set_option linter.unusedSimpArgs false
set_option maxRecDepth 100000
set_option maxHeartbeats 2000000
namespace Go.Proofs.YtiffijoenkcpjaaGreatDoor
open Go.RowKit Go.Lib
open Rw
def PutO2 (w:World) (B:Nat) (o:Option Nat) (l:List ByteArray) (s:ByteArray) (e:Ending) (w':World):Prop:=∃ (A:Option Addr) (c:Nat) (m:List ByteArray),e = .returned (.slice A m.length c)∧OfH (xH w' B o) A c m∧m.length≤l.length+1∧(∀ x∈m,x∈l∨x=s)∧(RiseB l→RiseB m)∧Below w.heap.size w w'
theorem put_fin2 {w w':World} {base B:Nat} {o:Option Nat} {v:Value} {n:Nat} {xs:List Value} {l:List ByteArray} {s:ByteArray} {k:Nat} (hB:B≤base) (ho:∀ q,o=some q→q < base) (h:w'.ownsRow base 9 1 v n xs) (hn:n=l.length+1) (hk:k≤l.length) (hxs:xs=(l.take k).flatMap wz++wz s++(l.drop k).flatMap wz) (hb:Below w.heap.size w w') (hR:RiseB l→RiseB (l.take k++[s]++l.drop k)):PutO2 w B o l s (.returned v) w':=by
 (have e:xs=(l.take k++[s]++l.drop k).flatMap wz:=by rw [hxs]; simp);(have hlen:(l.take k++[s]++l.drop k).length=n:=by simp; omega);obtain ⟨g,c,rfl,hg,hlt,hc,hcell⟩:=vN h (by omega);refine ⟨some ⟨g,0,none⟩,c,l.take k++[s]++l.drop k,by rw [hlen],.inr ⟨g,rfl,by rw [xL]; exact hlt,by omega,by omega,fun i hi=>?_⟩,by omega,fun x hx=>?_,hR,hb⟩
 ·refine wQ.2 ⟨⟨Nat.le_trans hB hg,fun q=>by have:=ho g q; omega⟩,?_⟩;rw [hcell i (by omega),e];(have e2:(l.take k++[s]++l.drop k).flatMap wz=(l.take k++[s]++l.drop k).map Value.string:=by rw [List.map_eq_flatMap]);rw [e2,List.getElem?_map,List.getElem?_eq_getElem hi];rfl
 ·rcases List.mem_append.1 hx with hx | hx
  ·rcases List.mem_append.1 hx with hx | hx
   ·exact .inl (List.mem_of_mem_take hx)
   ·exact .inr (List.mem_singleton.1 hx)
  ·exact .inl (List.mem_of_mem_drop hx)
theorem lput_anyN (B:Nat) (o:Option Nat) (A:Option Addr) (c:Nat) (l:List ByteArray) (s:ByteArray) (w:World) (hl:OfH (xH w B o) A c l) (hB:B≤w.heap.size) (ho:∀ q,o=some q→q < w.heap.size) (hn:l.length≤100):Calls Tryz.prog 108 #[.slice A l.length c,.string s] w (PutO2 w B o l s):=by
 rcases id hl with ⟨rfl,rfl,rfl⟩ | ⟨g,rfl,hg,hn0,hc,hcell⟩
 ·have HS1:=hid (fun u (_:Below w.heap.size w u)=>show tw u none 0 1 (([]:List ByteArray).flatMap wz) from ⟨rfl,(fun _=>rfl),fun ad e=>by cases e⟩);have HS2:=HS1;obtain ⟨k,hk0⟩:∃ k:Nat,k=0:=⟨0,rfl⟩;have HRI:=hid (show RiseB []→RiseB (([]:List ByteArray).take k++[s]++([]:List ByteArray).drop k) from fun h=>rise_put h (by simp) (by simp));have hS:Below w.heap.size w w.drew:=Below.drew (Below.refl _ _);clear hl;go_enter Tryz.func108,Tryz.ntmps108;(go_upto_block 0 with fail);(go_wp2_with fail);go_loopw [5] (fun i ww=>i = .int .i64 0∧w=ww) (fun i _=>(intOf i).toNat)
  case atStart=>exact ⟨rfl,rfl⟩
  case round =>
   obtain ⟨rfl,rfl⟩:=hrel;(go_upto_region 6 with fail);(refine wpS (fun u=>Below w.heap.size w u) (.two [0,1,2,4,7,8,9] 3 5 (.call [] 5 (.call [] 6 (.call [] 10 (.last [11])))) (.call [] 3 (.call [] 6 (.call [] 10 (.last [11]))))) fun iS=>?_);(with_reducible refine uh ?_);simp only [zB,pka,pkb,pkc,pkd,pke,pkf];(repeat go_big_quiet_step (fail));refine wpQuiet_nil ?_;refine ⟨?_,?_⟩
   ·(go_wp2_with (at_builtin; refine zW yd rfl (.const (.slice none 0 0)) (.tmp 35) rfl rfl (World.ownsRow_nil _ w.heap.size _ _) rfl (HS1.out _ hS) (yw _) (by unfold maxLen; omega) (by omega) (Nat.le_refl _) ?_; intro v1 w3 h2 h3 _; have HO3:=hid h2; have HB3:=hid (Go.RowKit.Hid.out (hid (zC hS (w2:=w3) h3))); clear h2 h3));refine zE HB3.out ?_;(with_reducible refine zD ?_);simp only [zB,pka,pkb,pkc,pkd,pke,pkf];(repeat go_big_quiet_step (fail));refine wpQuiet_nil ?_;(go_wp2_with fail);refine zE (zC HB3.out (zL _ _)) ?_;(with_reducible refine zD ?_);simp only [zB,pka,pkb,pkc,pkd,pke,pkf];(repeat go_big_quiet_step (fail));refine wpQuiet_nil ?_;(go_wp2_with (at_builtin; refine zW yd rfl (.tmp 36) (.tmp 38) rfl rfl (tG HO3.out (zG _ _)) rfl (uN _ (wz s) 9 1 rfl) (vW s) (by unfold maxLen; omega) (by omega) (by rw [World.size_alloc]; have:=HB3.out.size; omega) ?_; intro v2 w4 h5 h6 _; have HO4:=hid h5; have HB4:=hid (show Below w.heap.size w w4 from (zC HB3.out (zL _ _)).trans h6); clear h5 h6));refine zE HB4.out ?_;(with_reducible refine zD ?_);simp only [zB,pka,pkb,pkc,pkd,pke,pkf];(repeat go_big_quiet_step (fail));refine wpQuiet_nil ?_;go_wp2_with (at_builtin; refine zW yd rfl (.tmp 39) (.tmp 42) rfl rfl HO4.out rfl (HS2.out _ HB4.out) (yw _) (by unfold maxLen; omega) (by omega) HB4.out.size ?_; intro v3 w5 h5 h6 _; have HO5:=hid h5; have HB5:=hid (show Below w.heap.size w w5 from HB4.out.trans h6); clear h5 h6)
    refine zE HB5.out ?_;(with_reducible refine zJ ?_);simp only [zB,pka,pkb,pkc,pkd,pke,pkf];(repeat go_big_quiet_step (fail));refine wpQuiet_nil ?_;clear iS;(go_wp2_with fail);(try rw [Exit.noGoto_ret]);(try go_ret);exact put_fin2 (k:=k) hB ho HO5.out (by first | omega | (have:=HN.out; omega) | (simp; done)) (by first | omega | (have:=HN.out; omega) | (simp; omega)) (by rw [hk0]; rfl) HB5.out HRI.out
   ·(go_wp2_with fail);have HB2:=hid (show Below w.heap.size w ((w.alloc (.cells #[.string s] 9)).drew) from Below.drew (zL w _));have HBX:=hid (show Box ((w.alloc (.cells #[.string s] 9)).drew) w.heap.size (wz s) from (Box.new w (wz s) 9).below (Below.drew (Below.refl _ _)));generalize ((w.alloc (.cells #[.string s] 9)).drew)=w2 at *;refine zE HB2.out ?_;(with_reducible refine zD ?_);simp only [zB,pka,pkb,pkc,pkd,pke,pkf];(repeat go_big_quiet_step (fail));refine wpQuiet_nil ?_;(go_wp2_with (at_builtin; refine zW yd rfl (.const (.slice none 0 0)) (.tmp 35) rfl rfl (World.ownsRow_nil _ w2.heap.size _ _) rfl (HS1.out _ HB2.out) (yw _) (by unfold maxLen; omega) (by omega) (Nat.le_refl _) ?_; intro v1 w3 h2 h3 _; have HO3:=hid h2; have HB3:=hid (show Below w.heap.size w w3 from zC HB2.out h3); have HBX3:=hid (HBX.out.below h3); have HSZ:=hid h3.size; clear h2 h3));refine zE HB3.out ?_;(with_reducible refine zD ?_);simp only [zB,pka,pkb,pkc,pkd,pke,pkf];(repeat go_big_quiet_step (fail));refine wpQuiet_nil ?_;go_wp2_with (at_builtin; refine zW yd rfl (.tmp 36) (.tmp 38) rfl rfl HO3.out rfl (qm HBX3.out (show (wz s).length=1 * 1 from rfl)) (vW s) (by unfold maxLen; omega) (by omega) HSZ.out ?_; intro v2 w4 h5 h6 _; have HO4:=hid h5; have HB4:=hid (show Below w.heap.size w w4 from HB3.out.trans (h6.mono HB2.out.size)); have HSZ4:=hid (Nat.le_trans HSZ.out h6.size); clear h5 h6)
    refine zE HB4.out ?_;(with_reducible refine zD ?_);simp only [zB,pka,pkb,pkc,pkd,pke,pkf];(repeat go_big_quiet_step (fail));refine wpQuiet_nil ?_;(go_wp2_with (at_builtin; refine zW yd rfl (.tmp 39) (.tmp 42) rfl rfl HO4.out rfl (HS2.out _ HB4.out) (yw _) (by unfold maxLen; omega) (by omega) HSZ4.out ?_; intro v3 w5 h5 h6 _; have HO5:=hid h5; have HB5:=hid (show Below w.heap.size w w5 from HB4.out.trans (h6.mono HB2.out.size)); clear h5 h6));refine zE HB5.out ?_;(with_reducible refine zJ ?_);simp only [zB,pka,pkb,pkc,pkd,pke,pkf];(repeat go_big_quiet_step (fail));refine wpQuiet_nil ?_;clear iS;(go_wp2_with fail);(try rw [Exit.noGoto_ret]);(try go_ret);exact put_fin2 (k:=k) (Nat.le_trans hB HB2.out.size) (fun q e=>Nat.lt_of_lt_of_le (ho q e) HB2.out.size) HO5.out (by first | omega | (have:=HN.out; omega) | (simp; done)) (by first | omega | (have:=HN.out; omega) | (simp; omega)) (by rw [hk0]; rfl) HB5.out HRI.out
 ·have HCL:=hid (fun i (hi:i < l.length)=>(wQ.1 (hcell i hi)).2);(have hgw:g < w.heap.size:=by rw [xL] at hg; exact hg);have HL:=hid hl;have HSA:=hid (fun (k:Nat) (hk:k≤l.length) u (hb:Below w.heap.size w u)=>Yo (w:=u) (g:=g) (k:=k) (l:=l) (fun i hi=>(hb.cell (p:=⟨g,i,none⟩) hgw).trans (HCL.out i hi)) hk);have HSB:=hid (fun (k:Nat) (hk:k≤l.length) u (hb:Below w.heap.size w u)=>Y8 (w:=u) (g:=g) (k:=k) (c:=c) (l:=l) (fun i hi=>(hb.cell (p:=⟨g,i,none⟩) hgw).trans (HCL.out i hi)) rfl hk hc);have HCC:=hid (fun (i:Nat) (t:ByteArray) (ht:l[i]?=some t)=>show w.cell? ⟨g,i,none⟩=some (.string t) from by obtain ⟨hi,rfl⟩:=List.getElem?_eq_some_iff.1 ht; exact HCL.out i hi);have hS:Below w.heap.size w w.drew:=Below.drew (Below.refl _ _);clear hl hg hcell HCL;generalize hnn:l.length=n at *;have HN:=hid hnn;clear hnn;go_enter Tryz.func108,Tryz.ntmps108;(go_upto_block 0 with fail);(go_wp2_with fail);go_loopw [5] (fun i ww=>∃ k:Nat,i = .int .i64 (k:Int)∧k≤n∧Hid (∀ x∈l.take k,lessT x s)∧w=ww) (fun i _=>n - (intOf i).toNat)
  case atStart=>exact ⟨0,rfl,Nat.zero_le _,hid (fun x hx=>by simp at hx),rfl⟩
  case round =>
   obtain ⟨k,rfl,hk,HTK,rfl⟩:=hrel;(have k0:(0:Int)≤(k:Int):=by omega);have HS1:=hid (HSA.out k hk);have HS2:=hid (HSB.out k hk);(have kc:(k:Int)≤(c:Int):=by omega);(have kn:(k:Int)≤(n:Int):=by omega);by_cases hlt:k < n
   ·(have hlt':k < l.length:=by rw [HN.out]; exact hlt);have ht:=List.getElem?_eq_getElem hlt';generalize l[k]=t at *;have c0:=HCC.out k t ht;have HTT:=hid ht;clear ht hlt';(have k1:(k:Int) < (n:Int):=by omega);cases hbl:Op.bytesLess (bts t) (bts s)
    ·have hbl2:Op.bytesLess t.toList s.toList=false:=hbl;clear hbl;by_cases heq:bts t=bts s
     ·(have e1:(t.toList==s.toList)=true:=by rw [beq_iff_eq]; exact heq);clear heq;(go_wp2_with fail);(try rw [Exit.noGoto_ret]);(try go_ret);exact ⟨some ⟨g,0,none⟩,c,l,by rw [HN.out]<;>rfl,HL.out,by omega,fun x hx => .inl hx,(fun h=>h),Below.refl _ _⟩
     ·have e1:(t.toList==s.toList)=false:=by rw [beq_eq_false_iff_ne]; exact heq
      have HRI:=hid (fun (h:RiseB l)=>rise_put h HTK.out (k:=k) (fun t2 e=>by
       rw [HTT.out] at e;(injection e with e);subst e;cases hq:Op.bytesLess (bts s) (bts t)
       ·exact absurd (sX _ _ hbl2 hq) heq
       ·exact hq))
      clear heq;(have hck:¬ c=k:=by omega);replace HS2:=hid (fun u hb=>show tw u (some ⟨g,k,none⟩) (n - k) 1 ((l.drop k).flatMap wz) from by have:=HS2.out u hb; rwa [if_neg hck] at this);(go_upto_region 6 with fail);clear c0;(refine wpS (fun u=>Below w.heap.size w u) (.two [0,1,2,4,7,8,9] 3 5 (.call [] 5 (.call [] 6 (.call [] 10 (.last [11])))) (.call [] 3 (.call [] 6 (.call [] 10 (.last [11]))))) fun iS=>?_);(with_reducible refine uh ?_);simp only [zB,pka,pkb,pkc,pkd,pke,pkf];(repeat go_big_quiet_step (fail));refine wpQuiet_nil ?_;refine ⟨?_,?_⟩
      ·(go_wp2_with (at_builtin; refine zW yd rfl (.const (.slice none 0 0)) (.tmp 35) rfl rfl (World.ownsRow_nil _ w.heap.size _ _) rfl (HS1.out _ hS) (yw _) (by unfold maxLen; omega) (by omega) (Nat.le_refl _) ?_; intro v1 w3 h2 h3 _; have HO3:=hid h2; have HB3:=hid (Go.RowKit.Hid.out (hid (zC hS (w2:=w3) h3))); clear h2 h3));refine zE HB3.out ?_;(with_reducible refine zD ?_);simp only [zB,pka,pkb,pkc,pkd,pke,pkf];(repeat go_big_quiet_step (fail));refine wpQuiet_nil ?_;(go_wp2_with fail);refine zE (zC HB3.out (zL _ _)) ?_;(with_reducible refine zD ?_);simp only [zB,pka,pkb,pkc,pkd,pke,pkf];(repeat go_big_quiet_step (fail));refine wpQuiet_nil ?_;(go_wp2_with (at_builtin; refine zW yd rfl (.tmp 36) (.tmp 38) rfl rfl (tG HO3.out (zG _ _)) rfl (uN _ (wz s) 9 1 rfl) (vW s) (by unfold maxLen; omega) (by omega) (by rw [World.size_alloc]; have:=HB3.out.size; omega) ?_; intro v2 w4 h5 h6 _; have HO4:=hid h5; have HB4:=hid (show Below w.heap.size w w4 from (zC HB3.out (zL _ _)).trans h6); clear h5 h6));refine zE HB4.out ?_;(with_reducible refine zD ?_);simp only [zB,pka,pkb,pkc,pkd,pke,pkf];(repeat go_big_quiet_step (fail));refine wpQuiet_nil ?_;go_wp2_with (at_builtin; refine zW yd rfl (.tmp 39) (.tmp 42) rfl rfl HO4.out rfl (HS2.out _ HB4.out) (yw _) (by unfold maxLen; omega) (by omega) HB4.out.size ?_; intro v3 w5 h5 h6 _; have HO5:=hid h5; have HB5:=hid (show Below w.heap.size w w5 from HB4.out.trans h6); clear h5 h6)
       refine zE HB5.out ?_;(with_reducible refine zJ ?_);simp only [zB,pka,pkb,pkc,pkd,pke,pkf];(repeat go_big_quiet_step (fail));refine wpQuiet_nil ?_;clear iS;(go_wp2_with fail);(try rw [Exit.noGoto_ret]);(try go_ret);exact put_fin2 (k:=k) hB ho HO5.out (by first | omega | (have:=HN.out; omega) | (simp; done)) (by first | omega | (have:=HN.out; omega) | (simp; omega)) (by rfl) HB5.out HRI.out
      ·(go_wp2_with fail);have HB2:=hid (show Below w.heap.size w ((w.alloc (.cells #[.string s] 9)).drew) from Below.drew (zL w _));have HBX:=hid (show Box ((w.alloc (.cells #[.string s] 9)).drew) w.heap.size (wz s) from (Box.new w (wz s) 9).below (Below.drew (Below.refl _ _)));generalize ((w.alloc (.cells #[.string s] 9)).drew)=w2 at *;refine zE HB2.out ?_;(with_reducible refine zD ?_);simp only [zB,pka,pkb,pkc,pkd,pke,pkf];(repeat go_big_quiet_step (fail));refine wpQuiet_nil ?_;(go_wp2_with (at_builtin; refine zW yd rfl (.const (.slice none 0 0)) (.tmp 35) rfl rfl (World.ownsRow_nil _ w2.heap.size _ _) rfl (HS1.out _ HB2.out) (yw _) (by unfold maxLen; omega) (by omega) (Nat.le_refl _) ?_; intro v1 w3 h2 h3 _; have HO3:=hid h2; have HB3:=hid (show Below w.heap.size w w3 from zC HB2.out h3); have HBX3:=hid (HBX.out.below h3); have HSZ:=hid h3.size; clear h2 h3));refine zE HB3.out ?_;(with_reducible refine zD ?_);simp only [zB,pka,pkb,pkc,pkd,pke,pkf];(repeat go_big_quiet_step (fail));refine wpQuiet_nil ?_;go_wp2_with (at_builtin; refine zW yd rfl (.tmp 36) (.tmp 38) rfl rfl HO3.out rfl (qm HBX3.out (show (wz s).length=1 * 1 from rfl)) (vW s) (by unfold maxLen; omega) (by omega) HSZ.out ?_; intro v2 w4 h5 h6 _; have HO4:=hid h5; have HB4:=hid (show Below w.heap.size w w4 from HB3.out.trans (h6.mono HB2.out.size)); have HSZ4:=hid (Nat.le_trans HSZ.out h6.size); clear h5 h6)
       refine zE HB4.out ?_;(with_reducible refine zD ?_);simp only [zB,pka,pkb,pkc,pkd,pke,pkf];(repeat go_big_quiet_step (fail));refine wpQuiet_nil ?_;(go_wp2_with (at_builtin; refine zW yd rfl (.tmp 39) (.tmp 42) rfl rfl HO4.out rfl (HS2.out _ HB4.out) (yw _) (by unfold maxLen; omega) (by omega) HSZ4.out ?_; intro v3 w5 h5 h6 _; have HO5:=hid h5; have HB5:=hid (show Below w.heap.size w w5 from HB4.out.trans (h6.mono HB2.out.size)); clear h5 h6));refine zE HB5.out ?_;(with_reducible refine zJ ?_);simp only [zB,pka,pkb,pkc,pkd,pke,pkf];(repeat go_big_quiet_step (fail));refine wpQuiet_nil ?_;clear iS;(go_wp2_with fail);(try rw [Exit.noGoto_ret]);(try go_ret);exact put_fin2 (k:=k) (Nat.le_trans hB HB2.out.size) (fun q e=>Nat.lt_of_lt_of_le (ho q e) HB2.out.size) HO5.out (by first | omega | (have:=HN.out; omega) | (simp; done)) (by first | omega | (have:=HN.out; omega) | (simp; omega)) (by rfl) HB5.out HRI.out
    ·have hbl2:Op.bytesLess t.toList s.toList=true:=hbl;clear hbl;(go_wp2_with fail);go_roundw
     case rel=>exact ⟨k+1,by go_num,by omega,hid (fun x hx=>by
      rw [List.take_add_one,HTT.out] at hx;rcases List.mem_append.1 hx with hx | hx
      ·exact HTK.out x hx
      ·rcases List.mem_singleton.1 hx with rfl
       exact hbl2),by first | rfl | trivial⟩
     case measure=>simp [intOf]<;>omega
   ·(obtain rfl:k=n:=by omega);have HRI:=hid (fun (h:RiseB l)=>rise_put h HTK.out (k:=k) (fun t2 e=>by rw [List.getElem?_eq_none (by rw [HN.out]; exact Nat.le_refl _)] at e; cases e));have k1:¬ (k:Int) < (k:Int):=by omega
    replace HS2:=hid (fun (ad:Addr) (u:World) (_:Below w.heap.size w u)=>show tw u (some ad) 0 1 ((l.drop k).flatMap wz) from by
     have e:l.drop k=[]:=List.drop_eq_nil_of_le (by rw [HN.out]; exact Nat.le_refl _);rw [e]
     exact ⟨rfl,(fun q=>by cases q),fun ad2 q j u hj=>by simp at hj⟩)
    by_cases hck:c=k
    all_goals
     (go_upto_region 6 with fail);(refine wpS (fun u=>Below w.heap.size w u) (.two [0,1,2,4,7,8,9] 3 5 (.call [] 5 (.call [] 6 (.call [] 10 (.last [11])))) (.call [] 3 (.call [] 6 (.call [] 10 (.last [11]))))) fun iS=>?_);(with_reducible refine uh ?_);simp only [zB,pka,pkb,pkc,pkd,pke,pkf];(repeat go_big_quiet_step (fail));refine wpQuiet_nil ?_;refine ⟨?_,?_⟩
     ·(go_wp2_with (at_builtin; refine zW yd rfl (.const (.slice none 0 0)) (.tmp 35) rfl rfl (World.ownsRow_nil _ w.heap.size _ _) rfl (HS1.out _ hS) (yw _) (by unfold maxLen; omega) (by omega) (Nat.le_refl _) ?_; intro v1 w3 h2 h3 _; have HO3:=hid h2; have HB3:=hid (Go.RowKit.Hid.out (hid (zC hS (w2:=w3) h3))); clear h2 h3));refine zE HB3.out ?_;(with_reducible refine zD ?_);simp only [zB,pka,pkb,pkc,pkd,pke,pkf];(repeat go_big_quiet_step (fail));refine wpQuiet_nil ?_;(go_wp2_with fail);refine zE (zC HB3.out (zL _ _)) ?_;(with_reducible refine zD ?_);simp only [zB,pka,pkb,pkc,pkd,pke,pkf];(repeat go_big_quiet_step (fail));refine wpQuiet_nil ?_;(go_wp2_with (at_builtin; refine zW yd rfl (.tmp 36) (.tmp 38) rfl rfl (tG HO3.out (zG _ _)) rfl (uN _ (wz s) 9 1 rfl) (vW s) (by unfold maxLen; omega) (by omega) (by rw [World.size_alloc]; have:=HB3.out.size; omega) ?_; intro v2 w4 h5 h6 _; have HO4:=hid h5; have HB4:=hid (show Below w.heap.size w w4 from (zC HB3.out (zL _ _)).trans h6); clear h5 h6));refine zE HB4.out ?_;(with_reducible refine zD ?_);simp only [zB,pka,pkb,pkc,pkd,pke,pkf];(repeat go_big_quiet_step (fail));refine wpQuiet_nil ?_;go_wp2_with (at_builtin; refine zW yd rfl (.tmp 39) (.tmp 42) rfl rfl HO4.out rfl (HS2.out _ _ HB4.out) (yw _) (by unfold maxLen; omega) (by omega) HB4.out.size ?_; intro v3 w5 h5 h6 _; have HO5:=hid h5; have HB5:=hid (show Below w.heap.size w w5 from HB4.out.trans h6); clear h5 h6)
      refine zE HB5.out ?_;(with_reducible refine zJ ?_);simp only [zB,pka,pkb,pkc,pkd,pke,pkf];(repeat go_big_quiet_step (fail));refine wpQuiet_nil ?_;clear iS;(go_wp2_with fail);(try rw [Exit.noGoto_ret]);(try go_ret);exact put_fin2 (k:=k) hB ho HO5.out (by first | omega | (have:=HN.out; omega) | (simp; done)) (by first | omega | (have:=HN.out; omega) | (simp; omega)) (by rfl) HB5.out HRI.out
     ·(go_wp2_with fail);have HB2:=hid (show Below w.heap.size w ((w.alloc (.cells #[.string s] 9)).drew) from Below.drew (zL w _));have HBX:=hid (show Box ((w.alloc (.cells #[.string s] 9)).drew) w.heap.size (wz s) from (Box.new w (wz s) 9).below (Below.drew (Below.refl _ _)));generalize ((w.alloc (.cells #[.string s] 9)).drew)=w2 at *;refine zE HB2.out ?_;(with_reducible refine zD ?_);simp only [zB,pka,pkb,pkc,pkd,pke,pkf];(repeat go_big_quiet_step (fail));refine wpQuiet_nil ?_;(go_wp2_with (at_builtin; refine zW yd rfl (.const (.slice none 0 0)) (.tmp 35) rfl rfl (World.ownsRow_nil _ w2.heap.size _ _) rfl (HS1.out _ HB2.out) (yw _) (by unfold maxLen; omega) (by omega) (Nat.le_refl _) ?_; intro v1 w3 h2 h3 _; have HO3:=hid h2; have HB3:=hid (show Below w.heap.size w w3 from zC HB2.out h3); have HBX3:=hid (HBX.out.below h3); have HSZ:=hid h3.size; clear h2 h3));refine zE HB3.out ?_;(with_reducible refine zD ?_);simp only [zB,pka,pkb,pkc,pkd,pke,pkf];(repeat go_big_quiet_step (fail));refine wpQuiet_nil ?_;go_wp2_with (at_builtin; refine zW yd rfl (.tmp 36) (.tmp 38) rfl rfl HO3.out rfl (qm HBX3.out (show (wz s).length=1 * 1 from rfl)) (vW s) (by unfold maxLen; omega) (by omega) HSZ.out ?_; intro v2 w4 h5 h6 _; have HO4:=hid h5; have HB4:=hid (show Below w.heap.size w w4 from HB3.out.trans (h6.mono HB2.out.size)); have HSZ4:=hid (Nat.le_trans HSZ.out h6.size); clear h5 h6)
      refine zE HB4.out ?_;(with_reducible refine zD ?_);simp only [zB,pka,pkb,pkc,pkd,pke,pkf];(repeat go_big_quiet_step (fail));refine wpQuiet_nil ?_;(go_wp2_with (at_builtin; refine zW yd rfl (.tmp 39) (.tmp 42) rfl rfl HO4.out rfl (HS2.out _ _ HB4.out) (yw _) (by unfold maxLen; omega) (by omega) HSZ4.out ?_; intro v3 w5 h5 h6 _; have HO5:=hid h5; have HB5:=hid (show Below w.heap.size w w5 from HB4.out.trans (h6.mono HB2.out.size)); clear h5 h6));refine zE HB5.out ?_;(with_reducible refine zJ ?_);simp only [zB,pka,pkb,pkc,pkd,pke,pkf];(repeat go_big_quiet_step (fail));refine wpQuiet_nil ?_;clear iS;(go_wp2_with fail);(try rw [Exit.noGoto_ret]);(try go_ret);exact put_fin2 (k:=k) (Nat.le_trans hB HB2.out.size) (fun q e=>Nat.lt_of_lt_of_le (ho q e) HB2.out.size) HO5.out (by first | omega | (have:=HN.out; omega) | (simp; done)) (by first | omega | (have:=HN.out; omega) | (simp; omega)) (by rfl) HB5.out HRI.out
def FeatsKN (ne:List NeedL) (w:World) (e:Ending) (w':World):Prop:=∃ (l:List FeatL) (A:Option Addr) (c:Nat),e = .returned (.slice A l.length c)∧RowOf 2 FeatAt (xH w' w.heap.size none) A l∧l.length≤4∧(∀ f∈l,yP f)∧FeatsIn ne l (fun _=>False)∧Below w.heap.size w w'
def qAt (zs:List Int) (i:Int) (k:Nat):Int:=vZ (atL zs (i+(k:Int))) 3
theorem qAt_succ (zs:List Int) (i:Int) (k:Nat):vZ (atL zs (i+(k:Int)+1)) 3=qAt zs i (k+1):=by
 unfold qAt;rw [show ((k+1:Nat):Int)=(k:Int)+1 from by omega,Int.add_assoc]
def PendK (zs:List Int) (i:Int) (k:Nat) (s:ByteArray):Prop:=qAt zs i k≠0∧fnames[k]?=some s
structure FeatsAt (ne:List NeedL) (zs:List Int) (i:Int) (k:Nat) (l:List FeatL):Prop where
 names:(l.map (·.name)).Sublist (fnames.take k)
 rise:∀ f∈l,RiseB f.of_
 len:∀ f∈l,f.of_.length≤5
 items:∀ f∈l,∀ s∈f.of_,ItemOk2 ne s∨(s∈fnames∧(s∈l.map (·.name)∨PendK zs i k s))
theorem FeatsAt.none {ne:List NeedL} {zs:List Int} {i:Int}:FeatsAt ne zs i 0 (([]:List (FeatL × Hdr)).map (·.1)):=⟨by simp,by simp,by simp,by simp⟩
theorem take_sub {α:Type} (l:List α) (k:Nat):(l.take k).Sublist (l.take (k+1)):=by rw [List.take_add_one]; exact List.sublist_append_left _ _
theorem FeatsAt.skip {ne:List NeedL} {zs:List Int} {i:Int} {k:Nat} {l:List FeatL} (h:FeatsAt ne zs i k l) (hq:qAt zs i k=0):FeatsAt ne zs i (k+1) l :=
 ⟨h.names.trans (take_sub _ _),h.rise,h.len,fun f hf s hs=>(h.items f hf s hs).imp id fun q=>⟨q.1,.inl (q.2.resolve_right fun p=>p.1 hq)⟩⟩
theorem FeatsAt.push {ne:List NeedL} {zs:List Int} {i:Int} {k:Nat} {ps:List (FeatL × Hdr)} {nm:ByteArray} {m:List ByteArray} {hd:Hdr} (h:FeatsAt ne zs i k (ps.map (·.1))) (hn:fnames[k]?=some nm) (hr:RiseB m) (hl:m.length≤5) (hi:∀ x∈m,ItemOk2 ne x∨PendK zs i (k+1) x):FeatsAt ne zs i (k+1) ((ps++[((⟨nm,m⟩:FeatL),hd)]).map (·.1)):=by
 (have e:(ps++[((⟨nm,m⟩:FeatL),hd)]).map (·.1)=ps.map (·.1)++[⟨nm,m⟩]:=by rw [List.map_append]; rfl);rw [e];refine ⟨?_,fun f hf=>?_,fun f hf=>?_,fun f hf s hs=>?_⟩
 ·rw [List.map_append,List.take_add_one,hn];exact List.Sublist.append h.names (List.Sublist.refl _)
 ·rcases List.mem_append.1 hf with hf | hf
  ·exact h.rise f hf
  ·rcases List.mem_singleton.1 hf with rfl; exact hr
 ·rcases List.mem_append.1 hf with hf | hf
  ·exact h.len f hf
  ·rcases List.mem_singleton.1 hf with rfl; exact hl
 ·rcases List.mem_append.1 hf with hf | hf
  ·(refine (h.items f hf s hs).imp id fun q=>⟨q.1,.inl ?_⟩);rw [List.map_append];rcases q.2 with q | ⟨-,q⟩
   ·exact List.mem_append_left _ q
   ·rw [hn] at q;(injection q with q);subst q;exact List.mem_append_right _ (List.mem_singleton.2 rfl)
  ·(rcases List.mem_singleton.1 hf with rfl);exact (hi s hs).imp id fun q=>⟨List.mem_of_getElem? q.2,.inr q⟩
theorem FeatsAt.done {ne:List NeedL} {zs:List Int} {i:Int} {l:List FeatL} (h:FeatsAt ne zs i 4 l):FeatsIn ne l (fun _=>False) :=
 ⟨h.names.trans (List.take_sublist _ _),h.rise,h.len,fun f hf s hs=>(h.items f hf s hs).imp id fun q=>⟨q.1,q.2.imp id fun p=>by have:=p.2; cases this⟩⟩
theorem fnames_at {k:Nat} (h:k < 4):∃ nm:ByteArray,Zq[k]?=some (.string nm)∧nm.size≤7∧fnames[k]?=some nm:=by
 (have:k=0∨k=1∨k=2∨k=3:=by omega);rcases this with rfl | rfl | rfl | rfl<;>exact ⟨_,rfl,by decide,rfl⟩
theorem opt_ne {xo:ByteArray} {Q:Prop} (h:(!xo.toList.isEmpty)=true∧Q):¬ xo=⟨#[]⟩:=fun e=>by
 subst e;have h1:=h.1;rw [yX] at h1;cases h1
theorem need_small {own:Int} {n:NeedL} (h:NeedOk2 own n):n.opt.size≤3∧∀ y∈n.any,y.name.size≤3:=by
 refine ⟨?_,fun y hy=>?_⟩
 ·rcases h.opt with e | e
  ·rw [e]; decide
  ·exact jr _ e
 ·obtain ⟨p,-,-,e⟩:=(h.any y hy).name;rw [e]; exact aL _ (nmP_mem _)
theorem pull_at {own:Int} {xa:List WishL} (h:∀ y∈xa,WishOk own y) (hl:xa.length=1) (h0:0 < xa.length):∃ w:WishL,xa=[w]∧w.name∈gL∧w.name=xa[0].name:=by
 match xa,hl with
 | [w],_ =>
  obtain ⟨p,-,-,e⟩:=(h w (List.mem_cons_self ..)).name;exact ⟨w,rfl,by rw [e]; exact nmP_mem _,rfl⟩
structure FIn2 (P:ByteArray→Prop) (wr:World) (g:Nat) (nm:ByteArray) (q:Nat) (u:World) (A:Option Addr) (c:Nat) (m:List ByteArray):Prop extends FIn wr g nm q u A c m where
 items:∀ x∈m,P x
 rise:RiseB m
section
variable {P Q:ByteArray→Prop} {wr u u':World} {g q q':Nat} {nm s:ByteArray} {A A':Option Addr} {c c':Nat} {m m':List ByteArray}
theorem FIn2.on (h:FIn2 P wr g nm q u A c m) (hb:Below u.heap.size u u'):FIn2 P wr g nm q u' A c m:=⟨h.toFIn.on hb,h.items,h.rise⟩
theorem FIn2.up (h:FIn2 P wr g nm q u A c m) (hq:q≤q'):FIn2 P wr g nm q' u A c m:=⟨h.toFIn.up hq,h.items,h.rise⟩
theorem FIn2.weak (h:FIn2 P wr g nm q u A c m) (hq:∀ x,P x→Q x):FIn2 Q wr g nm q u A c m:=⟨h.toFIn,fun x hx=>hq x (h.items x hx),h.rise⟩
theorem FIn2.step (h:FIn2 P wr g nm q u A c m) (hs:s.size≤16) (hp:P s) (h1:OfH (xH u' (g+1) none) A' c' m') (h2:m'.length≤m.length+1) (h3:∀ x∈m',x∈m∨x=s) (hr:RiseB m→RiseB m') (hb:Below u.heap.size u u'):FIn2 P wr g nm (q+1) (u'.setCell ⟨g,1,none⟩ (.slice A' m'.length c')) A' c' m' :=
 ⟨h.toFIn.step hs h1 h2 h3 hb,fun x hx=>by
  rcases h3 x hx with k | rfl
  ·exact h.items x k
  ·exact hp,hr h.rise⟩
end
theorem lfeats_anyN (A:Option Addr) (cap:Nat) (zs:List Int) (i own:Int) (r:RecL) (hd:RecH) (w:World) (h:IntsAt w A zs) (hi:0≤i) (hi2:i≤9000000) (hln:zs.length≤9223372036854775807) (hr:RowOf 3 NeedAt w hd.A r.needs) (hrn:r.needs.length≤2) (hsm:∀ n∈r.needs,NeedOk2 own n):Calls Tryz.prog 67 #[.slice A zs.length cap,.int .i64 i,r.val hd] w (FeatsKN r.needs w):=by
 have CA:=hid (fun (j:Int) u (hb:Below w.heap.size w u) (h1:0≤j) (h2:j≤1000000000)=>cu A cap zs j u (h.below hb) h1 h2 hln);have CL:=hid (fun v u=>s8 v 3 u (by omega) (by omega));have HNE:=hid hr;have HSM:=hid hsm;clear h hr hsm;obtain ⟨rn,rv,rne,rba,rfe⟩:=r;obtain ⟨dA,da,dB,db,dF,df⟩:=hd;dsimp only [RecL.val] at *;generalize hnn:rne.length=nn at *;have HNN:=hid hnn;clear hnn;generalize rba.length=nb at *;generalize rfe.length=nf at *;generalize zs.length=zn at *;go_enter Tryz.func67,Tryz.ntmps67;(go_upto_region 3 with fail);refine zI ?_;intro w1 hw1;have HX:=hid (show Box w1 w.heap.size [.string rn,.int .i64 rv.maj,.int .i64 rv.min,.int .i64 rv.pat,.string rv.pre,.string rv.bld,.slice dA nn da,.slice dB nb db,.slice dF nf df] by rw [hw1]; exact (Box.new w [.string rn,.int .i64 rv.maj,.int .i64 rv.min,.int .i64 rv.pat,.string rv.pre,.string rv.bld,.slice dA nn da,.slice dB nb db,.slice dF nf df] 32).below (zL _ _));have HY:=hid (show Box w1 (w.heap.size+1) Zq by rw [hw1]; have:=Box.new (w.alloc (.cells ([.string rn,.int .i64 rv.maj,.int .i64 rv.min,.int .i64 rv.pat,.string rv.pre,.string rv.bld,.slice dA nn da,.slice dB nb db,.slice dF nf df]:List Value).toArray 32)) Zq 170; rwa [World.size_alloc] at this);have HB1:=hid (show Below w.heap.size w w1 by rw [hw1]; exact zC (zL _ _) (zL _ _));clear hw1;generalize w.heap.size+1=g2 at *
 (go_upto_block 0 with fail);(go_wp2_with fail);go_loopw [9,7] (fun kv v ww=>∃ (k:Nat) (ps:List (FeatL × Hdr)),kv = .int .i64 (k:Int)∧k≤4∧Hid (Deep 172 2 sR FpSub ww w1.heap.size v ps)∧Hid (ps.length≤k)∧Hid (∀ p∈ps,yP p.1)∧Hid (FeatsAt rne zs i k (ps.map (·.1)))∧Hid (Below w1.heap.size w1 ww)) (fun kv _ _=>4 - (intOf kv).toNat)
 case atStart=>exact ⟨0,[],rfl,by omega,hid Deep.nil,hid (Nat.zero_le _),hid (fun p hp=>by cases hp),hid FeatsAt.none,hid (Below.refl _ _)⟩
 case round =>
  (rename World=>wr);obtain ⟨k,ps,rfl,hk,HD,HPL,HPS,HFA,HBW⟩:=hrel;have HWW:=hid (zC HB1.out HBW.out);by_cases hlt:k < 4
  ·(have k0:(0:Int)≤(k:Int):=by omega);(have k1:(k:Int) < 4:=by omega);obtain ⟨nm,hnm,hns,hfn⟩:=fnames_at hlt;have HFN:=hid hfn;clear hfn;have HNM:=hid hnm;clear hnm;(go_wp2_with fail);refine (CA.out _ _ HWW.out (by omega) (by omega)).mono ?_;rintro _ _ ⟨rfl,rfl⟩;have HQV:=hid (show vZ (atL zs (i+(k:Int))) 3=qAt zs i k from rfl);generalize atL zs (i+(k:Int))=nv at *;(go_wp2_with fail);refine (CL.out _ _).mono ?_;rintro _ _ ⟨rfl,rfl⟩;generalize vZ nv 3=pv at *;by_cases hp:pv=0
   ·(have e1:(pv==0)=true:=by rw [beq_iff_eq]; exact hp);have HP0:=hid hp;clear hp;(go_wp2_with fail);go_roundw
    case rel=>exact ⟨k+1,ps,by go_num,by omega,HD,hid (by have:=HPL.out; omega),HPS,hid (HFA.out.skip (by rw [← HQV.out]; exact HP0.out)),HBW⟩
    case measure=>simp [intOf]<;>omega
   ·(have e1:(pv==0)=false:=by rw [beq_eq_false_iff_ne]; exact hp);clear hp;have yk:=(HY.out.below HBW.out).2 k _ HNM.out;have yl:=(HY.out.below HBW.out).1;(go_upto_region 9 with fail);refine zI ?_;intro u5 hu;have HF:=hid (show FIn2 (ItemOk2 rne) wr wr.heap.size nm 0 u5 none 0 [] by rw [hu]; exact ⟨⟨Own.new wr [.string nm,.slice none 0 0] 172 (Nat.le_refl _),.inl ⟨rfl,rfl,rfl⟩,Nat.le_refl _,(fun x hx=>by cases hx),zL _ _⟩,(fun x hx=>by cases hx),List.Pairwise.nil⟩);clear hu yk yl;(go_upto_block 2 with fail);(go_wp2_with fail);go_loopw [12] (fun jv ww=>∃ (j:Nat) (A':Option Addr) (c':Nat) (m:List ByteArray),jv = .int .i64 (j:Int)∧j≤nn∧Hid (FIn2 (ItemOk2 rne) wr wr.heap.size nm (2 * j) ww A' c' m)) (fun jv _=>nn - (intOf jv).toNat)
    case atStart=>exact ⟨0,none,0,[],rfl,Nat.zero_le _,HF⟩
    case round =>
     (rename World=>ur);obtain ⟨j,A',c',m,rfl,hj,HF⟩:=hrel;have HUW:=hid (zC HWW.out HF.out.below);have HXU:=hid (HX.out.below (zC HBW.out HF.out.below));have x6:=HXU.out.2 6 _ rfl;have xl:=HXU.out.1;(have j0:(0:Int)≤(j:Int):=by omega);by_cases hjn:j < nn
     ·(have j1:(j:Int) < (nn:Int):=by omega);(have j2:(j:Int) < 2:=by omega);(have j3:j < 2:=by omega);(have hjn':j < rne.length:=by rw [HNN.out]; exact hjn);obtain ⟨b,off,A2,c2,hA2,hbl0,z0,z1,z2,hrow,hal⟩:=uC HNE.out hjn';have HNO:=hid (HSM.out _ (List.getElem_mem hjn'));have HNI:=hid (List.getElem_mem hjn');have hsn:=need_small (HSM.out _ (List.getElem_mem hjn'));subst hA2;replace z0:=zU hbl0 HUW.out.kb z0;replace z1:=zU hbl0 HUW.out.kb z1;replace z2:=zU hbl0 HUW.out.kb z2;have hbl:=Nat.lt_of_lt_of_le hbl0 HUW.out.size;clear hbl0;generalize rne[j]=x at *;obtain ⟨xa,xw,xo⟩:=x;dsimp only at z0 z1 z2 hrow hal hsn;have HXA:=hid hsn.2;have hxo:=hsn.1;have HRW:=hid hrow;clear hsn hrow;generalize hxa:xa.length=an at *;have HAN:=hid hxa;clear hxa;(go_upto_region 13 with fail);refine zI ?_;intro u7 hu;(have hb7:Below ur.heap.size ur u7:=by rw [hu]; exact zL _ _);have HG:=hid (show Box u7 ur.heap.size [.slice A2 an c2,.string xw,.string xo] by rw [hu]; exact Box.new ur [.slice A2 an c2,.string xw,.string xo] 122);have HF7:=hid (HF.out.on hb7);have hgg:wr.heap.size≠ur.heap.size:=Nat.ne_of_lt HF.out.own.box.1;clear hu hb7 z0 z1 z2 x6 xl;generalize ur.heap.size=gm at *;have hwl:wr.heap.size+1≤u7.heap.size:=HF7.out.own.box.1;have CP:=hid (fun (A:Option Addr) (c:Nat) (m:List ByteArray) (s:ByteArray) (u:World) (hu:wr.heap.size+1≤u.heap.size) (hm:m.length≤100) (ho:OfH (xH u (wr.heap.size+1) none) A c m)=>lput_anyN (wr.heap.size+1) none A c m s u ho hu (fun q e=>by cases e) hm)
      have z2:=HG.out.2 2 _ rfl;have zl:=HG.out.1;have y1:=HF7.out.own.box.2 1 _ rfl;have yl:=HF7.out.own.box.1;have yf:∀ q,u7.frozen? ⟨wr.heap.size,q,none⟩=false:=HF7.out.own.soft;(go_upto_if 58 with fail);all_goals (go_upto_region 15 with fail)
      all_goals first
       | (with_reducible refine (CP.out _ _ _ _ _ hwl (by have:=HF7.out.len; omega) HF7.out.of_).mono ?_
          rintro _ u8 ⟨A8,c8,m8,rfl,ho8,hl8,hm8,hri8,hb8⟩
          have hxw:xo∈ZY:=(show xo=⟨#[]⟩∨xo∈ZY from HNO.out.opt).resolve_left (by exact opt_ne (by assumption))
          have HS8:=hid (HF7.out.step (s:=⟨#[63]⟩++xo) (by rw [ByteArray.size_append]; simp only [show (⟨#[63]⟩:ByteArray).size=1 from rfl]; omega) (.inl ⟨_,HNI.out,hxw,rfl⟩) ho8 hl8 hm8 hri8 hb8)
          have HG8:=hid ((HG.out.below hb8).putOther (k:=wr.heap.size) (j:=1) (Ne.symm hgg) (.slice A8 m8.length c8))
          have HB8:=hid hb8
          have HF8:=hid ((HF7.out.own).below hb8)
          clear hxw ho8 hl8 hm8 hri8 hb8 y1 yl yf z2 zl
          have y1:=HF8.out.box.2 1 _ rfl
          have yl:=HF8.out.box.1
          have yf:∀ q,u8.frozen? ⟨wr.heap.size,q,none⟩=false:=HF8.out.soft
          go_upto_region 15 with fail
          refine zI ?_
          intro u9 hu9
          have HF9:=hid (show ∃ A c m,FIn2 (ItemOk2 rne) wr wr.heap.size nm (2 * j+1) u9 A c m from ⟨A8,c8,m8,by rw [hu9]; exact HS8.out⟩)
          have HG9:=hid (show Box u9 gm [.slice A2 an c2,.string xw,.string xo] by rw [hu9]; exact HG8.out)
          clear hu9 y1 yl yf HF8 HB8 HS8 HG8)
       | (refine zI ?_
          intro u9 hu9
          have HF9:=hid (show ∃ A c m,FIn2 (ItemOk2 rne) wr wr.heap.size nm (2 * j+1) u9 A c m from ⟨A',c',m,by rw [hu9]; exact HF7.out.up (by omega)⟩)
          have HG9:=hid (show Box u9 gm [.slice A2 an c2,.string xw,.string xo] by rw [hu9]; exact HG.out)
          clear hu9 y1 yl yf z2 zl)
      all_goals
       obtain ⟨A9,c9,m9,hf9⟩:=HF9.out;have HF:=hid hf9;clear hf9 HF9 HF7 HG;have z0:=HG9.out.2 0 _ rfl;have zl:=HG9.out.1;go_upto_region 16 with fail
      all_goals first
       | (go_roundw
          case rel=>exact ⟨j+1,A9,c9,m9,by go_num,by omega,hid (HF.out.up (by omega))⟩
          case measure=>simp [intOf]<;>omega)
       | (have han:an=1:=by omega
          subst han
          have h0a:0 < xa.length:=by rw [HAN.out]; decide
          obtain ⟨b2,of2,A4,c4,hA4,hb2l,n0,-,-,-⟩:=t9 (HRW.out.kb WishAt.stays (zC HWW.out HF.out.below).kb) h0a
          have hx0:=HXA.out _ (List.getElem_mem h0a)
          subst hA4
          rw [Nat.zero_mul,Nat.add_zero] at n0
          have HPU:=hid (pull_at HNO.out.any HAN.out h0a)
          generalize xa[0].name=xn at *
          have hwu:wr.heap.size+1≤u9.drew.heap.size:=HF.out.own.box.1
          have HFD:=hid (HF.out.on (Below.drew (Below.refl _ _)))
          have y1:=HF.out.own.box.2 1 _ rfl
          have yl:=HF.out.own.box.1
          have s1:(⟨#[47]⟩:ByteArray).size=1:=rfl
          have s2:(⟨#[120]⟩:ByteArray).size=1:=rfl
          have s3:¬ 9223372036854775807 < xn.size+1:=by omega
          have s4:¬ 9223372036854775807 < xn.size+1+1:=by omega
          have s5:¬ 9223372036854775807 < (xn++⟨#[47]⟩).size+1:=by rw [ByteArray.size_append,s1]; omega
          go_region_law (go_simp; (with_reducible refine (CP.out _ _ _ _ _ hwu (by have:=HFD.out.len; omega) HFD.out.of_).mono ?_); rintro _ ua ⟨A8,c8,m8,rfl,ho8,hl8,hm8,hri8,hb8⟩; have oa:=HFD.out.own.below hb8; have a1:=oa.box.2 1 _ rfl; have al:=oa.box.1; have af:∀ q,ua.frozen? ⟨wr.heap.size,q,none⟩=false:=oa.soft)
          all_goals
           refine nV ?_;intro u10 hu10;replace hu10:u10=ua.setCell ⟨wr.heap.size,1,none⟩ (.slice A8 m8.length c8):=hu10;have HF10:=hid (show FIn2 (ItemOk2 rne) wr wr.heap.size nm (2 * (j+1)) u10 A8 c8 m8 by rw [hu10]; exact (HFD.out.step (by simp only [ByteArray.size_append]; omega) (by obtain ⟨w0,q1,q2,q3⟩:=HPU.out; exact .inr ⟨_,HNI.out,w0,q1,q2,by rw [q3]⟩) ho8 hl8 hm8 hri8 hb8).up (by omega));clear hu10 oa a1 al af ho8 hl8 hm8 hri8 hb8 y1 yl n0 z0 zl;(go_wp2_with fail);go_roundw
           case rel=>exact ⟨j+1,A8,c8,m8,by go_num,by omega,HF10⟩
           case measure=>simp [intOf]<;>omega)
     ·(obtain rfl:j=nn:=by omega);(have j1:¬ (j:Int) < (j:Int):=by omega);have HCA:=hid (fun q u (hb:Below wr.heap.size wr u) h1 h2=>CA.out q u (zC HWW.out hb) h1 h2);have hf0:=HF.out.below;have HQ1:=hid (show vZ (atL zs (i+(k:Int)+1)) 3=qAt zs i (k+1) from qAt_succ _ _ _);(go_upto_if 107 with (first | (go_at_call 42; (with_reducible refine (HCA.out _ _ hf0 (by omega) (by omega)).mono ?_); rintro _ _ ⟨rfl,rfl⟩; generalize atL zs (i+(k:Int)+1)=av at *) | (go_at_call 23; (with_reducible refine (CL.out _ _).mono ?_); rintro _ _ ⟨rfl,rfl⟩; generalize vZ av 3=apv at *)));all_goals (go_upto_region 19 with fail)
      all_goals first
       | (have hM:=yK (w:=ur) (B:=w1.heap.size) (B':=wr.heap.size+1) (Nat.le_trans HBW.out.size (Nat.le_succ _)) (fun q e=>Nat.lt_succ_of_lt (Deep.lt HD.out q e))
          have hsub:FpSub (xH ur w1.heap.size _) ((⟨nm,m⟩:FeatL),((A',c'):Hdr)):=⟨(HF.out.of_.mono hM).texts,by have:=HF.out.len; dsimp only; omega⟩
          have hDU:=Deep.kb FpSub.mono HD.out HF.out.below.kb
          have hsz:w1.heap.size≤ur.heap.size:=Nat.le_trans HBW.out.size HF.out.below.size
          have x0:=HF.out.own.box.2 0 _ rfl
          have x1:=HF.out.own.box.2 1 _ rfl
          have xl:=HF.out.own.box.1
          go_wp2_with (at_builtin; refine wI aV rfl (.tmp 116) (.tmp 118) rfl (sR ((⟨nm,m⟩:FeatL),((A',c'):Hdr))) hDU.1 rfl rfl rfl (Xk _) (by have:=HPL.out; unfold maxLen; omega) (by have:=HPL.out; omega) hsz ?_; intro v' w' h2 h3 h4 h5; have hDN:=Deep.snoc FpSub.mono hDU hsub h2 h4 h5)
          go_roundw
          case rel=>exact ⟨k+1,ps++[((⟨nm,m⟩:FeatL),((A',c'):Hdr))],by go_num,by omega,hid hDN,hid (by rw [List.length_append,List.length_singleton]; have:=HPL.out; omega),hid (fun p hp=>by
           rcases List.mem_append.1 hp with hp | hp
           ·exact HPS.out p hp
           ·rcases List.mem_singleton.1 hp with rfl
            exact fun s hs=>Nat.le_trans (HF.out.small s hs) (by omega)),hid (HFA.out.push HFN.out HF.out.rise (by have:=HF.out.len; omega) fun x hx => .inl (HF.out.items x hx)),hid (((zC HBW.out HF.out.below).trans h3))⟩
          case measure=>simp [intOf]<;>omega)
       | (have hk3:k+1 < 4:=by omega
          obtain ⟨n2,hn2,hz2,hfn2⟩:=fnames_at hk3
          have HQ2:=hid (show qAt zs i (k+1)≠0 from by rw [← HQ1.out]; exact bne_iff_ne.1 (by assumption))
          have r1:IntKind.i64.wrap ((k:Int)+1)=(k:Int)+1:=IntWalk.i64_in _ (by omega)
          have r2:(0:Int)≤(k:Int)+1:=by omega
          have r3:(k:Int)+1 < 4:=by omega
          have r4:((k:Int)+1).toNat=k+1:=by omega
          have yk:=(HY.out.below (zC HBW.out HF.out.below)).2 (k+1) _ hn2
          have ykl:=(HY.out.below (zC HBW.out HF.out.below)).1
          have CP:=hid (fun (A:Option Addr) (c:Nat) (m:List ByteArray) (s:ByteArray) (u:World) (hu:wr.heap.size+1≤u.heap.size) (hm:m.length≤100) (ho:OfH (xH u (wr.heap.size+1) none) A c m)=>lput_anyN (wr.heap.size+1) none A c m s u ho hu (fun q e=>by cases e) hm)
          have hwu:wr.heap.size+1≤ur.drew.heap.size:=HF.out.own.box.1
          have HFD:=hid (HF.out.on (Below.drew (Below.refl _ _)))
          have y1:=HF.out.own.box.2 1 _ rfl
          have yl:=HF.out.own.box.1
          go_region_law (go_simp; (with_reducible refine (CP.out _ _ _ _ _ hwu (by have:=HFD.out.len; omega) HFD.out.of_).mono ?_); rintro _ ua ⟨A8,c8,m8,rfl,ho8,hl8,hm8,hri8,hb8⟩; have oa:=HFD.out.own.below hb8; have a1:=oa.box.2 1 _ rfl; have al:=oa.box.1; have af:∀ q,ua.frozen? ⟨wr.heap.size,q,none⟩=false:=oa.soft)
          all_goals
           refine nV ?_;intro u10 hu10;replace hu10:u10=ua.setCell ⟨wr.heap.size,1,none⟩ (.slice A8 m8.length c8):=hu10;have HF10:=hid (show FIn2 (fun x=>ItemOk2 rne x∨PendK zs i (k+1) x) wr wr.heap.size nm (2 * j+1) u10 A8 c8 m8 by rw [hu10]; exact (HFD.out.weak fun x h => .inl h).step (by omega) (.inr ⟨HQ2.out,hfn2⟩) ho8 hl8 hm8 hri8 hb8);clear hu10 oa a1 al af ho8 hl8 hm8 hri8 hb8 y1 yl yk ykl r1 r2 r3 r4 x6 xl;have hM:=yK (w:=u10) (B:=w1.heap.size) (B':=wr.heap.size+1) (Nat.le_trans HBW.out.size (Nat.le_succ _)) (fun q e=>Nat.lt_succ_of_lt (Deep.lt HD.out q e));have hsub:FpSub (xH u10 w1.heap.size _) ((⟨nm,m8⟩:FeatL),((A8,c8):Hdr)):=⟨(HF10.out.of_.mono hM).texts,by have:=HF10.out.len; dsimp only; omega⟩;have hDU:=Deep.kb FpSub.mono HD.out HF10.out.below.kb;have hsz:w1.heap.size≤u10.heap.size:=Nat.le_trans HBW.out.size HF10.out.below.size;have x0:=HF10.out.own.box.2 0 _ rfl;have x1:=HF10.out.own.box.2 1 _ rfl;have xl:=HF10.out.own.box.1;(go_wp2_with (at_builtin; refine wI aV rfl (.tmp 116) (.tmp 118) rfl (sR ((⟨nm,m8⟩:FeatL),((A8,c8):Hdr))) hDU.1 rfl rfl rfl (Xk _) (by have:=HPL.out; unfold maxLen; omega) (by have:=HPL.out; omega) hsz ?_; intro v' w' h2 h3 h4 h5; have hDN:=Deep.snoc FpSub.mono hDU hsub h2 h4 h5));go_roundw
           case rel=>exact ⟨k+1,ps++[((⟨nm,m8⟩:FeatL),((A8,c8):Hdr))],by go_num,by omega,hid hDN,hid (by rw [List.length_append,List.length_singleton]; have:=HPL.out; omega),hid (fun p hp=>by
            rcases List.mem_append.1 hp with hp | hp
            ·exact HPS.out p hp
            ·rcases List.mem_singleton.1 hp with rfl
             exact fun s hs=>Nat.le_trans (HF10.out.small s hs) (by omega)),hid (HFA.out.push HFN.out HF10.out.rise (by have:=HF10.out.len; omega) HF10.out.items),hid (((zC HBW.out HF10.out.below).trans h3))⟩
           case measure=>simp [intOf]<;>omega)
  ·(obtain rfl:k=4:=by omega);(have k1:¬ (4:Int) < 4:=by omega);obtain ⟨A3,c3,hv,-,hli,hsu⟩:=HD.out.fresh VK FpSub.mono;subst hv;have hM:=yK (w:=wr) (B:=w.heap.size) (B':=w1.heap.size) (o:=none) HB1.out.size (fun q e=>by cases e);have HRW:=hid (RowOf.mono FeatAt.mono (j8 hli hsu) hM);clear hli hsu hM HD;(go_wp2_with fail);(try rw [Exit.noGoto_ret]);try go_ret
   exact ⟨ps.map (·.1),A3,c3,by rw [List.length_map]<;>rfl,HRW.out,by rw [List.length_map]; exact HPL.out,(fun f hf=>by
    obtain ⟨p,hp,rfl⟩:=List.mem_map.1 hf
    exact HPS.out p hp),HFA.out.done,HWW.out⟩
end Go.Proofs.YtiffijoenkcpjaaGreatDoor
