import Derived.Test.YtiebekmefjbenaaGreatDoorZLo
import Derived.Test.YtiebekmefjbenaaGreatDoorZNd
set_option linter.unusedVariables false
set_option linter.unusedSimpArgs false
set_option maxRecDepth 100000
set_option maxHeartbeats 4000000
namespace Go.Proofs.YtiebekmefjbenaaGreatDoor
open Go.RowKit Go.Lib
open Rw
abbrev EntSub (w:World) (p:EP):Prop:=RecLies w p.2 p.1.rc
theorem EntSub.mono (w w':World) (p:EP) (m:Mono w w') (h:EntSub w p):EntSub w' p:=RecLies.mono h m
theorem ep_one1 (p:EP):∀ u∈yR p,u.oneCell'=true:=by
 have:=fX [p];simpa using this
def CopyL (w:World) (rn:ByteArray) (rv:Ver) (rne:List NeedL) (rba:List BarL) (rfe:List FeatL) (e:Ending) (w':World):Prop:=∃ (A1:Option Addr) (c1:Nat) (B1:Option Addr) (c2:Nat) (F1:Option Addr) (c3:Nat),e = .returned (.agg #[.string rn,.int .i64 rv.maj,.int .i64 rv.min,.int .i64 rv.pat,.string rv.pre,.string rv.bld,.slice A1 rne.length c1,.slice B1 rba.length c2,.slice F1 rfe.length c3])∧RecLies (xH w' w.heap.size none) ⟨A1,c1,B1,c2,F1,c3⟩ ⟨rn,rv,rne,rba,rfe⟩∧KB w.heap.size w w'
theorem copied_lit (rn:ByteArray) (rv:Ver) (rne:List NeedL) (rba:List BarL) (rfe:List FeatL) (A0:Option Addr) (ca:Nat) (B0:Option Addr) (cb:Nat) (F0:Option Addr) (cf:Nat) (w:World) (hr:RecLies w ⟨A0,ca,B0,cb,F0,cf⟩ ⟨rn,rv,rne,rba,rfe⟩) (hs:RecSmall ⟨rn,rv,rne,rba,rfe⟩):Calls Tryz.prog 30 #[.agg #[.string rn,.int .i64 rv.maj,.int .i64 rv.min,.int .i64 rv.pat,.string rv.pre,.string rv.bld,.slice A0 rne.length ca,.slice B0 rba.length cb,.slice F0 rfe.length cf]] w (CopyL w rn rv rne rba rfe) :=
 (copied_any _ _ w hr hs).mono fun _ _ ⟨⟨A1,c1,B1,c2,F1,c3⟩,he,h1,h2⟩=>⟨A1,c1,B1,c2,F1,c3,he,h1,h2⟩
def AgainK (w:World) (s:ShelfL) (e:Ending) (w':World):Prop:=∃ (B:Nat) (ps:List EP) (A:Option Addr) (c:Nat),w.heap.size≤B∧B≤w'.heap.size∧ps.map (·.1)=s.entries∧e = .returned (.agg #[.string s.name,.slice A ps.length c])∧Deep 55 11 yR EntSub w' B (.slice A ps.length c) ps∧KB w.heap.size w w'
theorem box_set {u:World} {g g3 j:Nat} {cs:List Value} (h:Box u g cs) (hne:g≠g3) (v:Value):Box (u.setCell ⟨g3,j,none⟩ v) g cs:=h.putOther hne v
theorem again_any (s:ShelfL) (A:Option Addr) (c:Nat) (w:World) (hE:yL w A s.entries) (hs:∀ x∈s.entries,RecSmall x.rc) (hn64:s.entries.length≤1000):Calls Tryz.prog 29 #[s.val A c] w (AgainK w s):=by
 have HE:=hid hE;have HSM:=hid hs;clear hE hs;obtain ⟨snm,l⟩:=s;dsimp only [ShelfL.val,AgainK] at *;generalize hnn:l.length=n at *;have HN:=hid hnn;clear hnn;go_enter Tryz.func29,Tryz.ntmps29;(go_upto_region 1 with fail);refine zI ?_;intro u1 hu;have HX:=hid (show Box u1 w.heap.size [.string snm,.slice A n c] by rw [hu]; exact (Box.new w [.string snm,.slice A n c] 25).kb (zG _ _));have HR:=hid (show Own w.heap.size u1 (w.heap.size+1) [.string ⟨#[]⟩,.slice none 0 0] by rw [hu]; exact Own.new2 w _ [.string ⟨#[]⟩,.slice none 0 0] 25 (Nat.le_refl _));have HB1:=hid (show KB w.heap.size w u1 by rw [hu]; exact zA (zG _ _) (zG _ _));clear hu;have hg2:w.heap.size≤w.heap.size+1:=Nat.le_succ _;generalize w.heap.size+1=g2 at *;have x0:=HX.out.2 0 _ rfl;have xl:=HX.out.1;(go_upto_region 2 with fail);refine zI ?_;intro u2 hu;(have hb:KB u1.heap.size u1 u2:=by rw [hu]; exact zG _ _);have HO:=hid (show Own w.heap.size u2 u1.heap.size [.string snm,.slice none 0 0] by rw [hu]; exact Own.new u1 [.string snm,.slice none 0 0] 25 HB1.out.size);have hg23:g2 < u1.heap.size:=HR.out.box.1;replace HR:=hid (HR.out.kb hb);replace HX:=hid (HX.out.kb hb);have HB2:=hid (zA HB1.out hb);have hg3:w.heap.size≤u1.heap.size:=HB1.out.size;clear hu hb HB1 x0 xl;generalize u1.heap.size=g3 at *;have hgB:g3 < u2.heap.size:=HO.out.box.1;have hwB:w.heap.size≤u2.heap.size:=HB2.out.size
 obtain ⟨B,hB⟩:∃ B,B=u2.heap.size:=⟨_,rfl⟩;rw [← hB] at hgB hwB;have HBS:=hid (Nat.le_of_eq hB);clear hB;have x1:=HX.out.2 1 _ rfl;have xl:=HX.out.1;(go_upto_block 0 with fail);(go_wp2_with fail);clear x1 xl HX;go_loopw [12] (fun i ww=>∃ (k:Nat) (A':Option Addr) (c':Nat) (ps:List EP),i = .int .i64 (k:Int)∧k≤n∧Hid (ps.length=k)∧Hid (ps.map (·.1)=l.take k)∧Hid (Own w.heap.size ww g3 [.string snm,.slice A' k c'])∧Hid (Deep 55 11 yR EntSub ww B (.slice A' k c') ps)∧Hid (Own w.heap.size ww g2 [.string ⟨#[]⟩,.slice none 0 0])∧Hid (KB w.heap.size w ww)∧Hid (B≤ww.heap.size)) (fun i _=>n - (intOf i).toNat)
 case atStart=>exact ⟨0,none,0,[],rfl,Nat.zero_le _,hid rfl,hid rfl,HO,hid Deep.nil,HR,HB2,HBS⟩
 case round =>
  (rename World=>wr);obtain ⟨k,A',c',ps,rfl,hk,HPL,HMP,HO,HD,HR,HB,HBW⟩:=hrel;by_cases hlt:k < n
  ·(have hlt':k < l.length:=by rw [HN.out]; exact hlt);obtain ⟨b,off,hd,hA,hrl,hce⟩:=v7 HE.out hlt';subst hA;have hce2:=hce.kb HB.out;have HT:=hid (show l.take (k+1)=l.take k++[l[k]] by rw [List.take_succ_eq_append_getElem hlt']);have hsm:=HSM.out _ (List.getElem_mem hlt');(have k0:(0:Int)≤(k:Int):=by omega);(have k1:(k:Int) < (n:Int):=by omega);clear hce;generalize l[k]=x at *;obtain ⟨⟨rn,rv,rne,rba,rfe⟩,sm,yk⟩:=x;obtain ⟨A0,ca,B0,cb,F0,cf⟩:=hd;dsimp only at hrl hsm;have HCP:=hid (fun u (hb:KB w.heap.size w u)=>copied_lit rn rv rne rba rfe A0 ca B0 cb F0 cf u (hrl.kb hb) hsm);clear hrl hsm;obtain ⟨c0,c1,c2,c3,c4,c5,c6,c7,c8,c9,c10,cl⟩:=hce2;dsimp only at c0 c1 c2 c3 c4 c5 c6 c7 c8 c9 c10;(go_upto_region 5 with fail);refine zI ?_;intro u4 hu;(have hb4:KB wr.heap.size wr u4:=by rw [hu]; exact zG _ _);have HX5:=hid (show Box u4 wr.heap.size [.string rn,.int .i64 rv.maj,.int .i64 rv.min,.int .i64 rv.pat,.string rv.pre,.string rv.bld,.slice A0 rne.length ca,.slice B0 rba.length cb,.slice F0 rfe.length cf,.int .u64 sm,.bool yk] by rw [hu]; exact Box.new wr [.string rn,.int .i64 rv.maj,.int .i64 rv.min,.int .i64 rv.pat,.string rv.pre,.string rv.bld,.slice A0 rne.length ca,.slice B0 rba.length cb,.slice F0 rfe.length cf,.int .u64 sm,.bool yk] 55);have HB4:=hid (zA HB.out hb4);have HO4:=hid (HO.out.kb hb4);have HR4:=hid (HR.out.kb hb4);have HD4:=hid (Deep.kb EntSub.mono HD.out hb4)
   have HLT:=hid (Deep.lt HD.out);have hbw:B≤u4.heap.size:=Nat.le_trans HBW.out hb4.size;have HGE:=hid (show g3 < wr.heap.size from HO.out.box.1);clear hu hb4 c0 c1 c2 c3 c4 c5 c6 c7 c8 c9 c10 cl HO HR HD HB HBW;generalize wr.heap.size=g5 at *;have hS:Box u4.drew g5 [.string rn,.int .i64 rv.maj,.int .i64 rv.min,.int .i64 rv.pat,.string rv.pre,.string rv.bld,.slice A0 rne.length ca,.slice B0 rba.length cb,.slice F0 rfe.length cf,.int .u64 sm,.bool yk]:=HX5.out.kb (zM (zH _));have hbd:KB w.heap.size w u4.drew:=zA HB4.out (zM (zH _));have y1:=(HO4.out.kb (zM (zH u4))).box.2 1 _ rfl;have yl:=(HO4.out.kb (zM (zH u4))).box.1;(refine wpS (fun u=>Box u g5 [.string rn,.int .i64 rv.maj,.int .i64 rv.min,.int .i64 rv.pat,.string rv.pre,.string rv.bld,.slice A0 rne.length ca,.slice B0 rba.length cb,.slice F0 rfe.length cf,.int .u64 sm,.bool yk]) (.two [0,2,3,5,6,7,8] 1 4 (.call [] 4 (.call [9] 10 (.call [] 11 (.call [12] 13 (.last []))))) (.two [9] 1 10 (.call [] 10 (.call [] 11 (.call [12] 13 (.last [])))) (.call [] 1 (.call [] 11 (.call [12] 13 (.last [])))))) fun iS=>?_);(have e0:=fun (z:SW fun u=>Box u g5 [.string rn,.int .i64 rv.maj,.int .i64 rv.min,.int .i64 rv.pat,.string rv.pre,.string rv.bld,.slice A0 rne.length ca,.slice B0 rba.length cb,.slice F0 rfe.length cf,.int .u64 sm,.bool yk])=>z.ok.2 0 _ rfl);have e1:=fun (z:SW fun u=>Box u g5 [.string rn,.int .i64 rv.maj,.int .i64 rv.min,.int .i64 rv.pat,.string rv.pre,.string rv.bld,.slice A0 rne.length ca,.slice B0 rba.length cb,.slice F0 rfe.length cf,.int .u64 sm,.bool yk])=>z.ok.2 1 _ rfl
   (have e2:=fun (z:SW fun u=>Box u g5 [.string rn,.int .i64 rv.maj,.int .i64 rv.min,.int .i64 rv.pat,.string rv.pre,.string rv.bld,.slice A0 rne.length ca,.slice B0 rba.length cb,.slice F0 rfe.length cf,.int .u64 sm,.bool yk])=>z.ok.2 2 _ rfl);(have e3:=fun (z:SW fun u=>Box u g5 [.string rn,.int .i64 rv.maj,.int .i64 rv.min,.int .i64 rv.pat,.string rv.pre,.string rv.bld,.slice A0 rne.length ca,.slice B0 rba.length cb,.slice F0 rfe.length cf,.int .u64 sm,.bool yk])=>z.ok.2 3 _ rfl);(have e4:=fun (z:SW fun u=>Box u g5 [.string rn,.int .i64 rv.maj,.int .i64 rv.min,.int .i64 rv.pat,.string rv.pre,.string rv.bld,.slice A0 rne.length ca,.slice B0 rba.length cb,.slice F0 rfe.length cf,.int .u64 sm,.bool yk])=>z.ok.2 4 _ rfl);(have e5:=fun (z:SW fun u=>Box u g5 [.string rn,.int .i64 rv.maj,.int .i64 rv.min,.int .i64 rv.pat,.string rv.pre,.string rv.bld,.slice A0 rne.length ca,.slice B0 rba.length cb,.slice F0 rfe.length cf,.int .u64 sm,.bool yk])=>z.ok.2 5 _ rfl);(have e6:=fun (z:SW fun u=>Box u g5 [.string rn,.int .i64 rv.maj,.int .i64 rv.min,.int .i64 rv.pat,.string rv.pre,.string rv.bld,.slice A0 rne.length ca,.slice B0 rba.length cb,.slice F0 rfe.length cf,.int .u64 sm,.bool yk])=>z.ok.2 6 _ rfl);have e7L:=fun (z:SW fun u=>Box u g5 [.string rn,.int .i64 rv.maj,.int .i64 rv.min,.int .i64 rv.pat,.string rv.pre,.string rv.bld,.slice A0 rne.length ca,.slice B0 rba.length cb,.slice F0 rfe.length cf,.int .u64 sm,.bool yk])=>z.ok.2 7 _ rfl
   (have e8L:=fun (z:SW fun u=>Box u g5 [.string rn,.int .i64 rv.maj,.int .i64 rv.min,.int .i64 rv.pat,.string rv.pre,.string rv.bld,.slice A0 rne.length ca,.slice B0 rba.length cb,.slice F0 rfe.length cf,.int .u64 sm,.bool yk])=>z.ok.2 8 _ rfl);(have e9:=fun (z:SW fun u=>Box u g5 [.string rn,.int .i64 rv.maj,.int .i64 rv.min,.int .i64 rv.pat,.string rv.pre,.string rv.bld,.slice A0 rne.length ca,.slice B0 rba.length cb,.slice F0 rfe.length cf,.int .u64 sm,.bool yk])=>z.ok.2 9 _ rfl);(have e10:=fun (z:SW fun u=>Box u g5 [.string rn,.int .i64 rv.maj,.int .i64 rv.min,.int .i64 rv.pat,.string rv.pre,.string rv.bld,.slice A0 rne.length ca,.slice B0 rba.length cb,.slice F0 rfe.length cf,.int .u64 sm,.bool yk])=>z.ok.2 10 _ rfl);(have elL:=fun (z:SW fun u=>Box u g5 [.string rn,.int .i64 rv.maj,.int .i64 rv.min,.int .i64 rv.pat,.string rv.pre,.string rv.bld,.slice A0 rne.length ca,.slice B0 rba.length cb,.slice F0 rfe.length cf,.int .u64 sm,.bool yk])=>z.ok.1);(with_reducible refine uh ?_);simp only [zB,pka,pkb,pkc,pkd,pke,pkf];(repeat go_big_quiet_step (fail));refine wpQuiet_nil ?_;refine ⟨?_,?_⟩
   focus
    go_wp2_with fail
    refine zE hS ?_
    with_reducible refine zD ?_
    simp only [zB,pka,pkb,pkc,pkd,pke,pkf]
    repeat go_big_quiet_step (fail)
    refine wpQuiet_nil ?_
    go_wp2_with fail
    refine (HCP.out _ hbd).mono ?_
    rintro _ wa ⟨A1,c1,B1,c2,F1,c3,rfl,hsub,hb⟩
    have hba:KB u4.heap.size u4 wa:=zA (zM (zH u4)) hb
    have hXa:=HX5.out.kb hba
    have hOa:=HO4.out.kb hba
    have a1:=hOa.box.2 1 _ rfl
    have al:=hOa.box.1
    go_wp2_with fail
    refine zE (hXa) ?_
    with_reducible refine zD ?_
    simp only [zB,pka,pkb,pkc,pkd,pke,pkf]
    repeat go_big_quiet_step (fail)
    refine wpQuiet_nil ?_
    go_wp2_with fail
    refine zE (hXa.kb (zG _ _)) ?_
   rotate_left
   focus
    go_wp2_with fail
    refine (HCP.out _ hbd).mono ?_
    rintro _ wa ⟨A1,c1,B1,c2,F1,c3,rfl,hsub,hb⟩
    have hba:KB u4.heap.size u4 wa:=zA (zM (zH u4)) hb
    have hXa:=HX5.out.kb hba
    have hOa:=HO4.out.kb hba
    have a1:=hOa.box.2 1 _ rfl
    have al:=hOa.box.1
    go_wp2_with fail
    refine zE (hXa) ?_
    with_reducible refine uh ?_
    simp only [zB,pka,pkb,pkc,pkd,pke,pkf]
    repeat go_big_quiet_step (fail)
    refine wpQuiet_nil ?_
    refine ⟨?_,?_⟩
    focus
     go_wp2_with fail
     refine zE hXa ?_
     with_reducible refine zD ?_
     simp only [zB,pka,pkb,pkc,pkd,pke,pkf]
     repeat go_big_quiet_step (fail)
     refine wpQuiet_nil ?_
     go_wp2_with fail
     refine zE (hXa.kb (zG _ _)) ?_
    rotate_left
    focus
     go_wp2_with fail
     refine zE (hXa.kb (zG _ _)) ?_
     with_reducible refine zD ?_
     simp only [zB,pka,pkb,pkc,pkd,pke,pkf]
     repeat go_big_quiet_step (fail)
     refine wpQuiet_nil ?_
     go_wp2_with fail
     refine zE (hXa.kb (zG _ _)) ?_
   all_goals
    have hDa:=Deep.kb EntSub.mono HD4.out hba;have hsu:EntSub (xH wa B (Value.slice A' k c').ownBlock) ((⟨⟨rn,rv,rne,rba,rfe⟩,sm,yk⟩:EntryL),(⟨A1,c1,B1,c2,F1,c3⟩:RecH)):=EntSub.mono _ _ _ (yK hbw (Deep.lt HD4.out)) hsub;have hBa:B≤wa.heap.size:=Nat.le_trans hbw hba.size;(with_reducible refine zD ?_);simp only [zB,pka,pkb,pkc,pkd,pke,pkf];(repeat go_big_quiet_step (fail));refine wpQuiet_nil ?_;(go_wp2_with (at_builtin; refine wI su rfl (.tmp 17) (.tmp 26) rfl (yR ((⟨⟨rn,rv,rne,rba,rfe⟩,sm,yk⟩:EntryL),(⟨A1,c1,B1,c2,F1,c3⟩:RecH))) hDa.1 rfl rfl rfl (ep_one1 _) (by have:=HPL.out; unfold maxLen; omega) (by have:=HPL.out; omega) hBa ?_; intro v' w' h2 h3 h4 h5));have hDn:=Deep.snoc EntSub.mono hDa hsu h2 h4 h5;rw [HPL.out] at h2;obtain ⟨A9,c9,rfl⟩:=xr h2;have hX3:=hOa.kbB hgB h3.kb;have hS3:=hXa.grown h4 (fun e=>by have:=HLT.out g5 e.symm; omega);have b1:=hX3.box.2 1 _ rfl;have bl:=hX3.box.1;have b2:∀ j,w'.frozen? ⟨g3,j,none⟩=false:=hX3.soft;refine zE hS3 ?_;(with_reducible refine zD ?_);simp only [zB,pka,pkb,pkc,pkd,pke,pkf];(repeat go_big_quiet_step (fail));refine wpQuiet_nil ?_;(go_wp2_with fail);refine zE (box_set hS3 (by have:=HGE.out; omega) _) ?_;(with_reducible refine zJ ?_);simp only [zB,pka,pkb,pkc,pkd,pke,pkf];(repeat go_big_quiet_step (fail));refine wpQuiet_nil ?_;clear e0 e1 e2 e3 e4 e5 e6 e7L e8L e9 e10 elL y1 yl a1 al b1 bl b2 iS hS hS3 hXa hbd
    refine nV ?_;intro w6 hw6;replace hw6:w6=w'.setCell ⟨g3,1,none⟩ (.slice A9 (k+1) c9):=hw6;have HX6:=hid (show Own w.heap.size w6 g3 [.string snm,.slice A9 (k+1) c9] by rw [hw6]; exact hX3.put (j:=1) (by simp) _);have HD6:=hid (show Deep 55 11 yR EntSub w6 B (.slice A9 (k+1) c9) (ps++[((⟨⟨rn,rv,rne,rba,rfe⟩,sm,yk⟩:EntryL),(⟨A1,c1,B1,c2,F1,c3⟩:RecH))]) by rw [hw6]; exact hDn.put EntSub.mono hgB _);have HR6:=hid (show Own w.heap.size w6 g2 [.string ⟨#[]⟩,.slice none 0 0] by rw [hw6]; exact ((HR4.out.kb hba).kbB (Nat.lt_trans hg23 hgB) h3.kb).other (Nat.ne_of_lt hg23) _);have HB6:=hid (show KB w.heap.size w w6 by rw [hw6]; exact yV (Go.RowKit.Below.trans (zA HB4.out hba) (Go.RowKit.Below.mono h3.kb hwB)) hg3 _);have HS6:=hid (show B≤w6.heap.size by rw [hw6,World.size_setCell]; exact Nat.le_trans hBa h3.size);have HL6:=hid (show (ps++[((⟨⟨rn,rv,rne,rba,rfe⟩,sm,yk⟩:EntryL),(⟨A1,c1,B1,c2,F1,c3⟩:RecH))]).length=k+1 by rw [List.length_append,HPL.out]; rfl);have HM6:=hid (show (ps++[((⟨⟨rn,rv,rne,rba,rfe⟩,sm,yk⟩:EntryL),(⟨A1,c1,B1,c2,F1,c3⟩:RecH))]).map (·.1)=l.take (k+1) by rw [List.map_append,HMP.out,HT.out]; rfl);clear hw6 hX3 hDn h2 h3 h4 h5 hba hDa hsu hOa hBa hsub hb HR4 HO4 HD4 HB4 HX5 HPL HMP;(go_wp2_with fail);go_roundw
    case rel=>exact ⟨k+1,A9,c9,ps++[((⟨⟨rn,rv,rne,rba,rfe⟩,sm,yk⟩:EntryL),(⟨A1,c1,B1,c2,F1,c3⟩:RecH))],by go_num,by omega,HL6,HM6,HX6,HD6,HR6,HB6,HS6⟩
    case measure=>simp [intOf]<;>omega
  ·(obtain rfl:n=k:=by omega);(have k1:¬ (n:Int) < (n:Int):=by omega);have HLN:=hid (show ps.map (·.1)=l by rw [HMP.out,List.take_of_length_le (by rw [HN.out]; exact Nat.le_refl _)]);have y0:=HO.out.box.2 0 _ rfl;have y1:=HO.out.box.2 1 _ rfl;have yl:=HO.out.box.1;have z0:=HR.out.box.2 0 _ rfl;have z1:=HR.out.box.2 1 _ rfl;have zl:=HR.out.box.1;have sf:∀ j,wr.frozen? ⟨g2,j,none⟩=false:=HR.out.soft;(go_wp2_with fail);refine zP ?_;intro w9 hw9;(have O9:Own w.heap.size w9 g2 [.string snm,.slice A' n c']:=by rw [hw9]; exact vM HR.out _ _);(have B9:KB w.heap.size w w9:=by rw [hw9]; exact vE HB.out hg2 _ _);(have D9:Deep 55 11 yR EntSub w9 B (.slice A' n c') ps:=by rw [hw9]; exact (HD.out.put EntSub.mono (Nat.lt_trans hg23 hgB) _).put EntSub.mono (Nat.lt_trans hg23 hgB) _);(have S9:B≤w9.heap.size:=by rw [hw9,World.size_setCell,World.size_setCell]; exact HBW.out);clear hw9;have k0:=O9.box.2 0 _ rfl;have k1:=O9.box.2 1 _ rfl;refine bodyPost_ret (v := .agg #[.string snm,.slice A' n c']) (by simp [results,Tryz.results29,go_sem,k0,k1]) rfl ?_;have hpn:=HPL.out;exact ⟨B,ps,A',c',hwB,S9,HLN.out,by rw [hpn],by rw [hpn]; exact D9,B9⟩
theorem Own.growR {B:Nat} {w w':World} {g:Nat} {cs:List Value} {row:Option Nat} (h:Own B w g cs) (hg:w.grownBy w' row) (hne:some g≠row):Own B w' g cs:=⟨h.box.grown hg hne,fun j=>(World.frozen?_of_block (a:=⟨g,j,none⟩) (hg.block g h.box.1 hne)).trans (h.soft j),h.low⟩
theorem sum_small {r:RecL} (h:(vo z7 r).2=0):RecSmall r:=by
 unfold vo at h;split at h
 ·rename_i h2; exact small_of_check h2
 ·rename_i h2; exact absurd h h2
theorem may_small {s:ShelfL} (h:zQ z7 s=true):∀ x∈s.entries,RecSmall x.rc:=fun x hx=>sum_small (by rw [entries_all _ _ (nB h) x hx])
theorem may_64 {s:ShelfL} (h:zQ z7 s=true):s.entries.length≤1000:=by
 unfold zQ at h;rw [Bool.and_eq_true,Bool.and_eq_true,decide_eq_true_eq] at h;exact Nat.le_trans h.1.2 (by decide)
def ShelfKM (w:World) (r:ShelfL × Int) (e:Ending) (w':World):Prop:=∃ A c,e = .returned (.tuple #[r.1.val A c,.int .i64 r.2])∧yL (xH w' w.heap.size none) A r.1.entries∧r.1.entries.length≤c∧KB w.heap.size w w'
theorem ShelfKM.plain {w w':World} {r:ShelfL × Int} {e:Ending} (h:ShelfKM w r e w'):Xf w r e w':=by
 obtain ⟨A,c,h1,h2,h3,h4⟩:=h;exact ⟨A,c,h1,RowOf.mono EntryAt.mono h2 (Mono.of_mask _ _ _),h3,h4⟩
theorem lies_maskA {α:Type} {n B:Nat} {A:Option Addr} {f:α→List Value} {w:World} {l:List α} (h:Lies n f w A l) (hB:∀ ad,A=some ad→B≤ad.block):Lies n f (xH w B none) A l:=by
 rcases h with h | ⟨b,off,rfl,hlt,hc⟩
 ·exact .inl h
 ·exact .inr ⟨b,off,rfl,by rw [xL]; exact hlt,fun i hi j u hj=>wQ.2 ⟨⟨(hB ⟨b,off,none⟩ rfl:B≤b),fun e=>by cases e⟩,hc i hi j u hj⟩⟩
theorem shput_anyM (s:ShelfL) (A:Option Addr) (c:Nat) (r:RecL) (hd:RecH) (w:World) (hL:Laid w) (hE:yL w A s.entries) (hok:EntsOk s.entries) (hc:s.entries.length≤c) (hr:RecLies w hd r) (hfit:r.v.fit) (hsm:∀ f∈r.feats,yP f):Calls Tryz.prog 9 #[s.val A c,r.val hd] w (ShelfKM w (kS z7 s r)):=by
 have HM:=hid (fun u (hb:KB w.heap.size w u)=>kr s A c u (hL.kb hb) (hE.kb EntryAt.stays hb) hok hc);have HSM:=hid (fun u (hb:KB w.heap.size w u)=>XG r hd u (hL.kb hb) (hr.kb hb) hfit hsm);have HP:=hid (fun u (hb:KB w.heap.size w u)=>cA A c s.entries r.name r.v u (hE.kb EntryAt.stays hb) hok.len hok.fit hfit);have HAG:=hid (fun (hm:zQ z7 s=true) u (hb:KB w.heap.size w u)=>again_any s A c u (hE.kb EntryAt.stays hb) (may_small hm) (may_64 hm));have P1:=hid (fun h=>Wn (s:=s) (r:=r) h);have P2:=hid (fun h h2=>VZ (s:=s) (r:=r) h h2);have P3:=hid (fun h h2 h3=>Wk (s:=s) (r:=r) h h2 h3);have P4:=hid (fun h h2 h3 h4=>Wq (s:=s) (r:=r) h h2 h3 h4);have P5:=hid (fun h h2 h3 h4=>WQ (s:=s) (r:=r) h h2 h3 h4);have HRS:=hid (fun h=>sum_small (r:=r) h);have HRL:=hid hr;clear hL hE hok hr hsm hfit hc;generalize kS z7 s r=res at *;generalize zQ z7 s=ms at *;generalize zi (bts r.name) r.v 0 s.entries=pl at *;unfold X5 at HSM;generalize vo z7 r=sr at *;obtain ⟨sm,se⟩:=sr;dsimp only at P2 P3 P4 P5 HRS;obtain ⟨snm,l⟩:=s;obtain ⟨rn,rv,rne,rba,rfe⟩:=r;obtain ⟨A0,ca,B0,cb,F0,cf⟩:=hd;have HCP:=hid (fun (h:se=0) u (hb:KB w.heap.size w u)=>copied_lit rn rv rne rba rfe A0 ca B0 cb F0 cf u (HRL.out.kb hb) (HRS.out h));dsimp only [ShelfL.val,RecL.val] at *;generalize hnn:l.length=n at *;have HN:=hid hnn
 clear hnn HRS;go_enter Tryz.func9,Tryz.ntmps9;(go_upto_region 1 with fail);refine zI ?_;intro u1 hu;have HB0:=hid (show KB w.heap.size w (w.alloc (.cells #[.string snm,.slice A n c] 25)) from zG _ _);have HB00:=hid (show KB w.heap.size w ((w.alloc (.cells #[.string snm,.slice A n c] 25)).alloc (.cells #[.string rn,.int .i64 rv.maj,.int .i64 rv.min,.int .i64 rv.pat,.string rv.pre,.string rv.bld,.slice A0 rne.length ca,.slice B0 rba.length cb,.slice F0 rfe.length cf] 32)) from zA HB0.out (zG _ _));have HX:=hid (show Box u1 w.heap.size [.string snm,.slice A n c] by rw [hu]; exact ((Box.new w [.string snm,.slice A n c] 25).kb (zG _ _)).kb (zG _ _));have HY:=hid (show Box u1 (w.heap.size+1) [.string rn,.int .i64 rv.maj,.int .i64 rv.min,.int .i64 rv.pat,.string rv.pre,.string rv.bld,.slice A0 rne.length ca,.slice B0 rba.length cb,.slice F0 rfe.length cf] by rw [hu]; have:=(Box.new (w.alloc (.cells #[.string snm,.slice A n c] 25)) [.string rn,.int .i64 rv.maj,.int .i64 rv.min,.int .i64 rv.pat,.string rv.pre,.string rv.bld,.slice A0 rne.length ca,.slice B0 rba.length cb,.slice F0 rfe.length cf] 32).kb (zG _ (.cells #[.string ⟨#[]⟩,.slice none 0 0] 25)); rwa [World.size_alloc] at this);have HO:=hid (show Own w.heap.size u1 (w.heap.size+1+1) [.string ⟨#[]⟩,.slice none 0 0] by rw [hu]; exact bK w _ _ [.string ⟨#[]⟩,.slice none 0 0] 25);have HB1:=hid (show KB w.heap.size w u1 by rw [hu]; exact zA HB00.out (zG _ _))
 (have hg:w.heap.size≤w.heap.size+1+1:=by omega);clear hu HB0 HB00;generalize w.heap.size+1=q2 at *;generalize q2+1=q3 at *;have x0:=HX.out.2 0 _ rfl;have x1:=HX.out.2 1 _ rfl;have xl:=HX.out.1;replace HM:=hid (HM.out u1 HB1.out);cases ms
 ·have HR:=hid (P1.out rfl);(go_wp2_with fail);refine HM.out.mono ?_;rintro _ u2 ⟨rfl,hb⟩;have HB2:=hid (zA HB1.out hb);have O2:=hid (HO.out.kb hb);clear hb x0 x1 xl;have y0:=O2.out.box.2 0 _ rfl;have y1:=O2.out.box.2 1 _ rfl;have sf:∀ j,u2.frozen? ⟨q3,j,none⟩=false:=O2.out.soft;have yl:=O2.out.box.1;(go_wp2_with fail);refine zP ?_;intro w9 hw9;(have O9:Own w.heap.size w9 q3 [.string ⟨#[]⟩,.slice none 0 0]:=by rw [hw9]; exact vM O2.out _ _);(have B9:KB w.heap.size w w9:=by rw [hw9]; exact vE HB2.out hg _ _);clear hw9;have k0:=O9.box.2 0 _ rfl;have k1:=O9.box.2 1 _ rfl;refine bodyPost_ret (v := .tuple #[.agg #[.string ⟨#[]⟩,.slice none 0 0],.int .i64 1]) (by simp [results,Tryz.results9,go_sem,k0,k1]) rfl ?_;rw [HR.out];exact ⟨none,0,rfl,.inl rfl,Nat.zero_le _,B9⟩
 ·(go_wp2_with fail);refine HM.out.mono ?_;rintro _ u2 ⟨rfl,hb⟩;have HB2:=hid (zA HB1.out hb);have HX2:=hid (HX.out.kb hb);have HY2:=hid (HY.out.kb hb);have O2:=hid (HO.out.kb hb);replace HAG:=hid (HAG.out (by first | rfl | trivial));clear hb x0 x1 xl;obtain ⟨y0,y1,y2,y3,y4,y5,y6,y7,y8,yl⟩:=wK HY2.out;(go_wp2_with fail);refine (HSM.out u2 HB2.out).mono ?_;rintro _ u3 ⟨rfl,hb⟩;have HB3:=hid (zA HB2.out hb);have HX3:=hid (HX2.out.kb hb);have HY3:=hid (HY2.out.kb hb);have O3:=hid (O2.out.kb hb);clear hb y0 y1 y2 y3 y4 y5 y6 y7 y8 yl;by_cases h0:se=0
  ·(have e0:(se != 0)=false:=by rw [h0]; rfl);have HZ:=hid h0;clear h0;have x1:=HX3.out.2 1 _ rfl;have xl:=HX3.out.1;obtain ⟨y0,y1,y2,y3,y4,y5,y6,y7,y8,yl⟩:=wK HY3.out;(go_wp2_with fail);refine (HP.out u3 HB3.out).mono ?_;rintro _ u4 ⟨rfl,hb⟩;have HB4:=hid (zA HB3.out hb);have HX4:=hid (HX3.out.kb hb);have HY4:=hid (HY3.out.kb hb);have O4:=hid (O3.out.kb hb);clear hb y0 y1 y2 y3 y4 y5 y6 y7 y8 yl x1 xl;by_cases hp:0≤pl
   ·(have hp1:decide ((0:Int)≤pl)=true:=by rw [decide_eq_true_iff]; exact hp);have HR:=hid (P3.out (by first | rfl | trivial) HZ.out (by first | exact hp | omega));have y0:=O4.out.box.2 0 _ rfl;have y1:=O4.out.box.2 1 _ rfl;have sf:∀ j,u4.frozen? ⟨q3,j,none⟩=false:=O4.out.soft;have yl:=O4.out.box.1;(go_wp2_with fail);refine zP ?_;intro w9 hw9;(have O9:Own w.heap.size w9 q3 [.string ⟨#[]⟩,.slice none 0 0]:=by rw [hw9]; exact vM O4.out _ _);(have B9:KB w.heap.size w w9:=by rw [hw9]; exact vE HB4.out hg _ _);clear hw9;have k0:=O9.box.2 0 _ rfl;have k1:=O9.box.2 1 _ rfl;refine bodyPost_ret (v := .tuple #[.agg #[.string ⟨#[]⟩,.slice none 0 0],.int .i64 8]) (by simp [results,Tryz.results9,go_sem,k0,k1]) rfl ?_;rw [HR.out];exact ⟨none,0,rfl,.inl rfl,Nat.zero_le _,B9⟩
   ·(have hp1:decide ((0:Int)≤pl)=false:=by rw [decide_eq_false_iff_not]; exact hp);have x0:=HX4.out.2 0 _ rfl;have x1:=HX4.out.2 1 _ rfl;have xl:=HX4.out.1;by_cases h64:64≤n
    ·(have i1:decide ((64:Int)≤(n:Int))=true:=by rw [decide_eq_true_iff]; omega);have HR:=hid (P4.out (by first | rfl | trivial) HZ.out (by first | exact hp | omega) (by first | exact h64 | omega));have y0:=O4.out.box.2 0 _ rfl;have y1:=O4.out.box.2 1 _ rfl;have sf:∀ j,u4.frozen? ⟨q3,j,none⟩=false:=O4.out.soft;have yl:=O4.out.box.1;(go_wp2_with fail);refine zP ?_;intro w9 hw9;(have O9:Own w.heap.size w9 q3 [.string ⟨#[]⟩,.slice none 0 0]:=by rw [hw9]; exact vM O4.out _ _);(have B9:KB w.heap.size w w9:=by rw [hw9]; exact vE HB4.out hg _ _);clear hw9;have k0:=O9.box.2 0 _ rfl;have k1:=O9.box.2 1 _ rfl;refine bodyPost_ret (v := .tuple #[.agg #[.string ⟨#[]⟩,.slice none 0 0],.int .i64 10]) (by simp [results,Tryz.results9,go_sem,k0,k1]) rfl ?_;rw [HR.out];exact ⟨none,0,rfl,.inl rfl,Nat.zero_le _,B9⟩
    ·(have i1:decide ((64:Int)≤(n:Int))=false:=by rw [decide_eq_false_iff_not]; omega);have HR:=hid (P5.out (by first | rfl | trivial) HZ.out (by first | exact hp | omega) (by first | exact h64 | omega));(go_wp2_with fail);refine (HAG.out u4 HB4.out).mono ?_;rintro _ u5 ⟨B,ps,A5,c5,hB4,hBu,hps,rfl,hDL,hb⟩;dsimp only at hps;(have hpn:ps.length=n:=by rw [← HN.out,← hps,List.length_map]);have HPN:=hid hpn;have HPS:=hid hps;have HPL:=hid (show ps.length≤64 by omega);have HDS:=hid (fun p hp=>hDL.2 p hp);have HLT:=hid (Deep.lt hDL);have HB5:=hid (zA HB4.out hb);have HY5:=hid (HY4.out.kb hb);have O5:=hid (O4.out.kb hb);have HWB:=hid (show w.heap.size≤B from Nat.le_trans HB4.out.size hB4);have hq:q2 < B∧q3 < B:=⟨Nat.lt_of_lt_of_le HY4.out.1 hB4,Nat.lt_of_lt_of_le O4.out.box.1 hB4⟩;have HLQ:=hid (show ∀ k,(Value.slice A5 ps.length c5).ownBlock=some k→B≤k from fun k e=>(World.ownsRow.lt hDL.1 k e).1);have HDD:=hid hDL;clear hps hpn hb x0 x1 xl hDL;(go_upto_region 11 with fail);refine zI ?_;intro u6 hu;(have hb6:KB u5.heap.size u5 u6:=by rw [hu]; exact zG _ _);have O8:=hid (show Own w.heap.size u6 u5.heap.size [.string snm,.slice A5 ps.length c5] by rw [hu]; exact Own.new u5 [.string snm,.slice A5 ps.length c5] 25 HB5.out.size);have HU6:=hid (show u5.heap.size+1≤u6.heap.size by rw [hu,World.size_alloc]; exact Nat.le_refl _);have HU5:=hid hb6.block;have HB6:=hid (zA HB5.out hb6)
     have HY6:=hid (HY5.out.kb hb6);have O6:=hid (O5.out.kb hb6);have HD6:=hid (Deep.kb EntSub.mono HDD.out hb6);have hBu6:B≤u6.heap.size:=Nat.le_trans hBu hb6.size;have HGE:=hid (show q2 < B∧q3 < B∧w.heap.size≤B∧B≤u5.heap.size∧u5.heap.size+1≤u6.heap.size from ⟨hq.1,hq.2,HWB.out,hBu,HU6.out⟩);clear hu hb6 HB5 HY5 O5 HDD hq;generalize hg8:u5.heap.size=g8L at *;have HG8:=hid (Nat.le_of_eq hg8);clear hg8;have hS:Box u6.drew q2 [.string rn,.int .i64 rv.maj,.int .i64 rv.min,.int .i64 rv.pat,.string rv.pre,.string rv.bld,.slice A0 rne.length ca,.slice B0 rba.length cb,.slice F0 rfe.length cf]:=HY6.out.kb (zM (zH _));have hbd:KB w.heap.size w u6.drew:=zA HB6.out (zM (zH _));have k1:=(O8.out.kb (zM (zH u6))).box.2 1 _ rfl;have kl:=(O8.out.kb (zM (zH u6))).box.1;(refine wpS (fun u=>Box u q2 [.string rn,.int .i64 rv.maj,.int .i64 rv.min,.int .i64 rv.pat,.string rv.pre,.string rv.bld,.slice A0 rne.length ca,.slice B0 rba.length cb,.slice F0 rfe.length cf]) (.two [0,2,4] 1 3 (.call [] 3 (.call [5] 6 (.call [] 7 (.call [8] 9 (.last []))))) (.two [5] 1 6 (.call [] 6 (.call [] 7 (.call [8] 9 (.last [])))) (.call [] 1 (.call [] 7 (.call [8] 9 (.last [])))))) fun iS=>?_);have y0:=fun (z:SW fun u=>Box u q2 [.string rn,.int .i64 rv.maj,.int .i64 rv.min,.int .i64 rv.pat,.string rv.pre,.string rv.bld,.slice A0 rne.length ca,.slice B0 rba.length cb,.slice F0 rfe.length cf])=>(wK z.ok).1
     (have y1:=fun (z:SW fun u=>Box u q2 [.string rn,.int .i64 rv.maj,.int .i64 rv.min,.int .i64 rv.pat,.string rv.pre,.string rv.bld,.slice A0 rne.length ca,.slice B0 rba.length cb,.slice F0 rfe.length cf])=>(wK z.ok).2.1);(have y2:=fun (z:SW fun u=>Box u q2 [.string rn,.int .i64 rv.maj,.int .i64 rv.min,.int .i64 rv.pat,.string rv.pre,.string rv.bld,.slice A0 rne.length ca,.slice B0 rba.length cb,.slice F0 rfe.length cf])=>(wK z.ok).2.2.1);(have y3:=fun (z:SW fun u=>Box u q2 [.string rn,.int .i64 rv.maj,.int .i64 rv.min,.int .i64 rv.pat,.string rv.pre,.string rv.bld,.slice A0 rne.length ca,.slice B0 rba.length cb,.slice F0 rfe.length cf])=>(wK z.ok).2.2.2.1);(have y4:=fun (z:SW fun u=>Box u q2 [.string rn,.int .i64 rv.maj,.int .i64 rv.min,.int .i64 rv.pat,.string rv.pre,.string rv.bld,.slice A0 rne.length ca,.slice B0 rba.length cb,.slice F0 rfe.length cf])=>(wK z.ok).2.2.2.2.1);(have y5:=fun (z:SW fun u=>Box u q2 [.string rn,.int .i64 rv.maj,.int .i64 rv.min,.int .i64 rv.pat,.string rv.pre,.string rv.bld,.slice A0 rne.length ca,.slice B0 rba.length cb,.slice F0 rfe.length cf])=>(wK z.ok).2.2.2.2.2.1);(have y6:=fun (z:SW fun u=>Box u q2 [.string rn,.int .i64 rv.maj,.int .i64 rv.min,.int .i64 rv.pat,.string rv.pre,.string rv.bld,.slice A0 rne.length ca,.slice B0 rba.length cb,.slice F0 rfe.length cf])=>(wK z.ok).2.2.2.2.2.2.1);have y7:=fun (z:SW fun u=>Box u q2 [.string rn,.int .i64 rv.maj,.int .i64 rv.min,.int .i64 rv.pat,.string rv.pre,.string rv.bld,.slice A0 rne.length ca,.slice B0 rba.length cb,.slice F0 rfe.length cf])=>(wK z.ok).2.2.2.2.2.2.2.1
     (have y8:=fun (z:SW fun u=>Box u q2 [.string rn,.int .i64 rv.maj,.int .i64 rv.min,.int .i64 rv.pat,.string rv.pre,.string rv.bld,.slice A0 rne.length ca,.slice B0 rba.length cb,.slice F0 rfe.length cf])=>(wK z.ok).2.2.2.2.2.2.2.2.1);(have yl:=fun (z:SW fun u=>Box u q2 [.string rn,.int .i64 rv.maj,.int .i64 rv.min,.int .i64 rv.pat,.string rv.pre,.string rv.bld,.slice A0 rne.length ca,.slice B0 rba.length cb,.slice F0 rfe.length cf])=>(wK z.ok).2.2.2.2.2.2.2.2.2);(with_reducible refine uh ?_);simp only [zB,pka,pkb,pkc,pkd,pke,pkf];(repeat go_big_quiet_step (fail));refine wpQuiet_nil ?_;refine ⟨?_,?_⟩
     focus
      go_wp2_with fail
      refine zE hS ?_
      with_reducible refine zD ?_
      simp only [zB,pka,pkb,pkc,pkd,pke,pkf]
      repeat go_big_quiet_step (fail)
      refine wpQuiet_nil ?_
      go_wp2_with fail
      refine (HCP.out HZ.out _ hbd).mono ?_
      rintro _ wa ⟨A1,c1,B1,c2,F1,c3,rfl,hsub,hb⟩
      have hba:KB u6.heap.size u6 wa:=zA (zM (zH u6)) hb
      have hYa:=HY6.out.kb hba
      have hOa:=O8.out.kb hba
      have a1:=hOa.box.2 1 _ rfl
      have al:=hOa.box.1
      go_wp2_with fail
      refine zE (hYa) ?_
      with_reducible refine zD ?_
      simp only [zB,pka,pkb,pkc,pkd,pke,pkf]
      repeat go_big_quiet_step (fail)
      refine wpQuiet_nil ?_
      go_wp2_with fail
      refine zE (hYa.kb (zG _ _)) ?_
     rotate_left
     focus
      go_wp2_with fail
      refine (HCP.out HZ.out _ hbd).mono ?_
      rintro _ wa ⟨A1,c1,B1,c2,F1,c3,rfl,hsub,hb⟩
      have hba:KB u6.heap.size u6 wa:=zA (zM (zH u6)) hb
      have hYa:=HY6.out.kb hba
      have hOa:=O8.out.kb hba
      have a1:=hOa.box.2 1 _ rfl
      have al:=hOa.box.1
      go_wp2_with fail
      refine zE (hYa) ?_
      with_reducible refine uh ?_
      simp only [zB,pka,pkb,pkc,pkd,pke,pkf]
      repeat go_big_quiet_step (fail)
      refine wpQuiet_nil ?_
      refine ⟨?_,?_⟩
      focus
       go_wp2_with fail
       refine zE hYa ?_
       with_reducible refine zD ?_
       simp only [zB,pka,pkb,pkc,pkd,pke,pkf]
       repeat go_big_quiet_step (fail)
       refine wpQuiet_nil ?_
       go_wp2_with fail
       refine zE (hYa.kb (zG _ _)) ?_
      rotate_left
      focus
       go_wp2_with fail
       refine zE (hYa.kb (zG _ _)) ?_
       with_reducible refine zD ?_
       simp only [zB,pka,pkb,pkc,pkd,pke,pkf]
       repeat go_big_quiet_step (fail)
       refine wpQuiet_nil ?_
       go_wp2_with fail
       refine zE (hYa.kb (zG _ _)) ?_
     all_goals
      have hDa:=Deep.kb EntSub.mono HD6.out hba;have hsu:EntSub (xH wa B (Value.slice A5 ps.length c5).ownBlock) ((⟨⟨rn,rv,rne,rba,rfe⟩,sm,false⟩:EntryL),(⟨A1,c1,B1,c2,F1,c3⟩:RecH)):=EntSub.mono _ _ _ (yK hBu6 (Deep.lt HD6.out)) hsub;have hBa:B≤wa.heap.size:=Nat.le_trans hBu6 hba.size;(with_reducible refine zD ?_);simp only [zB,pka,pkb,pkc,pkd,pke,pkf];(repeat go_big_quiet_step (fail));refine wpQuiet_nil ?_;(go_wp2_with (at_builtin; refine wI su rfl (.tmp 42) (.tmp 47) rfl (yR ((⟨⟨rn,rv,rne,rba,rfe⟩,sm,false⟩:EntryL),(⟨A1,c1,B1,c2,F1,c3⟩:RecH))) hDa.1 rfl rfl rfl (ep_one1 _) (by have:=HPL.out; unfold maxLen; omega) (by have:=HPL.out; omega) hBa ?_; intro v' w' h2 h3 h4 h5));have hDn:=Deep.snoc EntSub.mono hDa hsu h2 h4 h5;obtain ⟨A9,c9,rfl⟩:=xr h2;have hO3:Own w.heap.size w' g8L [.string snm,.slice A5 ps.length c5]:=hOa.growR h4 (fun e=>by have:=HLT.out g8L e.symm; omega);have hS3:=hYa.grown h4 (fun e=>by have:=HLQ.out q2 e.symm; have:=HGE.out; omega);have b1:=hO3.box.2 1 _ rfl;have bl:=hO3.box.1;have b2:∀ j,w'.frozen? ⟨g8L,j,none⟩=false:=hO3.soft;refine zE hS3 ?_;(with_reducible refine zD ?_);simp only [zB,pka,pkb,pkc,pkd,pke,pkf];(repeat go_big_quiet_step (fail));refine wpQuiet_nil ?_;(go_wp2_with fail);refine zE (box_set hS3 (by have:=HGE.out; omega) _) ?_;(with_reducible refine zJ ?_);simp only [zB,pka,pkb,pkc,pkd,pke,pkf]
      (repeat go_big_quiet_step (fail));refine wpQuiet_nil ?_;clear y0 y1 y2 y3 y4 y5 y6 y7 y8 yl k1 kl a1 al b1 bl b2 iS hS hS3 hbd;refine nV ?_;intro w6 hw6;replace hw6:w6=w'.setCell ⟨g8L,1,none⟩ (.slice A9 (ps.length+1) c9):=hw6;have HO6:=hid (show Own w.heap.size w6 g8L [.string snm,.slice A9 (ps.length+1) c9] by rw [hw6]; exact hO3.put (j:=1) (by simp) _);have HR6:=hid (show Own w.heap.size w6 q3 [.string ⟨#[]⟩,.slice none 0 0] by rw [hw6]; exact ((O6.out.kb hba).growR h4 (fun e=>by have:=HLQ.out q3 e.symm; have:=HGE.out; omega)).other (by have:=HGE.out; omega) _);have HB6:=hid (show KB w.heap.size w w6 by rw [hw6]; exact yV (Go.RowKit.Below.trans (zA HB6.out hba) (Go.RowKit.Below.mono h3.kb HWB.out)) (by have:=HGE.out; omega) _);have HK6:=hid (show ∀ k,k < wa.heap.size→(Value.slice A5 ps.length c5).ownBlock≠some k→k≠g8L→w6.heap[k]?=wa.heap[k]? from fun k hk h1 h2=>by rw [hw6]; exact (pA h2).trans (h4.block k hk fun e=>h1 e.symm));have HSZ:=hid (show wa.heap.size≤w6.heap.size by rw [hw6,World.size_setCell]; exact h4.size)
      have HL6:=hid (show Lies 11 yR w6 A9 (ps++[((⟨⟨rn,rv,rne,rba,rfe⟩,sm,false⟩:EntryL),(⟨A1,c1,B1,c2,F1,c3⟩:RecH))])∧(∀ ad,A9=some ad→ad.block≠q3)∧ps.length+1≤c9∧∀ ad,A9=some ad→w.heap.size≤ad.block from by
       obtain ⟨A3,c4,hv,hl,hbk,hcap⟩:=OwnL.lies ga hDn.1;(injection hv with e1 e2 e3);subst e1; subst e3
       have hne:∀ ad,A9=some ad→ad.block≠g8L∧ad.block≠q3:=fun ad e=>by
        obtain ⟨h6,h7⟩:=hbk ad e;rcases h5 _ h7 with h8 | h8
        ·have:=HLT.out _ h8;have:=HGE.out;omega
        ·have:=hba.size;have:=HGE.out;omega
       refine ⟨?_,fun ad e=>(hne ad e).2,by rw [← e2] at hcap; exact hcap,fun ad e=>Nat.le_trans HGE.out.2.2.1 (hbk ad e).1⟩;rw [hw6]
       exact hl.put (fun ad e=>(hne ad e).1) _)
      have HSU:=hid hsub;have HKA:=hid hba;clear hw6 hO3 hDn h2 h3 h4 h5 hDa hsu hOa hba hsub hb hYa hBa HY6;have y0:=HO6.out.box.2 0 _ rfl;have y1:=HO6.out.box.2 1 _ rfl;have yl:=HO6.out.box.1;have z0:=HR6.out.box.2 0 _ rfl;have z1:=HR6.out.box.2 1 _ rfl;have zl:=HR6.out.box.1;have sf:∀ j,w6.frozen? ⟨q3,j,none⟩=false:=HR6.out.soft;(go_wp2_with fail);refine zP ?_;intro w9 hw9;(have O9:Own w.heap.size w9 q3 [.string snm,.slice A9 (ps.length+1) c9]:=by rw [hw9]; exact vM HR6.out _ _);(have B9:KB w.heap.size w w9:=by rw [hw9]; exact vE HB6.out hg _ _);(have L9:Lies 11 yR w9 A9 (ps++[((⟨⟨rn,rv,rne,rba,rfe⟩,sm,false⟩:EntryL),(⟨A1,c1,B1,c2,F1,c3⟩:RecH))]):=by rw [hw9]; exact (HL6.out.1.put HL6.out.2.1 _).put HL6.out.2.1 _);(have K9:∀ k,k < wa.heap.size→(Value.slice A5 ps.length c5).ownBlock≠some k→k≠g8L→k≠q3→w9.heap[k]?=wa.heap[k]?:=fun k hk h1 h2 h3=>by rw [hw9]; exact (pA h3).trans ((pA h3).trans (HK6.out k hk h1 h2)));(have Z9L:wa.heap.size≤w9.heap.size:=by rw [hw9,World.size_setCell,World.size_setCell]; exact HSZ.out);clear hw9;have k0:=O9.box.2 0 _ rfl;have k1:=O9.box.2 1 _ rfl;refine bodyPost_ret (v := .tuple #[.agg #[.string snm,.slice A9 (ps.length+1) c9],.int .i64 0]) (by simp [results,Tryz.results9,go_sem,k0,k1]) rfl ?_;rw [HR.out]
      have hE9:=uu (lies_maskA L9 HL6.out.2.2.2) (fun p hp=>by
       have hge:=HGE.out;rcases List.mem_append.1 hp with h | h
       ·refine EntSub.mono _ _ _ (vd (B':=w.heap.size) (o':=none) (Nat.le_trans (Nat.le_trans HG8.out (Nat.le_trans (Nat.le_succ _) (Nat.le_trans HU6.out HKA.out.size))) Z9L) fun k hk h1 h2=>⟨⟨Nat.le_trans hge.2.2.1 h1,fun e=>by cases e⟩,?_⟩) (HDS.out p h);have hk8:k < g8L:=Nat.lt_of_lt_of_le hk HG8.out;(have hk6:k < u6.heap.size:=by have:=HU6.out; omega);exact (K9 k (Nat.lt_of_lt_of_le hk6 HKA.out.size) h2 (by omega) (by omega)).trans ((HKA.out.block k hk6).trans (HU5.out k hk8))
       ·(rcases List.mem_singleton.1 h with rfl);refine EntSub.mono _ _ _ (vd (B':=w.heap.size) (o':=none) Z9L fun k hk h1 h2=>⟨⟨Nat.le_trans hge.2.2.1 (Nat.le_trans hBu6 h1),fun e=>by cases e⟩,?_⟩) HSU.out;have h6:=HU6.out;have h7:u6.heap.size≤k:=h1
        exact K9 k hk (fun e=>by have:=HLT.out k e; omega) (by omega) (by omega))
      rw [List.map_append,HPS.out] at hE9;refine ⟨A9,c9,?_,hE9,?_,B9⟩
      ·show _=Ending.returned (.tuple #[.agg #[.string snm,.slice _ (l++_).length c9],_]);rw [List.length_append,HN.out,HPN.out]; rfl
      ·show (l++_).length≤c9;rw [List.length_append,HN.out,← HPN.out]; exact HL6.out.2.2.1
  ·(have e0:(se != 0)=true:=by rw [bne_iff_ne]; exact h0);have HR:=hid (P2.out (by first | rfl | trivial) (by first | exact h0 | omega));have y0:=O3.out.box.2 0 _ rfl;have y1:=O3.out.box.2 1 _ rfl;have sf:∀ j,u3.frozen? ⟨q3,j,none⟩=false:=O3.out.soft;have yl:=O3.out.box.1;(go_wp2_with fail);refine zP ?_;intro w9 hw9;(have O9:Own w.heap.size w9 q3 [.string ⟨#[]⟩,.slice none 0 0]:=by rw [hw9]; exact vM O3.out _ _);(have B9:KB w.heap.size w w9:=by rw [hw9]; exact vE HB3.out hg _ _);clear hw9;have k0:=O9.box.2 0 _ rfl;have k1:=O9.box.2 1 _ rfl;refine bodyPost_ret (v := .tuple #[.agg #[.string ⟨#[]⟩,.slice none 0 0],.int .i64 se]) (by simp [results,Tryz.results9,go_sem,k0,k1]) rfl ?_;rw [HR.out];exact ⟨none,0,rfl,.inl rfl,Nat.zero_le _,B9⟩
theorem shput_any (s:ShelfL) (A:Option Addr) (c:Nat) (r:RecL) (hd:RecH) (w:World) (hL:Laid w) (hE:yL w A s.entries) (hok:EntsOk s.entries) (hc:s.entries.length≤c) (hr:RecLies w hd r) (hfit:r.v.fit) (hsm:∀ f∈r.feats,yP f):Calls Tryz.prog 9 #[s.val A c,r.val hd] w (Xf w (kS z7 s r)):=(shput_anyM s A c r hd w hL hE hok hc hr hfit hsm).mono fun _ _ h=>h.plain
end Go.Proofs.YtiebekmefjbenaaGreatDoor
