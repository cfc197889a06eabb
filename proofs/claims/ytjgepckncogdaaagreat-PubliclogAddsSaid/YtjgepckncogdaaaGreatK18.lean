/- Contracts of functions, walks, plain facts. Conditions: those of each theorem. -/
import Derived.Test.YtjgepckncogdaaaGreatK17
set_option linter.unusedVariables false
set_option linter.unusedSimpArgs false
set_option maxRecDepth 100000
set_option maxHeartbeats 16000000
namespace Go.Proofs.YtjgepckncogdaaaGreat
open Go Go.RowKit _root_.Go.Proofs.Tryz
attribute [local go_sem ↓] Go.wp_at_zero Go.wp_at_succ
theorem names5_lit (w:World):SeesR (w.alloc (.cells #[.string ⟨#[73,78,68,88]⟩,.string ⟨#[78,85,77,66]⟩,.string ⟨#[80,65,84,72]⟩,.string ⟨#[83,73,71,78]⟩,.string ⟨#[83,82,69,80]⟩] 9)) (w.heap.size+1) (.slice (some ⟨w.heap.size,0,none⟩) 5 5) 1 5 (nameS names5):=names_lit w 9 names5 (by simp[names5])
theorem lit13_run0 (W:World) (G:Nat) (hG:G=W.heap.size):(convert 25 25 (.slice (some ⟨G,0,none⟩) 13 13)).run prog (W.alloc (.cells #[.int .u8 115,.int .u8 101,.int .u8 99,.int .u8 116,.int .u8 105,.int .u8 109,.int .u8 101,.int .u8 32,.int .u8 98,.int .u8 97,.int .u8 116,.int .u8 99,.int .u8 104] 5))=.ok (.slice (some ⟨G,0,none⟩) 13 13) (W.alloc (.cells #[.int .u8 115,.int .u8 101,.int .u8 99,.int .u8 116,.int .u8 105,.int .u8 109,.int .u8 101,.int .u8 32,.int .u8 98,.int .u8 97,.int .u8 116,.int .u8 99,.int .u8 104] 5 (13,14))):=by
 subst hG;exact Lib.run_convert_bytes_const W 25 5 #[.int .u8 115,.int .u8 101,.int .u8 99,.int .u8 116,.int .u8 105,.int .u8 109,.int .u8 101,.int .u8 32,.int .u8 98,.int .u8 97,.int .u8 116,.int .u8 99,.int .u8 104] 13 13 underlying25 underlying5
theorem dat_getD (x:Bs) (k:Nat):((decT x).map (·.2)).getD k []=datN x k:=by
 unfold datN;rw[xgd,xgd,xgm];cases (decT x)[k]?<;>rfl
theorem unpad_both {x:Bs} {f:FuncId} {args:Array Value} {w:World} (h:Calls prog f args w (UnpadP (unpadG x) w)):Calls prog f args w fun e w'=>∃A' n' c',e=.returned (.tuple #[.slice A' n' c',.bool (unpadG x).isSome])/\Below w.heap.size w w'/\(∀s,unpadG x=some s->SeesB w' w'.heap.size (.slice A' n' c') s):=by
 refine h.mono ?_;intro e w' hP;cases hx:unpadG x with
 | none=>
   rw[hx] at hP;obtain⟨A,n,c,rfl,hb⟩:=hP;exact⟨A,n,c,rfl,hb,fun s h=>by cases h⟩
 | some s=>
   rw[hx] at hP;obtain⟨v,rfl,h1,hb⟩:=hP;obtain⟨A,c,rfl,-,-⟩:=h1.mk_;exact⟨A,_,c,rfl,hb,fun s' h=>by cases h;exact h1⟩
theorem unpad_len {x s:Bs} (h:unpadG x=some s):s.length<=x.length:=by
 unfold unpadG at h
 split at h
 ·cases h
 split at h
 ·cases h
  simp
  omega
 cases h
theorem rbverify_any (B:Nat) (u u2 u3:Value) (p n b:Bs) (w:World) (hu:SeesB w B u p) (hu2:SeesB w B u2 n) (hu3:SeesB w B u3 b) (hB:B<=w.heap.size) (hl:b.length<=1048576) :
 Calls prog 271 #[u,u2,u3] w (BVerP p n b w):=by
 obtain⟨A,c,rfl,-,-⟩:=hu.mk_;obtain⟨A2,c2,rfl,-,-⟩:=hu2.mk_;obtain⟨A3,c3,rfl,-,-⟩:=hu3.mk_
 by_cases hn:n.length=32
 ·have hb0:=balloc w (.cells #[.int .i64 0,.int .i64 0] 24)
  have hr:=Box.new w 24 [.int .i64 0,.int .i64 0];have hp:=rdecode_any B _ b _ (hu3.below (hb0.mono hB)) (Nat.le_trans hB hb0.size) hl;unfold DecP at hp;replace hp:=lhd hp;have in0:(n.length:Int)=32:=by omega
  have hl4:=Nat.le_trans (datN_len b 4) hl;have hl3:=Nat.le_trans (datN_len b 3) hl;replace hl4:=lhd hl4;replace hl3:=lhd hl3;replace hn:=lhd hn;clear hu3
  go_enter func271,ntmps271
  go_wp2_with fail
  refine hp.out.mono ?_;rintro e w1 ⟨v1,rfl,s1,hb1⟩;clear hp;replace hr:=hr.below hb1;have hbw:=bgo hb0 hb1;clear hb0 hb1;generalize hg2:w.heap.size=g2 at hr ⊢;replace hg2:=lhd hg2;dsimp only
  by_cases E0:decC b=0
  ·rw[E0]
   replace E0:=lhd E0;have hex:=exactly_any w1.heap.size _ v1 _ (decT b) names5 (w1.alloc (.cells #[.string ⟨#[73,78,68,88]⟩,.string ⟨#[78,85,77,66]⟩,.string ⟨#[80,65,84,72]⟩,.string ⟨#[83,73,71,78]⟩,.string ⟨#[83,82,69,80]⟩] 9)) (s1.below (balloc w1 _)) (names5_lit w1) (balloc w1 _).size (by rw[xsa];exact Nat.le_refl _) (Nat.le_trans (decT_len b) (by omega));unfold PartsP at hex;have hal:=balloc w1 (.cells #[.string ⟨#[73,78,68,88]⟩,.string ⟨#[78,85,77,66]⟩,.string ⟨#[80,65,84,72]⟩,.string ⟨#[83,73,71,78]⟩,.string ⟨#[83,82,69,80]⟩] 9);replace hr:=hr.below hal;replace hbw:=lhd (bgo hbw hal);replace hex:=lhd hex;obtain⟨Av,cv,rfl,-,-⟩:=s1.mk_;clear s1 hal
   go_wp2_with fail
   refine hex.out.mono ?_;rintro e w3 hP;clear hex;rcases hP with ⟨hnm,v3,rfl,ho,hb3⟩|⟨hnm,rfl,hb3⟩
   ·replace hr:=hr.below hb3
    replace hbw:=lhd (bgo hbw.out hb3);have hL5:((decT b).map (·.2)).length=5:=by
     have:=congrArg List.length hnm
     simpa [names5] using this
    have hdat:∀k,((decT b).map (·.2)).getD k []=datN b k:=fun k=>by
     unfold datN;rw[xgd,xgd,xgm];cases (decT b)[k]?<;>rfl
    have hsl:=ho.sees;obtain⟨A3',c3',rfl,-,-⟩:=hsl.mk_;obtain⟨b6,o6,rfl,hb6,hcell⟩:=hsl.at_ (by omega);obtain⟨A10,c10,t0,-,-,sd0⟩:=hcell 0 (by omega);obtain⟨A11,c11,t1,-,-,sd1⟩:=hcell 1 (by omega);obtain⟨A12,c12,t2,-,-,sd2⟩:=hcell 2 (by omega);obtain⟨A13,c13,t3,-,-,sd3⟩:=hcell 3 (by omega);obtain⟨A14,c14,t4,-,-,sd4⟩:=hcell 4 (by omega);rw[hdat 0] at t0 sd0;rw[hdat 1] at t1 sd1;rw[hdat 2] at t2 sd2;rw[hdat 3] at t3 sd3;rw[hdat 4] at t4 sd4;replace t0:w3.cell? ⟨b6,o6,none⟩=some (.slice A10 (datN b 0).length c10):=t0;rw[hL5];clear hcell hsl hdat hL5 ho hb3;replace hnm:=lhd hnm;have K:Hid (∀W':World,Below w3.heap.size w3 W'->W'.cell? ⟨b6,o6,none⟩=some (.slice A10 (datN b 0).length c10)/\W'.cell? ⟨b6,o6+1,none⟩=some (.slice A11 (datN b 1).length c11)/\W'.cell? ⟨b6,o6+2,none⟩=some (.slice A12 (datN b 2).length c12)/\W'.cell? ⟨b6,o6+3,none⟩=some (.slice A13 (datN b 3).length c13)/\W'.cell? ⟨b6,o6+4,none⟩=some (.slice A14 (datN b 4).length c14)):=fun W' hW'=>
     ⟨(hW'.cell (p:=⟨b6,o6,none⟩) hb6).trans t0,(hW'.cell (p:=⟨b6,o6+1,none⟩) hb6).trans t1,(hW'.cell (p:=⟨b6,o6+2,none⟩) hb6).trans t2,(hW'.cell (p:=⟨b6,o6+3,none⟩) hb6).trans t3,(hW'.cell (p:=⟨b6,o6+4,none⟩) hb6).trans t4⟩
    by_cases m0:(datN b 0).length=4
    ·by_cases m1:(datN b 1).length=4
     ·by_cases m2:(datN b 2).length % 32=0
      ·have i0:((datN b 0).length:Int)=4:=by omega
       have i1:((datN b 1).length:Int)=4:=by omega
       have i2:((datN b 2).length:Int) % 32=0:=by omega
       have hgN:(datN b 2).length=32 * ((datN b 2).length / 32):=by omega
       have hb48:b.length<=2048:=by
        by_cases h9:2048<b.length
        ·have:=dec_long b h9
         rw[E0.out] at this
         omega
        omega
       have hl3b:=Nat.le_trans (datN_len b 3) hb48;have hl2b:=Nat.le_trans (datN_len b 2) hb48;have hN64:(datN b 2).length / 32<=64:=by omega
       have hup:=unpad_any _ _ (datN b 3) w3 sd3 nlr (by omega);have hga:=lhd (fun W (hW:Below w3.heap.size w3 W)=>rget_any _ _ (datN b 0) W (sd0.below hW));have hgb:=lhd (fun W (hW:Below w3.heap.size w3 W)=>rget_any _ _ (datN b 1) W (sd1.below hW));have hsp:=lhd (fun W (hW:Below w3.heap.size w3 W)=>rchunks_any _ _ (datN b 2) ((datN b 2).length / 32) W (sd2.below hW) hW.size hgN hN64);have hd4:=lhd (fun W (hW:Below w3.heap.size w3 W)=>rdecode_any _ _ (datN b 4) W (sd4.below hW) hW.size hl4.out);have n0:=getB_lt4 (datN b 0) m0;have n1:=getB_lt4 (datN b 1) m1;have iw0:IntKind.i64.wrap (getB (datN b 0):Int)=(getB (datN b 0):Int):=by rw[xwi];omega
       have iw1:IntKind.i64.wrap (getB (datN b 1):Int)=(getB (datN b 1):Int):=by rw[xwi];omega
       have sd4':=lhd sd4;clear sd0 sd1 sd2 sd3 sd4;replace m0:=lhd m0;replace m1:=lhd m1;replace m2:=lhd m2;replace hgN:=lhd hgN;replace hN64:=lhd hN64;replace hb48:=lhd hb48;replace hl3b:=lhd hl3b;replace hl2b:=lhd hl2b;replace n0:=lhd n0;replace n1:=lhd n1;replace iw0:=lhd iw0;replace iw1:=lhd iw1;replace hr:=lhd hr;replace hup:=lhd (unpad_both hup);clear iw0 iw1
       go_wp2_with fail
       refine hup.out.mono ?_;rintro e w4 ⟨Au,nu,cu,rfl,hb4,hus⟩;replace hr:=lhd (hr.out.below hb4);replace hbw:=lhd (bgo hbw.out hb4);replace hus:=lhd hus;clear hup t0 t1 t2 t3 t4;obtain⟨t0,t1,t2,t3,t4⟩:=K.out w4 hb4;clear t0 t1 t2 t3;have hd5:=hd4.out w4 hb4;unfold DecP at hd5;replace hd5:=lhd hd5;dsimp only
       go_wp2_with fail
       refine hd5.out.mono ?_;rintro e w5 ⟨v5,rfl,s5,hb5⟩;clear hd5 hd4 t4;have hex:=exactly_any w5.heap.size _ v5 _ (decT (datN b 4)) names2 (w5.alloc (.cells #[.string ⟨#[82,79,79,84]⟩,.string ⟨#[83,80,65,78]⟩] 9)) (s5.below (balloc w5 _)) (names2_lit w5) (balloc w5 _).size (by rw[xsa];exact Nat.le_refl _) (Nat.le_trans (decT_len _) (by omega));unfold PartsP at hex;have hal:=balloc w5 (.cells #[.string ⟨#[82,79,79,84]⟩,.string ⟨#[83,80,65,78]⟩] 9);replace hr:=lhd ((hr.out.below hb5).below hal);replace hbw:=lhd (bgo (bgo hbw.out hb5) hal);have hb45:=bgo (bgo hb4 hb5) hal;have hb46:=bgo hb5 hal;replace hex:=lhd hex;obtain⟨Aw,cw,rfl,-,-⟩:=s5.mk_;have hd4E:Hid ((decT (datN b 4)).map (·.1)=names2->decC (datN b 4)=0):=fun h=>by
        by_cases h9:decC (datN b 4)=0
        ·exact h9
        rw[dec_bad (c:=decC (datN b 4)) rfl h9] at h;simp[names2] at h
       clear s5 hal hb5 hb4;dsimp only
       go_wp2_with fail
       refine hex.out.mono ?_;rintro e w6 hP;clear hex;rcases hP with ⟨hnm2,v6,rfl,ho6,hb6'⟩|⟨hnm2,rfl,hb6'⟩
       ·have hL2:((decT (datN b 4)).map (·.2)).length=2:=by
         have:=congrArg List.length hnm2
         simpa [names2] using this
        have hdat:∀k,((decT (datN b 4)).map (·.2)).getD k []=datN (datN b 4) k:=dat_getD (datN b 4);have hsl:=ho6.sees;obtain⟨A8,c8,rfl,-,-⟩:=hsl.mk_;obtain⟨b7,o7,rfl,hb7,hcell⟩:=hsl.at_ (by omega);obtain⟨A20,c20,q0,-,-,se0⟩:=hcell 0 (by omega);obtain⟨A21,c21,q1,-,-,se1⟩:=hcell 1 (by omega);rw[hdat 0] at q0 se0;rw[hdat 1] at q1 se1;replace q0:w6.cell? ⟨b7,o7,none⟩=some (.slice A20 (datN (datN b 4) 0).length c20):=q0;rw[hL2,hd4E.out hnm2];replace hr:=lhd (hr.out.below hb6');replace hbw:=lhd (bgo hbw.out hb6');have hb36:=bgo hb45 hb6';have hb46':=bgo hb46 hb6';have hrl:=datN_len (datN b 4) 0;replace hb36:=lhd hb36;replace hb46':=lhd hb46';clear hcell hsl hdat hL2 ho6 hd4E hb6' hb45 hb46;rcases hU:unpadG (datN b 3) with _|sg
        ·have hU':(unpadG (datN b 3)).isSome=false:=by rw[hU];rfl
         replace hr:=hr.out;clear se0 se1 q1;dsimp only;have hpc3:parseC b=3:=by rw[parseC,if_pos E0.out,if_neg (by unfold parseOk;simp[hU])]
         have hbad:Hid (bverC p n b=3):=by show _=_;rw[bverC,if_pos hn.out,if_neg (by rw[hpc3];decide),hpc3]
         clear hpc3;have y0:=hr.cell 0;have y1:=hr.cell 1;simp only[xqz,xqs] at y0 y1;have f0:=hr.frozen 0;have f1:=hr.frozen 1
         go_wp2_with fail
         have kz:=lhd (box_set2 hr (.int .i64 0) (.int .i64 0));have kb:=lhd (below_set2 hbw.out (Nat.le_of_eq hg2.out) (.int .i64 0) (.int .i64 0));clear y0 y1 f0 f1;generalize (w6.setCell ⟨g2,0,none⟩ (.int .i64 0)).setCell ⟨g2,1,none⟩ (.int .i64 0)=W9 at *;have z0:W9.cell? ⟨g2,0,none⟩=some (.int .i64 0):=kz.out.cell 0;have z1:W9.cell? ⟨g2,1,none⟩=some (.int .i64 0):=kz.out.cell 1;refine bodyPost_ret (v:=.tuple #[.agg #[.int .i64 0,.int .i64 0],.int .i64 3]) (by simp[results,results271,go_sem,z0,z1]) rfl ?_;exact bver_bad hbad.out (by decide) rfl kb.out
        by_cases m3:(datN (datN b 4) 0).length=32
        ·have j0:((datN (datN b 4) 0).length:Int)=32:=by omega
         have hun:=runspan_any _ _ (datN (datN b 4) 1) w6 se1 nlr;unfold UnPost at hun;replace hun:=lhd hun;have ssg:=hus.out sg hU;have hus2:Hid (SeesB w4 w4.heap.size (.slice Au nu cu) sg):=ssg;replace hnm2:=lhd hnm2;replace m3:=lhd m3;have se0':=lhd se0;have hsgl:=Nat.le_trans (unpad_len hU) hl3.out;replace hsgl:=lhd hsgl;replace hU:=lhd hU;clear se0 se1 ssg hus;have K2:Hid (∀W':World,Below w6.heap.size w6 W'->W'.cell? ⟨b7,o7,none⟩=some (.slice A20 (datN (datN b 4) 0).length c20)):=fun W' hW'=>(hW'.cell (p:=⟨b7,o7,none⟩) hb7).trans q0
         simp only[Option.isSome_some]
         go_wp2_with fail
         refine hun.out.mono ?_;rintro e w7 ⟨rfl,hb7'⟩;clear hun q0 q1;have hal:=balloc w7 (.cells #[.int .i64 (unA (datN (datN b 4) 1)),.int .i64 (unB (datN (datN b 4) 1))] 24);have hx:=Box.new w7 24 [.int .i64 (unA (datN (datN b 4) 1)),.int .i64 (unB (datN (datN b 4) 1))];change Box (w7.alloc (.cells #[.int .i64 (unA (datN (datN b 4) 1)),.int .i64 (unB (datN (datN b 4) 1))] 24)) _ _ _ at hx;replace hr:=((hr.out.below hb7').below hal)
         replace hbw:=lhd (bgo (bgo hbw.out hb7') hal);have hb37:=lhd (bgo (bgo hb36.out hb7') hal);have hb47:=lhd (bgo (bgo hb46'.out hb7') hal);have hb67:=lhd (bgo hb7' hal);clear hb36 hb46' hb7' hal;have hcO:Hid (parseOk b=unOk (datN (datN b 4) 1)):=by
          show _=_;unfold parseOk contOk;simp[hnm.out,m0.out,m1.out,m2.out,hU.out,hnm2.out,m3.out]
         dsimp only
         go_upto_region 15 with (fail)
         generalize w7.alloc (.cells #[.int .i64 (unA (datN (datN b 4) 1)),.int .i64 (unB (datN (datN b 4) 1))] 24)=W8 at *;generalize w7.heap.size=G at *;cases hok:unOk (datN (datN b 4) 1) with
         | false=>
           have e3:unC (datN (datN b 4) 1)=3:=by simp[unC,hok]
           rw[e3];have hpc3:parseC b=3:=by rw[parseC,if_pos E0.out,if_neg (by rw[hcO.out,hok];simp)]
           have hbad:Hid (bverC p n b=3):=by show _=_;rw[bverC,if_pos hn.out,if_neg (by rw[hpc3];decide),hpc3]
           clear hpc3;replace hok:=lhd hok;clear e3;have y0:=hr.cell 0;have y1:=hr.cell 1;simp only[xqz,xqs] at y0 y1;have f0:=hr.frozen 0;have f1:=hr.frozen 1
           go_wp2_with fail
           have kz:=lhd (box_set2 hr (.int .i64 0) (.int .i64 0));have kb:=lhd (below_set2 hbw.out (Nat.le_of_eq hg2.out) (.int .i64 0) (.int .i64 0));clear y0 y1 f0 f1;generalize (W8.setCell ⟨g2,0,none⟩ (.int .i64 0)).setCell ⟨g2,1,none⟩ (.int .i64 0)=W9 at *;have z0:W9.cell? ⟨g2,0,none⟩=some (.int .i64 0):=kz.out.cell 0;have z1:W9.cell? ⟨g2,1,none⟩=some (.int .i64 0):=kz.out.cell 1;refine bodyPost_ret (v:=.tuple #[.agg #[.int .i64 0,.int .i64 0],.int .i64 3]) (by simp[results,results271,go_sem,z0,z1]) rfl ?_;exact bver_bad hbad.out (by decide) rfl kb.out
         | true=>
           have e3:unC (datN (datN b 4) 1)=0:=by simp[unC,hok]
           have e1:unA (datN (datN b 4) 1)=unLo (datN (datN b 4) 1):=by simp[unA,hok]
           have e2:unB (datN (datN b 4) 1)=unHi (datN (datN b 4) 1):=by simp[unB,hok]
           rw[e1,e2] at hx;rw[e3];have hC1:Hid (bverC p n b=if bsigOk p b=true then (if bpathOk n b=true then 0 else 23) else 26):=by
            show _=_;have hpc:parseC b=0:=by rw[parseC,if_pos E0.out,if_pos (by rw[hcO.out,hok])]
            rw[bverC,if_pos hn.out,if_pos hpc]
           have hbs:Hid (bsigOk p b=verifyG p (tBatch++datN b 4) sg):=by show _=_;rw[bsigOk,sigN,hU.out];rfl
           have hbp:Hid (bpathOk n b=checkI (datN (datN b 4) 0) (getB (datN b 1):Int) (getB (datN b 0):Int) n (cutL 32 ((datN b 2).length / 32) (datN b 2))):=rfl;have hcl:Hid (∀x∈cutL 32 ((datN b 2).length / 32) (datN b 2),x.length<=1048576):=fun x hx=>Nat.le_trans (cutL_each _ _ _ x hx) (by omega)
           have hlo':Hid (unLo (datN (datN b 4) 1)=unLo (datN (datN b 4) 1)):=rfl;have hhi':Hid (unHi (datN (datN b 4) 1)=unHi (datN (datN b 4) 1)):=rfl;clear hok e1 e2 e3 hcO;have hsub:=seesB_of hu hB hbw.out;have hsu2:=seesB_of hu2 hB hbw.out;have hs4:=(sd4'.out.below hb37.out).more hb37.out.size;have hssg:=(hus2.out.below hb47.out).more hb47.out.size;have hse0:=(se0'.out.below hb67.out).more hb67.out.size;generalize hlo:unLo (datN (datN b 4) 1)=lo at hx hlo';generalize hhi:unHi (datN (datN b 4) 1)=hi at hx hhi';replace hlo:=lhd hlo;replace hhi:=lhd hhi;clear hlo' hhi';obtain⟨t0,t1,t2,t3,t4⟩:=K.out W8 hb37.out;clear t0 t1 t2 t3;have hcv:=lit13_run0 W8 W8.heap.size rfl;have hLS:=lit13_sees W8;have hbL:=balloc W8 (.cells #[.int .u8 115,.int .u8 101,.int .u8 99,.int .u8 116,.int .u8 105,.int .u8 109,.int .u8 101,.int .u8 32,.int .u8 98,.int .u8 97,.int .u8 116,.int .u8 99,.int .u8 104] 5 (13,14));have hfl:[tBatch,datN b 4].flatten=tBatch++datN b 4:=by simp
           have htl:tBatch.length=13:=rfl;have t4':(W8.alloc (.cells #[.int .u8 115,.int .u8 101,.int .u8 99,.int .u8 116,.int .u8 105,.int .u8 109,.int .u8 101,.int .u8 32,.int .u8 98,.int .u8 97,.int .u8 116,.int .u8 99,.int .u8 104] 5 (13,14))).cell? ⟨b6,o6+4,none⟩=some (.slice A14 (datN b 4).length c14):=(hbL.cell (p:=⟨b6,o6+4,none⟩) (Nat.lt_of_lt_of_le hb6 hb37.out.size)).trans t4;have hj:Calls prog 85 #[.slice (some ⟨W8.heap.size+1,0,none⟩) 2 2] ((W8.alloc (.cells #[.int .u8 115,.int .u8 101,.int .u8 99,.int .u8 116,.int .u8 105,.int .u8 109,.int .u8 101,.int .u8 32,.int .u8 98,.int .u8 97,.int .u8 116,.int .u8 99,.int .u8 104] 5 (13,14))).alloc (.cells #[.slice (some ⟨W8.heap.size,0,none⟩) 13 13,.slice A14 (datN b 4).length c14] 25)) fun e w'=>∃v,e=.returned v/\OwnB w' W8.heap.size v [tBatch,datN b 4].flatten/\Below W8.heap.size W8 w':=
            rjoin_lit (vs:=[.slice (some ⟨W8.heap.size,0,none⟩) 13 13,.slice A14 (datN b 4).length c14]) [tBatch,datN b 4] W8 (W8.alloc (.cells #[.int .u8 115,.int .u8 101,.int .u8 99,.int .u8 116,.int .u8 105,.int .u8 109,.int .u8 101,.int .u8 32,.int .u8 98,.int .u8 97,.int .u8 116,.int .u8 99,.int .u8 104] 5 (13,14))) (W8.heap.size+1) (xsa _ _) hbL ⟨hLS.more (by rw[xsa];exact Nat.le_refl _),seesB_of hs4 nlr hbL,trivial⟩ (by simp) (by rw[hfl];simp[htl];have:=hl4.out;omega)
           rw[hfl] at hj;have hvf:Hid (∀W v,Below W8.heap.size W8 W->SeesB W W.heap.size v (tBatch++datN b 4)->Calls prog 116 #[.slice A p.length c,v,.slice Au nu cu] W (BoolPost (bsigOk p b) W)):=fun W v hW hv=>by
            rw[hbs.out];exact rverify_any W.heap.size _ v _ p (tBatch++datN b 4) sg W (seesB_of hsub nlr hW) hv (seesB_of hssg nlr hW) nlr (by have:=hb48.out;have:=datN_len b 4;rw[xla,htl];omega) hsgl.out
           have hck:Hid (∀W v,Below W8.heap.size W8 W->SeesL W W.heap.size v (cutL 32 ((datN b 2).length / 32) (datN b 2))->Calls prog 31 #[.slice A20 (datN (datN b 4) 0).length c20,.int .i64 (getB (datN b 1):Int),.int .i64 (getB (datN b 0):Int),.slice A2 n.length c2,v] W (BoolPost (bpathOk n b) W)):=fun W v hW hv=>by
            rw[hbp.out];exact rcheck_any _ _ _ n _ W.heap.size _ _ _ W (seesB_of hse0 nlr hW) (seesB_of hsu2 nlr hW) hv nlr (by have:=hn.out;omega) hcl.out
           generalize hTB:tBatch++datN b 4=TB at hj hvf;replace hTB:=lhd hTB;replace hj:=lhd hj;generalize hsb:bsigOk p b=sok at *;generalize hpb:bpathOk n b=pok at *;replace hsb:=lhd hsb;replace hpb:=lhd hpb;replace hr:=lhd hr;replace hx:=lhd hx;clear hs4 hssg hse0 hsub hsu2 hLS hbL hfl htl hbs hbp hcl hus2 t4 se0'
           go_wp2_with fail
           refine hj.out.mono ?_;rintro e w9 ⟨v9,rfl,h9,hb9⟩;have hvf9:=lhd (hvf.out w9 v9 hb9 h9.sees);obtain⟨A9,c9,rfl,-,-⟩:=h9.sees.mk_;clear hvf hj hcv t4' h9;dsimp only
           go_wp2_with fail
           refine hvf9.out.mono ?_;rintro e w10 ⟨rfl,hb10⟩;replace hb10:=bgo hb9 hb10;clear hvf9 hb9;replace hr:=hr.out.below hb10;replace hbw:=lhd (bgo hbw.out hb10);replace hx:=hx.out.below hb10;dsimp only;cases sok with
           | false=>
             have hbad:Hid (bverC p n b=26):=by show _=_;rw[hC1.out];simp
             have y0:=hr.cell 0;have y1:=hr.cell 1;simp only[xqz,xqs] at y0 y1;have f0:=hr.frozen 0;have f1:=hr.frozen 1
             go_wp2_with fail
             have kz:=lhd (box_set2 hr (.int .i64 0) (.int .i64 0));have kb:=lhd (below_set2 hbw.out (Nat.le_of_eq hg2.out) (.int .i64 0) (.int .i64 0));clear y0 y1 f0 f1;generalize (w10.setCell ⟨g2,0,none⟩ (.int .i64 0)).setCell ⟨g2,1,none⟩ (.int .i64 0)=W9 at *;have z0:W9.cell? ⟨g2,0,none⟩=some (.int .i64 0):=kz.out.cell 0;have z1:W9.cell? ⟨g2,1,none⟩=some (.int .i64 0):=kz.out.cell 1;refine bodyPost_ret (v:=.tuple #[.agg #[.int .i64 0,.int .i64 0],.int .i64 26]) (by simp[results,results271,go_sem,z0,z1]) rfl ?_;exact bver_bad hbad.out (by decide) rfl kb.out
           | true=>
             have hb310:=lhd (bgo hb37.out hb10);have hb610:=lhd (bgo hb67.out hb10);obtain⟨t0,t1,t2,t3,t4⟩:=K.out w10 hb310.out;have q0:=K2.out w10 hb610.out;clear t3 t4;have KK:Hid (∀W':World,Below w10.heap.size w10 W'->W'.cell? ⟨b6,o6,none⟩=some (.slice A10 (datN b 0).length c10)/\W'.cell? ⟨b6,o6+1,none⟩=some (.slice A11 (datN b 1).length c11)/\W'.cell? ⟨b6,o6+2,none⟩=some (.slice A12 (datN b 2).length c12)/\W'.cell? ⟨b7,o7,none⟩=some (.slice A20 (datN (datN b 4) 0).length c20)):=fun W' hW'=>by
              obtain⟨z0,z1,z2,z3,z4⟩:=K.out W' (bgo hb310.out hW');exact⟨z0,z1,z2,K2.out W' (bgo hb610.out hW')⟩
             have hga':=lhd (hga.out w10.drew (bgo hb310.out (bdrew _)));have hgb':=lhd (hgb.out w10.drew (bgo hb310.out (bdrew _)));have hsp':=lhd (hsp.out w10.drew (bgo hb310.out (bdrew _)));have hck':Hid (∀W v,Below w10.heap.size w10 W->SeesL W W.heap.size v (cutL 32 ((datN b 2).length / 32) (datN b 2))->Calls prog 31 #[.slice A20 (datN (datN b 4) 0).length c20,.int .i64 (getB (datN b 1):Int),.int .i64 (getB (datN b 0):Int),.slice A2 n.length c2,v] W (BoolPost pok W)):=fun W v hW hv=>hck.out W v (bgo hb10 hW) hv
             replace iw0:IntKind.i64.wrap (getB (datN b 0):Int)=(getB (datN b 0):Int):=by rw[xwi];have:=n0.out;omega
             have iw1:IntKind.i64.wrap (getB (datN b 1):Int)=(getB (datN b 1):Int):=by rw[xwi];have:=n1.out;omega
             replace hr:=lhd hr;replace hx:=lhd hx;clear hga hgb hsp hck K K2;generalize cutL 32 ((datN b 2).length / 32) (datN b 2)=ps at *;generalize getB (datN b 0)=ix at *;generalize getB (datN b 1)=nx at *
             go_wp2_with fail
             go_region_held3 (fun W':World=>W'.cell? ⟨b6,o6,none⟩=some (.slice A10 (datN b 0).length c10)/\W'.cell? ⟨b6,o6+1,none⟩=some (.slice A11 (datN b 1).length c11)/\W'.cell? ⟨b6,o6+2,none⟩=some (.slice A12 (datN b 2).length c12)/\W'.cell? ⟨b7,o7,none⟩=some (.slice A20 (datN (datN b 4) 0).length c20))
              (first | (with_reducible exact KK.out _ hb12) | (with_reducible exact KK.out _ hb11) | exact KK.out _ (by (repeat (first | exact Below.refl _ _ | (refine bgo ?_ (balloc _ _)) | (refine bgo ?_ (bdrew _)) | (refine bgo ?_ (by assumption))))) | (go_keep;done))
              (first
               | (go_at_call 31;(with_reducible refine (hck'.out _ _ hb11 h11).mono ?_);rintro e w12 ⟨rfl,hb12⟩;replace hb12:=bgo hb11 hb12)
               | (go_at_call 289;(with_reducible refine hsp'.out.mono ?_);rintro e w11 ⟨v11,rfl,h11',hb11⟩;replace hb11:=bgo (bdrew w10) hb11;have h11:=h11'.sees;obtain⟨A11',c11',rfl⟩:=h11'.shape)
               | (go_at_call 230;(with_reducible refine hga'.out.mono ?_);rintro e w' ⟨rfl,rfl⟩)
               | (go_at_call 230;(with_reducible refine hgb'.out.mono ?_);rintro e w' ⟨rfl,rfl⟩))
             all_goals
              clear t0 t1 t2 q0 KK hga' hgb' hsp' hck' iw0 iw1 h11 hb11;replace hr:=hr.out.below hb12;replace hx:=hx.out.below hb12;replace hbw:=lhd (bgo hbw.out hb12);cases pok with
              | false=>
                have hbad:Hid (bverC p n b=23):=by show _=_;rw[hC1.out];simp
                have y0:=hr.cell 0;have y1:=hr.cell 1;simp only[xqz,xqs] at y0 y1;have f0:=hr.frozen 0;have f1:=hr.frozen 1
                go_wp2_with fail
                have kz:=lhd (box_set2 hr (.int .i64 0) (.int .i64 0));have kb:=lhd (below_set2 hbw.out (Nat.le_of_eq hg2.out) (.int .i64 0) (.int .i64 0));clear y0 y1 f0 f1;generalize (w12.setCell ⟨g2,0,none⟩ (.int .i64 0)).setCell ⟨g2,1,none⟩ (.int .i64 0)=W9 at *;have z0:W9.cell? ⟨g2,0,none⟩=some (.int .i64 0):=kz.out.cell 0;have z1:W9.cell? ⟨g2,1,none⟩=some (.int .i64 0):=kz.out.cell 1;refine bodyPost_ret (v:=.tuple #[.agg #[.int .i64 0,.int .i64 0],.int .i64 23]) (by simp[results,results271,go_sem,z0,z1]) rfl ?_;exact bver_bad hbad.out (by decide) rfl kb.out
              | true=>
                have hok:Hid (bverC p n b=0):=by show _=_;rw[hC1.out];simp
                have x6:=hx.cell 0;have x7:=hx.cell 1;simp only[xqz,xqs] at x6 x7;have y0:=hr.cell 0;have y1:=hr.cell 1;simp only[xqz,xqs] at y0 y1;have f0:=hr.frozen 0;have f1:=hr.frozen 1
                go_wp2_with fail
                have kz:=lhd (box_set2 hr (.int .i64 lo) (.int .i64 hi));have kb:=lhd (below_set2 hbw.out (Nat.le_of_eq hg2.out) (.int .i64 lo) (.int .i64 hi));clear y0 y1 f0 f1;generalize (w12.setCell ⟨g2,0,none⟩ (.int .i64 lo)).setCell ⟨g2,1,none⟩ (.int .i64 hi)=W9 at *;have z0:W9.cell? ⟨g2,0,none⟩=some (.int .i64 lo):=kz.out.cell 0;have z1:W9.cell? ⟨g2,1,none⟩=some (.int .i64 hi):=kz.out.cell 1;refine bodyPost_ret (v:=.tuple #[.agg #[.int .i64 lo,.int .i64 hi],.int .i64 0]) (by simp[results,results271,go_sem,z0,z1]) rfl ?_;exact bver_ok hok.out hlo.out hhi.out rfl kb.out
        have j0:¬((datN (datN b 4) 0).length:Int)=32:=by omega
        replace hr:=hr.out;clear se0 se1 q1;simp only[Option.isSome_some];have hpc3:parseC b=3:=by rw[parseC,if_pos E0.out,if_neg (by unfold parseOk;simp[contOk,m3])]
        have hbad:Hid (bverC p n b=3):=by show _=_;rw[bverC,if_pos hn.out,if_neg (by rw[hpc3];decide),hpc3]
        clear hpc3;have y0:=hr.cell 0;have y1:=hr.cell 1;simp only[xqz,xqs] at y0 y1;have f0:=hr.frozen 0;have f1:=hr.frozen 1
        go_wp2_with fail
        have kz:=lhd (box_set2 hr (.int .i64 0) (.int .i64 0));have kb:=lhd (below_set2 hbw.out (Nat.le_of_eq hg2.out) (.int .i64 0) (.int .i64 0));clear y0 y1 f0 f1;generalize (w6.setCell ⟨g2,0,none⟩ (.int .i64 0)).setCell ⟨g2,1,none⟩ (.int .i64 0)=W9 at *;have z0:W9.cell? ⟨g2,0,none⟩=some (.int .i64 0):=kz.out.cell 0;have z1:W9.cell? ⟨g2,1,none⟩=some (.int .i64 0):=kz.out.cell 1;refine bodyPost_ret (v:=.tuple #[.agg #[.int .i64 0,.int .i64 0],.int .i64 3]) (by simp[results,results271,go_sem,z0,z1]) rfl ?_;exact bver_bad hbad.out (by decide) rfl kb.out
       replace hr:=hr.out.below hb6';replace hbw:=lhd (bgo hbw.out hb6');have hpc3:parseC b=3:=by rw[parseC,if_pos E0.out,if_neg (by unfold parseOk contOk;simp[hnm2])]
       have hbad:Hid (bverC p n b=3):=by show _=_;rw[bverC,if_pos hn.out,if_neg (by rw[hpc3];decide),hpc3]
       clear hpc3;replace hnm2:=lhd hnm2;generalize (unpadG (datN b 3)).isSome=ok at *;generalize decC (datN b 4)=E4 at *;clear hb6' hb45 hb46 hd4E;dsimp only;have y0:=hr.cell 0;have y1:=hr.cell 1;simp only[xqz,xqs] at y0 y1;have f0:=hr.frozen 0;have f1:=hr.frozen 1
       by_cases hE4:E4=0
       ·subst hE4
        cases ok<;>go_wp2_with fail
        all_goals
         have kz:=lhd (box_set2 hr (.int .i64 0) (.int .i64 0));have kb:=lhd (below_set2 hbw.out (Nat.le_of_eq hg2.out) (.int .i64 0) (.int .i64 0));clear y0 y1 f0 f1;generalize (w6.setCell ⟨g2,0,none⟩ (.int .i64 0)).setCell ⟨g2,1,none⟩ (.int .i64 0)=W9 at *;have z0:W9.cell? ⟨g2,0,none⟩=some (.int .i64 0):=kz.out.cell 0;have z1:W9.cell? ⟨g2,1,none⟩=some (.int .i64 0):=kz.out.cell 1;refine bodyPost_ret (v:=.tuple #[.agg #[.int .i64 0,.int .i64 0],.int .i64 3]) (by simp[results,results271,go_sem,z0,z1]) rfl ?_;exact bver_bad hbad.out (by decide) rfl kb.out
       have hE4b:(E4 == 0)=false:=by rw[beq_eq_false_iff_ne];exact hE4
       cases ok<;>go_wp2_with fail
       all_goals
        have kz:=lhd (box_set2 hr (.int .i64 0) (.int .i64 0));have kb:=lhd (below_set2 hbw.out (Nat.le_of_eq hg2.out) (.int .i64 0) (.int .i64 0));clear y0 y1 f0 f1;generalize (w6.setCell ⟨g2,0,none⟩ (.int .i64 0)).setCell ⟨g2,1,none⟩ (.int .i64 0)=W9 at *;have z0:W9.cell? ⟨g2,0,none⟩=some (.int .i64 0):=kz.out.cell 0;have z1:W9.cell? ⟨g2,1,none⟩=some (.int .i64 0):=kz.out.cell 1;refine bodyPost_ret (v:=.tuple #[.agg #[.int .i64 0,.int .i64 0],.int .i64 3]) (by simp[results,results271,go_sem,z0,z1]) rfl ?_;exact bver_bad hbad.out (by decide) rfl kb.out
      have i0:((datN b 0).length:Int)=4:=by omega
      have i1:((datN b 1).length:Int)=4:=by omega
      have i2:¬((datN b 2).length:Int) % 32=0:=by omega
      have hpc3:parseC b=3:=by rw[parseC,if_pos E0.out,if_neg (by unfold parseOk;simp[m2])]
      have hbad:Hid (bverC p n b=3):=by show _=_;rw[bverC,if_pos hn.out,if_neg (by rw[hpc3];decide),hpc3]
      clear hpc3;have y0:=hr.cell 0;have y1:=hr.cell 1;simp only[xqz,xqs] at y0 y1;have f0:=hr.frozen 0;have f1:=hr.frozen 1
      go_wp2_with fail
      have kz:=lhd (box_set2 hr (.int .i64 0) (.int .i64 0));have kb:=lhd (below_set2 hbw.out (Nat.le_of_eq hg2.out) (.int .i64 0) (.int .i64 0));clear y0 y1 f0 f1;generalize (w3.setCell ⟨g2,0,none⟩ (.int .i64 0)).setCell ⟨g2,1,none⟩ (.int .i64 0)=W9 at *;have z0:W9.cell? ⟨g2,0,none⟩=some (.int .i64 0):=kz.out.cell 0;have z1:W9.cell? ⟨g2,1,none⟩=some (.int .i64 0):=kz.out.cell 1;refine bodyPost_ret (v:=.tuple #[.agg #[.int .i64 0,.int .i64 0],.int .i64 3]) (by simp[results,results271,go_sem,z0,z1]) rfl ?_;exact bver_bad hbad.out (by decide) rfl kb.out
     have i0:((datN b 0).length:Int)=4:=by omega
     have i1:¬((datN b 1).length:Int)=4:=by omega
     have hpc3:parseC b=3:=by rw[parseC,if_pos E0.out,if_neg (by unfold parseOk;simp[m1])]
     have hbad:Hid (bverC p n b=3):=by show _=_;rw[bverC,if_pos hn.out,if_neg (by rw[hpc3];decide),hpc3]
     clear hpc3;have y0:=hr.cell 0;have y1:=hr.cell 1;simp only[xqz,xqs] at y0 y1;have f0:=hr.frozen 0;have f1:=hr.frozen 1
     go_wp2_with fail
     have kz:=lhd (box_set2 hr (.int .i64 0) (.int .i64 0));have kb:=lhd (below_set2 hbw.out (Nat.le_of_eq hg2.out) (.int .i64 0) (.int .i64 0));clear y0 y1 f0 f1;generalize (w3.setCell ⟨g2,0,none⟩ (.int .i64 0)).setCell ⟨g2,1,none⟩ (.int .i64 0)=W9 at *;have z0:W9.cell? ⟨g2,0,none⟩=some (.int .i64 0):=kz.out.cell 0;have z1:W9.cell? ⟨g2,1,none⟩=some (.int .i64 0):=kz.out.cell 1;refine bodyPost_ret (v:=.tuple #[.agg #[.int .i64 0,.int .i64 0],.int .i64 3]) (by simp[results,results271,go_sem,z0,z1]) rfl ?_;exact bver_bad hbad.out (by decide) rfl kb.out
    have i0:¬((datN b 0).length:Int)=4:=by omega
    have hpc3:parseC b=3:=by rw[parseC,if_pos E0.out,if_neg (by unfold parseOk;simp[m0])]
    have hbad:Hid (bverC p n b=3):=by show _=_;rw[bverC,if_pos hn.out,if_neg (by rw[hpc3];decide),hpc3]
    clear hpc3;have y0:=hr.cell 0;have y1:=hr.cell 1;simp only[xqz,xqs] at y0 y1;have f0:=hr.frozen 0;have f1:=hr.frozen 1
    go_wp2_with fail
    have kz:=lhd (box_set2 hr (.int .i64 0) (.int .i64 0));have kb:=lhd (below_set2 hbw.out (Nat.le_of_eq hg2.out) (.int .i64 0) (.int .i64 0));clear y0 y1 f0 f1;generalize (w3.setCell ⟨g2,0,none⟩ (.int .i64 0)).setCell ⟨g2,1,none⟩ (.int .i64 0)=W9 at *;have z0:W9.cell? ⟨g2,0,none⟩=some (.int .i64 0):=kz.out.cell 0;have z1:W9.cell? ⟨g2,1,none⟩=some (.int .i64 0):=kz.out.cell 1;refine bodyPost_ret (v:=.tuple #[.agg #[.int .i64 0,.int .i64 0],.int .i64 3]) (by simp[results,results271,go_sem,z0,z1]) rfl ?_;exact bver_bad hbad.out (by decide) rfl kb.out
   replace hr:=hr.below hb3;replace hbw:=lhd (bgo hbw.out hb3);clear hb3;have hpc3:parseC b=3:=by rw[parseC,if_pos E0.out,if_neg (by unfold parseOk;simp[hnm])]
   have hbad:Hid (bverC p n b=3):=by show _=_;rw[bverC,if_pos hn.out,if_neg (by rw[hpc3];decide),hpc3]
   clear hpc3;have y0:=hr.cell 0;have y1:=hr.cell 1;simp only[xqz,xqs] at y0 y1;have f0:=hr.frozen 0;have f1:=hr.frozen 1
   go_wp2_with fail
   have kz:=lhd (box_set2 hr (.int .i64 0) (.int .i64 0));have kb:=lhd (below_set2 hbw.out (Nat.le_of_eq hg2.out) (.int .i64 0) (.int .i64 0));clear y0 y1 f0 f1;generalize (w3.setCell ⟨g2,0,none⟩ (.int .i64 0)).setCell ⟨g2,1,none⟩ (.int .i64 0)=W9 at *;have z0:W9.cell? ⟨g2,0,none⟩=some (.int .i64 0):=kz.out.cell 0;have z1:W9.cell? ⟨g2,1,none⟩=some (.int .i64 0):=kz.out.cell 1;refine bodyPost_ret (v:=.tuple #[.agg #[.int .i64 0,.int .i64 0],.int .i64 3]) (by simp[results,results271,go_sem,z0,z1]) rfl ?_;exact bver_bad hbad.out (by decide) rfl kb.out
  have hpc3:parseC b=decC b:=by rw[parseC,if_neg E0]
  have hbad:Hid (bverC p n b=decC b):=by show _=_;rw[bverC,if_pos hn.out,if_neg (by rw[hpc3];exact E0),hpc3]
  clear hpc3;have hne:decC b≠0:=E0;generalize decC b=E at *;replace hbw:=lhd hbw;obtain⟨Av,cv,rfl,-,-⟩:=s1.mk_;clear s1;have y0:=hr.cell 0;have y1:=hr.cell 1;simp only[xqz,xqs] at y0 y1;have f0:=hr.frozen 0;have f1:=hr.frozen 1
  go_wp2_with fail
  have kz:=lhd (box_set2 hr (.int .i64 0) (.int .i64 0));have kb:=lhd (below_set2 hbw.out (Nat.le_of_eq hg2.out) (.int .i64 0) (.int .i64 0));clear y0 y1 f0 f1;generalize (w1.setCell ⟨g2,0,none⟩ (.int .i64 0)).setCell ⟨g2,1,none⟩ (.int .i64 0)=W9 at *;have z0:W9.cell? ⟨g2,0,none⟩=some (.int .i64 0):=kz.out.cell 0;have z1:W9.cell? ⟨g2,1,none⟩=some (.int .i64 0):=kz.out.cell 1;refine bodyPost_ret (v:=.tuple #[.agg #[.int .i64 0,.int .i64 0],.int .i64 E]) (by simp[results,results271,go_sem,z0,z1]) rfl ?_;exact bver_bad hbad.out hne rfl kb.out
 have in0:¬((n.length:Int)=32):=by omega
 have hbad:Hid (bverC p n b=3):=by show _=_;rw[bverC,if_neg hn]
 clear hu hu2 hu3 hn
 go_enter func271,ntmps271
 go_wp2_with fail
 go_returns
 exact bver_bad hbad.out (by decide) rfl (by go_grown)
end Go.Proofs.YtjgepckncogdaaaGreat
