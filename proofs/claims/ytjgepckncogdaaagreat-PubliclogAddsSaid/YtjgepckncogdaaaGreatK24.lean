/- Contracts of functions, walks, plain facts. Conditions: those of each theorem. -/
import Derived.Test.YtjgepckncogdaaaGreatK23
import Derived.Test.YtjgepckncogdaaaGreatK18
set_option linter.unusedVariables false
set_option linter.unusedSimpArgs false
set_option maxRecDepth 100000
set_option maxHeartbeats 16000000
namespace Go.Proofs.YtjgepckncogdaaaGreat
open Go Go.RowKit _root_.Go.Proofs.Tryz
attribute [local go_sem ↓] Go.wp_at_zero Go.wp_at_succ
theorem rdverify_any (B:Nat) (u u2 u3:Value) (l n b:Bs) (w:World) (hu:SeesB w B u l) (hu2:SeesB w B u2 n) (hu3:SeesB w B u3 b) (hB:B<=w.heap.size) (hl:b.length<=1048576) :
 Calls prog 228 #[u,u2,u3] w (DVerP l n b w):=by
 obtain⟨A,c,rfl,-,-⟩:=hu.mk_;obtain⟨A2,c2,rfl,-,-⟩:=hu2.mk_;obtain⟨A3,c3,rfl,-,-⟩:=hu3.mk_;have hal:=balloc w (.cells #[.int .i64 0,.int .i64 0] 24);have h2:=Box.new w 24 [.int .i64 0,.int .i64 0];change Box (w.alloc (.cells #[.int .i64 0,.int .i64 0] 24)) _ _ _ at h2;have su:=lhd (seesB_of hu hB hal);have sn:=lhd (seesB_of hu2 hB hal);have hdec:=rdecode_any _ _ b _ (seesB_of hu3 hB hal) nlr hl;unfold DecP at hdec;replace hdec:=lhd hdec;replace hal:=lhd hal;have hd9:=lhd (fun k=>Nat.le_trans (datN_len b k) hl);clear hu hu2 hu3 hl
 go_enter func228,ntmps228
 go_upto_region 1 with (fail)
 generalize w.alloc (.cells #[.int .i64 0,.int .i64 0] 24)=W0 at *;generalize hgg:w.heap.size=g2 at h2 ⊢;have hg2:Hid (w.heap.size<=g2):=by show _<=_;omega
 replace hgg:=lhd hgg
 go_wp2_with fail
 refine hdec.out.mono ?_;rintro e w1 ⟨v1,rfl,s1,hb1⟩;replace h2:=h2.below hb1;replace su:=lhd (seesB_of su.out nlr hb1);replace sn:=lhd (seesB_of sn.out nlr hb1);have hbw:=lhd (bgo hal.out hb1);obtain⟨A1,c1,rfl,-,-⟩:=s1.mk_;clear hdec hal hb1;dsimp only
 by_cases E0:decC b=0
 rotate_left
 ·have hC:Hid (dverC l n b=decC b):=by show _=_;rw[dverC,if_neg E0]
  have hE:(decC b == 0)=false:=by simp[E0]
  generalize decC b=E at *;replace E0:=lhd E0;clear s1;obtain⟨y0,y1,f0,f1⟩:=box2_cells h2
  go_wp2_with fail
  have k:=box_set2 h2 (.int .i64 0) (.int .i64 0);have kb:=lhd (below_set2 hbw.out hg2.out (.int .i64 0) (.int .i64 0));clear y0 y1 f0 f1 h2;generalize (w1.setCell ⟨g2,0,none⟩ (.int .i64 0)).setCell ⟨g2,1,none⟩ (.int .i64 0)=W9 at *;obtain⟨z0,z1⟩:=boxT2 k;refine bodyPost_ret (v:=.tuple #[.agg #[.int .i64 0,.int .i64 0],.int .i64 E]) (by simp[results,results228,go_sem,z0,z1]) rfl ?_;exact dver_bad hC.out E0.out rfl kb.out
 rw[E0];replace E0:=lhd E0;have hlt:=namesA_lit w1;have hal1:=balloc w1 (.cells #[.string ⟨#[65,78,83,87]⟩,.string ⟨#[67,69,82,84]⟩] 9);have s2:=(s1.below hal1).more hal1.size;replace su:=lhd (seesB_of su.out nlr hal1);replace sn:=lhd (seesB_of sn.out nlr hal1);replace h2:=h2.below hal1;replace hbw:=lhd (bgo hbw.out hal1);rw[<-xsa w1 (.cells #[.string ⟨#[65,78,83,87]⟩,.string ⟨#[67,69,82,84]⟩] 9)] at hlt;have hpt:=exactly_any _ _ _ _ (decT b) namesA _ s2 hlt nlr nlr (Nat.le_trans (decT_len b) (by omega));unfold PartsP at hpt;replace hpt:=lhd hpt;clear s1 s2 hlt hal1
 go_wp2_with fail
 generalize w1.alloc (.cells #[.string ⟨#[65,78,83,87]⟩,.string ⟨#[67,69,82,84]⟩] 9)=w2 at *;refine hpt.out.mono ?_;rintro e w3 hP;rcases hP with ⟨hnm,v3,rfl,ho,hb3⟩|⟨hnm,rfl,hb3⟩;rotate_left
 ·have hC:Hid (dverC l n b=3):=by show _=_;rw[dverC,if_pos E0.out,decide_eq_false hnm];rfl
  replace h2:=h2.below hb3;replace hbw:=lhd (bgo hbw.out hb3);clear hpt hb3;dsimp only;obtain⟨y0,y1,f0,f1⟩:=box2_cells h2
  go_wp2_with fail
  have k:=box_set2 h2 (.int .i64 0) (.int .i64 0);have kb:=lhd (below_set2 hbw.out hg2.out (.int .i64 0) (.int .i64 0));clear y0 y1 f0 f1 h2;generalize (w3.setCell ⟨g2,0,none⟩ (.int .i64 0)).setCell ⟨g2,1,none⟩ (.int .i64 0)=W9 at *;obtain⟨z0,z1⟩:=boxT2 k;refine bodyPost_ret (v:=.tuple #[.agg #[.int .i64 0,.int .i64 0],.int .i64 3]) (by simp[results,results228,go_sem,z0,z1]) rfl ?_;exact dver_bad hC.out (by decide) rfl kb.out
 have hC1:Hid (dverC l n b=dver1C l n (datN b 0) (datN b 1)):=by show _=_;rw[dverC,if_pos E0.out,decide_eq_true hnm,if_pos rfl]
 replace h2:=h2.below hb3;replace su:=lhd (seesB_of su.out nlr hb3);replace sn:=lhd (seesB_of sn.out nlr hb3);replace hbw:=lhd (bgo hbw.out hb3);have hL2:((decT b).map (·.2)).length=2:=by
  have:=congrArg List.length hnm
  simpa [namesA] using this
 have hsl:=ho.sees;obtain⟨A7,c7,rfl,-,-⟩:=hsl.mk_;obtain⟨b6,o6,rfl,hb6,hcell⟩:=hsl.at_ (by omega);obtain⟨A10,c10,t0,-,-,sd0⟩:=hcell 0 (by omega);obtain⟨A11,c11,t1,-,-,sd1⟩:=hcell 1 (by omega);rw[dat_get b 0] at t0 sd0;rw[dat_get b 1] at t1 sd1;replace t0:w3.cell? ⟨b6,o6,none⟩=some (.slice A10 (datN b 0).length c10):=t0;rw[hL2];have ha0l:=lhd (hd9.out 0);have ha1l:=hd9.out 1;have hle:Hid (dverC l n b=0->dverC l n b=0):=fun h=>h
 generalize hda0:datN b 0=a0 at *;generalize hda1:datN b 1=a1 at *;have hSl:=lhd (Nat.le_trans (delS_len a1) ha1l);have hdd:=rddecode_any w3.heap.size _ a1 w3 sd1 nlr ha1l;unfold DDecP at hdd;unfold dver1C at hC1;generalize hdP:delP a1=P at *;generalize hdS:delS a1=S at *;generalize delLo a1=f at *;generalize delHi a1=t at *;generalize delC a1=C at *;have K3:Hid (∀W,Below w3.heap.size w3 W->W.cell? ⟨b6,o6,none⟩=some (.slice A10 a0.length c10)):=fun W hW=>(hW.cell (p:=⟨b6,o6,none⟩) hb6).trans t0
 replace sd0:=lhd sd0;replace hda0:=lhd hda0;replace hda1:=lhd hda1;replace hdP:=lhd hdP;replace hdS:=lhd hdS;replace hnm:=lhd hnm;replace hdd:=lhd hdd;replace ha1l:=lhd ha1l;clear hcell hsl ho hpt hb3 sd1 t0 hL2 hd9;dsimp only
 go_wp2_with fail
 refine hdd.out.mono ?_;rintro e w4 ⟨v4,v5,rfl,s4,s5,hb4⟩;obtain⟨A4,c4,rfl,-,-⟩:=s4.mk_;obtain⟨A5,c5,rfl,-,-⟩:=s5.mk_;have hal4:=balloc w4 (.cells #[.slice A4 P.length c4,.int .i64 f,.int .i64 t,.slice A5 S.length c5] 94);have x14:=Box.new w4 94 [.slice A4 P.length c4,.int .i64 f,.int .i64 t,.slice A5 S.length c5];change Box (w4.alloc (.cells #[.slice A4 P.length c4,.int .i64 f,.int .i64 t,.slice A5 S.length c5] 94)) _ _ _ at x14;have hb34:=bgo hb4 hal4;replace h2:=h2.below hb34;replace su:=lhd (seesB_of su.out nlr hb34);replace sn:=lhd (seesB_of sn.out nlr hb34);replace sd0:=lhd (seesB_of sd0.out nlr hb34);replace hbw:=lhd (bgo hbw.out hb34);have K4:Hid (∀W,Below (w4.alloc (.cells #[.slice A4 P.length c4,.int .i64 f,.int .i64 t,.slice A5 S.length c5] 94)).heap.size (w4.alloc (.cells #[.slice A4 P.length c4,.int .i64 f,.int .i64 t,.slice A5 S.length c5] 94)) W->W.cell? ⟨b6,o6,none⟩=some (.slice A10 a0.length c10)):=fun W hW=>K3.out W (bgo hb34 hW)
 replace s4:=lhd (seesB_of s4 nlr hal4);replace s5:=lhd (seesB_of s5 nlr hal4);clear hb4 hal4 hb34 K3 hdd t1;dsimp only
 go_upto_region 8 with (fail)
 generalize w4.alloc (.cells #[.slice A4 P.length c4,.int .i64 f,.int .i64 t,.slice A5 S.length c5] 94)=W4 at *;generalize w4.heap.size=g14 at *
 by_cases E4:C=0
 rotate_left
 ·have hC:Hid (dverC l n b=C):=by show _=_;rw[hC1.out,if_neg E4]
  have hE:(C == 0)=false:=by simp[E4]
  replace E4:=lhd E4;clear x14;obtain⟨y0,y1,f0,f1⟩:=box2_cells h2
  go_wp2_with fail
  have k:=box_set2 h2 (.int .i64 0) (.int .i64 0);have kb:=lhd (below_set2 hbw.out hg2.out (.int .i64 0) (.int .i64 0));clear y0 y1 f0 f1 h2;generalize (W4.setCell ⟨g2,0,none⟩ (.int .i64 0)).setCell ⟨g2,1,none⟩ (.int .i64 0)=W9 at *;obtain⟨z0,z1⟩:=boxT2 k;refine bodyPost_ret (v:=.tuple #[.agg #[.int .i64 0,.int .i64 0],.int .i64 C]) (by simp[results,results228,go_sem,z0,z1]) rfl ?_;exact dver_bad hC.out E4.out rfl kb.out
 subst E4;rw[if_pos rfl] at hC1;obtain⟨q0,q1,q2,q3,-,-,-,-⟩:=box4_cells x14;have hck:=rdcheck_any W4.heap.size _ _ _ l P S f t W4 su.out s4.out s5.out nlr hSl.out;unfold DChkP at hck;generalize dcheckC l P f t S=D at *;replace hck:=lhd hck
 go_wp2_with fail
 refine hck.out.mono ?_;rintro e w5 ⟨rfl,hb5⟩;replace h2:=h2.below hb5;replace x14:=x14.below hb5;replace sn:=lhd (seesB_of sn.out nlr hb5);replace s4:=lhd (seesB_of s4.out nlr hb5);replace sd0:=lhd (seesB_of sd0.out nlr hb5);replace hbw:=lhd (bgo hbw.out hb5);have K5:Hid (∀W,Below w5.heap.size w5 W->W.cell? ⟨b6,o6,none⟩=some (.slice A10 a0.length c10)):=fun W hW=>K4.out W (bgo hb5 hW)
 clear q0 q1 q2 q3 hck hb5 K4 su s5;dsimp only
 by_cases E5:D=0
 rotate_left
 ·have hC:Hid (dverC l n b=D):=by show _=_;rw[hC1.out,if_neg E5]
  have hE:(D == 0)=false:=by simp[E5]
  replace E5:=lhd E5;clear x14;obtain⟨y0,y1,f0,f1⟩:=box2_cells h2
  go_wp2_with fail
  have k:=box_set2 h2 (.int .i64 0) (.int .i64 0);have kb:=lhd (below_set2 hbw.out hg2.out (.int .i64 0) (.int .i64 0));clear y0 y1 f0 f1 h2;generalize (w5.setCell ⟨g2,0,none⟩ (.int .i64 0)).setCell ⟨g2,1,none⟩ (.int .i64 0)=W9 at *;obtain⟨z0,z1⟩:=boxT2 k;refine bodyPost_ret (v:=.tuple #[.agg #[.int .i64 0,.int .i64 0],.int .i64 D]) (by simp[results,results228,go_sem,z0,z1]) rfl ?_;exact dver_bad hC.out E5.out rfl kb.out
 subst E5;rw[if_pos rfl] at hC1;unfold dver2C at hC1;have hvA:=fun (W:World) (hW:Below w5.heap.size w5 W)=>rbverify_any W.heap.size _ _ _ P n a0 W (seesB_of s4.out nlr hW) (seesB_of sn.out nlr hW) (seesB_of sd0.out nlr hW) nlr ha0l.out
 unfold BVerP at hvA;generalize hdlo:bverLo P n a0=lo at *;generalize hdhi:bverHi P n a0=hi at *;generalize bverC P n a0=E2 at *;replace hdlo:=lhd hdlo;replace hdhi:=lhd hdhi;replace hC1:=lhd hC1;have hv1:=lhd (hvA w5.drew (bdrew w5));have hv2:=lhd (hvA (w5.alloc (.cells #[.int .i64 0,.int .i64 0] 24)).drew (bgo (balloc w5 _) (bdrew _)));have hv3:=lhd (hvA w5 (Below.refl _ _));have hv4:=lhd (hvA (w5.alloc (.cells #[.int .i64 0,.int .i64 0] 24)) (balloc w5 _));have K:Hid (∀W,Below w5.heap.size w5 W->W.cell? ⟨g14,0,none⟩=some (.slice A4 P.length c4)/\W.cell? ⟨b6,o6,none⟩=some (.slice A10 a0.length c10)):=fun W hW=>⟨(x14.below hW).cell 0,K5.out W hW⟩
 obtain⟨k0,k1⟩:=K.out w5 (Below.refl _ _);clear hvA K5 sn s4 sd0
 go_wp2_with fail
 go_cut [14,9] (fun v16 v9 W=>V16 w5 lo hi E2 v16 v9 W)
 case first=>
  clear h2 x14
  go_region_held3 (fun W':World=>W'.cell? ⟨g14,0,none⟩=some (.slice A4 P.length c4)/\W'.cell? ⟨b6,o6,none⟩=some (.slice A10 a0.length c10))
   (first | (with_reducible exact K.out _ hb7) | (with_reducible exact K.out _ (below_set2 hb7 nlr _ _)) | exact K.out _ (by (repeat (first | exact Below.refl _ _ | (refine bgo ?_ (balloc _ _)) | (refine bgo ?_ (bdrew _)) | (refine bgo ?_ (by assumption))))) | (go_keep;done))
   (first
    | (go_at_call 271;(with_reducible refine hv1.out.mono ?_);rintro e w7 ⟨rfl,hb7⟩
       replace hb7:=bgo (bdrew w5) hb7)
    | (go_at_call 271;(with_reducible refine hv2.out.mono ?_);rintro e w7 ⟨rfl,hb7⟩
       have bz:=((Box.new w5 24 [.int .i64 0,.int .i64 0]).below (bdrew _)).below hb7;replace hb7:=bgo (bgo (balloc w5 _) (bdrew _)) hb7;obtain⟨e0,e1,j0,j1⟩:=box2_cells bz)
    | (go_at_call 271;(with_reducible refine hv3.out.mono ?_);rintro e w7 ⟨rfl,hb7⟩)
    | (go_at_call 271;(with_reducible refine hv4.out.mono ?_);rintro e w7 ⟨rfl,hb7⟩
       have bz:=(Box.new w5 24 [.int .i64 0,.int .i64 0]).below hb7;replace hb7:=bgo (balloc w5 _) hb7;obtain⟨e0,e1,j0,j1⟩:=box2_cells bz))
  all_goals
   go_wp2_with fail
   go_meet
   first
    | (with_reducible exact v16_new w5 w7 _ _ _ hb7)
    | (with_reducible exact v16_set w5 w7 _ _ _ _ bz nlr hb7)
 case rest=>
  obtain⟨g16,rfl,rfl,x16,hg16,hb7⟩:=hcut;obtain⟨w7,rfl⟩:∃w7:World,w7=wc:=⟨_,rfl⟩
  replace h2:=h2.below hb7;replace x14:=x14.below hb7;replace hbw:=lhd (bgo hbw.out hb7);clear k0 k1 K hv1 hv2 hv3 hv4 hb7 hg16
  by_cases E6:E2=0
  rotate_left
  ·have hC:Hid (dverC l n b=E2):=by show _=_;rw[hC1.out,if_neg E6]
   have hE:(E2 == 0)=false:=by simp[E6]
   replace E6:=lhd E6;clear x14 x16;obtain⟨y0,y1,f0,f1⟩:=box2_cells h2
   go_wp2_with fail
   have k:=box_set2 h2 (.int .i64 0) (.int .i64 0);have kb:=lhd (below_set2 hbw.out hg2.out (.int .i64 0) (.int .i64 0));clear y0 y1 f0 f1 h2;generalize (w7.setCell ⟨g2,0,none⟩ (.int .i64 0)).setCell ⟨g2,1,none⟩ (.int .i64 0)=W9 at *;obtain⟨z0,z1⟩:=boxT2 k;refine bodyPost_ret (v:=.tuple #[.agg #[.int .i64 0,.int .i64 0],.int .i64 E2]) (by simp[results,results228,go_sem,z0,z1]) rfl ?_;exact dver_bad hC.out E6.out rfl kb.out
  subst E6;replace hC1:Hid (dverC l n b=if inS lo hi f t=true then 0 else 25):=by show _=_;rw[hC1.out,if_pos rfl]
  have hwn:=lhd (fun W=>rwindow_any A4 P.length c4 A5 S.length c5 f t W);have hin:=lhd (fun W=>rinside_any lo hi f t W);have K:Hid (∀W,Below w7.heap.size w7 W->W.cell? ⟨g14,0,none⟩=some (.slice A4 P.length c4)/\W.cell? ⟨g14,1,none⟩=some (.int .i64 f)/\W.cell? ⟨g14,2,none⟩=some (.int .i64 t)/\W.cell? ⟨g14,3,none⟩=some (.slice A5 S.length c5)/\W.cell? ⟨g16,0,none⟩=some (.int .i64 lo)/\W.cell? ⟨g16,1,none⟩=some (.int .i64 hi)):=fun W hW=>⟨(x14.below hW).cell 0,(x14.below hW).cell 1,(x14.below hW).cell 2,(x14.below hW).cell 3,(x16.below hW).cell 0,(x16.below hW).cell 1⟩
  obtain⟨k0,k1,k2,k3,k4,k5⟩:=K.out w7 (Below.refl _ _);generalize hI:inS lo hi f t=I at *;replace hI:=lhd hI
  go_wp2_with fail
  go_cut [69] (fun v W=>v=.bool (!I)/\Hid (Below w7.heap.size w7 W))
  case first=>
   clear h2 x14 x16
   go_region_held3 (fun W':World=>W'.cell? ⟨g14,0,none⟩=some (.slice A4 P.length c4)/\W'.cell? ⟨g14,1,none⟩=some (.int .i64 f)/\W'.cell? ⟨g14,2,none⟩=some (.int .i64 t)/\W'.cell? ⟨g14,3,none⟩=some (.slice A5 S.length c5)/\W'.cell? ⟨g16,0,none⟩=some (.int .i64 lo)/\W'.cell? ⟨g16,1,none⟩=some (.int .i64 hi))
    (first | (with_reducible exact K.out _ hb9) | (with_reducible exact K.out _ hb8) | exact K.out _ (by (repeat (first | exact Below.refl _ _ | (refine bgo ?_ (balloc _ _)) | (refine bgo ?_ (bdrew _)) | (refine bgo ?_ (by assumption))))) | (go_keep;done))
    (first
     | (go_at_call 43;(with_reducible refine (hin.out w8).mono ?_);rintro e w9 ⟨rfl,hb9⟩
        replace hb9:=bgo hb8 hb9)
     | (go_at_call 226;(with_reducible refine (hwn.out w7.drew).mono ?_);rintro e w8 ⟨rfl,hb8⟩
        replace hb8:=bgo (bdrew w7) hb8)
     | (go_at_call 226;(with_reducible refine (hwn.out w7).mono ?_);rintro e w8 ⟨rfl,hb8⟩))
   all_goals
    go_wp2_with fail
    go_meet
    exact⟨rfl,hb9⟩
  case rest=>
   obtain⟨rfl,hb9⟩:=hcut;obtain⟨w9,rfl⟩:∃w9:World,w9=wc:=⟨_,rfl⟩
   replace h2:=h2.below hb9.out;replace x16:=x16.below hb9.out;replace hbw:=lhd (bgo hbw.out hb9.out);clear k0 k1 k2 k3 k4 k5 K hwn hin hb9 x14;cases I with
   | false=>
     have hC:Hid (dverC l n b=25):=by show _=_;rw[hC1.out];rfl
     clear x16;obtain⟨y0,y1,f0,f1⟩:=box2_cells h2
     go_wp2_with fail
     have k:=box_set2 h2 (.int .i64 0) (.int .i64 0);have kb:=lhd (below_set2 hbw.out hg2.out (.int .i64 0) (.int .i64 0));clear y0 y1 f0 f1 h2;generalize (w9.setCell ⟨g2,0,none⟩ (.int .i64 0)).setCell ⟨g2,1,none⟩ (.int .i64 0)=W9 at *;obtain⟨z0,z1⟩:=boxT2 k;refine bodyPost_ret (v:=.tuple #[.agg #[.int .i64 0,.int .i64 0],.int .i64 25]) (by simp[results,results228,go_sem,z0,z1]) rfl ?_;exact dver_bad hC.out (by decide) rfl kb.out
   | true=>
     have hC:Hid (dverC l n b=0):=by show _=_;rw[hC1.out];rfl
     obtain⟨m0,m1,-,-⟩:=box2_cells x16;obtain⟨y0,y1,f0,f1⟩:=box2_cells h2
     go_wp2_with fail
     have k:=box_set2 h2 (.int .i64 lo) (.int .i64 hi);have kb:=lhd (below_set2 hbw.out hg2.out (.int .i64 lo) (.int .i64 hi));clear y0 y1 f0 f1 h2;generalize (w9.setCell ⟨g2,0,none⟩ (.int .i64 lo)).setCell ⟨g2,1,none⟩ (.int .i64 hi)=W9 at *;obtain⟨z0,z1⟩:=boxT2 k;refine bodyPost_ret (v:=.tuple #[.agg #[.int .i64 lo,.int .i64 hi],.int .i64 0]) (by simp[results,results228,go_sem,z0,z1]) rfl ?_;exact dver_ok hC.out (by rw[hda1.out,hda0.out,hdP.out];exact hdlo.out) (by rw[hda1.out,hda0.out,hdP.out];exact hdhi.out) rfl kb.out
end Go.Proofs.YtjgepckncogdaaaGreat
