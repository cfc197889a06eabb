/- Contracts of functions, walks, plain facts. Conditions: those of each theorem. -/
import Derived.StillTailTactics
import Derived.Test.YtjgepckncogdaaaGreatK20
import Derived.Test.YtjgepckncogdaaaGreatK17
set_option linter.unusedVariables false
set_option linter.unusedSimpArgs false
set_option maxRecDepth 100000
set_option maxHeartbeats 16000000
namespace Go.Proofs.YtjgepckncogdaaaGreat
open Go Go.RowKit _root_.Go.Proofs.Tryz
attribute [local go_sem ↓] Go.wp_at_zero Go.wp_at_succ
theorem ddecode_any (B:Nat) (u:Value) (b:Bs) (w:World) (hu:SeesB w B u b) (hB:B<=w.heap.size) (hl:b.length<=1048576) :
 Calls prog 198 #[u] w (DDecP b w):=by
 obtain⟨A,c,rfl,-,-⟩:=hu.mk_;have hal:=balloc w (.cells #[.slice none 0 0,.int .i64 0,.int .i64 0,.slice none 0 0] 94);have h2:=Box.new w 94 [.slice none 0 0,.int .i64 0,.int .i64 0,.slice none 0 0];change Box (w.alloc (.cells #[.slice none 0 0,.int .i64 0,.int .i64 0,.slice none 0 0] 94)) _ _ _ at h2;have su:=seesB_of hu hB hal;have hdec:=decode_any _ _ b _ su nlr hl;unfold DecP at hdec;replace hdec:=lhd hdec;have hg2:Hid (w.heap.size<=w.heap.size):=Nat.le_refl _;replace hal:=lhd hal;clear hu
 go_enter func198,ntmps198
 go_upto_region 1 with (fail)
 generalize w.alloc (.cells #[.slice none 0 0,.int .i64 0,.int .i64 0,.slice none 0 0] 94)=W0 at *;generalize hgg:w.heap.size=g2 at h2 ⊢;have hg2:Hid (w.heap.size<=g2):=by show _<=_;omega
 replace hgg:=lhd hgg
 go_wp2_with fail
 refine hdec.out.mono ?_;rintro e w1 ⟨v1,rfl,s1,hb1⟩;have h2:=h2.below hb1;have su1:=seesB_of su nlr hb1;have hbw:=lhd (bgo hal.out hb1);obtain⟨A1,c1,rfl,-,-⟩:=s1.mk_;clear su hdec hal hb1;dsimp only
 by_cases E0:decC b=0
 rotate_left
 ·have hC:=lhd (delC_err E0)
  have hE:(decC b == 0)=false:=by simp[E0]
  generalize decC b=E at *;replace E0:=lhd E0;clear s1 su1;obtain⟨y0,y1,y2,y3,f0,f1,f2,f3⟩:=box4_cells h2
  go_wp2_with fail
  have k:=box_set4 h2 (.slice none 0 0) (.int .i64 0) (.int .i64 0) (.slice none 0 0);have kb:=lhd (bset4 hbw.out hg2.out (.slice none 0 0) (.int .i64 0) (.int .i64 0) (.slice none 0 0));clear y0 y1 y2 y3 f0 f1 f2 f3 h2;generalize (((w1.setCell ⟨g2,0,none⟩ (.slice none 0 0)).setCell ⟨g2,1,none⟩ (.int .i64 0)).setCell ⟨g2,2,none⟩ (.int .i64 0)).setCell ⟨g2,3,none⟩ (.slice none 0 0)=W9 at *;obtain⟨z0,z1,z2,z3,-,-,-,-⟩:=box4_cells k;refine bodyPost_ret (v:=.tuple #[.agg #[.slice none 0 0,.int .i64 0,.int .i64 0,.slice none 0 0],.int .i64 E]) (by simp[results,results198,go_sem,z0,z1,z2,z3]) rfl ?_;exact ddec_bad hC.out E0.out rfl kb.out
 rw[E0];replace E0:=lhd E0
 go_wp2_with fail
 refine (dnames_any w1).mono ?_;rintro e w2 ⟨v2,v2',rfl,s2,-,hb2⟩;obtain⟨A2,c2,rfl,-,-⟩:=s2.mk_;have hpt:=parts2_any w2.heap.size w2.heap.size _ _ (decT b) names3 w2 ((s1.below hb2).more hb2.size) s2 nlr nlr (Nat.le_trans (decT_len b) (by omega));unfold PartsP at hpt;replace h2:=h2.below hb2;replace su1:=seesB_of su1 nlr hb2;replace hbw:=lhd (bgo hbw.out hb2);replace hpt:=lhd hpt;clear s1 s2 hb2;dsimp only
 go_wp2_with fail
 refine hpt.out.mono ?_;rintro e w3 hP;rcases hP with ⟨hnm,v3,rfl,ho,hb3⟩|⟨hnm,rfl,hb3⟩;rotate_left
 ·have hno:Hid (delC b=3):=delC_no E0.out (by unfold delOk;rw[decide_eq_false hnm];rfl)
  replace h2:=h2.below hb3;replace hbw:=lhd (bgo hbw.out hb3);clear su1 hpt hb3;dsimp only;obtain⟨y0,y1,y2,y3,f0,f1,f2,f3⟩:=box4_cells h2
  go_wp2_with fail
  have k:=box_set4 h2 (.slice none 0 0) (.int .i64 0) (.int .i64 0) (.slice none 0 0);have kb:=lhd (bset4 hbw.out hg2.out (.slice none 0 0) (.int .i64 0) (.int .i64 0) (.slice none 0 0));clear y0 y1 y2 y3 f0 f1 f2 f3 h2;generalize (((w3.setCell ⟨g2,0,none⟩ (.slice none 0 0)).setCell ⟨g2,1,none⟩ (.int .i64 0)).setCell ⟨g2,2,none⟩ (.int .i64 0)).setCell ⟨g2,3,none⟩ (.slice none 0 0)=W9 at *;obtain⟨z0,z1,z2,z3,-,-,-,-⟩:=box4_cells k;refine bodyPost_ret (v:=.tuple #[.agg #[.slice none 0 0,.int .i64 0,.int .i64 0,.slice none 0 0],.int .i64 3]) (by simp[results,results198,go_sem,z0,z1,z2,z3]) rfl ?_;exact ddec_bad hno.out (by decide) rfl kb.out
 replace h2:=h2.below hb3;replace su1:=seesB_of su1 nlr hb3;replace hbw:=lhd (bgo hbw.out hb3);have hL3:((decT b).map (·.2)).length=3:=by
  have:=congrArg List.length hnm
  simpa [names3] using this
 have hsl:=ho.sees;obtain⟨A3,c3,rfl,-,-⟩:=hsl.mk_;obtain⟨b6,o6,rfl,hb6,hcell⟩:=hsl.at_ (by omega);obtain⟨A10,c10,t0,-,-,sd0⟩:=hcell 0 (by omega);obtain⟨A11,c11,t1,-,-,sd1⟩:=hcell 1 (by omega);obtain⟨A12,c12,t2,-,-,sd2⟩:=hcell 2 (by omega);rw[dat_get b 0] at t0 sd0;rw[dat_get b 1] at t1 sd1;rw[dat_get b 2] at t2 sd2;replace t0:w3.cell? ⟨b6,o6,none⟩=some (.slice A10 (datN b 0).length c10):=t0;rw[hL3];have hdl0:=Nat.le_trans (datN_len b 0) hl;have hbl:b.length<=2048:=by
  by_cases h9:2048<b.length
  ·have:=dec_long b h9
   rw[E0.out] at this
   omega
  omega
 have hdl1:=Nat.le_trans (datN_len b 1) hbl;have hun:=lhd (unspan_any w3.heap.size _ (datN b 2) w3 sd2 nlr);have hok:Hid (delOk b=(decide ((datN b 0).length=32)&&(unpadG (datN b 1)).isSome&&unOk (datN b 2))):=by
  show _=_;unfold delOk;rw[decide_eq_true hnm]
  rfl
 have hbk:Hid (∀s,unpadG (datN b 1)=some s->unOk (datN b 2)=true->(datN b 0).length=32->dencC (datN b 0) (unLo (datN b 2)) (unHi (datN b 2)) s=0/\dencB (datN b 0) (unLo (datN b 2)) (unHi (datN b 2)) s=b):=fun s h1 h2 h3=>del_back b s E0.out hnm h1 h2 h3
 have hq0:Hid (∀W,Below w3.heap.size w3 W->W.cell? ⟨b6,o6,none⟩=some (.slice A10 (datN b 0).length c10)/\W.cell? ⟨b6,o6+1,none⟩=some (.slice A11 (datN b 1).length c11)):=fun W hW=>⟨(hW.cell (p:=⟨b6,o6,none⟩) hb6).trans t0,(hW.cell (p:=⟨b6,o6+1,none⟩) hb6).trans t1⟩
 replace sd0:=lhd sd0;replace sd1:=lhd sd1;replace hnm:=lhd hnm;clear hcell hsl ho hpt hb3 sd2 t0 t1 hL3 hl;generalize hd0:datN b 0=d0 at *;generalize hd1:datN b 1=d1 at *;generalize hd2:datN b 2=d2 at *;replace hd0:=lhd hd0;replace hd1:=lhd hd1;replace hd2:=lhd hd2;replace hdl0:=lhd hdl0;replace hdl1:=lhd hdl1;replace hbl:=lhd hbl;dsimp only
 go_wp2_with fail
 refine hun.out.mono ?_;rintro e w4 ⟨rfl,hb4⟩;have hu4:∀W,Below w4.heap.size w4 W->Below w3.heap.size w3 W:=fun W hW=>bgo hb4 hW
 have hal4:=balloc w4 (.cells #[.int .i64 (unA d2),.int .i64 (unB d2)] 24);have x10:=Box.new w4 24 [.int .i64 (unA d2),.int .i64 (unB d2)];change Box (w4.alloc (.cells #[.int .i64 (unA d2),.int .i64 (unB d2)] 24)) _ _ _ at x10;have hb35:=bgo hb4 hal4;have t1:=(hq0.out _ hb35).2;have hct:=lhd (cut2_any _ _ d1 _ (seesB_of sd1.out nlr hb35) nlr (by have:=hdl1.out;omega));dsimp only
 go_wp2_with fail
 generalize w4.alloc (.cells #[.int .i64 (unA d2),.int .i64 (unB d2)] 24)=W5 at *;generalize w4.heap.size=g10 at *;refine hct.out.mono ?_;rintro e w6 ⟨A6,n6,c6,s6,rfl,sv6,hl6,hs6,hb6'⟩;have hb36:=bgo hb35 hb6';have sd0':=seesB_of sd0.out nlr hb36;have x10':=x10.below hb6';have h2:=h2.below hb36;have su1:=seesB_of su1 nlr hb36;have hbw:=lhd (bgo hbw.out hb36);have K:Hid (∀W,Below w6.heap.size w6 W->W.cell? ⟨b6,o6,none⟩=some (.slice A10 d0.length c10)/\W.cell? ⟨g10,0,none⟩=some (.int .i64 (unA d2))/\W.cell? ⟨g10,1,none⟩=some (.int .i64 (unB d2))):=fun W hW=>⟨(hq0.out _ (bgo hb36 hW)).1,(x10'.below hW).cell 0,(x10'.below hW).cell 1⟩
 obtain⟨k0,k1,k2⟩:=K.out w6 (Below.refl _ _);have hsl6:n6=s6.length:=by
  obtain⟨A',c',e,-,-⟩:=sv6.mk_;cases e
  rfl
 subst hsl6;replace hs6:=lhd hs6;replace hl6:=lhd hl6;clear t1 hct hal4 hb35 hb4 hu4 hb6' x10 hq0 sd0 sd1;dsimp only
 go_upto_region 10 with (fail)
 go_cut [12] (fun v12 W=>D12 w6 (.slice A10 d0.length c10) (unA d2) (unB d2) (.slice A6 s6.length c6) v12 W)
 case first=>
  have KA:Hid (∀o:Obj,((w6.alloc o).cell? ⟨b6,o6,none⟩=some (.slice A10 d0.length c10)/\(w6.alloc o).cell? ⟨g10,0,none⟩=some (.int .i64 (unA d2))/\(w6.alloc o).cell? ⟨g10,1,none⟩=some (.int .i64 (unB d2)))):=fun o=>K.out _ (balloc w6 o)
  have bz:=Box.new w6 94 [.slice none 0 0,.int .i64 0,.int .i64 0,.slice none 0 0];change Box (w6.alloc (.cells #[.slice none 0 0,.int .i64 0,.int .i64 0,.slice none 0 0] 94)) _ _ _ at bz;obtain⟨e0,e1,e2,e3,j0,j1,j2,j3⟩:=box4_cells bz
  go_region_held3 (fun W':World=>W'.cell? ⟨b6,o6,none⟩=some (.slice A10 d0.length c10)/\W'.cell? ⟨g10,0,none⟩=some (.int .i64 (unA d2))/\W'.cell? ⟨g10,1,none⟩=some (.int .i64 (unB d2)))
   (first | (with_reducible exact KA.out _) | exact K.out _ (by (repeat (first | exact Below.refl _ _ | (refine bgo ?_ (balloc _ _)) | (refine bgo ?_ (bdrew _)) | (refine bgo ?_ (by assumption))))) | (go_keep;done))
   (fail)
  all_goals
   go_wp2_with fail
   go_meet
   first
    | (with_reducible exact d12_new w6 _ _ _ _)
    | (with_reducible exact d12_set w6 _ _ _ _)
    | (with_reducible exact d12_drew (d12_new w6 _ _ _ _))
    | (with_reducible exact d12_drew (d12_set w6 _ _ _ _))
 case rest=>
  obtain⟨g12,rfl,x12,hg12,hb7⟩:=hcut;obtain⟨w7,rfl⟩:∃w7:World,w7=wc:=⟨_,rfl⟩
  have h2:=h2.below hb7;have su1:=seesB_of su1 nlr hb7;have hbw:=lhd (bgo hbw.out hb7);have sd0:=seesB_of sd0' nlr hb7;have sv7:=seesB_of sv6 nlr hb7;have hen:=lhd (dencode_any _ _ _ d0 s6 (unA d2) (unB d2) w7 sd0 sv7 nlr (by have:=hdl0.out;omega) (by have:=hl6.out;omega));obtain⟨q0,q1,q2,q3,-,-,-,-⟩:=box4_cells x12;clear sv6 sd0' hb7 hb36 K k0 k1 k2 x10'
  go_wp2_with fail
  refine hen.out.mono ?_;rintro e w8 ⟨v8,rfl,o8,hb8⟩;obtain⟨A8,c8,rfl,-,-⟩:=o8.sees.mk_;have h2:=h2.below hb8;have su1:=seesB_of su1 nlr hb8;have hbw:=lhd (bgo hbw.out hb8);have sd0:=seesB_of sd0 nlr hb8;have sv8:=seesB_of sv7 nlr hb8;have x12:=x12.below hb8;have heq:=lhd (equal_any _ _ _ _ _ b w8 o8.sees su1);clear q0 q1 q2 q3 hen hb8 sv7 su1 o8;have F1:Hid (∀s,unpadG d1=some s->unOk d2=true->d0.length=32->dencC d0 (unA d2) (unB d2) s6=0/\dencB d0 (unA d2) (unB d2) s6=b):=fun s hs hU h32=>by
   have hA:unA d2=unLo d2:=by rw[unA,if_pos hU]
   have hB':unB d2=unHi d2:=by rw[unB,if_pos hU]
   rw[hA,hB',hs6.out s hs];exact hbk.out s hs hU h32
  have F2:Hid (d0.length≠32->dencC d0 (unA d2) (unB d2) s6=5):=fun h=>by rw[dencC,if_neg h]
  have F3:Hid (unC d2=if unOk d2 then 0 else 3):=rfl;have F4:Hid ((unpadG d1).isSome=true->∃s,unpadG d1=some s):=fun h=>Option.isSome_iff_exists.1 h
  have hok2:=hok;dsimp only;generalize hgI:(unpadG d1).isSome=I at *;generalize hgC:unC d2=C at *;generalize hgE:dencC d0 (unA d2) (unB d2) s6=E at *;generalize hgB:dencB d0 (unA d2) (unB d2) s6=Bk at *;generalize hgD:delOk b=D at *;replace hgI:=lhd hgI;replace hgC:=lhd hgC;replace hgE:=lhd hgE;replace hgB:=lhd hgB;replace hgD:=lhd hgD
  go_upto_region 12 with (fail)
  go_cut [80] from 65 to 81 (fun v W=>W=w8/\v=.bool (!D))
  case first=>
   clear sd0 sv8 x12 h2 hbw;cases I with
   | false=>
     have hv:Hid ((!D)=true):=by show _=_;rw[hok.out];simp
     go_wp2_with fail
     go_meet
     exact⟨rfl,by rw[hv.out]⟩
   | true=>
     cases hU:unOk d2 with
     | false=>
       have hv:Hid ((!D)=true):=by show _=_;rw[hok.out,hU];simp
       have hc3:C=3:=by rw[F3.out,hU];rfl
       replace hU:=lhd hU;subst hc3
       go_wp2_with fail
       go_meet
       exact⟨rfl,by rw[hv.out]⟩
     | true=>
       have hc0:C=0:=by rw[F3.out,hU];rfl
       subst hc0
       by_cases h32:d0.length=32
       ·obtain⟨s,hs⟩:=F4.out rfl
        obtain⟨n1,n2⟩:=F1.out s hs hU h32;have hv:Hid ((!D)=false):=by show _=_;rw[hok.out,hU,decide_eq_true h32];rfl
        replace hU:=lhd hU;replace hs:=lhd hs;replace h32:=lhd h32;subst n1;have heq2:Hid (Calls prog 88 #[.slice A8 Bk.length c8,.slice A b.length c] w8 fun e w'=>e=.returned (.bool true)/\w'=w8):=by
         have h9:=heq.out;rw[show (Bk == b)=true by rw[n2];exact beq_self_eq_true b] at h9;exact h9
        replace n2:=lhd n2;clear heq
        go_wp2_with fail
        refine heq2.out.mono ?_;rintro e w9 ⟨rfl,hw9⟩;obtain rfl:=hw9.symm;dsimp only
        go_wp2_with fail
        go_meet
        exact⟨rfl,by rw[hv.out]⟩
       have hv:Hid ((!D)=true):=by show _=_;rw[hok.out,decide_eq_false h32];rfl
       have hc5:=F2.out h32;subst hc5;replace hU:=lhd hU;replace h32:=lhd h32
       go_wp2_with fail
       go_meet
       exact⟨rfl,by rw[hv.out]⟩
  case rest=>
   obtain⟨rfl,rfl⟩:=hcut;obtain⟨w8,rfl⟩:∃w8:World,w8=wc:=⟨_,rfl⟩
   clear heq;cases hD:D with
   | false=>
     have hno:Hid (delC b=3):=delC_no E0.out (by rw[hgD.out,hD]);replace hD:=lhd hD;clear sd0 sv8 x12;obtain⟨y0,y1,y2,y3,f0,f1,f2,f3⟩:=box4_cells h2
     go_wp2_with fail
     have k:=box_set4 h2 (.slice none 0 0) (.int .i64 0) (.int .i64 0) (.slice none 0 0);have kb:=lhd (bset4 hbw.out hg2.out (.slice none 0 0) (.int .i64 0) (.int .i64 0) (.slice none 0 0));clear y0 y1 y2 y3 f0 f1 f2 f3 h2;generalize (((w8.setCell ⟨g2,0,none⟩ (.slice none 0 0)).setCell ⟨g2,1,none⟩ (.int .i64 0)).setCell ⟨g2,2,none⟩ (.int .i64 0)).setCell ⟨g2,3,none⟩ (.slice none 0 0)=W9 at *;obtain⟨z0,z1,z2,z3,-,-,-,-⟩:=box4_cells k;refine bodyPost_ret (v:=.tuple #[.agg #[.slice none 0 0,.int .i64 0,.int .i64 0,.slice none 0 0],.int .i64 3]) (by simp[results,results198,go_sem,z0,z1,z2,z3]) rfl ?_;exact ddec_bad hno.out (by decide) rfl kb.out
   | true=>
     have hyes:=lhd (delC_yes E0.out (by rw[hgD.out,hD]));have hD2:=hok2.out;rw[hD] at hD2;have hD3:=hD2.symm;simp only[Bool.and_eq_true,decide_eq_true_eq] at hD3;obtain⟨⟨h32,hI⟩,hU⟩:=hD3;obtain⟨s,hs⟩:∃s,unpadG d1=some s:=F4.out hI;replace hD:=lhd hD;replace hD2:=lhd hD2;have e6:=hs6.out s hs;subst e6;have hA:unA d2=unLo d2:=by rw[unA,if_pos hU]
     have hB':unB d2=unHi d2:=by rw[unB,if_pos hU]
     rw[hA,hB'] at x12;replace hU:=lhd hU;replace hs:=lhd hs;replace h32:=lhd h32;replace hI:=lhd hI;clear hA hB';obtain⟨y0,y1,y2,y3,f0,f1,f2,f3⟩:=box4_cells h2;obtain⟨q0,q1,q2,q3,-,-,-,-⟩:=box4_cells x12
     go_wp2_with fail
     have k:=box_set4 h2 (.slice A10 d0.length c10) (.int .i64 (unLo d2)) (.int .i64 (unHi d2)) (.slice A6 s6.length c6);have kb:=lhd (bset4 hbw.out hg2.out (.slice A10 d0.length c10) (.int .i64 (unLo d2)) (.int .i64 (unHi d2)) (.slice A6 s6.length c6));have ks0:=lhd (sees_set4 h2 noZ4 (.slice A10 d0.length c10) (.int .i64 (unLo d2)) (.int .i64 (unHi d2)) (.slice A6 s6.length c6) sd0);have ks6:=lhd (sees_set4 h2 noZ4 (.slice A10 d0.length c10) (.int .i64 (unLo d2)) (.int .i64 (unHi d2)) (.slice A6 s6.length c6) sv8);clear y0 y1 y2 y3 f0 f1 f2 f3 h2 q0 q1 q2 q3 x12 sd0 sv8;generalize (((w8.setCell ⟨g2,0,none⟩ (.slice A10 d0.length c10)).setCell ⟨g2,1,none⟩ (.int .i64 (unLo d2))).setCell ⟨g2,2,none⟩ (.int .i64 (unHi d2))).setCell ⟨g2,3,none⟩ (.slice A6 s6.length c6)=W9 at *;obtain⟨z0,z1,z2,z3,-,-,-,-⟩:=box4_cells k;refine bodyPost_ret (v:=.tuple #[.agg #[.slice A10 d0.length c10,.int .i64 (unLo d2),.int .i64 (unHi d2),.slice A6 s6.length c6],.int .i64 0]) (by simp[results,results198,go_sem,z0,z1,z2,z3]) rfl ?_;exact ddec_ok hyes.out (by rw[hd1.out];exact hs.out) (by rw[hd2.out]) (by rw[hd2.out]) rfl (by rw[hd0.out];exact ks0.out) ks6.out kb.out
theorem rddecode_any (B:Nat) (u:Value) (b:Bs) (w:World) (hu:SeesB w B u b) (hB:B<=w.heap.size) (hl:b.length<=1048576) :
 Calls prog 269 #[u] w (DDecP b w):=by
 obtain⟨A,c,rfl,-,-⟩:=hu.mk_;have hal:=balloc w (.cells #[.slice none 0 0,.int .i64 0,.int .i64 0,.slice none 0 0] 94);have h2:=Box.new w 94 [.slice none 0 0,.int .i64 0,.int .i64 0,.slice none 0 0];change Box (w.alloc (.cells #[.slice none 0 0,.int .i64 0,.int .i64 0,.slice none 0 0] 94)) _ _ _ at h2;have su:=seesB_of hu hB hal;have hdec:=rdecode_any _ _ b _ su nlr hl;unfold DecP at hdec;replace hdec:=lhd hdec;have hg2:Hid (w.heap.size<=w.heap.size):=Nat.le_refl _;replace hal:=lhd hal;clear hu
 go_enter func269,ntmps269
 go_upto_region 1 with (fail)
 generalize w.alloc (.cells #[.slice none 0 0,.int .i64 0,.int .i64 0,.slice none 0 0] 94)=W0 at *;generalize hgg:w.heap.size=g2 at h2 ⊢;have hg2:Hid (w.heap.size<=g2):=by show _<=_;omega
 replace hgg:=lhd hgg
 go_wp2_with fail
 refine hdec.out.mono ?_;rintro e w1 ⟨v1,rfl,s1,hb1⟩;have h2:=h2.below hb1;have su1:=seesB_of su nlr hb1;have hbw:=lhd (bgo hal.out hb1);obtain⟨A1,c1,rfl,-,-⟩:=s1.mk_;clear su hdec hal hb1;dsimp only
 by_cases E0:decC b=0
 rotate_left
 ·have hC:=lhd (delC_err E0)
  have hE:(decC b == 0)=false:=by simp[E0]
  generalize decC b=E at *;replace E0:=lhd E0;clear s1 su1;obtain⟨y0,y1,y2,y3,f0,f1,f2,f3⟩:=box4_cells h2
  go_wp2_with fail
  have k:=box_set4 h2 (.slice none 0 0) (.int .i64 0) (.int .i64 0) (.slice none 0 0);have kb:=lhd (bset4 hbw.out hg2.out (.slice none 0 0) (.int .i64 0) (.int .i64 0) (.slice none 0 0));clear y0 y1 y2 y3 f0 f1 f2 f3 h2;generalize (((w1.setCell ⟨g2,0,none⟩ (.slice none 0 0)).setCell ⟨g2,1,none⟩ (.int .i64 0)).setCell ⟨g2,2,none⟩ (.int .i64 0)).setCell ⟨g2,3,none⟩ (.slice none 0 0)=W9 at *;obtain⟨z0,z1,z2,z3,-,-,-,-⟩:=box4_cells k;refine bodyPost_ret (v:=.tuple #[.agg #[.slice none 0 0,.int .i64 0,.int .i64 0,.slice none 0 0],.int .i64 E]) (by simp[results,results269,go_sem,z0,z1,z2,z3]) rfl ?_;exact ddec_bad hC.out E0.out rfl kb.out
 rw[E0];replace E0:=lhd E0;have hlt:=names3_lit w1;have hal1:=balloc w1 (.cells #[.string ⟨#[75,69,89,83]⟩,.string ⟨#[83,73,71,78]⟩,.string ⟨#[83,80,65,78]⟩] 9);have s2:=(s1.below hal1).more hal1.size;have su1:=seesB_of su1 nlr hal1;have h2:=h2.below hal1;have hbw:=lhd (bgo hbw.out hal1);rw[<-xsa w1 (.cells #[.string ⟨#[75,69,89,83]⟩,.string ⟨#[83,73,71,78]⟩,.string ⟨#[83,80,65,78]⟩] 9)] at hlt;have hpt:=exactly_any _ _ _ _ (decT b) names3 _ s2 hlt nlr nlr (Nat.le_trans (decT_len b) (by omega));unfold PartsP at hpt;replace hpt:=lhd hpt;clear s1 s2 hlt hal1
 go_wp2_with fail
 generalize w1.alloc (.cells #[.string ⟨#[75,69,89,83]⟩,.string ⟨#[83,73,71,78]⟩,.string ⟨#[83,80,65,78]⟩] 9)=w2 at *;refine hpt.out.mono ?_;rintro e w3 hP;rcases hP with ⟨hnm,v3,rfl,ho,hb3⟩|⟨hnm,rfl,hb3⟩;rotate_left
 ·have hno:Hid (delC b=3):=delC_no E0.out (by unfold delOk;rw[decide_eq_false hnm];rfl)
  replace h2:=h2.below hb3;replace hbw:=lhd (bgo hbw.out hb3);clear su1 hpt hb3;dsimp only;obtain⟨y0,y1,y2,y3,f0,f1,f2,f3⟩:=box4_cells h2
  go_wp2_with fail
  have k:=box_set4 h2 (.slice none 0 0) (.int .i64 0) (.int .i64 0) (.slice none 0 0);have kb:=lhd (bset4 hbw.out hg2.out (.slice none 0 0) (.int .i64 0) (.int .i64 0) (.slice none 0 0));clear y0 y1 y2 y3 f0 f1 f2 f3 h2;generalize (((w3.setCell ⟨g2,0,none⟩ (.slice none 0 0)).setCell ⟨g2,1,none⟩ (.int .i64 0)).setCell ⟨g2,2,none⟩ (.int .i64 0)).setCell ⟨g2,3,none⟩ (.slice none 0 0)=W9 at *;obtain⟨z0,z1,z2,z3,-,-,-,-⟩:=box4_cells k;refine bodyPost_ret (v:=.tuple #[.agg #[.slice none 0 0,.int .i64 0,.int .i64 0,.slice none 0 0],.int .i64 3]) (by simp[results,results269,go_sem,z0,z1,z2,z3]) rfl ?_;exact ddec_bad hno.out (by decide) rfl kb.out
 have q2:=h2.lt;replace h2:=h2.below hb3;replace su1:=seesB_of su1 nlr hb3;replace hbw:=lhd (bgo hbw.out hb3);have hL3:((decT b).map (·.2)).length=3:=by
  have:=congrArg List.length hnm
  simpa [names3] using this
 have hsl:=ho.sees;obtain⟨A3,c3,rfl,-,-⟩:=hsl.mk_;obtain⟨b6,o6,rfl,hb6,hcell⟩:=hsl.at_ (by omega);have hb62:Hid (b6≠g2):=by
  have h9:=(ho.lt b6 rfl).1;show _≠_
  omega
 obtain⟨A10,c10,t0,-,-,sd0⟩:=hcell 0 (by omega);obtain⟨A11,c11,t1,-,-,sd1⟩:=hcell 1 (by omega);obtain⟨A12,c12,t2,-,-,sd2⟩:=hcell 2 (by omega);rw[dat_get b 0] at t0 sd0;rw[dat_get b 1] at t1 sd1;rw[dat_get b 2] at t2 sd2;replace t0:w3.cell? ⟨b6,o6,none⟩=some (.slice A10 (datN b 0).length c10):=t0;rw[hL3];have hdl0:=Nat.le_trans (datN_len b 0) hl;have hbl:b.length<=2048:=by
  by_cases h9:2048<b.length
  ·have:=dec_long b h9
   rw[E0.out] at this
   omega
  omega
 have hdl1:=Nat.le_trans (datN_len b 1) hbl;have hct:=lhd (unpad_both' (unpad_any _ _ (datN b 1) w3 sd1 nlr (by omega)));have hok:Hid (delOk b=(decide ((datN b 0).length=32)&&(unpadG (datN b 1)).isSome&&unOk (datN b 2))):=by
  show _=_;unfold delOk;rw[decide_eq_true hnm]
  rfl
 have hq0:Hid (∀W,Below w3.heap.size w3 W->W.cell? ⟨b6,o6,none⟩=some (.slice A10 (datN b 0).length c10)/\W.cell? ⟨b6,o6+2,none⟩=some (.slice A12 (datN b 2).length c12)):=fun W hW=>⟨(hW.cell (p:=⟨b6,o6,none⟩) hb6).trans t0,(hW.cell (p:=⟨b6,o6+2,none⟩) hb6).trans t2⟩
 have hb63:Hid (b6<w3.heap.size):=hb6;replace sd0:=lhd sd0;replace sd2:=lhd sd2;replace hnm:=lhd hnm;replace q2:=lhd q2;clear hcell hsl ho hpt hb3 sd1 t2 hL3 hl hb6;generalize hd0:datN b 0=d0 at *;generalize hd1:datN b 1=d1 at *;generalize hd2:datN b 2=d2 at *;replace hd0:=lhd hd0;replace hd1:=lhd hd1;replace hd2:=lhd hd2;replace hdl0:=lhd hdl0;replace hdl1:=lhd hdl1;replace hbl:=lhd hbl;dsimp only
 by_cases h32:d0.length=32
 rotate_left
 ·have hno:Hid (delC b=3):=delC_no E0.out (by rw[hok.out,decide_eq_false h32];rfl)
  have ip:((d0.length:Int) != 32)=true:=by simp;omega
  have ip2:¬((d0.length:Int)=32):=by omega
  replace h32:=lhd h32;clear su1 hct;obtain⟨y0,y1,y2,y3,f0,f1,f2,f3⟩:=box4_cells h2
  go_wp2_with fail
  have k:=box_set4 h2 (.slice none 0 0) (.int .i64 0) (.int .i64 0) (.slice none 0 0);have kb:=lhd (bset4 hbw.out hg2.out (.slice none 0 0) (.int .i64 0) (.int .i64 0) (.slice none 0 0));clear y0 y1 y2 y3 f0 f1 f2 f3 h2;generalize (((w3.setCell ⟨g2,0,none⟩ (.slice none 0 0)).setCell ⟨g2,1,none⟩ (.int .i64 0)).setCell ⟨g2,2,none⟩ (.int .i64 0)).setCell ⟨g2,3,none⟩ (.slice none 0 0)=W9 at *;obtain⟨z0,z1,z2,z3,-,-,-,-⟩:=box4_cells k;refine bodyPost_ret (v:=.tuple #[.agg #[.slice none 0 0,.int .i64 0,.int .i64 0,.slice none 0 0],.int .i64 3]) (by simp[results,results269,go_sem,z0,z1,z2,z3]) rfl ?_;exact ddec_bad hno.out (by decide) rfl kb.out
 have ip:((d0.length:Int) != 32)=false:=by simp;omega
 have ip2:(d0.length:Int)=32:=by omega
 have h32':=lhd h32;clear h32
 go_wp2_with fail
 refine hct.out.mono ?_;rintro e w4 ⟨A4,n4,c4,rfl,hb4,hs4⟩;have t2:=(hq0.out _ hb4).2;have hun:=lhd (runspan_any _ _ d2 w4 (seesB_of sd2.out nlr hb4) nlr);replace hs4:=lhd hs4;clear t0 t1 ip ip2;dsimp only
 go_wp2_with fail
 refine hun.out.mono ?_;rintro e w5 ⟨rfl,hb5⟩;have hal5:=balloc w5 (.cells #[.int .i64 (unA d2),.int .i64 (unB d2)] 24);have x10:=Box.new w5 24 [.int .i64 (unA d2),.int .i64 (unB d2)];change Box (w5.alloc (.cells #[.int .i64 (unA d2),.int .i64 (unB d2)] 24)) _ _ _ at x10;have hb36:=bgo (bgo hb4 hb5) hal5;have q5:Hid (g2<w5.heap.size):=((h2.below (bgo hb4 hb5)).lt:_)
 have s64:Hid (∀s,unpadG d1=some s->SeesB (w5.alloc (.cells #[.int .i64 (unA d2),.int .i64 (unB d2)] 24)) (w5.alloc (.cells #[.int .i64 (unA d2),.int .i64 (unB d2)] 24)).heap.size (.slice A4 n4 c4) s):=fun s h=>seesB_of (hs4.out s h) nlr (bgo hb5 hal5)
 have sd0:=seesB_of sd0.out nlr hb36;have h2:=h2.below hb36;have hbw:=lhd (bgo hbw.out hb36);have hk0:=(hq0.out _ hb36).1;have hb6w:Hid (b6<(w5.alloc (.cells #[.int .i64 (unA d2),.int .i64 (unB d2)] 24)).heap.size):=Nat.lt_of_lt_of_le hb63.out hb36.size;clear hun hs4 t2 hal5 hb36 hb4 hb5 hq0 sd2 hct;dsimp only
 go_upto_region 9 with (fail)
 generalize w5.alloc (.cells #[.int .i64 (unA d2),.int .i64 (unB d2)] 24)=w6 at *;generalize w5.heap.size=g10 at *;cases hI:(unpadG d1).isSome with
 | false=>
   have hno:Hid (delC b=3):=delC_no E0.out (by rw[hok.out,hI];simp);replace hI:=lhd hI;clear sd0 x10 hk0;obtain⟨y0,y1,y2,y3,f0,f1,f2,f3⟩:=box4_cells h2
   go_wp2_with fail
   have k:=box_set4 h2 (.slice none 0 0) (.int .i64 0) (.int .i64 0) (.slice none 0 0);have kb:=lhd (bset4 hbw.out hg2.out (.slice none 0 0) (.int .i64 0) (.int .i64 0) (.slice none 0 0));clear y0 y1 y2 y3 f0 f1 f2 f3 h2;generalize (((w6.setCell ⟨g2,0,none⟩ (.slice none 0 0)).setCell ⟨g2,1,none⟩ (.int .i64 0)).setCell ⟨g2,2,none⟩ (.int .i64 0)).setCell ⟨g2,3,none⟩ (.slice none 0 0)=W9 at *;obtain⟨z0,z1,z2,z3,-,-,-,-⟩:=box4_cells k;refine bodyPost_ret (v:=.tuple #[.agg #[.slice none 0 0,.int .i64 0,.int .i64 0,.slice none 0 0],.int .i64 3]) (by simp[results,results269,go_sem,z0,z1,z2,z3]) rfl ?_;exact ddec_bad hno.out (by decide) rfl kb.out
 | true=>
   obtain⟨s,hs⟩:∃s,unpadG d1=some s:=Option.isSome_iff_exists.1 hI;have sv:=s64.out s hs;replace hI:=lhd hI;clear s64;cases hU:unOk d2 with
   | false=>
     have hno:Hid (delC b=3):=delC_no E0.out (by rw[hok.out,hI.out,hU];simp);have hc3:unC d2=3:=by rw[unC,hU];rfl
     rw[hc3];replace hU:=lhd hU;replace hs:=lhd hs;clear sd0 sv x10 hk0 hc3;obtain⟨y0,y1,y2,y3,f0,f1,f2,f3⟩:=box4_cells h2
     go_wp2_with fail
     have k:=box_set4 h2 (.slice none 0 0) (.int .i64 0) (.int .i64 0) (.slice none 0 0);have kb:=lhd (bset4 hbw.out hg2.out (.slice none 0 0) (.int .i64 0) (.int .i64 0) (.slice none 0 0));clear y0 y1 y2 y3 f0 f1 f2 f3 h2;generalize (((w6.setCell ⟨g2,0,none⟩ (.slice none 0 0)).setCell ⟨g2,1,none⟩ (.int .i64 0)).setCell ⟨g2,2,none⟩ (.int .i64 0)).setCell ⟨g2,3,none⟩ (.slice none 0 0)=W9 at *;obtain⟨z0,z1,z2,z3,-,-,-,-⟩:=box4_cells k;refine bodyPost_ret (v:=.tuple #[.agg #[.slice none 0 0,.int .i64 0,.int .i64 0,.slice none 0 0],.int .i64 3]) (by simp[results,results269,go_sem,z0,z1,z2,z3]) rfl ?_;exact ddec_bad hno.out (by decide) rfl kb.out
   | true=>
     have hyes:=lhd (delC_yes E0.out (by rw[hok.out,hI.out,hU,decide_eq_true h32'.out];rfl));have hc0:unC d2=0:=by rw[unC,hU];rfl
     have hA:unA d2=unLo d2:=by rw[unA,if_pos hU]
     have hB':unB d2=unHi d2:=by rw[unB,if_pos hU]
     rw[hc0];rw[hA,hB'] at x10 ⊢;have hn4:n4=s.length:=by
      obtain⟨A',c',e,-,-⟩:=sv.mk_;cases e
      rfl
     subst hn4;replace hU:=lhd hU;replace hs:=lhd hs
     go_upto_region 11 with (fail)
     have q0:w6.cell? ⟨g10,0,none⟩=some (.int .i64 (unLo d2)):=x10.cell 0;have q1:w6.cell? ⟨g10,1,none⟩=some (.int .i64 (unHi d2)):=x10.cell 1
     go_still_tail 9,(by kernel_rfl)
     change wpList _ _ _ _ _ w6.drew;replace h2:=h2.below (bdrew w6);replace hbw:=lhd (bgo hbw.out (bdrew w6));replace sd0:=seesB_of sd0 nlr (bdrew w6);replace sv:=seesB_of sv nlr (bdrew w6);clear q0 q1 hk0 x10;generalize w6.drew=w7 at *;obtain⟨y0,y1,y2,y3,f0,f1,f2,f3⟩:=box4_cells h2
     go_wp2_with fail
     have k:=box_set4 h2 (.slice A10 d0.length c10) (.int .i64 (unLo d2)) (.int .i64 (unHi d2)) (.slice A4 s.length c4);have kb:=lhd (bset4 hbw.out hg2.out (.slice A10 d0.length c10) (.int .i64 (unLo d2)) (.int .i64 (unHi d2)) (.slice A4 s.length c4));have ks0:=lhd (sees_set4 h2 noZ4 (.slice A10 d0.length c10) (.int .i64 (unLo d2)) (.int .i64 (unHi d2)) (.slice A4 s.length c4) sd0);have ks6:=lhd (sees_set4 h2 noZ4 (.slice A10 d0.length c10) (.int .i64 (unLo d2)) (.int .i64 (unHi d2)) (.slice A4 s.length c4) sv);clear y0 y1 y2 y3 f0 f1 f2 f3 h2 sd0 sv;generalize ((((w7.setCell ⟨g2,0,none⟩ (.slice A10 d0.length c10)).setCell ⟨g2,1,none⟩ (.int .i64 (unLo d2))).setCell ⟨g2,2,none⟩ (.int .i64 (unHi d2))).setCell ⟨g2,3,none⟩ (.slice A4 s.length c4))=W9 at *;obtain⟨z0,z1,z2,z3,-,-,-,-⟩:=box4_cells k;refine bodyPost_ret (v:=.tuple #[.agg #[.slice A10 d0.length c10,.int .i64 (unLo d2),.int .i64 (unHi d2),.slice A4 s.length c4],.int .i64 0]) (by simp[results,results269,go_sem,z0,z1,z2,z3]) rfl ?_;exact ddec_ok hyes.out (by rw[hd1.out];exact hs.out) (by rw[hd2.out]) (by rw[hd2.out]) rfl (by rw[hd0.out];exact ks0.out) ks6.out kb.out
end Go.Proofs.YtjgepckncogdaaaGreat
