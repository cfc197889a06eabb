/- Contracts of functions, walks, plain facts. Conditions: those of each theorem. -/
import Derived.Test.YtjgepckncogdaaaGreatZNonce
import Derived.Test.YtjgepckncogdaaaGreatZAppG
import Derived.Test.YtjgepckncogdaaaGreatZCAddL
import Derived.Test.YtjgepckncogdaaaGreatVRLCopy
set_option linter.unusedVariables false
set_option linter.unusedSimpArgs false
set_option maxRecDepth 100000
set_option maxHeartbeats 16000000
namespace Go.Proofs.YtjgepckncogdaaaGreat
open Go Go.RowKit _root_.Go.Proofs.Tryz
attribute [local go_sem ↓] Go.wp_at_zero Go.wp_at_succ
theorem rd5 {w:World} {g3 g9:Nat} {T T':TypeId} {a b c x y:Value} (h3:Box w g3 T [a,b,c]) (h9:Box w g9 T' [x,y]):w.cell? ⟨g3,0,none⟩=some a/\w.cell? ⟨g3,1,none⟩=some b/\w.cell? ⟨g3,2,none⟩=some c/\w.cell? ⟨g9,0,none⟩=some x/\w.cell? ⟨g9,1,none⟩=some y:=⟨h3.cell 0,h3.cell 1,h3.cell 2,h9.cell 0,h9.cell 1⟩
theorem rd5_set {w:World} {g3 g5 g9:Nat} {T T':TypeId} {a b c x y:Value} (h35:g3≠g5) (h95:g9≠g5) (h3:Box w g3 T [a,b,c]) (h9:Box w g9 T' [x,y]) (p q:Value) :
 ((w.setCell ⟨g5,0,none⟩ p).setCell ⟨g5,1,none⟩ q).cell? ⟨g3,0,none⟩=some a/\((w.setCell ⟨g5,0,none⟩ p).setCell ⟨g5,1,none⟩ q).cell? ⟨g3,1,none⟩=some b/\((w.setCell ⟨g5,0,none⟩ p).setCell ⟨g5,1,none⟩ q).cell? ⟨g3,2,none⟩=some c/\((w.setCell ⟨g5,0,none⟩ p).setCell ⟨g5,1,none⟩ q).cell? ⟨g9,0,none⟩=some x/\((w.setCell ⟨g5,0,none⟩ p).setCell ⟨g5,1,none⟩ q).cell? ⟨g9,1,none⟩=some y:=
 rd5 ((h3.other h35).other h35) ((h9.other h95).other h95)
theorem cadd_any (u v1 v2 v3:Value) (ls:List LinkG) (t:LinkG) (w:World) (hu:SeesR w w.heap.size u 3 ls.length (linkS ls)) (h1:SeesB w w.heap.size v1 t.1) (h2:SeesB w w.heap.size v2 t.2.1) (h3:SeesB w w.heap.size v3 t.2.2) (hn:ls.length<=1000)
 (hl:∀t∈ls,t.1.length<=1048576/\t.2.1.length<=1048576/\t.2.2.length<=1048576) (ht:t.1.length<=1048576/\t.2.1.length<=1048576/\t.2.2.length<=1048576) :
 Calls prog 64 #[u,.agg #[v1,v2,v3]] w (AddP ls t w):=by
 obtain⟨A,c,rfl,-,-⟩:=hu.mk_;obtain⟨A1,c1,rfl,-,-⟩:=h1.mk_;obtain⟨A2,c2,rfl,-,-⟩:=h2.mk_;obtain⟨A3,c3,rfl,-,-⟩:=h3.mk_;obtain⟨ti,hti,htz,hts,htb⟩:=info_parts link_infoC;replace hti:=lhd hti;replace htz:=lhd htz;replace hts:=lhd hts;replace htb:=lhd htb;have hal:=bgo (balloc w (.cells #[.slice A1 t.1.length c1,.slice A2 t.2.1.length c2,.slice A3 t.2.2.length c3] 108)) (balloc _ (.cells #[.int .i64 0,.int .i64 0] 24));have x3:=(Box.new w 108 [.slice A1 t.1.length c1,.slice A2 t.2.1.length c2,.slice A3 t.2.2.length c3]).below (balloc _ (.cells #[.int .i64 0,.int .i64 0] 24));have x5:=Box.new (w.alloc (.cells #[.slice A1 t.1.length c1,.slice A2 t.2.1.length c2,.slice A3 t.2.2.length c3] 108)) 24 [.int .i64 0,.int .i64 0];rw[xsa] at x5;change Box ((w.alloc (.cells #[.slice A1 t.1.length c1,.slice A2 t.2.1.length c2,.slice A3 t.2.2.length c3] 108)).alloc (.cells #[.int .i64 0,.int .i64 0] 24)) _ _ _ at x3 x5;replace hu:=lhd ((hu.below hal).more hal.size);replace h1:=lhd (seesB_of h1 nlr hal);replace h2:=lhd (seesB_of h2 nlr hal);replace h3:=lhd (seesB_of h3 nlr hal);replace hal:=lhd hal;replace hl:=lhd hl;have hl1:Hid (∀s∈[t],s.1.length<=1048576/\s.2.1.length<=1048576/\s.2.2.length<=1048576):=fun s hs=>by
  rw[xm1] at hs;subst hs;exact ht
 have ht3:=lhd ht.2.2;clear ht;have hCC:Hid (addC ls t=if nextC ls t.2.1=0 then dverC t.1 (nextG ls t.2.1) t.2.2 else nextC ls t.2.1):=rfl
 go_enter func64,ntmps64
 go_upto_region 1 with (fail)
 generalize (w.alloc (.cells #[.slice A1 t.1.length c1,.slice A2 t.2.1.length c2,.slice A3 t.2.2.length c3] 108)).alloc (.cells #[.int .i64 0,.int .i64 0] 24)=W0 at *;have hg5:Hid (w.heap.size<=w.heap.size+1):=by show _<=_;omega
 have h35:Hid (w.heap.size≠w.heap.size+1):=by show _≠_;omega
 generalize w.heap.size+1=g5 at x5 hg5 h35 ⊢;have hg3:Hid (w.heap.size<=w.heap.size):=Nat.le_refl _;generalize w.heap.size=g3 at x3 h35 ⊢;have hne:=lhd (next_any W0.heap.size W0.heap.size _ _ ls t.2.1 W0 hu.out nlr h2.out nlr);unfold NextP at hne;generalize nextC ls t.2.1=C1 at *;generalize hN:nextG ls t.2.1=N at *;replace hN:=lhd hN;obtain⟨k1,k2,k3,-,-,-⟩:=box3_cells x3
 go_wp2_with fail
 refine hne.out.mono ?_;rintro e w1 ⟨vn,rfl,o1,hb1⟩;obtain⟨A4,c4,rfl,-,-⟩:=o1.sees.mk_;clear hne k1 k2 k3;replace x3:=x3.below hb1;replace x5:=x5.below hb1;replace hu:=lhd ((hu.out.below hb1).more hb1.size);replace h1:=lhd (seesB_of h1.out nlr hb1);replace h2:=lhd (seesB_of h2.out nlr hb1);replace h3:=lhd (seesB_of h3.out nlr hb1);have hbw:=lhd (bgo hal.out hb1);have sn:=lhd o1.sees;clear hal hb1 o1;dsimp only
 by_cases E1:C1=0
 rotate_left
 ·have hE:(C1 == 0)=false:=by simp[E1]
  have hC:Hid (addC ls t=C1):=by show _=_;rw[hCC.out,if_neg E1]
  replace E1:=lhd E1;obtain⟨y0,y1,f0,f1⟩:=box2_cells x5
  go_wp2_with fail
  have k:=box_set2 x5 (.int .i64 0) (.int .i64 0);have kb:=lhd (below_set2 hbw.out hg5.out (.int .i64 0) (.int .i64 0));clear y0 y1 f0 f1 x5;generalize (w1.setCell ⟨g5,0,none⟩ (.int .i64 0)).setCell ⟨g5,1,none⟩ (.int .i64 0)=W9 at *;obtain⟨z0,z1⟩:=boxT2 k;refine bodyPost_ret (v:=.tuple #[.slice none 0 0,.agg #[.int .i64 0,.int .i64 0],.int .i64 C1]) (by simp[results,results64,go_sem,z0,z1]) rfl ?_;exact add_bad hC.out E1.out kb.out
 subst E1;replace hCC:Hid (addC ls t=dverC t.1 N t.2.2):=by show _=_;rw[hCC.out,if_pos rfl]
 obtain⟨k1,k2,k3,-,-,-⟩:=box3_cells x3;have hv:=lhd (dverify_any w1.heap.size _ _ _ t.1 N t.2.2 w1 h1.out sn.out h3.out nlr ht3.out);unfold DVerP at hv;have hLo:Hid (dverLo t.1 N t.2.2=dverLo t.1 N t.2.2):=rfl;generalize hlo:dverLo t.1 N t.2.2=lo at *;generalize hhi:dverHi t.1 N t.2.2=hi at *;replace hlo:=lhd hlo;replace hhi:=lhd hhi;generalize dverC t.1 N t.2.2=E2 at *;clear hLo
 go_wp2_with fail
 refine hv.out.mono ?_;rintro e w2 ⟨rfl,hb2⟩;clear hv k1 k2 k3 sn;have h95:Hid (w2.heap.size≠g5):=by show _≠_;have:=x5.lt;have:=hb2.size;omega
 have hal:=balloc w2 (.cells #[.int .i64 lo,.int .i64 hi] 24);have hbx:=bgo hb2 hal;have x9:=Box.new w2 24 [.int .i64 lo,.int .i64 hi];change Box (w2.alloc (.cells #[.int .i64 lo,.int .i64 hi] 24)) _ _ _ at x9;replace x3:=x3.below hbx;replace x5:=x5.below hbx;replace hu:=lhd ((hu.out.below hbx).more hbx.size);replace h1:=lhd (seesB_of h1.out nlr hbx);replace h2:=lhd (seesB_of h2.out nlr hbx);replace h3:=lhd (seesB_of h3.out nlr hbx);replace hbw:=lhd (bgo hbw.out hbx);clear hbx hal hb2;dsimp only
 by_cases E3:E2=0
 rotate_left
 ·have hE:(E2 == 0)=false:=by simp[E3]
  replace E3:=lhd E3;obtain⟨y0,y1,f0,f1⟩:=box2_cells x5
  go_upto_region 6 with (fail)
  generalize w2.alloc (.cells #[.int .i64 lo,.int .i64 hi] 24)=W1 at *
  go_wp2_with fail
  have k:=box_set2 x5 (.int .i64 0) (.int .i64 0);have kb:=lhd (below_set2 hbw.out hg5.out (.int .i64 0) (.int .i64 0));clear y0 y1 f0 f1 x5;generalize (W1.setCell ⟨g5,0,none⟩ (.int .i64 0)).setCell ⟨g5,1,none⟩ (.int .i64 0)=W9 at *;obtain⟨z0,z1⟩:=boxT2 k;refine bodyPost_ret (v:=.tuple #[.slice none 0 0,.agg #[.int .i64 0,.int .i64 0],.int .i64 E2]) (by simp[results,results64,go_sem,z0,z1]) rfl ?_;exact add_bad hCC.out E3.out kb.out
 subst E3
 go_upto_region 7 with (fail)
 generalize w2.alloc (.cells #[.int .i64 lo,.int .i64 hi] 24)=W1 at *;generalize w2.heap.size=g9 at x9 h95 ⊢;have hg9:=x9.lt;have hg5l:=x5.lt;have hg3l:=x3.lt;replace x3:=lhd x3;replace x5:=lhd x5;replace x9:=lhd x9;have K:Hid (∀W,Below W1.heap.size W1 W->W.cell? ⟨g3,0,none⟩=some (.slice A1 t.1.length c1)/\W.cell? ⟨g3,1,none⟩=some (.slice A2 t.2.1.length c2)/\W.cell? ⟨g3,2,none⟩=some (.slice A3 t.2.2.length c3)/\W.cell? ⟨g9,0,none⟩=some (.int .i64 lo)/\W.cell? ⟨g9,1,none⟩=some (.int .i64 hi)):=fun W hW=>⟨(x3.out.below hW).cell 0,(x3.out.below hW).cell 1,(x3.out.below hW).cell 2,(x9.out.below hW).cell 0,(x9.out.below hW).cell 1⟩
 obtain⟨k1,k2,k3,k4,k5⟩:=K.out W1 (Below.refl _ _);have hCC2:Hid (addC ls t=0):=hCC;have h11:Hid ([t].length<=1000):=by show _<=_;simp
 have hlo2:Hid (dverLo t.1 (nextG ls t.2.1) t.2.2=lo):=by show _=_;rw[hN.out];exact hlo.out
 have hhi2:Hid (dverHi t.1 (nextG ls t.2.1) t.2.2=hi):=by show _=_;rw[hN.out];exact hhi.out
 have hcr:Hid (ls.length+1<=1048576):=by show _<=_;omega
 go_region_held3 (fun W':World=>W'.cell? ⟨g3,0,none⟩=some (.slice A1 t.1.length c1)/\W'.cell? ⟨g3,1,none⟩=some (.slice A2 t.2.1.length c2)/\W'.cell? ⟨g3,2,none⟩=some (.slice A3 t.2.2.length c3)/\W'.cell? ⟨g9,0,none⟩=some (.int .i64 lo)/\W'.cell? ⟨g9,1,none⟩=some (.int .i64 hi))
  (first | (with_reducible exact K2 _ _) | exact kk | (with_reducible exact K.out _ (by (repeat (first | exact Below.refl _ _ | (refine bgo ?_ (balloc _ _)) | (refine bgo ?_ (bdrew _)) | (refine bgo ?_ (by assumption)))))) | (go_keep;done))
  (first
   | (refine step_appRG (by rfl) _ _ 104 108 underlying104 (by rfl) ti _ 3 72 hti.out htz.out hts.out htb.out (by rfl) (by omega) (by omega) W1.heap.size _ ls.length _ (by rfl) ho7.out _ _ 1 _ (linkS [t]) (by rfl) hsv.out (by rfl) hel.out hcr.out hb18.out.size ?_;intro v' w' hW2 hb4 hg4
      have x3r:Box w' g3 108 [.slice A1 t.1.length c1,.slice A2 t.2.1.length c2,.slice A3 t.2.2.length c3]:=(hg4.block g3 (Nat.lt_of_lt_of_le hg3l hb18.out.size) (fun e=>hnb g3 hg3l e.symm)).trans (x3.out.below hb18.out);have x9r:Box w' g9 24 [.int .i64 lo,.int .i64 hi]:=(hg4.block g9 (Nat.lt_of_lt_of_le hg9 hb18.out.size) (fun e=>hnb g9 hg9 e.symm)).trans (x9.out.below hb18.out);have x5r:Box w' g5 24 [.int .i64 0,.int .i64 0]:=(hg4.block g5 (Nat.lt_of_lt_of_le hg5l hb18.out.size) (fun e=>hnb g5 hg5l e.symm)).trans (x5.out.below hb18.out);have kk:=rd5 x3r x9r;have K2:=rd5_set h35.out h95.out x3r x9r;obtain⟨y0,y1,f0,f1⟩:=box2_cells x5r)
   | (go_at_call 132;have _q:=m7;(with_reducible refine (ccopy_any _ _ [t] _ (link_row (by (repeat (first | exact boxn (by with_reducible rfl) | exact boxn (by simp only[xsa];done) | (refine Box.below ?_ (balloc _ _)) | (refine Box.below ?_ (bdrew _)) | (refine Box.below ?_ (by assumption))))) (seesB_of h1.out nlr (by (repeat (first | exact Below.refl _ _ | (refine bgo ?_ (balloc _ _)) | (refine bgo ?_ (bdrew _)) | (refine bgo ?_ (by assumption)))))) (seesB_of h2.out nlr (by (repeat (first | exact Below.refl _ _ | (refine bgo ?_ (balloc _ _)) | (refine bgo ?_ (bdrew _)) | (refine bgo ?_ (by assumption)))))) (seesB_of h3.out nlr (by (repeat (first | exact Below.refl _ _ | (refine bgo ?_ (balloc _ _)) | (refine bgo ?_ (bdrew _)) | (refine bgo ?_ (by assumption))))))) nlr h11.out hl1.out).mono ?_);rintro e w8 ⟨v8,rfl,o8,hb8⟩
      have hx7:=before (w7:=w7) (by (repeat (first | exact Below.refl _ _ | (refine bgo ?_ (balloc _ _)) | (refine bgo ?_ (bdrew _)) | (refine bgo ?_ (by assumption))))) hb8;have hb78:=lhd (show Below w7.heap.size w7 w8 by (repeat (first | exact Below.refl _ _ | (refine bgo ?_ (balloc _ _)) | (refine bgo ?_ (bdrew _)) | (refine bgo ?_ (by assumption)))));have hb18:=lhd (show Below W1.heap.size W1 w8 by (repeat (first | exact Below.refl _ _ | (refine bgo ?_ (balloc _ _)) | (refine bgo ?_ (bdrew _)) | (refine bgo ?_ (by assumption)))));have o8':OwnRF w8 _ 108 v8 3 1 (linkS [t]):=o8;obtain⟨A8,c8,rfl,-,-⟩:=o8'.own.sees.mk_;have ho7:=lhd (ho7a.out.below hb78.out);obtain⟨vs8,hsv,hel⟩:=app_src (v1:=.slice A7 ls.length c7) o8' (fun j hj=>Nat.lt_of_lt_of_le (hlt7 j hj).2 hx7);replace hsv:=lhd hsv;replace hel:=lhd hel;have hnb:∀g,g<W1.heap.size->(Value.slice A7 ls.length c7).ownBlock=some g->False:=fun g hg e=>by have:=(hlt7 g e).1;omega)
   | (go_at_call 132;(with_reducible refine (ccopy_any W1.heap.size _ ls _ (hu.out.below (show Below W1.heap.size W1 _ by (repeat (first | exact Below.refl _ _ | (refine bgo ?_ (balloc _ _)) | (refine bgo ?_ (bdrew _)) | (refine bgo ?_ (by assumption)))))) (show Below W1.heap.size W1 _ by (repeat (first | exact Below.refl _ _ | (refine bgo ?_ (balloc _ _)) | (refine bgo ?_ (bdrew _)) | (refine bgo ?_ (by assumption))))).size hn hl.out).mono ?_);rintro e w7 ⟨v7,rfl,o7,hb7⟩
      obtain⟨A7,c7,rfl,-,-⟩:=o7.own.sees.mk_;have m7:=True.intro;have hx0:=before (w7:=W1) (by (repeat (first | exact Below.refl _ _ | (refine bgo ?_ (balloc _ _)) | (refine bgo ?_ (bdrew _)) | (refine bgo ?_ (by assumption))))) hb7;have ho7a:=lhd (o7.own.mono hx0);have hlt7:=o7.own.lt))
 all_goals
  go_wp2_with fail
  have k:=box_set2 x5r (.int .i64 lo) (.int .i64 hi);have ks:=lhd (hW2.set2 (x:=lo) (y:=hi) hg5l x5r);have kb:=lhd (below_set2 (bgo hbw.out (hb18.out.trans hb4)) hg5.out (.int .i64 lo) (.int .i64 hi));clear y0 y1 f0 f1 x5r K2 kk;generalize (w'.setCell ⟨g5,0,none⟩ (.int .i64 lo)).setCell ⟨g5,1,none⟩ (.int .i64 hi)=W9 at *;obtain⟨z0,z1⟩:=boxT2 k;refine bodyPost_ret (v:=.tuple #[v',.agg #[.int .i64 lo,.int .i64 hi],.int .i64 0]) (by simp[results,results64,go_sem,z0,z1]) rfl ?_;exact add_ok hCC2.out hlo2.out hhi2.out rfl ks.out.sees kb.out
end Go.Proofs.YtjgepckncogdaaaGreat
