/- Contracts of functions, walks, plain facts. Conditions: those of each theorem. -/
import Derived.Test.YtjgepckncogdaaaGreatK25
import Derived.Test.YtjgepckncogdaaaGreatK28
set_option linter.unusedVariables false
set_option linter.unusedSimpArgs false
set_option maxRecDepth 100000
set_option maxHeartbeats 16000000
namespace Go.Proofs.YtjgepckncogdaaaGreat
open Go Go.RowKit _root_.Go.Proofs.Tryz
attribute [local go_sem ↓] Go.wp_at_zero Go.wp_at_succ
theorem taglitA (W:World) (v1 v2:Value) (l1 l2:Bs) (h1:SeesB W W.heap.size v1 l1) (h2:SeesB W W.heap.size v2 l2) :
 SeesR (W.alloc (.cells #[.string ⟨#[65,78,83,87]⟩,v1,.string ⟨#[67,69,82,84]⟩,v2] 173)) (W.heap.size+1) (.slice (some ⟨W.heap.size,0,none⟩) 2 2) 2 2 (tagS [(nANSW,l1),(nCERT,l2)]):=by
 have hb:=balloc W (.cells #[.string ⟨#[65,78,83,87]⟩,v1,.string ⟨#[67,69,82,84]⟩,v2] 173);refine⟨rfl,[.string ⟨#[65,78,83,87]⟩,v1,.string ⟨#[67,69,82,84]⟩,v2],⟨rfl,_,_,rfl,by omega,by simp[maxLen],fun _=>⟨W.heap.size,0,rfl,by omega,fun j u hu=>?_⟩⟩,fun k s hk=>?_⟩
 ·rw[Nat.zero_add,block_cell (heap_alloc_new W _)]
  exact hu
 have e1:tagS [(nANSW,l1),(nCERT,l2)]=[Spec.val (.string (strB nANSW)),.byt l1,Spec.val (.string (strB nCERT)),.byt l2]:=rfl;rw[e1] at hk;have f:∀{v:Value} {l:Bs},SeesB W W.heap.size v l->FitS (W.alloc (.cells #[.string ⟨#[65,78,83,87]⟩,v1,.string ⟨#[67,69,82,84]⟩,v2] 173)) (W.heap.size+1) v (.byt l):=fun h=>(h.below hb).more (by omega)
 match k,hk with
 | 0,hk=>cases hk;exact⟨_,rfl,rfl,rfl⟩
 | 1,hk=>cases hk;exact⟨_,rfl,f h1⟩
 | 2,hk=>cases hk;exact⟨_,rfl,rfl,rfl⟩
 | 3,hk=>cases hk;exact⟨_,rfl,f h2⟩
 | k+4,hk=>simp at hk
theorem rdanswer_any (B:Nat) (u u2 u3 u4:Value) (sd:Bs) (h n:Int) (P:Bs) (f t:Int) (S:Bs) (ns:List Bs) (lo hi:Int) (w:World) (hu:SeesB w B u sd) (hu2:SeesB w B u2 P) (hu3:SeesB w B u3 S) (hu4:SeesL w B u4 ns) (hB:B<=w.heap.size) (hP:P.length<=1048576) (hS:S.length<=4000) (hn:ns.length<=1048576) :
 Calls prog 161 #[.agg #[u,.int .i64 h,.int .i64 n,u2,.int .i64 f,.int .i64 t,u3],u4,.agg #[.int .i64 lo,.int .i64 hi]] w (DAnsFP (dansR sd h n P f t S ns lo hi) w):=by
 obtain⟨A,c,rfl,-,-⟩:=hu.mk_;obtain⟨A2,c2,rfl,-,-⟩:=hu2.mk_;obtain⟨A3,c3,rfl,-,-⟩:=hu3.mk_;obtain⟨A4,c4,rfl,-,-⟩:=hu4.mk_;have b3:=bgo (bgo (balloc w (.cells #[.slice A sd.length c,.int .i64 h,.int .i64 n,.slice A2 P.length c2,.int .i64 f,.int .i64 t,.slice A3 S.length c3] 96)) (balloc _ (.cells #[.int .i64 lo,.int .i64 hi] 24))) (balloc _ (.cells #[.slice none 0 0,.int .i64 0,.int .i64 0,.slice none 0 0,.int .i64 0,.int .i64 0,.slice none 0 0] 96));have x3:=((Box.new w 96 [.slice A sd.length c,.int .i64 h,.int .i64 n,.slice A2 P.length c2,.int .i64 f,.int .i64 t,.slice A3 S.length c3]).below (balloc _ (.cells #[.int .i64 lo,.int .i64 hi] 24))).below (balloc _ (.cells #[.slice none 0 0,.int .i64 0,.int .i64 0,.slice none 0 0,.int .i64 0,.int .i64 0,.slice none 0 0] 96));have x5:=(Box.new (w.alloc (.cells #[.slice A sd.length c,.int .i64 h,.int .i64 n,.slice A2 P.length c2,.int .i64 f,.int .i64 t,.slice A3 S.length c3] 96)) 24 [.int .i64 lo,.int .i64 hi]).below (balloc _ (.cells #[.slice none 0 0,.int .i64 0,.int .i64 0,.slice none 0 0,.int .i64 0,.int .i64 0,.slice none 0 0] 96));have x6:=Box.new ((w.alloc (.cells #[.slice A sd.length c,.int .i64 h,.int .i64 n,.slice A2 P.length c2,.int .i64 f,.int .i64 t,.slice A3 S.length c3] 96)).alloc (.cells #[.int .i64 lo,.int .i64 hi] 24)) 96 [.slice none 0 0,.int .i64 0,.int .i64 0,.slice none 0 0,.int .i64 0,.int .i64 0,.slice none 0 0];rw[xsa] at x5;rw[xsa,xsa] at x6;have su:=lhd (seesB_of hu hB b3);have sP:=lhd (seesB_of hu2 hB b3)
 have sS:=lhd (seesB_of hu3 hB b3);have sn:=lhd (seesL_of hu4 hB b3);have hg6:w.heap.size<=w.heap.size+1+1:=by omega
 replace hg6:=lhd hg6;have hn9:=lhd hn;have hP9:=lhd hP;have hS9:=lhd hS;have hbw:=lhd b3;have hD:Hid (dansR sd h n P f t S ns lo hi=if dencC P f t S=0 then
  (if (answerR sd h n ns lo hi).2.2=0 then
   (if inS lo hi f t=true then
    (if wrapOk (dencB P f t S) (answerR sd h n ns lo hi).2.1=true then (((answerR sd h n ns lo hi).1,(P,f,t,S)),(answerR sd h n ns lo hi).2.1.map (wrapB (dencB P f t S)),0)
    else (noGrant,[],2))
   else (noGrant,[],25))
  else (noGrant,[],(answerR sd h n ns lo hi).2.2))
 else (noGrant,[],dencC P f t S)):=rfl
 clear hu hu2 hu3 hu4 b3 hn hP hS;change Box (((w.alloc (.cells #[.slice A sd.length c,.int .i64 h,.int .i64 n,.slice A2 P.length c2,.int .i64 f,.int .i64 t,.slice A3 S.length c3] 96)).alloc (.cells #[.int .i64 lo,.int .i64 hi] 24)).alloc (.cells #[.slice none 0 0,.int .i64 0,.int .i64 0,.slice none 0 0,.int .i64 0,.int .i64 0,.slice none 0 0] 96)) _ _ _ at x3 x5 x6;have hen:=rdencode_any _ _ _ P S f t (((w.alloc (.cells #[.slice A sd.length c,.int .i64 h,.int .i64 n,.slice A2 P.length c2,.int .i64 f,.int .i64 t,.slice A3 S.length c3] 96)).alloc (.cells #[.int .i64 lo,.int .i64 hi] 24)).alloc (.cells #[.slice none 0 0,.int .i64 0,.int .i64 0,.slice none 0 0,.int .i64 0,.int .i64 0,.slice none 0 0] 96)) sP.out sS.out nlr hP9.out hS9.out;unfold DEncP at hen;replace hen:=lhd hen
 go_enter func161,ntmps161
 go_upto_region 1 with (fail)
 generalize ((w.alloc (.cells #[.slice A sd.length c,.int .i64 h,.int .i64 n,.slice A2 P.length c2,.int .i64 f,.int .i64 t,.slice A3 S.length c3] 96)).alloc (.cells #[.int .i64 lo,.int .i64 hi] 24)).alloc (.cells #[.slice none 0 0,.int .i64 0,.int .i64 0,.slice none 0 0,.int .i64 0,.int .i64 0,.slice none 0 0] 96)=W0 at *;generalize hG6:w.heap.size+1+1=g6 at *;generalize hG5:w.heap.size+1=g5 at *;generalize hG3:w.heap.size=g3 at x3 ⊢;replace hG6:=lhd hG6;replace hG5:=lhd hG5;replace hG3:=lhd hG3;obtain⟨-,-,-,a3,a4,a5,a6⟩:=box7_cells x3
 go_wp2_with fail
 refine hen.out.mono ?_;rintro e w1 ⟨v9,rfl,o9,hb1⟩;obtain⟨A9,c9,rfl,-,-⟩:=o9.sees.mk_;replace x3:=x3.below hb1;replace x5:=x5.below hb1;replace x6:=x6.below hb1;replace su:=lhd (seesB_of su.out nlr hb1);replace sn:=lhd (seesL_of sn.out nlr hb1);replace sP:=lhd (seesB_of sP.out nlr hb1);replace sS:=lhd (seesB_of sS.out nlr hb1);replace hbw:=lhd (bgo hbw.out hb1);have sc:=lhd o9.sees;clear a3 a4 a5 a6 hen hb1 o9;dsimp only
 by_cases E1:dencC P f t S=0
 rotate_left
 ·have hr:Hid (dansR sd h n P f t S ns lo hi=(noGrant,[],dencC P f t S)):=by show _=_;rw[hD.out,if_neg E1]
  have hE:(dencC P f t S == 0)=false:=by simp[E1]
  generalize dencC P f t S=E at *;replace E1:=lhd E1;clear x3 x5 sc;obtain⟨y0,y1,y2,y3,y4,y5,y6⟩:=box7_cells x6;obtain⟨f0,f1,f2,f3,f4,f5,f6⟩:=box7_soft x6
  go_wp2_with fail
  have k:=box_set7 x6 (.slice none 0 0) (.int .i64 0) (.int .i64 0) (.slice none 0 0) (.int .i64 0) (.int .i64 0) (.slice none 0 0);have kb:=lhd (below_set7 hbw.out hg6.out (.slice none 0 0) (.int .i64 0) (.int .i64 0) (.slice none 0 0) (.int .i64 0) (.int .i64 0) (.slice none 0 0));clear y0 y1 y2 y3 y4 y5 y6 f0 f1 f2 f3 f4 f5 f6 x6;generalize ((((((w1.setCell ⟨g6,0,none⟩ (.slice none 0 0)).setCell ⟨g6,1,none⟩ (.int .i64 0)).setCell ⟨g6,2,none⟩ (.int .i64 0)).setCell ⟨g6,3,none⟩ (.slice none 0 0)).setCell ⟨g6,4,none⟩ (.int .i64 0)).setCell ⟨g6,5,none⟩ (.int .i64 0)).setCell ⟨g6,6,none⟩ (.slice none 0 0)=W9 at *;obtain⟨z0,z1,z2,z3,z4,z5,z6⟩:=box7_cells k
  try simp only[Exit.inBlock,Exit.then]
  refine bodyPost_ret (v:=.tuple #[.agg #[.slice none 0 0,.int .i64 0,.int .i64 0,.slice none 0 0,.int .i64 0,.int .i64 0,.slice none 0 0],.slice none 0 0,.int .i64 E]) (by simp[results,results161,go_sem,z0,z1,z2,z3,z4,z5,z6]) rfl ?_;exact dansf_bad hr.out kb.out
 have hcl:Hid ((dencB P f t S).length<=2048):=by
  obtain⟨e1,e2⟩:=dtags_enc P f t S E1;show _<=_;rw[<-e2];exact encT_len _
 have hcm:=lhd (denc_mod P f t S);rw[E1,if_pos rfl] at hD;rw[E1];replace E1:=lhd E1;generalize dencB P f t S=C at *;have hans:=ranswer_any w1.heap.size _ _ sd h n ns lo hi w1 su.out sn.out nlr hn9.out;have hal9:Hid ((answerR sd h n ns lo hi).2.2=0->1<=(answerR sd h n ns lo hi).2.1.length/\(answerR sd h n ns lo hi).2.1.length<=16/\(∀a∈(answerR sd h n ns lo hi).2.1,a.length<=2048/\a.length % 4=0)):=fun h0=>answer_props h0
 unfold AnswerP at hans;generalize answerR sd h n ns lo hi=R at *;obtain⟨⟨rs,rh,rn⟩,ys,rc⟩:=R;dsimp only at hans hD hal9;replace hans:=lhd hans;obtain⟨a0,a1,a2,-,-,-,-⟩:=box7_cells x3;obtain⟨b0,b1⟩:=boxT2 x5
 go_wp2_with fail
 refine hans.out.mono ?_;rintro e w2 ⟨v7,v12,rfl,el,o12,hb2⟩;obtain⟨A7,c7,rfl,-,-⟩:=el.1.mk_;obtain⟨A12,c12,rfl⟩:=o12.shape;have hlt2:=lhd (fun k hk=>o12.lt k hk);have hal2:=balloc w2 (.cells #[.slice A7 rs.length c7,.int .i64 rh,.int .i64 rn] 27);have x11:=Box.new w2 27 [.slice A7 rs.length c7,.int .i64 rh,.int .i64 rn];change Box (w2.alloc (.cells #[.slice A7 rs.length c7,.int .i64 rh,.int .i64 rn] 27)) _ _ _ at x11;have hb12:=lhd (bgo hb2 hal2);have z6:=x6.lt;have z3:=x3.lt;replace z6:=lhd z6;replace z3:=lhd z3;have hw1w:=lhd hbw.out;have sc1:=sc;have sP1:=sP;have sS1:=sS;have x31:=lhd x3;have x31w:=lhd x3;have hsz12:=lhd hb2.size;have x61:=lhd x6;replace x3:=x3.below hb12.out;replace x5:=x5.below hb12.out;replace x6:=x6.below hb12.out;replace su:=lhd (seesB_of su.out nlr hb12.out);replace sn:=lhd (seesL_of sn.out nlr hb12.out);replace sP:=lhd (seesB_of sP.out nlr hb12.out);replace sS:=lhd (seesB_of sS.out nlr hb12.out);replace hbw:=lhd (bgo hbw.out hb12.out);replace sc:=lhd (seesB_of sc.out nlr hb12.out);replace o12:=lhd (o12.below hal2);replace el:=lhd (el.below hal2);clear hb2 hal2 hans a0 a1 a2 b0 b1;dsimp only
 go_upto_region 5 with (fail)
 generalize w2.alloc (.cells #[.slice A7 rs.length c7,.int .i64 rh,.int .i64 rn] 27)=W2 at *;generalize hG11:w2.heap.size=g11 at *;replace hG11:=lhd hG11
 by_cases E2:rc=0
 rotate_left
 ·have hr:Hid (dansR sd h n P f t S ns lo hi=(noGrant,[],rc)):=by show _=_;rw[hD.out,if_neg E2]
  have hE:(rc == 0)=false:=by simp[E2]
  replace E2:=lhd E2;clear x3 x5 sc x11 o12 el;obtain⟨y0,y1,y2,y3,y4,y5,y6⟩:=box7_cells x6;obtain⟨f0,f1,f2,f3,f4,f5,f6⟩:=box7_soft x6
  go_wp2_with fail
  have k:=box_set7 x6 (.slice none 0 0) (.int .i64 0) (.int .i64 0) (.slice none 0 0) (.int .i64 0) (.int .i64 0) (.slice none 0 0);have kb:=lhd (below_set7 hbw.out hg6.out (.slice none 0 0) (.int .i64 0) (.int .i64 0) (.slice none 0 0) (.int .i64 0) (.int .i64 0) (.slice none 0 0));clear y0 y1 y2 y3 y4 y5 y6 f0 f1 f2 f3 f4 f5 f6 x6;generalize ((((((W2.setCell ⟨g6,0,none⟩ (.slice none 0 0)).setCell ⟨g6,1,none⟩ (.int .i64 0)).setCell ⟨g6,2,none⟩ (.int .i64 0)).setCell ⟨g6,3,none⟩ (.slice none 0 0)).setCell ⟨g6,4,none⟩ (.int .i64 0)).setCell ⟨g6,5,none⟩ (.int .i64 0)).setCell ⟨g6,6,none⟩ (.slice none 0 0)=W9 at *;obtain⟨z0,z1,z2,z3,z4,z5,z6⟩:=box7_cells k
  try simp only[Exit.inBlock,Exit.then]
  refine bodyPost_ret (v:=.tuple #[.agg #[.slice none 0 0,.int .i64 0,.int .i64 0,.slice none 0 0,.int .i64 0,.int .i64 0,.slice none 0 0],.slice none 0 0,.int .i64 rc]) (by simp[results,results161,go_sem,z0,z1,z2,z3,z4,z5,z6]) rfl ?_;exact dansf_bad hr.out kb.out
 subst E2;rw[if_pos rfl] at hD;obtain⟨hy1,hy2,hyl⟩:=hal9.out rfl;replace hyl:=lhd hyl;have hwn:=lhd (fun W=>rwindow_any A2 P.length c2 A3 S.length c3 f t W);have hin:=lhd (fun W=>rinside_any lo hi f t W);have K:Hid (∀W,Below W2.heap.size W2 W->W.cell? ⟨g3,3,none⟩=some (.slice A2 P.length c2)/\W.cell? ⟨g3,4,none⟩=some (.int .i64 f)/\W.cell? ⟨g3,5,none⟩=some (.int .i64 t)/\W.cell? ⟨g3,6,none⟩=some (.slice A3 S.length c3)/\W.cell? ⟨g5,0,none⟩=some (.int .i64 lo)/\W.cell? ⟨g5,1,none⟩=some (.int .i64 hi)):=fun W hW=>⟨(x3.below hW).cell 3,(x3.below hW).cell 4,(x3.below hW).cell 5,(x3.below hW).cell 6,(x5.below hW).cell 0,(x5.below hW).cell 1⟩
 obtain⟨k0,k1,k2,k3,k4,k5⟩:=K.out W2 (Below.refl _ _);generalize hI:inS lo hi f t=I at *;replace hI:=lhd hI;replace x5:=lhd x5
 go_wp2_with fail
 go_cut [46] (fun v W=>v=.bool (!I)/\Hid (Below W2.heap.size W2 W))
 case first=>
  clear x3 x5 x6 x11
  go_region_held3 (fun W':World=>W'.cell? ⟨g3,3,none⟩=some (.slice A2 P.length c2)/\W'.cell? ⟨g3,4,none⟩=some (.int .i64 f)/\W'.cell? ⟨g3,5,none⟩=some (.int .i64 t)/\W'.cell? ⟨g3,6,none⟩=some (.slice A3 S.length c3)/\W'.cell? ⟨g5,0,none⟩=some (.int .i64 lo)/\W'.cell? ⟨g5,1,none⟩=some (.int .i64 hi))
   (first | (with_reducible exact K.out _ hb9) | (with_reducible exact K.out _ hb8) | exact K.out _ (by (repeat (first | exact Below.refl _ _ | (refine bgo ?_ (balloc _ _)) | (refine bgo ?_ (bdrew _)) | (refine bgo ?_ (by assumption))))) | (go_keep;done))
   (first
    | (go_at_call 43;(with_reducible refine (hin.out w8).mono ?_);rintro e w9 ⟨rfl,hb9⟩
       replace hb9:=bgo hb8 hb9)
    | (go_at_call 226;(with_reducible refine (hwn.out W2.drew).mono ?_);rintro e w8 ⟨rfl,hb8⟩
       replace hb8:=bgo (bdrew W2) hb8)
    | (go_at_call 226;(with_reducible refine (hwn.out W2).mono ?_);rintro e w8 ⟨rfl,hb8⟩))
  all_goals
   go_wp2_with fail
   go_meet
   exact⟨rfl,hb9⟩
 case rest=>
 obtain⟨rfl,hb9⟩:=hcut;obtain⟨w4,rfl⟩:∃w4:World,w4=wc:=⟨_,rfl⟩
 replace x6:=x6.below hb9.out;replace x11:=x11.below hb9.out;replace sc:=lhd (seesB_of sc.out nlr hb9.out);replace o12:=lhd (o12.out.below hb9.out);replace el:=lhd (el.out.below hb9.out);replace hb12:=lhd (bgo hb12.out hb9.out);replace hbw:=lhd (bgo hbw.out hb9.out);have hg11:Hid (w2.heap.size<=g11):=by show _<=_;rw[hG11.out];exact Nat.le_refl _
 have h4g:Hid (g11<w4.heap.size):=x11.lt;clear k0 k1 k2 k3 k4 k5 K hwn hin x3 x5 sn su;cases I with
 | false=>
   have hr:Hid (dansR sd h n P f t S ns lo hi=(noGrant,[],25)):=by show _=_;rw[hD.out];rfl
   clear x11;obtain⟨y0,y1,y2,y3,y4,y5,y6⟩:=box7_cells x6;obtain⟨f0,f1,f2,f3,f4,f5,f6⟩:=box7_soft x6
   go_wp2_with fail
   have k:=box_set7 x6 (.slice none 0 0) (.int .i64 0) (.int .i64 0) (.slice none 0 0) (.int .i64 0) (.int .i64 0) (.slice none 0 0);have kb:=lhd (below_set7 hbw.out hg6.out (.slice none 0 0) (.int .i64 0) (.int .i64 0) (.slice none 0 0) (.int .i64 0) (.int .i64 0) (.slice none 0 0));clear y0 y1 y2 y3 y4 y5 y6 f0 f1 f2 f3 f4 f5 f6 x6;generalize ((((((w4.setCell ⟨g6,0,none⟩ (.slice none 0 0)).setCell ⟨g6,1,none⟩ (.int .i64 0)).setCell ⟨g6,2,none⟩ (.int .i64 0)).setCell ⟨g6,3,none⟩ (.slice none 0 0)).setCell ⟨g6,4,none⟩ (.int .i64 0)).setCell ⟨g6,5,none⟩ (.int .i64 0)).setCell ⟨g6,6,none⟩ (.slice none 0 0)=W9 at *;obtain⟨z0,z1,z2,z3,z4,z5,z6⟩:=box7_cells k
   try simp only[Exit.inBlock,Exit.then]
   refine bodyPost_ret (v:=.tuple #[.agg #[.slice none 0 0,.int .i64 0,.int .i64 0,.slice none 0 0,.int .i64 0,.int .i64 0,.slice none 0 0],.slice none 0 0,.int .i64 25]) (by simp[results,results161,go_sem,z0,z1,z2,z3,z4,z5,z6]) rfl ?_;exact dansf_bad hr.out kb.out
 | true=>
 replace hD:Hid (dansR sd h n P f t S ns lo hi=if wrapOk C ys=true then (((rs,rh,rn),(P,f,t,S)),ys.map (wrapB C),0) else (noGrant,[],2)):=by show _=_;rw[hD.out,if_pos rfl]
 have sys:=lhd o12.out.sees;have x6':=lhd x6;have x11':=lhd x11;clear x6 x11 x31 x61
 go_wp2_with fail
 go_loopw [13,14] (fun r tt wr=>∃k:Nat,k<=ys.length/\tt=.int .i64 k/\Hid (OwnLF wr w4.heap.size r ((ys.take k).map (wrapB C)))/\Hid (Below w4.heap.size w4 wr)/\Hid (wrapOk C (ys.take k)=true)) (fun _ tt _=>ys.length - (intOf tt).toNat)
 case atStart=>exact⟨0,by omega,rfl,OwnLF.nil _ _,Below.refl _ _,rfl⟩
 case round=>
  obtain⟨k,hk,rfl,ho,hb,hok⟩:=hrel;have hkl:((ys.take k).map (wrapB C)).length=k:=by simp;omega
  obtain⟨Ar,cr,rfl⟩:=ho.out.own.shape;rw[hkl] at ho ⊢
  by_cases hlt9:k<ys.length
  ·have i0:(k:Int)<(ys.length:Int):=by omega
   obtain⟨b6,o6,e6,hb6,hcell⟩:=(seesL_of sys.out nlr hb.out).at_ (by omega);subst e6;obtain⟨A',c',y1,-,-,sy⟩:=hcell k hlt9;have hdk:ys[k]?=some (ys.getD k []):=by rw[xgd,xge hlt9];rfl
   have hmem:ys.getD k []∈ys:=List.mem_of_getElem? hdk;have hal:=hyl.out _ hmem;have hst:Hid ((ys.take (k+1)).map (wrapB C)=(ys.take k).map (wrapB C)++[wrapB C (ys.getD k [])]):=by show _=_;rw[take_one ys k _ hdk,List.map_append];rfl
   have hws:=lhd (wrapOk_step C ys k _ hdk);generalize ys.getD k []=a at *;have sC:=seesB_of sc.out nlr hb.out;have hTS:=taglitA wr _ _ a C sy sC;have hla:=balloc wr (.cells #[.string ⟨#[65,78,83,87]⟩,.slice A' a.length c',.string ⟨#[67,69,82,84]⟩,.slice A9 C.length c9] 173);rw[show wr.heap.size+1=(wr.alloc (.cells #[.string ⟨#[65,78,83,87]⟩,.slice A' a.length c',.string ⟨#[67,69,82,84]⟩,.slice A9 C.length c9] 173)).heap.size from (xsa _ _).symm] at hTS;have hen:=rencode_any _ _ (wrapT a C) _ hTS nlr (by simp[wrapT]) (by
    have h1:=hcl.out;have h2:=hal.1;simp only[wrapT,dataT,xmp,List.map_nil,xfc,List.flatten_nil,xla,List.length_nil]
    omega)
   unfold EncP at hen;have hwb:Hid (wrapB C a=encT (wrapT a C)):=rfl;have hwc:=wrap_code a C hal.2 hcm.out;have hj0:(0:Int)<=(k:Int):=by omega
   replace hen:=lhd hen;replace hmem:=lhd hmem;replace hdk:=lhd hdk;replace hkl:=lhd hkl;replace hal:=lhd hal;generalize hacc:(ys.take k).map (wrapB C)=acc at *;replace hacc:=lhd hacc;clear hTS sC sy hcell
   go_wp2_with fail
   refine hen.out.mono ?_;rintro e w7 ⟨v8,rfl,o8,hb7⟩;generalize encT (wrapT a C)=AB at *;obtain⟨A8,c8,rfl,-,-⟩:=o8.sees.mk_;have hwC:=hws.out;dsimp only
   by_cases E8:encC (wrapT a C)=0
   ·have hok':Hid (wrapOk C (ys.take (k+1))=true):=by show _=_;rw[hwC,hok.out,E8];rfl
    rw[E8];replace E8:=lhd E8;replace hwC:=lhd hwC;have hb8:=bgo hla hb7;have ho8:=ho.out.below hb8;have hfr:=lhd (o8.from.mono (Nat.le_trans hb.out.size hla.size));have hel:=Elt.of_from (v:=.slice Ar k cr) o8.sees o8.from (fun q hq=>((ho.out.below hla).own.lt q hq).2)
    have hal8:=balloc w7 (.cells #[.slice A8 AB.length c8] 25);have hbox:=lhd (one_cell w7 (.slice A8 AB.length c8) 25);have ho4:=lhd (ho8.below hal8);have hel4:=lhd (hel.below hal8);have hb4:=lhd (bgo (bgo hb.out hb8) hal8);clear hal8 hel o8 hb7 hb8 ho8 hen hla ho
    go_wp2_with (at_builtin;refine wpList_appLF (by rfl) _ _ 30 underlying30 rfl w4.heap.size _ acc rfl ho4.out _ _ _ AB rfl hbox.out hel4.out hfr.out (by have:=hkl.out;omega) hb4.out.size ?_)
    intro v' w' hW2 hb5;have hW2:=lhd hW2;have hb5:=lhd (hb4.out.trans hb5);replace hW2:Hid (OwnLF w' w4.heap.size v' ((ys.take (k+1)).map (wrapB C))):=by show OwnLF _ _ _ _;rw[hst.out,hwb.out];exact hW2.out
    go_wp2_with fail
    go_roundw
    case rel=>first | exact⟨k+1,by omega,by go_num,hW2,hb5,hok'⟩ | ((repeat apply Exists.intro);exact⟨⟨k+1,by omega,by go_num,hW2,hb5,hok'⟩,rfl⟩)
    case measure=>simp[intOf];omega
   have hr:Hid (dansR sd h n P f t S ns lo hi=(noGrant,[],2)):=by show _=_;rw[hD.out,wrapOk_false hmem.out E8];rfl
   rw[hwc.resolve_left E8];replace E8:=lhd E8;replace hwC:=lhd hwC;replace hwc:=lhd hwc;have hb8:=bgo hb.out (bgo hla hb7);have x6:=x6'.out.below hb8;replace hbw:=lhd (bgo hbw.out hb8);clear hen hla hb7 hb8 o8 y1;obtain⟨y0,y1,y2,y3,y4,y5,y6⟩:=box7_cells x6;obtain⟨f0,f1,f2,f3,f4,f5,f6⟩:=box7_soft x6
   go_wp2_with fail
   have k:=box_set7 x6 (.slice none 0 0) (.int .i64 0) (.int .i64 0) (.slice none 0 0) (.int .i64 0) (.int .i64 0) (.slice none 0 0);have kb:=lhd (below_set7 hbw.out hg6.out (.slice none 0 0) (.int .i64 0) (.int .i64 0) (.slice none 0 0) (.int .i64 0) (.int .i64 0) (.slice none 0 0));clear y0 y1 y2 y3 y4 y5 y6 f0 f1 f2 f3 f4 f5 f6 x6;generalize ((((((w7.setCell ⟨g6,0,none⟩ (.slice none 0 0)).setCell ⟨g6,1,none⟩ (.int .i64 0)).setCell ⟨g6,2,none⟩ (.int .i64 0)).setCell ⟨g6,3,none⟩ (.slice none 0 0)).setCell ⟨g6,4,none⟩ (.int .i64 0)).setCell ⟨g6,5,none⟩ (.int .i64 0)).setCell ⟨g6,6,none⟩ (.slice none 0 0)=W9 at *;obtain⟨z0,z1,z2,z3,z4,z5,z6⟩:=box7_cells k
   try simp only[Exit.inBlock,Exit.then]
   refine bodyPost_ret (v:=.tuple #[.agg #[.slice none 0 0,.int .i64 0,.int .i64 0,.slice none 0 0,.int .i64 0,.int .i64 0,.slice none 0 0],.slice none 0 0,.int .i64 2]) (by simp[results,results161,go_sem,z0,z1,z2,z3,z4,z5,z6]) rfl ?_;exact dansf_bad hr.out kb.out
  obtain rfl:k=ys.length:=by omega
  have i0:¬(ys.length:Int)<(ys.length:Int):=by omega
  rw[xtl nlr] at hok ho;have hr:Hid (dansR sd h n P f t S ns lo hi=(((rs,rh,rn),(P,f,t,S)),ys.map (wrapB C),0)):=by show _=_;rw[hD.out,if_pos hok.out]
  have x3w:=x31w.out.below (bgo hb12.out hb.out);have hD4:=balloc wr (.cells #[.slice A2 P.length c2,.int .i64 f,.int .i64 t,.slice A3 S.length c3] 94);have x17:=Box.new wr 94 [.slice A2 P.length c2,.int .i64 f,.int .i64 t,.slice A3 S.length c3];change Box (wr.alloc (.cells #[.slice A2 P.length c2,.int .i64 f,.int .i64 t,.slice A3 S.length c3] 94)) _ _ _ at x17;have hb4R:=bgo hb.out hD4;have sPr:=lhd (seesB_of sP1.out nlr (bgo hb12.out hb4R));have sSr:=lhd (seesB_of sS1.out nlr (bgo hb12.out hb4R));have x11R:=x11'.out.below hb4R;have x6R:=lhd (x6'.out.below hb4R);have tR:=lhd (seesB_of el.out.1 nlr hb4R);have oR:=lhd (ho.out.below hD4);have hbR:=lhd (bgo hbw.out hb4R);have hw4:Hid (w.heap.size<=w4.heap.size):=hbw.out.size;have h17:Hid (w4.heap.size<=wr.heap.size):=hb.out.size;have h6:Hid (g6<w4.heap.size):=x6'.out.lt;have h11:Hid (g11<w4.heap.size):=x11'.out.lt;have h611:Hid (g6<g11):=by show _<_;have:=z6.out;have:=hG11.out;have:=hsz12.out;omega
  obtain⟨-,-,-,a3,a4,a5,a6⟩:=box7_cells x3w;replace x17:=lhd x17;replace hkl:=lhd hkl;clear hD4 hb4R x3w
  go_upto_region 18 with (fail)
  clear a3 a4 a5 a6;generalize wr.alloc (.cells #[.slice A2 P.length c2,.int .i64 f,.int .i64 t,.slice A3 S.length c3] 94)=wR at *;generalize wr.heap.size=g17 at *;have K:Hid (∀W,Below wR.heap.size wR W->W.cell? ⟨g11,0,none⟩=some (.slice A7 rs.length c7)/\W.cell? ⟨g11,1,none⟩=some (.int .i64 rh)/\W.cell? ⟨g11,2,none⟩=some (.int .i64 rn)/\W.cell? ⟨g17,0,none⟩=some (.slice A2 P.length c2)/\W.cell? ⟨g17,1,none⟩=some (.int .i64 f)/\W.cell? ⟨g17,2,none⟩=some (.int .i64 t)/\W.cell? ⟨g17,3,none⟩=some (.slice A3 S.length c3)):=fun W hW=>⟨(x11R.below hW).cell 0,(x11R.below hW).cell 1,(x11R.below hW).cell 2,(x17.out.below hW).cell 0,(x17.out.below hW).cell 1,(x17.out.below hW).cell 2,(x17.out.below hW).cell 3⟩
  have K7:Hid (∀W (x0 x1 x2 x3 x4 x5 x6:Value),Below wR.heap.size wR W->(((((((W.setCell ⟨g6,0,none⟩ x0).setCell ⟨g6,1,none⟩ x1).setCell ⟨g6,2,none⟩ x2).setCell ⟨g6,3,none⟩ x3).setCell ⟨g6,4,none⟩ x4).setCell ⟨g6,5,none⟩ x5).setCell ⟨g6,6,none⟩ x6).cell? ⟨g11,0,none⟩=some (.slice A7 rs.length c7)/\(((((((W.setCell ⟨g6,0,none⟩ x0).setCell ⟨g6,1,none⟩ x1).setCell ⟨g6,2,none⟩ x2).setCell ⟨g6,3,none⟩ x3).setCell ⟨g6,4,none⟩ x4).setCell ⟨g6,5,none⟩ x5).setCell ⟨g6,6,none⟩ x6).cell? ⟨g11,1,none⟩=some (.int .i64 rh)/\(((((((W.setCell ⟨g6,0,none⟩ x0).setCell ⟨g6,1,none⟩ x1).setCell ⟨g6,2,none⟩ x2).setCell ⟨g6,3,none⟩ x3).setCell ⟨g6,4,none⟩ x4).setCell ⟨g6,5,none⟩ x5).setCell ⟨g6,6,none⟩ x6).cell? ⟨g11,2,none⟩=some (.int .i64 rn)/\(((((((W.setCell ⟨g6,0,none⟩ x0).setCell ⟨g6,1,none⟩ x1).setCell ⟨g6,2,none⟩ x2).setCell ⟨g6,3,none⟩ x3).setCell ⟨g6,4,none⟩ x4).setCell ⟨g6,5,none⟩ x5).setCell ⟨g6,6,none⟩ x6).cell? ⟨g17,0,none⟩=some (.slice A2 P.length c2)/\(((((((W.setCell ⟨g6,0,none⟩ x0).setCell ⟨g6,1,none⟩ x1).setCell ⟨g6,2,none⟩ x2).setCell ⟨g6,3,none⟩ x3).setCell ⟨g6,4,none⟩ x4).setCell ⟨g6,5,none⟩ x5).setCell ⟨g6,6,none⟩ x6).cell? ⟨g17,1,none⟩=some (.int .i64 f)/\(((((((W.setCell ⟨g6,0,none⟩ x0).setCell ⟨g6,1,none⟩ x1).setCell ⟨g6,2,none⟩ x2).setCell ⟨g6,3,none⟩ x3).setCell ⟨g6,4,none⟩ x4).setCell ⟨g6,5,none⟩ x5).setCell ⟨g6,6,none⟩ x6).cell? ⟨g17,2,none⟩=some (.int .i64 t)/\(((((((W.setCell ⟨g6,0,none⟩ x0).setCell ⟨g6,1,none⟩ x1).setCell ⟨g6,2,none⟩ x2).setCell ⟨g6,3,none⟩ x3).setCell ⟨g6,4,none⟩ x4).setCell ⟨g6,5,none⟩ x5).setCell ⟨g6,6,none⟩ x6).cell? ⟨g17,3,none⟩=some (.slice A3 S.length c3)):=fun W x0 x1 x2 x3 x4 x5 x6 hW=>by
   have e1:=x11R.below hW;have e2:=x17.out.below hW;have n1:g11≠g6:=by have:=h611.out;omega
   have n2:g17≠g6:=by have:=h17.out;have:=h6.out;omega
   have b1:=((((((e1.other (j:=0) (v:=x0) n1).other (j:=1) (v:=x1) n1).other (j:=2) (v:=x2) n1).other (j:=3) (v:=x3) n1).other (j:=4) (v:=x4) n1).other (j:=5) (v:=x5) n1).other (j:=6) (v:=x6) n1;have b2:=((((((e2.other (j:=0) (v:=x0) n2).other (j:=1) (v:=x1) n2).other (j:=2) (v:=x2) n2).other (j:=3) (v:=x3) n2).other (j:=4) (v:=x4) n2).other (j:=5) (v:=x5) n2).other (j:=6) (v:=x6) n2;exact⟨b1.cell 0,b1.cell 1,b1.cell 2,b2.cell 0,b2.cell 1,b2.cell 2,b2.cell 3⟩
  obtain⟨k0,k1,k2,k3,k4,k5,k6⟩:=K.out wR (Below.refl _ _);have xa:Box (wR.alloc (.cells #[.slice A2 P.length c2] 25)) (wR.heap.size) 25 [.slice A2 P.length c2]:=(Box.new wR 25 [.slice A2 P.length c2])
  have hja:=lhd (rjone (W:=(wR.alloc (.cells #[.slice A2 P.length c2] 25))) xa (seesB_of sPr.out nlr (balloc wR _)) hP9.out);have hda:=lhd (rjone (W:=(wR.alloc (.cells #[.slice A2 P.length c2] 25)).drew) (xa.below (bdrew _)) (seesB_of sPr.out nlr (bgo (balloc wR _) (bdrew _))) hP9.out);clear xa;have xb:Box ((wR.alloc (.cells #[.slice A2 P.length c2] 25)).alloc (.cells #[.slice A3 S.length c3] 25)) (wR.heap.size) 25 [.slice A2 P.length c2]:=((Box.new wR 25 [.slice A2 P.length c2]).below (balloc _ _))
  have hjb:=lhd (rjone (W:=((wR.alloc (.cells #[.slice A2 P.length c2] 25)).alloc (.cells #[.slice A3 S.length c3] 25))) xb (seesB_of sPr.out nlr (bgo (balloc wR _) (balloc _ _))) hP9.out);have hdb:=lhd (rjone (W:=((wR.alloc (.cells #[.slice A2 P.length c2] 25)).alloc (.cells #[.slice A3 S.length c3] 25)).drew) (xb.below (bdrew _)) (seesB_of sPr.out nlr (bgo (bgo (balloc wR _) (balloc _ _)) (bdrew _))) hP9.out);clear xb;have xc:Box ((wR.alloc (.cells #[.slice A3 S.length c3] 25)).alloc (.cells #[.slice A2 P.length c2] 25)) (wR.heap.size+1) 25 [.slice A2 P.length c2]:=(by have h:=Box.new (wR.alloc (.cells #[.slice A3 S.length c3] 25)) 25 [.slice A2 P.length c2];rw[xsa] at h;exact h)
  have hjc:=lhd (rjone (W:=((wR.alloc (.cells #[.slice A3 S.length c3] 25)).alloc (.cells #[.slice A2 P.length c2] 25))) xc (seesB_of sPr.out nlr (bgo (balloc wR _) (balloc _ _))) hP9.out);have hdc:=lhd (rjone (W:=((wR.alloc (.cells #[.slice A3 S.length c3] 25)).alloc (.cells #[.slice A2 P.length c2] 25)).drew) (xc.below (bdrew _)) (seesB_of sPr.out nlr (bgo (bgo (balloc wR _) (balloc _ _)) (bdrew _))) hP9.out);clear xc;have blb:Hid (Box ((wR.alloc (.cells #[.slice A2 P.length c2] 25)).alloc (.cells #[.slice A3 S.length c3] 25)) (wR.heap.size+1) 25 [.slice A3 S.length c3]):=by
   have h:=Box.new (wR.alloc (.cells #[.slice A2 P.length c2] 25)) 25 [.slice A3 S.length c3];rw[xsa] at h;exact h
  have blc:Hid (Box ((wR.alloc (.cells #[.slice A3 S.length c3] 25)).alloc (.cells #[.slice A2 P.length c2] 25)) wR.heap.size 25 [.slice A3 S.length c3]):=(Box.new wR 25 [.slice A3 S.length c3]).below (balloc _ _);replace x11R:=lhd x11R
  go_region_held3 (fun W':World=>W'.cell? ⟨g11,0,none⟩=some (.slice A7 rs.length c7)/\W'.cell? ⟨g11,1,none⟩=some (.int .i64 rh)/\W'.cell? ⟨g11,2,none⟩=some (.int .i64 rn)/\W'.cell? ⟨g17,0,none⟩=some (.slice A2 P.length c2)/\W'.cell? ⟨g17,1,none⟩=some (.int .i64 f)/\W'.cell? ⟨g17,2,none⟩=some (.int .i64 t)/\W'.cell? ⟨g17,3,none⟩=some (.slice A3 S.length c3))
   (first | (with_reducible exact K.out _ hb8') | (with_reducible exact K7.out _ _ _ _ _ _ _ _ hb8') | (with_reducible exact K.out _ hb7') | exact K.out _ (by (repeat (first | exact Below.refl _ _ | (refine bgo ?_ (balloc _ _)) | (refine bgo ?_ (bdrew _)) | (refine bgo ?_ (by assumption))))) | (go_keep;done))
   (first
    | (go_at_call 85;have _q:=bl;(with_reducible refine (rjone bl (seesB_of sSr.out nlr hb7') (by have:=hS9.out;omega)).mono ?_);rintro e w8 ⟨v8,rfl,o8,hb8⟩
       have hb8':=bgo hb7' hb8;obtain⟨B3,d3,rfl,-,-⟩:=o8.sees.mk_;have m3:=o8.sees;have m2':=seesB_of m2 nlr hb8;have x6r:=x6R.out.below hb8';obtain⟨y0,y1,y2,y3,y4,y5,y6⟩:=box7_cells x6r;obtain⟨f0,f1,f2,f3,f4,f5,f6⟩:=box7_soft x6r)
    | (go_at_call 85;have _q:=hb7';(with_reducible refine (rjone (show Box (w7.alloc (.cells #[.slice A3 S.length c3] 25)) w7.heap.size 25 [.slice A3 S.length c3] from (Box.new w7 25 [.slice A3 S.length c3])) (seesB_of sSr.out nlr (bgo hb7' (balloc w7 _))) (by have:=hS9.out;omega)).mono ?_);rintro e w8 ⟨v8,rfl,o8,hb8⟩
       replace hb8:=bgo (balloc w7 _) hb8;have hb8':=bgo hb7' hb8;obtain⟨B3,d3,rfl,-,-⟩:=o8.sees.mk_;have m3:=o8.sees;have m2':=seesB_of m2 nlr hb8;have x6r:=x6R.out.below hb8';obtain⟨y0,y1,y2,y3,y4,y5,y6⟩:=box7_cells x6r;obtain⟨f0,f1,f2,f3,f4,f5,f6⟩:=box7_soft x6r)
    | (go_at_call 85;have _q:=hb7';(with_reducible refine (rjone (show Box (w7.alloc (.cells #[.slice A3 S.length c3] 25)).drew w7.heap.size 25 [.slice A3 S.length c3] from (Box.new w7 25 [.slice A3 S.length c3]).below (bdrew _)) (seesB_of sSr.out nlr (bgo hb7' (bgo (balloc w7 _) (bdrew _)))) (by have:=hS9.out;omega)).mono ?_);rintro e w8 ⟨v8,rfl,o8,hb8⟩
       replace hb8:=bgo (bgo (balloc w7 _) (bdrew _)) hb8;have hb8':=bgo hb7' hb8;obtain⟨B3,d3,rfl,-,-⟩:=o8.sees.mk_;have m3:=o8.sees;have m2':=seesB_of m2 nlr hb8;have x6r:=x6R.out.below hb8';obtain⟨y0,y1,y2,y3,y4,y5,y6⟩:=box7_cells x6r;obtain⟨f0,f1,f2,f3,f4,f5,f6⟩:=box7_soft x6r)
    | (go_at_call 85;(with_reducible refine hda.out.mono ?_);rintro e w7 ⟨v7,rfl,o7,hb7⟩
       obtain⟨B2,d2,rfl,-,-⟩:=o7.sees.mk_;have m2:=o7.sees;have hb7':=bgo (bgo (balloc wR _) (bdrew _)) hb7)
    | (go_at_call 85;(with_reducible refine hja.out.mono ?_);rintro e w7 ⟨v7,rfl,o7,hb7⟩
       obtain⟨B2,d2,rfl,-,-⟩:=o7.sees.mk_;have m2:=o7.sees;have hb7':=bgo (balloc wR _) hb7)
    | (go_at_call 85;(with_reducible refine hdb.out.mono ?_);rintro e w7 ⟨v7,rfl,o7,hb7⟩
       obtain⟨B2,d2,rfl,-,-⟩:=o7.sees.mk_;have m2:=o7.sees;have bl:=(blb.out.below (bdrew _)).below hb7;have hb7':=bgo (bgo (bgo (balloc wR _) (balloc _ _)) (bdrew _)) hb7)
    | (go_at_call 85;(with_reducible refine hjb.out.mono ?_);rintro e w7 ⟨v7,rfl,o7,hb7⟩
       obtain⟨B2,d2,rfl,-,-⟩:=o7.sees.mk_;have m2:=o7.sees;have bl:=blb.out.below hb7;have hb7':=bgo (bgo (balloc wR _) (balloc _ _)) hb7)
    | (go_at_call 85;(with_reducible refine hdc.out.mono ?_);rintro e w7 ⟨v7,rfl,o7,hb7⟩
       obtain⟨B2,d2,rfl,-,-⟩:=o7.sees.mk_;have m2:=o7.sees;have bl:=(blc.out.below (bdrew _)).below hb7;have hb7':=bgo (bgo (bgo (balloc wR _) (balloc _ _)) (bdrew _)) hb7)
    | (go_at_call 85;(with_reducible refine hjc.out.mono ?_);rintro e w7 ⟨v7,rfl,o7,hb7⟩
       obtain⟨B2,d2,rfl,-,-⟩:=o7.sees.mk_;have m2:=o7.sees;have bl:=blc.out.below hb7;have hb7':=bgo (bgo (balloc wR _) (balloc _ _)) hb7))
  all_goals
   clear k0 k1 k2 k3 k4 k5 k6 K K7
   go_wp2_with fail
   have k:=box_set7 x6r (.slice A7 rs.length c7) (.int .i64 rh) (.int .i64 rn) (.slice B2 P.length d2) (.int .i64 f) (.int .i64 t) (.slice B3 S.length d3);have k1:=lhd (sees_set7 x6r noZ7 (.slice A7 rs.length c7) (.int .i64 rh) (.int .i64 rn) (.slice B2 P.length d2) (.int .i64 f) (.int .i64 t) (.slice B3 S.length d3) (seesB_of tR.out nlr hb8'));have k2:=lhd (sees_set7 x6r noZ7 (.slice A7 rs.length c7) (.int .i64 rh) (.int .i64 rn) (.slice B2 P.length d2) (.int .i64 f) (.int .i64 t) (.slice B3 S.length d3) m2');have k3:=lhd (sees_set7 x6r noZ7 (.slice A7 rs.length c7) (.int .i64 rh) (.int .i64 rn) (.slice B2 P.length d2) (.int .i64 f) (.int .i64 t) (.slice B3 S.length d3) m3);have k4:=lhd (OwnLF.set7 x6r h6.out (NoB.s _ _ _) (NoB.i _) (NoB.i _) (NoB.s _ _ _) (NoB.i _) (NoB.i _) (NoB.s _ _ _) (.slice A7 rs.length c7) (.int .i64 rh) (.int .i64 rn) (.slice B2 P.length d2) (.int .i64 f) (.int .i64 t) (.slice B3 S.length d3) (NoB.s _ _ _) (NoB.i _) (NoB.i _) (NoB.s _ _ _) (NoB.i _) (NoB.i _) (oR.out.below hb8'));have kb:=lhd (below_set7 (bgo hbR.out hb8') hg6.out (.slice A7 rs.length c7) (.int .i64 rh) (.int .i64 rn) (.slice B2 P.length d2) (.int .i64 f) (.int .i64 t) (.slice B3 S.length d3));clear y0 y1 y2 y3 y4 y5 y6 f0 f1 f2 f3 f4 f5 f6 x6r
   generalize ((((((w8.setCell ⟨g6,0,none⟩ (.slice A7 rs.length c7)).setCell ⟨g6,1,none⟩ (.int .i64 rh)).setCell ⟨g6,2,none⟩ (.int .i64 rn)).setCell ⟨g6,3,none⟩ (.slice B2 P.length d2)).setCell ⟨g6,4,none⟩ (.int .i64 f)).setCell ⟨g6,5,none⟩ (.int .i64 t)).setCell ⟨g6,6,none⟩ (.slice B3 S.length d3)=W9 at *;obtain⟨z0,z1,z2,z3',z4,z5,z6'⟩:=box7_cells k;refine bodyPost_ret (v:=.tuple #[.agg #[.slice A7 rs.length c7,.int .i64 rh,.int .i64 rn,.slice B2 P.length d2,.int .i64 f,.int .i64 t,.slice B3 S.length d3],.slice Ar ys.length cr,.int .i64 0]) (by simp[results,results161,go_sem,z0,z1,z2,z3',z4,z5,z6']) rfl ?_;exact dansf_ok hr.out k1.out k2.out k3.out k4.out hw4.out kb.out
end Go.Proofs.YtjgepckncogdaaaGreat
