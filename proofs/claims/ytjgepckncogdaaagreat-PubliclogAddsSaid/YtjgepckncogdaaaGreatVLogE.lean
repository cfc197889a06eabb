/- Contracts of functions, walks, plain facts. Conditions: those of each theorem. -/
import Derived.Test.YtjgepckncogdaaaGreatVLogD
import Derived.Test.YtjgepckncogdaaaGreatVRDecB
set_option linter.unusedVariables false
set_option linter.unusedSimpArgs false
set_option maxRecDepth 100000
set_option maxHeartbeats 16000000
namespace Go.Proofs.YtjgepckncogdaaaGreat
open Go Go.RowKit _root_.Go.Proofs.Tryz
attribute [local go_sem ↓] Go.wp_at_zero Go.wp_at_succ
theorem cell_aside (W:World) (v:Value) {g G:Nat} (h:g≠G):(W.setCell ⟨G,0,none⟩ v).cell? ⟨g,0,none⟩=W.cell? ⟨g,0,none⟩:=by
 rcases Nat.lt_or_ge g W.heap.size with hl|hl
 ·exact World.cell?_of_block ((setCell_grown W G 0 v).block g hl (fun e=>h (Option.some.inj e)))
 have h1:W.heap[g]?=none:=Array.getElem?_eq_none hl;have h2:(W.setCell ⟨G,0,none⟩ v).heap[g]?=none:=Array.getElem?_eq_none (by simp[World.setCell];exact hl);exact World.cell?_of_block (h2.trans h1.symm)
theorem rladd_any (es:List Bs) (P:Bs) (u u2:Value) (w:World) (hu:SeesL w w.heap.size u es) (hu2:SeesB w w.heap.size u2 P) (hn:es.length<=1000) (hl:∀l∈es,l.length<=1048576) (hP:P.length<=65535) :
 Calls prog 24 #[.agg #[u],u2] w (LAddP es P w):=by
 obtain⟨A,c,rfl,hc1,hc2⟩:=hu.mk_;obtain⟨A2,c2,rfl,-,-⟩:=hu2.mk_;have b1:=balloc w (.cells #[.slice A es.length c] 44);have b3:=balloc (w.alloc (.cells #[.slice A es.length c] 44)) (.cells #[.slice none 0 0] 44);have x2:=(Box.new w 44 [.slice A es.length c]).below b3;have x4:=Box.new (w.alloc (.cells #[.slice A es.length c] 44)) 44 [.slice none 0 0];rw[xsa] at x4;change Box ((w.alloc (.cells #[.slice A es.length c] 44)).alloc (.cells #[.slice none 0 0] 44)) _ _ _ at x4;have hbw:=lhd (bgo b1 b3);replace hu:=lhd (seesL_of hu nlr hbw.out);replace hu2:=lhd (seesB_of hu2 nlr hbw.out);have n42:w.heap.size+1≠w.heap.size:=by omega
 have h4w:Hid (w.heap.size<=w.heap.size+1):=by show _<=_;omega
 clear b1 b3
 go_enter func24,ntmps24
 go_upto_region 1 with (fail)
 generalize (w.alloc (.cells #[.slice A es.length c] 44)).alloc (.cells #[.slice none 0 0] 44)=W1 at *;generalize w.heap.size+1=g4 at *;generalize hg2:w.heap.size=g2 at x2 n42 ⊢;replace hg2:=lhd hg2;have y2:=box1_cell x2
 by_cases hmany:64<es.length
 ·have j0:(64:Int)<(es.length:Int):=by omega
  have hm:=lhd hmany;clear hmany;have y4:=box1_cell x4;have f4:=x4.frozen 0;have z:=x4.set 0 (.slice none 0 0);simp only[xsz] at z;have hb:=lhd (hbw.out.setCell (p:=⟨g4,0,none⟩) h4w.out (.slice none 0 0));have z0:=box1_cell z;clear z
  go_wp2_with fail
  clear y4 f4;generalize W1.setCell ⟨g4,0,none⟩ (.slice none 0 0)=W9 at *;refine bodyPost_ret (v:=.tuple #[.agg #[.slice none 0 0],.int .i64 0,.int .i64 8]) (by simp[results,results24,go_sem,z0]) rfl ?_;exact ladd_many hm.out hb.out
 have j0:¬(64:Int)<(es.length:Int):=by omega
 have hx2:=lhd x2;have hx4:=lhd x4;have hb1:=hbw;clear x2 x4 hbw y2;have y2:=box1_cell hx2.out
 go_wp2_with fail
 clear y2
 go_loopw [7,8] (fun r t wr=>∃k:Nat,k<=es.length/\t=.int .i64 k/\Hid (OwnL wr W1.heap.size r (es.take k))/\Hid (hasB (es.take k) P=false)/\Hid (Below W1.heap.size W1 wr)) (fun _ t _=>es.length - (intOf t).toNat)
 case atStart=>exact⟨0,by omega,rfl,OwnL.nil _ _,rfl,Below.refl _ _⟩
 case round=>
  obtain⟨k,hk,rfl,ho,hno,hb⟩:=hrel;obtain⟨Ao,co,rfl⟩:=ho.out.shape;have y2:=box1_cell (hx2.out.below hb.out)
  by_cases hlt:k<es.length
  ·have i1:(k:Int)<(es.length:Int):=by omega
   have i2:(0:Int)<=(k:Int):=by omega
   obtain⟨b,o,rfl,hbB,hz0⟩:=(seesL_of hu.out nlr hb.out).at_ (by omega);obtain⟨A3,c3,z1,-,-,z2⟩:=hz0 k hlt;have hld:=hl (es.getD k []) (by rw[xgd,xge hlt];exact xgx hlt);have htk:Hid (es.take (k+1)=es.take k++[es.getD k []]):=by show _=_;rw[List.take_add_one,xge hlt,xgd,xge hlt];rfl
   have hst:=lhd (hasB_take (P:=P) hlt);have hone:=lhd (hasB_one (P:=P) hlt);generalize es.getD k []=d at *;have hsm:=lhd (rsame_any _ _ _ _ _ _ wr z2 (seesB_of hu2.out nlr hb.out));generalize (d == P)=E at *;cases E with
   | true=>
     have hhas:Hid (hasB es P=true):=hone.out rfl;have x4:=hx4.out.below hb.out;have hbw:=lhd (bgo hb1.out hb.out);clear hst htk
     go_upto_region 8 with (fail)
     go_wp2_with fail
     refine hsm.out.mono ?_;rintro e w3 ⟨rfl,hw3⟩;obtain rfl:=hw3.symm;dsimp only;have y4:=box1_cell x4;have f4:=x4.frozen 0;have z:=x4.set 0 (.slice none 0 0);simp only[xsz] at z;have hbz:=lhd (hbw.out.setCell (p:=⟨g4,0,none⟩) h4w.out (.slice none 0 0));have z0:=box1_cell z;clear z
     go_wp2_with fail
     clear y4 f4;generalize wr.setCell ⟨g4,0,none⟩ (.slice none 0 0)=W9 at *;refine bodyPost_ret (v:=.tuple #[.agg #[.slice none 0 0],.int .i64 0,.int .i64 27]) (by simp[results,results24,go_sem,z0]) rfl ?_;exact ladd_twice hmany hhas.out hbz.out
   | false=>
     have hno2:Hid (hasB (es.take (k+1)) P=false):=by show _=_;rw[hst.out,hno.out];rfl
     clear hst hone;have hal3:=balloc wr (.cells #[.slice A3 d.length c3] 25);have sl:=seesL_lit wr 25 (vs:=[.slice A3 d.length c3]) (ls:=[d]) ⟨z2,trivial⟩ (by simp[maxLen]);have hjn:=rjoin_any _ _ [d] _ sl nlr (by simp;omega);rw[show [d].flatten=d by simp] at hjn;replace hjn:=lhd hjn;have hlk0:(es.take k).length=k:=by rw[xlt];omega
     rw[hlk0] at ho;have hov:Hid (∀j,(Value.slice Ao k co).ownBlock=some j->j<wr.heap.size):=fun j hj=>(ho.out.lt j hj).2
     have hcnt:Hid ((es.take k).length<=549755813888):=by show _<=_;omega
     have hfs:=lhd hal3.size;rw[hlk0];replace hlk0:=lhd hlk0;clear z2 sl hz0 hbB
     go_wp2_with fail
     refine hsm.out.mono ?_;rintro e w3 ⟨rfl,hw3⟩;obtain rfl:=hw3.symm;dsimp only
     go_wp2_with fail
     refine hjn.out.mono ?_;rintro e w4 ⟨v4,rfl,o4,hb4⟩;obtain⟨B4,d4,rfl,-,-⟩:=o4.sees.mk_;have hb34:=bgo hal3 hb4;have hal4:=balloc w4 (.cells #[.slice B4 d.length d4] 25);have hcell:=lhd (one_cell w4 (.slice B4 d.length d4) 25);have hel:=lhd ((Elt.of_from (v:=.slice Ao k co) o4.sees (o4.from.mono hfs.out) hov.out).below hal4);have ho2:=lhd (ho.out.below (bgo hb34 hal4));have hb5:=lhd (bgo hb.out (bgo hb34 hal4));clear hal3 hal4 hb34 hb4 o4 hsm hjn z1 y2 ho hb;dsimp only
     go_wp2_with (at_builtin;refine wpList_appL (by rfl) _ _ 30 underlying30 rfl W1.heap.size _ (es.take k) rfl ho2.out _ _ _ d rfl hcell.out hel.out hcnt.out hb5.out.size ?_)
     intro v' w' hW2 hb6;obtain⟨Aw,cw,rfl⟩:=hW2.shape;rw[<-htk.out] at hW2;have hlk1:(es.take (k+1)).length=k+1:=by rw[xlt];omega
     have hl2:(es.take k++[d]).length=k+1:=by rw[xla,hlk0.out];rfl
     rw[hlk1] at hW2;rw[hl2];replace hlk1:=lhd hlk1;replace hl2:=lhd hl2;replace hW2:=lhd hW2;have hb7:=lhd (hb5.out.trans hb6);clear hb6 hel ho2 hcell hb5
     go_wp2_with fail
     go_roundw
     case rel=>exact⟨k+1,by omega,by go_num,hW2,hno2,hb7⟩
     case measure=>simp[intOf];omega
  obtain rfl:k=es.length:=by omega
  have i1:¬(es.length:Int)<(es.length:Int):=by omega
  rw[xtl nlr] at ho hno;have hhas:Hid (hasB es P=false):=hno;have x4:=hx4.out.below hb.out;have x2:=hx2.out.below hb.out;have hbw:=lhd (bgo hb1.out hb.out);have hu2':=lhd (seesB_of hu2.out nlr hb.out);have hg4l:=lhd hx4.out.lt;have hzW:=lhd hb.out.size;have hdc:=lhd (rbdecode_any _ P wr hu2'.out hP);clear hno hb y2;have y2:=box1_cell x2;rw[xtl nlr]
  go_wp2_with fail
  refine hdc.out.mono ?_;intro e w2 h2;obtain⟨ls,f,s,q,v,hO,rfl,sv,hb2⟩:=decOut_of h2;have hq:=lhd (decOut_zero hO);obtain⟨hle,hll⟩:=decOut_fits hO hP;clear h2 hdc y2;obtain⟨Av,cv,rfl,-,-⟩:=sv.mk_;have hal2:=balloc w2 (.cells #[.slice Av ls.length cv,.int .i64 f,.int .i64 s] 133);have x7:=Box.new w2 133 [.slice Av ls.length cv,.int .i64 f,.int .i64 s];change Box (w2.alloc (.cells #[.slice Av ls.length cv,.int .i64 f,.int .i64 s] 133)) _ _ _ at x7;have hb3:=bgo hb2 hal2;replace hbw:=lhd (bgo hbw.out hb3);replace hu2':=lhd (seesB_of hu2'.out nlr hb3);replace x2:=x2.below hb3;replace x4:=x4.below hb3;replace ho:=lhd (ho.out.below hb3);replace hzW:=lhd (Nat.le_trans hzW.out hb3.size);replace sv:=SeesR.more (SeesR.below sv hal2) hal2.size;have hck:=lhd (rfcheck_any _ _ ls f s _ sv nlr (by omega) (fun t ht=>by have:=hll t ht;omega));clear hb2 hal2 hb3;have hdd:Hid (dchkC ls f s q=if q=0 then fchkC ls f s else q):=rfl;replace hO:=lhd hO;dsimp only
  go_upto_region 11 with (fail)
  generalize w2.alloc (.cells #[.slice Av ls.length cv,.int .i64 f,.int .i64 s] 133)=W2 at *;generalize w2.heap.size=g7 at *;rcases hq.out with rfl|rfl|rfl;rotate_left
  ·have hd:Hid (dchkC ls f s 1=1):=by show _=_;rw[hdd.out,if_neg (by decide)]
   have y4:=box1_cell x4;have f4:=x4.frozen 0;have z:=x4.set 0 (.slice none 0 0);simp only[xsz] at z;have hbz:=lhd (hbw.out.setCell (p:=⟨g4,0,none⟩) h4w.out (.slice none 0 0));have z0:=box1_cell z;clear z
   go_wp2_with fail
   clear y4 f4;generalize W2.setCell ⟨g4,0,none⟩ (.slice none 0 0)=W9 at *;refine bodyPost_ret (v:=.tuple #[.agg #[.slice none 0 0],.int .i64 0,.int .i64 1]) (by simp[results,results24,go_sem,z0]) rfl ?_;exact ladd_bad hmany hhas.out hO.out hd.out (by decide) hbz.out
  ·have hd:Hid (dchkC ls f s 3=3):=by show _=_;rw[hdd.out,if_neg (by decide)]
   have y4:=box1_cell x4;have f4:=x4.frozen 0;have z:=x4.set 0 (.slice none 0 0);simp only[xsz] at z;have hbz:=lhd (hbw.out.setCell (p:=⟨g4,0,none⟩) h4w.out (.slice none 0 0));have z0:=box1_cell z;clear z
   go_wp2_with fail
   clear y4 f4;generalize W2.setCell ⟨g4,0,none⟩ (.slice none 0 0)=W9 at *;refine bodyPost_ret (v:=.tuple #[.agg #[.slice none 0 0],.int .i64 0,.int .i64 3]) (by simp[results,results24,go_sem,z0]) rfl ?_;exact ladd_bad hmany hhas.out hO.out hd.out (by decide) hbz.out
  replace hdd:Hid (dchkC ls f s 0=fchkC ls f s):=by show _=_;rw[hdd.out,if_pos rfl]
  unfold FChkP at hck;obtain⟨y0,y1,y2,-,-,-⟩:=box3_cells x7;generalize fchkC ls f s=cc at *;generalize fchkB ls f s=cb at *
  go_wp2_with fail
  refine hck.out.mono ?_;rintro e w3 ⟨v3,rfl,sv3,hb3⟩;obtain⟨Av3,cv3,rfl,-,-⟩:=sv3.mk_;replace hbw:=lhd (bgo hbw.out hb3);replace hu2':=lhd (seesB_of hu2'.out nlr hb3);replace x2:=x2.below hb3;replace x4:=x4.below hb3;replace ho:=lhd (ho.out.below hb3);replace hzW:=lhd (Nat.le_trans hzW.out hb3.size);clear y0 y1 y2 hck hb3 x7 sv hle hll sv3;dsimp only
  by_cases hcc:cc=0
  rotate_left
  ·have i1:¬cc=0:=hcc
   have y4:=box1_cell x4;have f4:=x4.frozen 0;have z:=x4.set 0 (.slice none 0 0);simp only[xsz] at z;have hbz:=lhd (hbw.out.setCell (p:=⟨g4,0,none⟩) h4w.out (.slice none 0 0));have z0:=box1_cell z;clear z
   go_wp2_with fail
   clear y4 f4;generalize w3.setCell ⟨g4,0,none⟩ (.slice none 0 0)=W9 at *;refine bodyPost_ret (v:=.tuple #[.agg #[.slice none 0 0],.int .i64 0,.int .i64 cc]) (by simp[results,results24,go_sem,z0]) rfl ?_;exact ladd_bad hmany hhas.out hO.out hdd.out hcc hbz.out
  subst hcc;have y2:=box1_cell x2
  by_cases h64:es.length=64
  ·have i1:(es.length:Int)=64:=by omega
   have h64':=lhd h64;have y4:=box1_cell x4;have f4:=x4.frozen 0;have z:=x4.set 0 (.slice none 0 0);simp only[xsz] at z;have hbz:=lhd (hbw.out.setCell (p:=⟨g4,0,none⟩) h4w.out (.slice none 0 0));have z0:=box1_cell z;clear z
   go_wp2_with fail
   clear y4 f4 y2;generalize w3.setCell ⟨g4,0,none⟩ (.slice none 0 0)=W9 at *;refine bodyPost_ret (v:=.tuple #[.agg #[.slice none 0 0],.int .i64 0,.int .i64 8]) (by simp[results,results24,go_sem,z0]) rfl ?_;exact ladd_full h64'.out hhas.out hO.out hdd.out hbz.out
  have i2:¬(es.length:Int)=64:=by omega
  have i2b:((es.length:Int) == 64)=false:=by rw[beq_eq_false_iff_ne];omega
  have h64l:es.length<64:=by omega
  have n24:g2≠g4:=fun h=>n42 h.symm
  have h24:Hid (∀(W:World) (v:Value),(W.setCell ⟨g4,0,none⟩ v).cell? ⟨g2,0,none⟩=W.cell? ⟨g2,0,none⟩):=fun W v=>cell_aside W v n24
  have K:Hid (∀W,Below w3.heap.size w3 W->W.cell? ⟨g2,0,none⟩=some (.slice A es.length c)):=fun W hW=>box1_cell (x2.below hW)
  have hjn:Hid (∀(W:World) (G:Nat),Box W G 25 [.slice A2 P.length c2]->Below w3.heap.size w3 W->Calls prog 85 #[.slice (some ⟨G,0,none⟩) 1 1] W (Gives P W)):=fun W G x hW=>by
   have h:=rjoin_any _ _ [P] W (sees_box1 x (seesB_of hu2'.out nlr hW)) nlr (by simp;omega);rw[show [P].flatten=P by simp] at h;exact h
  have hov:Hid (∀j,(Value.slice Ao es.length co).ownBlock=some j->j<w3.heap.size):=fun j hj=>by have:=(ho.out.lt j hj).2;exact this
  have hcnt:Hid (es.length<=549755813888):=by show _<=_;omega
  have y4:=box1_cell x4;have f4:=x4.frozen 0;have hg2l:=lhd hx2.out.lt;have hW1:=lhd hb1.out.size;have kW:True:=trivial;have hlx:Hid ((es++[P]).length=es.length+1):=by show _=_;simp
  go_upto_region 18 with (fail)
  go_region_held3 (fun W':World=>W'.cell? ⟨g2,0,none⟩=some (.slice A es.length c))
   (first | (with_reducible exact kW) | (with_reducible exact (h24.out _ _).trans kW) | (with_reducible exact K.out _ (by (repeat (first | exact Below.refl _ _ | (refine bgo ?_ (balloc _ _)) | (refine bgo ?_ (bdrew _)) | (refine bgo ?_ (by assumption)))))) | (go_keep;done))
   (first
    | (go_at_call 85;(with_reducible refine (hjn.out _ _ (by (repeat (first | exact boxn (by with_reducible rfl) | exact boxn (by simp only[xsa];done) | (refine Box.below ?_ (balloc _ _)) | (refine Box.below ?_ (bdrew _)) | (refine Box.below ?_ (by assumption))))) (by (repeat (first | exact Below.refl _ _ | (refine bgo ?_ (balloc _ _)) | (refine bgo ?_ (bdrew _)) | (refine bgo ?_ (by assumption)))))).mono ?_);rintro e w8 ⟨v8,rfl,o8,hb8⟩
       obtain⟨B1,d1,rfl,-,-⟩:=o8.sees.mk_;have hb38:Below w3.heap.size w3 w8:=by (repeat (first | exact Below.refl _ _ | (refine bgo ?_ (balloc _ _)) | (refine bgo ?_ (bdrew _)) | (refine bgo ?_ (by assumption))))
       have hal9:=balloc w8 (.cells #[.slice B1 P.length d1] 25);have hcell:=lhd (one_cell w8 (.slice B1 P.length d1) 25);have hel:=lhd ((Elt.of_from (v:=.slice Ao es.length co) o8.sees (o8.from.mono (by first | exact (bdrew _).size | exact (balloc _ _).size | exact Nat.le_refl _)) hov.out).below hal9);have ho2:=lhd (ho.out.below (bgo hb38 hal9));have hz8:=lhd (Nat.le_trans hzW.out (bgo hb38 hal9).size))
    | (refine step_appL (by rfl) _ _ 30 underlying30 (by rfl) W1.heap.size _ es (by rfl) ho2.out _ _ _ P (by rfl) hcell.out hel.out hcnt.out hz8.out ?_;intro v' w' hW2 hb4
       obtain⟨Aw,cw,hvw⟩:=hW2.shape;rw[hlx.out] at hvw;subst hvw;have kW:=(hb4.cell (p:=⟨g2,0,none⟩) hg2l.out).trans (K.out _ (bgo hb38 hal9));have x4w:Box w' g4 44 [.slice none 0 0]:=(hb4.block g4 hg4l.out).trans (x4.below (bgo hb38 hal9));have y4:=box1_cell x4w;have f4:=x4w.frozen 0))
  all_goals
   have x4s:=x4w.set 0 (.slice Aw (es.length+1) cw);simp only[xsz] at x4s;have z0:=box1_cell x4s;have ho4:=(OwnL.poke (j:=0) (v':=.slice Aw (es.length+1) cw) hW2 hg4l.out x4w (noS1 _ _ _)).sees;have hbf:=((bgo hbw.out (bgo hb38 hal9)).trans (hb4.mono hW1.out)).setCell (p:=⟨g4,0,none⟩) h4w.out (.slice Aw (es.length+1) cw);have hpost:=lhd (ladd_good h64l hhas.out hO.out hdd.out ho4 hbf);replace z0:=lhd z0;clear x4s ho4 hbf
   go_wp2_with fail
   have z0':=z0.out;clear y4 f4;generalize w'.setCell ⟨g4,0,none⟩ (.slice Aw (es.length+1) cw)=W9 at *;refine bodyPost_ret (v:=.tuple #[.agg #[.slice Aw (es.length+1) cw],.int .i64 (es.length:Int),.int .i64 0]) (by simp[results,results24,go_sem,z0']) rfl ?_
   first
    | exact hpost.out
    | exact ladd_drew hpost.out
end Go.Proofs.YtjgepckncogdaaaGreat
