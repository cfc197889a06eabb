/- Contracts of functions, walks, plain facts. Conditions: those of each theorem. -/
import Derived.Test.YtjgepckncogdaaaGreatVBLawP
set_option linter.unusedVariables false
set_option linter.unusedSimpArgs false
set_option maxRecDepth 100000
set_option maxHeartbeats 16000000
namespace Go.Proofs.YtjgepckncogdaaaGreat
open Go Go.RowKit _root_.Go.Proofs.Tryz
attribute [local go_sem ↓] Go.wp_at_zero Go.wp_at_succ
theorem noS1 (a:Option Addr) (n k:Nat):NoByte [Value.slice a n k]:=by
 intro q hq n e;rw[xm1] at hq;rw[hq] at e;cases e
theorem grown_then {W X Y:World} {r:Option Nat} (h1:W.grownBy X r) (h2:Below W.heap.size X Y):W.grownBy Y r:=
 ⟨h2.os.trans h1.os,h2.tape.trans h1.tape,h2.output.trans h1.output,Nat.le_trans h1.size h2.size,fun k hk hr=>(h2.block k hk).trans (h1.block k hk hr)⟩
theorem ladd_drew {es:List Bs} {P:Bs} {w w':World} {e:Ending} (h:LAddP es P w e w'):LAddP es P w e w'.drew:=by
 obtain⟨v,ls,f,s,q,h1,h2,h3,h4⟩:=h;exact⟨v,ls,f,s,q,h1,h2,seesL_of h3 nlr (bdrew _),bgo h4 (bdrew _)⟩
theorem below_row {w W X:World} {g:Nat} (h1:Below w.heap.size w W) (h2:W.grownBy X (some g)) (hg:w.heap.size<=g):Below w.heap.size w X:=
 ⟨h2.os.trans h1.os,h2.tape.trans h1.tape,h2.output.trans h1.output,Nat.le_trans h1.size h2.size,fun k hk=>(h2.block k (Nat.lt_of_lt_of_le hk h1.size) (fun e=>by have:=Option.some.inj e;omega)).trans (h1.block k hk)⟩
theorem ladd_any (es:List Bs) (P:Bs) (u u2:Value) (w:World) (hu:SeesL w w.heap.size u es) (hu2:SeesB w w.heap.size u2 P) (hn:es.length<=1000) (hl:∀l∈es,l.length<=1048576) (hP:P.length<=65535) :
 Calls prog 23 #[.agg #[u],u2] w (LAddP es P w):=by
 obtain⟨A,c,rfl,hc1,hc2⟩:=hu.mk_;obtain⟨A2,c2,rfl,-,-⟩:=hu2.mk_;replace hc1:=lhd hc1;replace hc2:=lhd hc2;have b1:=balloc w (.cells #[.slice A es.length c] 44);have b2:=balloc (w.alloc (.cells #[.slice A es.length c] 44)) (.cells #[.slice A2 P.length c2] 25);have b3:=balloc ((w.alloc (.cells #[.slice A es.length c] 44)).alloc (.cells #[.slice A2 P.length c2] 25)) (.cells #[.slice none 0 0] 44);have x2:=((Box.new w 44 [.slice A es.length c]).below b2).below b3;have x3:=(Box.new (w.alloc (.cells #[.slice A es.length c] 44)) 25 [.slice A2 P.length c2]).below b3;have x4:=Box.new ((w.alloc (.cells #[.slice A es.length c] 44)).alloc (.cells #[.slice A2 P.length c2] 25)) 44 [.slice none 0 0];rw[xsa] at x3;rw[xsa,xsa] at x4;change Box (((w.alloc (.cells #[.slice A es.length c] 44)).alloc (.cells #[.slice A2 P.length c2] 25)).alloc (.cells #[.slice none 0 0] 44)) _ _ _ at x4;have hbw:=lhd (bgo (bgo b1 b2) b3);replace hu:=lhd (seesL_of hu nlr hbw.out);replace hu2:=lhd (seesB_of hu2 nlr hbw.out);have n42:w.heap.size+1+1≠w.heap.size:=by omega
 have n43:w.heap.size+1+1≠w.heap.size+1:=by omega
 have h4w:Hid (w.heap.size<=w.heap.size+1+1):=by show _<=_;omega
 clear b1 b2 b3
 go_enter func23,ntmps23
 go_upto_region 1 with (fail)
 generalize ((w.alloc (.cells #[.slice A es.length c] 44)).alloc (.cells #[.slice A2 P.length c2] 25)).alloc (.cells #[.slice none 0 0] 44)=W1 at *;generalize w.heap.size+1+1=g4 at *;generalize w.heap.size+1=g3 at *;generalize hg2:w.heap.size=g2 at x2 n42 ⊢;replace hg2:=lhd hg2;have y2:=box1_cell x2;have y4:=box1_cell x4;have f4:=x4.frozen 0
 by_cases hmany:64<es.length
 ·have j0:(64:Int)<(es.length:Int):=by omega
  have z:=x4.set 0 (.slice none 0 0);simp only[xsz] at z;have hb:=lhd (hbw.out.setCell (p:=⟨g4,0,none⟩) h4w.out (.slice none 0 0));have z0:=box1_cell z;have hm:=lhd hmany;clear hmany z
  go_wp2_with fail
  generalize W1.setCell ⟨g4,0,none⟩ (.slice none 0 0)=W2 at *;refine bodyPost_ret (v:=.tuple #[.agg #[.slice none 0 0],.int .i64 0,.int .i64 8]) (by simp[results,results23,go_sem,z0]) rfl ?_;exact ladd_many hm.out hb.out
 have j0:¬(64:Int)<(es.length:Int):=by omega
 have hcn:=lhd (lcont_any es P g3 A2 c2 _ W1 hu.out x3 hu2.out (by omega))
 go_upto_region 3 with (fail)
 go_wp2_with fail
 refine hcn.out.mono ?_;rintro e w1 ⟨rfl,hb1⟩;replace hbw:=lhd (bgo hbw.out hb1);replace hu:=lhd (seesL_of hu.out nlr hb1);replace hu2:=lhd (seesB_of hu2.out nlr hb1);replace x2:=x2.below hb1;replace x3:=x3.below hb1;replace x4:=x4.below hb1;clear y2 y4 f4 hcn hb1;have y4:=box1_cell x4;have f4:=x4.frozen 0;dsimp only;cases hhas:hasB es P with
 | true=>
   have z:=x4.set 0 (.slice none 0 0);simp only[xsz] at z;have hb:=lhd (hbw.out.setCell (p:=⟨g4,0,none⟩) h4w.out (.slice none 0 0));have z0:=box1_cell z;clear z;replace hhas:=lhd hhas
   go_wp2_with fail
   generalize w1.setCell ⟨g4,0,none⟩ (.slice none 0 0)=W2 at *;refine bodyPost_ret (v:=.tuple #[.agg #[.slice none 0 0],.int .i64 0,.int .i64 27]) (by simp[results,results23,go_sem,z0]) rfl ?_;exact ladd_twice hmany hhas.out hb.out
 | false=>
 have y3:=box1_cell x3;have hdc:=lhd (bdecode_any _ P w1 hu2.out hP);replace hhas:=lhd hhas
 go_upto_region 5 with (fail)
 go_wp2_with fail
 refine hdc.out.mono ?_;intro e w2 h2;obtain⟨ls,f,s,q,v,hO,rfl,sv,hb2⟩:=decOut_of h2;have hq:=lhd (decOut_zero hO);obtain⟨hle,hll⟩:=decOut_fits hO hP;clear h2 hdc y3 y4 f4;obtain⟨Av,cv,rfl,-,-⟩:=sv.mk_;have hal2:=balloc w2 (.cells #[.slice Av ls.length cv,.int .i64 f,.int .i64 s] 133);have x7:=Box.new w2 133 [.slice Av ls.length cv,.int .i64 f,.int .i64 s];change Box (w2.alloc (.cells #[.slice Av ls.length cv,.int .i64 f,.int .i64 s] 133)) _ _ _ at x7;have hb3:=bgo hb2 hal2;replace hbw:=lhd (bgo hbw.out hb3);replace hu:=lhd (seesL_of hu.out nlr hb3);replace hu2:=lhd (seesB_of hu2.out nlr hb3);replace x2:=x2.below hb3;replace x3:=x3.below hb3;replace x4:=x4.below hb3;replace sv:=SeesR.more (SeesR.below sv hal2) hal2.size;have hck:=lhd (fcheck_any _ _ ls f s _ sv nlr (by omega) (fun t ht=>by have:=hll t ht;omega));clear hb2 hal2 hb3;have hdd:Hid (dchkC ls f s q=if q=0 then fchkC ls f s else q):=rfl;replace hO:=lhd hO;dsimp only
 go_upto_region 6 with (fail)
 generalize w2.alloc (.cells #[.slice Av ls.length cv,.int .i64 f,.int .i64 s] 133)=W2 at *;generalize w2.heap.size=g7 at *;rcases hq.out with rfl|rfl|rfl;rotate_left
 ·have hd:Hid (dchkC ls f s 1=1):=by show _=_;rw[hdd.out,if_neg (by decide)]
  have y4:=box1_cell x4;have f4:=x4.frozen 0;have z:=x4.set 0 (.slice none 0 0);simp only[xsz] at z;have hb:=lhd (hbw.out.setCell (p:=⟨g4,0,none⟩) h4w.out (.slice none 0 0));have z0:=box1_cell z;clear z
  go_wp2_with fail
  clear y4 f4;generalize W2.setCell ⟨g4,0,none⟩ (.slice none 0 0)=W9 at *;refine bodyPost_ret (v:=.tuple #[.agg #[.slice none 0 0],.int .i64 0,.int .i64 1]) (by simp[results,results23,go_sem,z0]) rfl ?_;exact ladd_bad hmany hhas.out hO.out hd.out (by decide) hb.out
 ·have hd:Hid (dchkC ls f s 3=3):=by show _=_;rw[hdd.out,if_neg (by decide)]
  have y4:=box1_cell x4;have f4:=x4.frozen 0;have z:=x4.set 0 (.slice none 0 0);simp only[xsz] at z;have hb:=lhd (hbw.out.setCell (p:=⟨g4,0,none⟩) h4w.out (.slice none 0 0));have z0:=box1_cell z;clear z
  go_wp2_with fail
  clear y4 f4;generalize W2.setCell ⟨g4,0,none⟩ (.slice none 0 0)=W9 at *;refine bodyPost_ret (v:=.tuple #[.agg #[.slice none 0 0],.int .i64 0,.int .i64 3]) (by simp[results,results23,go_sem,z0]) rfl ?_;exact ladd_bad hmany hhas.out hO.out hd.out (by decide) hb.out
 replace hdd:Hid (dchkC ls f s 0=fchkC ls f s):=by show _=_;rw[hdd.out,if_pos rfl]
 unfold FChkP at hck;obtain⟨y0,y1,y2,-,-,-⟩:=box3_cells x7;generalize fchkC ls f s=cc at *;generalize fchkB ls f s=cb at *
 go_wp2_with fail
 refine hck.out.mono ?_;rintro e w3 ⟨v3,rfl,-,hb3⟩;replace hbw:=lhd (bgo hbw.out hb3);replace hu:=lhd (seesL_of hu.out nlr hb3);replace hu2:=lhd (seesB_of hu2.out nlr hb3);replace x2:=x2.below hb3;replace x3:=x3.below hb3;replace x4:=x4.below hb3;clear y0 y1 y2 hck hb3 x7 sv hle hll;dsimp only
 by_cases hcc:cc=0
 rotate_left
 ·have i1:¬cc=0:=hcc
  have y4:=box1_cell x4;have f4:=x4.frozen 0;have z:=x4.set 0 (.slice none 0 0);simp only[xsz] at z;have hb:=lhd (hbw.out.setCell (p:=⟨g4,0,none⟩) h4w.out (.slice none 0 0));have z0:=box1_cell z;clear z
  go_wp2_with fail
  clear y4 f4;generalize w3.setCell ⟨g4,0,none⟩ (.slice none 0 0)=W9 at *;refine bodyPost_ret (v:=.tuple #[.agg #[.slice none 0 0],.int .i64 0,.int .i64 cc]) (by simp[results,results23,go_sem,z0]) rfl ?_;exact ladd_bad hmany hhas.out hO.out hdd.out hcc hb.out
 subst hcc;have y2:=box1_cell x2
 by_cases h64:es.length=64
 ·have i1:(es.length:Int)=64:=by omega
  have h64':=lhd h64;have y4:=box1_cell x4;have f4:=x4.frozen 0;have z:=x4.set 0 (.slice none 0 0);simp only[xsz] at z;have hb:=lhd (hbw.out.setCell (p:=⟨g4,0,none⟩) h4w.out (.slice none 0 0));have z0:=box1_cell z;clear z
  go_wp2_with fail
  clear y4 f4 y2;generalize w3.setCell ⟨g4,0,none⟩ (.slice none 0 0)=W9 at *;refine bodyPost_ret (v:=.tuple #[.agg #[.slice none 0 0],.int .i64 0,.int .i64 8]) (by simp[results,results23,go_sem,z0]) rfl ?_;exact ladd_full h64'.out hhas.out hO.out hdd.out hb.out
 have i1:¬(es.length:Int)=64:=by omega
 have i1b:((es.length:Int) == 64)=false:=by rw[beq_eq_false_iff_ne];omega
 go_upto_region 13 with (fail)
 have hg9g:Hid (w.heap.size<=w3.heap.size):=hbw.out.size;have b9:=balloc w3 (.cells #[.slice none 0 0] 44);have x9:=Box.new w3 44 [.slice none 0 0];change Box (w3.alloc (.cells #[.slice none 0 0] 44)) _ _ _ at x9;replace hbw:=lhd (bgo hbw.out b9);replace hu:=lhd (seesL_of hu.out nlr b9);replace hu2:=lhd (seesB_of hu2.out nlr b9);have n94:g4≠w3.heap.size:=Nat.ne_of_lt x4.lt;have n92:g2≠w3.heap.size:=Nat.ne_of_lt x2.lt;replace x2:=x2.below b9;replace x3:=x3.below b9;replace x4:=x4.below b9;clear y2 b9;generalize w3.alloc (.cells #[.slice none 0 0] 44)=W3 at *;generalize w3.heap.size=g9 at *;have hcl:Hid (∀W,Calls prog 91 #[.slice A es.length c] W fun e w'=>e=.returned (.slice A es.length es.length)/\w'=W):=fun W=>lclip_any A es.length c W hc1.out hc2.out
 have K:Hid (∀W,Below W3.heap.size W3 W->W.cell? ⟨g2,0,none⟩=some (.slice A es.length c)/\W.cell? ⟨g3,0,none⟩=some (.slice A2 P.length c2)):=fun W hW=>⟨box1_cell (x2.below hW),box1_cell (x3.below hW)⟩
 obtain⟨y2,y3⟩:=K.out W3 (Below.refl _ _);have hrow:Hid (∀W,Below W3.heap.size W3 W->SeesL W W.heap.size (.slice A es.length c) es/\SeesB W W.heap.size (.slice A2 P.length c2) P):=fun W hW=>⟨seesL_of hu.out nlr hW,seesB_of hu2.out nlr hW⟩
 have q1:Hid (∀W:World,(W.alloc (.cells #[.slice A2 P.length c2] 25)).cell? ⟨W.heap.size,0,none⟩=some (.slice A2 P.length c2)):=fun W=>(Box.new W 25 [.slice A2 P.length c2]).cell 0
 have q2:Hid (∀W:World,(W.alloc (.cells #[.slice A2 P.length c2] 25)).drew.cell? ⟨W.heap.size,0,none⟩=some (.slice A2 P.length c2)):=fun W=>(Box.new W 25 [.slice A2 P.length c2]).cell 0
 obtain⟨L,hL,hLn⟩:∃L,L=es++[P]/\L.length=es.length+1:=⟨_,rfl,by simp⟩
 have hLl:Hid (∀l∈L,l.length<=1048576):=fun l hm=>by
  rw[hL,List.mem_append,xm1] at hm;rcases hm with hm|rfl
  ·exact hl l hm
  omega
 replace hL:=lhd hL;have hLn':=lhd hLn;clear hLn
 go_cut [52,53,54] from 47 to 55 (fun v52 v53 v54 W=>∃A' c',v52=.slice A' L.length c'/\v53=.int .i64 (L.length:Int)/\v54=.int .i64 0/\SeesL W W.heap.size (.slice A' L.length c') L/\(∀k,(Value.slice A' L.length c').ownBlock=some k->W3.heap.size<=k)/\Below W3.heap.size W3 W)
 case first=>
  go_region_held3 (fun W':World=>W'.cell? ⟨g2,0,none⟩=some (.slice A es.length c)/\W'.cell? ⟨g3,0,none⟩=some (.slice A2 P.length c2))
   (first | (with_reducible exact K.out _ (by (repeat (first | exact Below.refl _ _ | (refine bgo ?_ (balloc _ _)) | (refine bgo ?_ (bdrew _)) | (refine bgo ?_ (by assumption)))))) | (go_keep;done))
   (first
    | (go_at_call 91;(with_reducible refine (hcl.out _).mono ?_);rintro e w5 ⟨rfl,hw5⟩
       obtain rfl:=hw5.symm)
    | (refine step_appFull (by rfl) _ _ 30 underlying30 (by rfl) A es (by rfl) ⟨c,(hrow.out _ (by (repeat (first | exact Below.refl _ _ | (refine bgo ?_ (balloc _ _)) | (refine bgo ?_ (bdrew _)) | (refine bgo ?_ (by assumption)))))).1⟩ _ A2 c2 P (by rfl) (by first | exact q1.out _ | exact q2.out _) (hrow.out _ (by (repeat (first | exact Below.refl _ _ | (refine bgo ?_ (balloc _ _)) | (refine bgo ?_ (bdrew _)) | (refine bgo ?_ (by assumption)))))).2 (by omega) ?_;intro A' c' w' hW2 hnw hb4))
  all_goals
   have hbb:Below W3.heap.size W3 w':=by (repeat (first | exact Below.refl _ _ | (refine bgo ?_ (balloc _ _)) | (refine bgo ?_ (bdrew _)) | (refine bgo ?_ (by assumption))))
   have hnw2:∀k,(Value.slice A' L.length c').ownBlock=some k->W3.heap.size<=k:=fun k hk=>Nat.le_trans (by first | exact (bdrew _).size | exact (balloc _ _).size | exact Nat.le_refl _) (hnw k (by rw[hLn'.out] at hk;exact hk))
   rw[<-hL.out,<-hLn'.out] at hW2
   go_wp2_with fail
   go_meet
   first
    | exact⟨A',c',by rw[hLn'.out],by rw[hLn'.out];rfl,rfl,hW2,hnw2,hbb⟩
    | ((repeat apply Exists.intro);exact⟨⟨A',c',by rw[hLn'.out],by rw[hLn'.out];rfl,rfl,hW2,hnw2,hbb⟩,rfl⟩)
 case rest=>
 obtain⟨A',c',rfl,rfl,rfl,hW2,hnw,hb4⟩:=hcut;obtain⟨W4,rfl⟩:∃W4:World,W4=wc:=⟨_,rfl⟩
 have hg9w:g9<W3.heap.size:=x9.lt;have x9':=x9.below hb4;have hg9l:Hid (g9<W4.heap.size):=x9'.lt;have hg4l:Hid (g4<W4.heap.size):=(x4.below hb4).lt;have hne:Hid (∀k,(Value.slice A' L.length c').ownBlock=some k->k≠g9):=fun k hk=>by have:=hnw k hk;omega
 have hx2:=lhd (x2.below hb4);have hx4:=lhd (x4.below hb4);have hx9:=lhd x9';have hbw4:=lhd (bgo hbw.out hb4);clear x2 x3 x4 x9 x9' hb4 hcl K y2 y3 q1 q2 hrow hnw hg9w hbw hu hu2;replace hW2:=lhd hW2;replace n94:=lhd n94;have n29:Hid (g2≠g9):=n92
 go_wp2_with fail
 go_loopw [54] (fun t wr=>∃(k:Nat) (v:Value),k<=L.length/\t=.int .i64 k/\Hid (Box wr g9 44 [v])/\Hid (OwnL wr W4.heap.size v (L.take k))/\Hid (W4.grownBy wr (some g9))) (fun t _=>L.length - (intOf t).toNat)
 case atStart=>exact⟨0,_,by omega,rfl,hx9,OwnL.nil _ _,⟨rfl,rfl,rfl,Nat.le_refl _,fun _ _ _=>rfl⟩⟩
 case round=>
  obtain⟨k,v,hk,rfl,x9r,ho,hg⟩:=hrel;obtain⟨Ao,co,rfl⟩:=ho.out.shape
  by_cases hlt:k<L.length
  ·have i1:(k:Int)<(L.length:Int):=by omega
   have i2:(0:Int)<=(k:Int):=by omega
   have hsl:=SeesL.over hW2.out nlr hne.out hx9.out (noS1 _ _ _) hg.out;obtain⟨b,o,rfl,hbB,hz0⟩:=hsl.at_ (by omega);obtain⟨A3,c3,z1,-,-,z2⟩:=hz0 k hlt;have hld:=hLl.out (L.getD k []) (by rw[xgd,xge hlt];exact xgx hlt);have htk:Hid (L.take (k+1)=L.take k++[L.getD k []]):=by show _=_;rw[List.take_add_one,xge hlt,xgd,xge hlt];rfl
   generalize L.getD k []=d at *;have hz:=lhd hg.out.size;have hc1:Hid (∀W,Below wr.heap.size wr W->Calls prog 92 #[.slice A3 d.length c3] W (Gives d W)):=fun W hW=>bclone_any W.heap.size _ d W (seesB_of (z2.more hz.out) nlr hW) nlr (by omega)
   have hlk0:(L.take k).length=k:=by rw[xlt];omega
   rw[hlk0] at ho x9r;have hov:Hid (∀j,(Value.slice Ao k co).ownBlock=some j->j<wr.heap.size):=fun j hj=>(ho.out.lt j hj).2
   have hcnt:Hid ((L.take k).length<=549755813888):=by show _<=_;have:=hLn'.out;omega
   have K:Hid (∀W,Below wr.heap.size wr W->W.cell? ⟨g9,0,none⟩=some (.slice Ao k co)):=fun W hW=>box1_cell (x9r.out.below hW)
   have kA:=K.out wr (Below.refl _ _);replace hlk0:=lhd hlk0;replace hld:=lhd hld;clear hsl hz0 hbB z2
   go_upto_region 16 with (fail)
   refine wp_region_J (fun W':World=>W'.cell? ⟨g9,0,none⟩=some (.slice Ao k co)) 7 (by kernel_rfl) ?_ (fun hHeld=>?_)
   ·(try dsimp only);(first | exact kC | exact kB | exact kA)
   refine wpAnyJ_take0 (i:=0) (v:=?_) rfl (by kernel_rfl) (by kernel_rfl) (by kernel_rfl) (fun _ _ _ h=>h) (by rfl) (Or.inl ⟨by rfl,?_⟩) (by assumption) ?_;rotate_left 1
   ·intro w hSw;(try dsimp only at hSw);go_simp<;>(try with_reducible rfl)
   try simp only[Act.put,xgt,List.getElem_cons_succ,xgz,xsb,xsz,xss]
   refine wpAnyJ_take (i:=1) (v:=?_) rfl (by kernel_rfl) (by kernel_rfl) (by kernel_rfl) (fun _ _ _ h=>h) (by rfl) rfl (by kernel_rfl) (by kernel_rfl) (Or.inl ⟨by rfl,?_⟩) (by assumption) ?_;rotate_left 1
   ·intro w hSw;(try dsimp only at hSw);go_simp<;>(try with_reducible rfl)
   try simp only[Act.put,xgt,List.getElem_cons_succ,xgz,xsb,xsz,xss]
   refine wpAnyJ_take0 (i:=2) (v:=?_) rfl (by kernel_rfl) (by kernel_rfl) (by kernel_rfl) (fun _ _ _ h=>h) (by rfl) (Or.inl ⟨by rfl,?_⟩) (by assumption) ?_;rotate_left 1
   ·intro w hSw;(try dsimp only at hSw);go_simp<;>(try with_reducible rfl)
   try simp only[Act.put,xgt,List.getElem_cons_succ,xgz,xsb,xsz,xss]
   refine wpAnyJ_ready (rs:=[3]) (by kernel_rfl) (by simp) ?_;refine AllReadyJ.cons (o:=_) rfl (fun Kq hKq=>?_) ?_
   ·go_simp
    go_at_call 92
    with_reducible refine (hc1.out _ (bdrew wr)).mono ?_
    rintro e w8 ⟨v8,rfl,o8,hb80⟩;obtain⟨B1,d1,rfl,-,-⟩:=o8.sees.mk_;have hbc:=bgo (bdrew wr) hb80;have kA:=K.out w8 hbc;have hal9:=balloc w8 (.cells #[.slice B1 d.length d1] 25);have hcell:=lhd (one_cell w8 (.slice B1 d.length d1) 25);have hel:=lhd ((Elt.of_from (v:=.slice Ao k co) o8.sees (o8.from.mono (bdrew wr).size) hov.out).below hal9);have ho2:=lhd (ho.out.below (bgo hbc hal9));have kB:=K.out _ (bgo hbc hal9);have hb8:=lhd (grown_then hg.out ((bgo hbc hal9).mono hz.out));have hx8:=lhd (x9r.out.below (bgo hbc hal9));have hz8:Hid (W4.heap.size<=(w8.alloc (.cells #[.slice B1 d.length d1] 25)).heap.size):=Nat.le_trans hz.out (bgo hbc hal9).size
    go_wp2_with fail
    refine hKq.out _ _ ?_ (fun hHeld=>?_)
    ·intro _;(try dsimp only);(first | exact kC | exact kB | exact kA)
    clear hKq Kq
    try simp only[Act.put,xgt,List.getElem_cons_succ,xgz,xsb,xsz,xss]
    refine wpAnyJ_ready (rs:=[4]) (by kernel_rfl) (by simp) ?_;refine AllReadyJ.cons (o:=_) rfl (fun Kq hKq=>?_) ?_
    ·go_simp
     refine hKq.out _ _ ?_ (fun hHeld=>?_)
     ·intro _;(try dsimp only);(first | exact kC | exact kB | exact kA)
     clear hKq Kq
     try simp only[Act.put,xgt,List.getElem_cons_succ,xgz,xsb,xsz,xss]
     refine wpAnyJ_ready (rs:=[5]) (by kernel_rfl) (by simp) ?_;refine AllReadyJ.cons (o:=_) rfl (fun Kq hKq=>?_) ?_
     ·skip
      refine step_appL (by rfl) (.tmp 59) (.tmp 62) 30 underlying30 (by rfl) W4.heap.size _ (L.take k) (by rfl) ho2.out _ _ _ d (by rfl) hcell.out hel.out hcnt.out hz8.out ?_;intro v' w' hW2 hb4;obtain⟨Aw,cw,rfl⟩:=hW2.shape;have hx9:Hid (Box w' g9 44 [.slice Ao k co]):=(hb4.block g9 hg9l.out).trans hx8.out;have kC:=box1_cell hx9.out;have f9:=hx9.out.frozen 0;refine hKq.out _ _ ?_ (fun hHeld=>?_)
      ·intro _;(try dsimp only);(first | exact kC | exact kB | exact kA)
      clear hKq Kq
      try simp only[Act.put,xgt,List.getElem_cons_succ,xgz,xsb,xsz,xss]
      refine wpAnyJ_take0 (i:=6) (v:=?_) rfl (by kernel_rfl) (by kernel_rfl) (by kernel_rfl) (fun _ _ _ h=>h) (by rfl) (Or.inl ⟨by rfl,?_⟩) (by assumption) ?_;rotate_left 1
      ·intro w hSw;(try dsimp only at hSw);go_simp<;>(try with_reducible rfl)
      try simp only[Act.put,xgt,List.getElem_cons_succ,xgz,xsb,xsz,xss]
      refine wpAnyJ_ready (rs:=[7]) (by kernel_rfl) (by simp) ?_;refine AllReadyJ.cons (o:=_) rfl (fun Kq hKq=>?_) ?_
      ·go_simp
       refine hKq.out _ _ ?_ (fun hHeld=>?_)
       ·intro hl;exact absurd hl (by decide)
       clear hKq Kq
       try simp only[Act.put,xgt,List.getElem_cons_succ,xgz,xsb,xsz,xss]
       refine wpAnyJ_done (by kernel_rfl) ?_ _;have hb9:=grown_then hb8.out hb4;rw[<-htk.out] at hW2;have hlk:(L.take (k+1)).length=k+1:=by rw[xlt];omega
       rw[hlk] at hW2;have hx5:=hx9.out.set 0 (.slice Aw (k+1) cw);simp only[xsz] at hx5;have ho5:=OwnL.poke (j:=0) (v':=.slice Aw (k+1) cw) hW2 hg9l.out hx9.out (noS1 _ _ _);have hg5:=ggo hb9 (setCell_grown w' g9 0 (.slice Aw (k+1) cw));have hk1:k+1<=L.length:=hlt;have hL9:=hLn'.out;have m1:wrap64 ((k:Int)+1)=((k+1:Nat):Int):=by unfold wrap64;omega
       replace hlk:=lhd hlk;replace hL9:=lhd hL9;replace hx5:=lhd hx5;replace ho5:=lhd ho5;replace hg5:=lhd hg5;replace hk1:=lhd hk1
       go_wp2_with fail
       rw[m1];clear m1
       go_roundw
       case rel=>exact⟨k+1,_,hk1.out,rfl,hx5,ho5,hg5⟩
       case measure=>have:=hk1.out;simp only[intOf,xnc];omega
      exact AllReadyJ.nil
     exact AllReadyJ.nil
    exact AllReadyJ.nil
   exact AllReadyJ.nil
  obtain rfl:k=L.length:=by omega
  have i1:¬(L.length:Int)<(L.length:Int):=by omega
  have hlk0:(L.take L.length).length=L.length:=by rw[xlt];omega
  rw[hlk0] at x9r ho;rw[xtl nlr] at ho;have x2r:Box wr g2 44 [.slice A es.length c]:=(hg.out.block g2 hx2.out.lt (fun e=>n29.out (Option.some.inj e))).trans hx2.out;have x4r:Box wr g4 44 [.slice none 0 0]:=(hg.out.block g4 hx4.out.lt (fun e=>n94.out (Option.some.inj e))).trans hx4.out;have c9:=box1_cell x9r.out;have c2':=box1_cell x2r;have c4:=box1_cell x4r;have f4:=x4r.frozen 0;have x4s:=x4r.set 0 (.slice Ao L.length co);simp only[xsz] at x4s;have ho4:=(OwnL.poke (j:=0) (v':=.slice Ao L.length co) ho.out hg4l.out x4r (noS1 _ _ _)).sees;have hbf:=(below_row hbw4.out hg.out hg9g.out).setCell (p:=⟨g4,0,none⟩) h4w.out (.slice Ao L.length co);have hkey:∀(X:World) (v:Value),SeesL X X.heap.size v L->SeesL X X.heap.size v (es++[P]):=fun X v h=>hL.out ▸ h
  have h64l:es.length<64:=by omega
  have hpost:=lhd (ladd_good h64l hhas.out hO.out hdd.out (hkey _ _ ho4) hbf);have z0:=box1_cell x4s;clear x4s ho4 hbf hlk0 x2r x4r hkey;replace z0:=lhd z0
  go_upto_region 18 with (fail)
  go_region
  all_goals
   go_wp2_with fail
   have z0':=z0.out;clear c4 f4 c9 c2';generalize wr.setCell ⟨g4,0,none⟩ (.slice Ao L.length co)=W9 at *;refine bodyPost_ret (v:=.tuple #[.agg #[.slice Ao L.length co],.int .i64 (es.length:Int),.int .i64 0]) (by simp[results,results23,go_sem,z0']) rfl ?_
   first
    | exact hpost.out
    | exact ladd_drew hpost.out
end Go.Proofs.YtjgepckncogdaaaGreat
