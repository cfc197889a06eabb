/- Contracts of functions, walks, plain facts. Conditions: those of each theorem. -/
import Derived.Test.YtjgepckncogdaaaGreatVFB
set_option linter.unusedVariables false
set_option linter.unusedSimpArgs false
set_option maxRecDepth 100000
set_option maxHeartbeats 16000000
namespace Go.Proofs.YtjgepckncogdaaaGreat
open Go Go.RowKit _root_.Go.Proofs.Tryz
attribute [local go_sem ↓] Go.wp_at_zero Go.wp_at_succ
theorem bdecode_any (u:Value) (b:Bs) (w:World) (hu:SeesB w w.heap.size u b) (hn:b.length<=65535) :
 Calls prog 89 #[u] w (FDecP b w):=by
 obtain⟨A,c,rfl,-,-⟩:=hu.mk_;have hal:=balloc w (.cells #[.slice none 0 0,.int .i64 0,.int .i64 0] 133);have x2:=Box.new w 133 [.slice none 0 0,.int .i64 0,.int .i64 0];change Box (w.alloc (.cells #[.slice none 0 0,.int .i64 0,.int .i64 0] 133)) _ _ _ at x2;have hu0:=lhd (seesB_of hu nlr hal);have hn0:=lhd hn;clear hu hn;replace hal:=lhd hal
 go_enter func89,ntmps89
 go_upto_region 1 with (fail)
 generalize w.alloc (.cells #[.slice none 0 0,.int .i64 0,.int .i64 0] 133)=W0 at *;generalize hgg:w.heap.size=g at x2 ⊢;have hg2:=lhd (Nat.le_of_eq hgg);clear hgg;have hf:=lhd (fields_any W0.heap.size _ b W0 hu0.out nlr hn0.out)
 go_wp2_with fail
 refine hf.out.mono ?_;rintro e w1 ⟨o,hR,hQ,hb1⟩;clear hf;have x2w:=x2.below hb1;replace hal:=lhd (bgo hal.out hb1);have hu1:=lhd (seesB_of hu0.out nlr hb1);clear x2 hb1;replace x2w:=lhd x2w;cases o with
 | none=>
   have hQ:e=.returned (.tuple #[.slice none 0 0,.int .i64 1]):=hQ;subst hQ;replace hR:=lhd hR;obtain⟨y0,y1,y2,f0,f1,f2⟩:=box3_cells x2w.out;dsimp only
   go_wp2_with fail
   have k:=box_lset3 x2w.out (.slice none 0 0) (.int .i64 0) (.int .i64 0);have kb:=lhd (below_set3 hal.out hg2.out (.slice none 0 0) (.int .i64 0) (.int .i64 0));clear y0 y1 y2 f0 f1 f2 x2w;generalize ((w1.setCell ⟨g,0,none⟩ (.slice none 0 0)).setCell ⟨g,1,none⟩ (.int .i64 0)).setCell ⟨g,2,none⟩ (.int .i64 0)=W9 at *;obtain⟨z0,z1,z2,-,-,-⟩:=box3_cells k;refine bodyPost_ret (v:=.tuple #[.agg #[.slice none 0 0,.int .i64 0,.int .i64 0],.int .i64 1]) (by simp[results,results89,go_sem,z0,z1,z2]) rfl ?_;exact fdec_short hR.out kb.out
 | some l=>
   obtain⟨v,hQ,ho⟩:=hQ;subst hQ;obtain⟨Al,cl,rfl,-,-⟩:=ho.own.sees.mk_;have hfail:Hid (DecL l none->∀W9,Below w.heap.size w W9->FDecP b w (.returned (.tuple #[.agg #[.slice none 0 0,.int .i64 0,.int .i64 0],.int .i64 3])) W9):=fun hD W9 hb=>fdec_bad hR hD hb
   have hll:=wrF_count l;have hlb:(wrF l).length<=65535:=by rw[hR.2];exact hn0.out
   replace hR:=lhd hR;have hfd:=lhd (fun k (hk:k<l.length)=>fd_atD ho.own.sees (k:=k) hk);replace ho:=lhd ho;have hlm:l.length<=16384:=by omega
   obtain⟨L,hL⟩:∃L,l.length=L:=⟨_,rfl⟩
   rw[hL] at ho hfd hlm ⊢;clear hll;have HL:=lhd hL;have bad:Hid (DecL l none->∀W9,W9=((w1.setCell ⟨g,0,none⟩ (.slice none 0 0)).setCell ⟨g,1,none⟩ (.int .i64 0)).setCell ⟨g,2,none⟩ (.int .i64 0)->W9.cell? ⟨g,0,none⟩=some (.slice none 0 0)/\W9.cell? ⟨g,1,none⟩=some (.int .i64 0)/\W9.cell? ⟨g,2,none⟩=some (.int .i64 0)/\FDecP b w (.returned (.tuple #[.agg #[.slice none 0 0,.int .i64 0,.int .i64 0],.int .i64 3])) W9):=fun hD W9 h9=>by
    subst h9;have k:=box_lset3 x2w.out (.slice none 0 0) (.int .i64 0) (.int .i64 0);obtain⟨z0,z1,z2,-,-,-⟩:=box3_cells k;exact⟨z0,z1,z2,hfail.out hD _ (below_set3 hal.out hg2.out (.slice none 0 0) (.int .i64 0) (.int .i64 0))⟩
   clear hL;dsimp only
   by_cases hL0:L=0
   ·subst hL0
    obtain⟨y0,y1,y2,f0,f1,f2⟩:=box3_cells x2w.out;have hbd:=lhd (bad.out (dec_no_len (by rw[HL.out];omega)) _ rfl)
    go_wp2_with fail
    generalize ((w1.setCell ⟨g,0,none⟩ (.slice none 0 0)).setCell ⟨g,1,none⟩ (.int .i64 0)).setCell ⟨g,2,none⟩ (.int .i64 0)=W9 at *;obtain⟨z0,z1,z2,hd⟩:=hbd.out;refine bodyPost_ret (v:=.tuple #[.agg #[.slice none 0 0,.int .i64 0,.int .i64 0],.int .i64 3]) (by simp[results,results89,go_sem,z0,z1,z2]) rfl ?_;exact hd
   obtain⟨q,rfl⟩:∃q,L=q+1:=⟨L - 1,by omega⟩
   have i1:(q:Int)<(q:Int)+1:=by omega
   have i2:(0:Int)<=(q:Int):=by omega
   have i3:¬(q:Int)<0:=by omega
   by_cases hq3:q % 3=0
   rotate_left
   ·have r0:¬Int.tmod (q:Int) 3=0:=by rw[Int.tmod_eq_emod_of_nonneg (by omega)];omega
    have hbd:=lhd (bad.out (dec_no_len (by rw[HL.out];omega)) _ rfl);obtain⟨y0,y1,y2,f0,f1,f2⟩:=box3_cells x2w.out;clear hq3
    go_wp2_with fail
    generalize ((w1.setCell ⟨g,0,none⟩ (.slice none 0 0)).setCell ⟨g,1,none⟩ (.int .i64 0)).setCell ⟨g,2,none⟩ (.int .i64 0)=W9 at *;obtain⟨z0,z1,z2,hd⟩:=hbd.out;refine bodyPost_ret (v:=.tuple #[.agg #[.slice none 0 0,.int .i64 0,.int .i64 0],.int .i64 3]) (by simp[results,results89,go_sem,z0,z1,z2]) rfl ?_;exact hd
   have r0:Int.tmod (q:Int) 3=0:=by rw[Int.tmod_eq_emod_of_nonneg (by omega)];omega
   obtain⟨m,hm⟩:∃m,q=3 * m:=⟨q / 3,by omega⟩
   obtain⟨b0,o0,A1,c1,e,hb0,-,d1,s1⟩:=hfd.out q (by omega);subst e;have hx:Hid (l[3 * m]?=some (l.getD q (0,[]))):=by
    show _=_;rw[<-hm,xgd,xge (by rw[HL.out];omega)];rfl
   obtain⟨x,hxx⟩:∃x,l.getD q (0,[])=x:=⟨_,rfl⟩
   rw[hxx] at hx d1 s1;clear hxx;obtain⟨ty,d⟩:=x;dsimp only at d1 s1
   by_cases hd2:d.length=2
   rotate_left
   ·have r1:((d.length:Int) != 2)=true:=by simp;omega
    have hbd:=lhd (bad.out (dec_no_last (by rw[HL.out,hm]) hx.out (.inr hd2)) _ rfl);obtain⟨y0,y1,y2,f0,f1,f2⟩:=box3_cells x2w.out;clear hq3 hd2 hm
    go_wp2_with fail
    generalize ((w1.setCell ⟨g,0,none⟩ (.slice none 0 0)).setCell ⟨g,1,none⟩ (.int .i64 0)).setCell ⟨g,2,none⟩ (.int .i64 0)=W9 at *;obtain⟨z0,z1,z2,hd⟩:=hbd.out;refine bodyPost_ret (v:=.tuple #[.agg #[.slice none 0 0,.int .i64 0,.int .i64 0],.int .i64 3]) (by simp[results,results89,go_sem,z0,z1,z2]) rfl ?_;exact hd
   obtain⟨x,y,rfl⟩:∃x y,d=[x,y]:=by
    match d,hd2 with
    | [x,y],_=>exact⟨x,y,rfl⟩
   obtain⟨b1,o1,rfl,hb1,hc1⟩:=s1.at_ (by simp);have p0:=hc1 0 (by simp);have p1:=hc1 1 (by simp);replace p0:w1.cell? ⟨b1,o1,none⟩=some (.int .u8 (x.toNat:Int)):=p0;replace p1:w1.cell? ⟨b1,o1+1,none⟩=some (.int .u8 (y.toNat:Int)):=p1;replace d1:w1.cell? ⟨b0,o0+q * 2+1,none⟩=some (.slice (some ⟨b1,o1,none⟩) 2 c1):=d1;replace hm:=lhd hm;clear hc1 hd2 hq3 hL0;have hxl:=x.toNat_lt;have hyl:=y.toNat_lt;have n1:IntKind.i64.wrap (x.toNat:Int)=(x.toNat:Int):=by rw[xwi];omega
   have n2:IntKind.i64.wrap (y.toNat:Int)=(y.toNat:Int):=by rw[xwi];omega
   clear hxl hyl
   go_upto_region 7 with (fail)
   go_big_region
   have x7:=(Box.new w1 133 [.slice none 0 0,.int .i64 (x.toNat:Int),.int .i64 (y.toNat:Int)]).below (bdrew _);have hb7:=lhd (bgo (balloc w1 (.cells #[.slice none 0 0,.int .i64 (x.toNat:Int),.int .i64 (y.toNat:Int)] 133)) (bdrew _));change Box (w1.alloc (.cells #[.slice none 0 0,.int .i64 (x.toNat:Int),.int .i64 (y.toNat:Int)] 133)).drew _ _ _ at x7;replace x7:=lhd x7;clear p0 p1 d1 s1 r0 i1 n1 n2 hb1;generalize (w1.alloc (.cells #[.slice none 0 0,.int .i64 (x.toNat:Int),.int .i64 (y.toNat:Int)] 133)).drew=W7 at *;obtain⟨g7,hg7⟩:∃g,w1.heap.size=g:=⟨_,rfl⟩
   rw[hg7] at x7 ⊢;replace hg7:=lhd hg7;obtain⟨ti,hti,htz,hts,htb⟩:=info_parts link_infoC;replace hti:=lhd hti;replace htz:=lhd htz;replace hts:=lhd hts;replace htb:=lhd htb
   go_wp2_with fail
   go_loopw [8] (fun t wr=>∃(i k:Nat) (v:Value),Hid (i=3 * k)/\i<=q/\t=.int .i64 i/\Hid (Box wr g7 133 [v,.int .i64 (x.toNat:Int),.int .i64 (y.toNat:Int)])/\Hid (OwnR wr W7.heap.size 108 v 3 k (linkS ((exK l m).take k)))/\Hid (Below w1.heap.size w1 wr)/\Hid (W7.heap.size<=wr.heap.size)) (fun t _=>q - (intOf t).toNat)
   case atStart=>exact⟨0,0,.slice none 0 0,rfl,by omega,rfl,x7,OwnR.nil _ _ _ _,hb7,Nat.le_refl _⟩
   case round=>
    obtain⟨i,k,v,hik,hiq,rfl,hx7,ho7,hb,hz⟩:=hrel;obtain⟨Av,cv,rfl,-,-⟩:=ho7.out.sees.mk_;obtain⟨y0,y1,y2,f0,f1,f2⟩:=box3_cells hx7.out
    by_cases hlt:i<q
    ·obtain⟨j1,hj1⟩:∃j,j=i+1:=⟨_,rfl⟩
     obtain⟨j2,hj2⟩:∃j,j=i+2:=⟨_,rfl⟩
     have hkm:Hid (k<m):=by show _<_;have:=hik.out;have:=hm.out;omega
     have i0:(i:Int)<(q:Int):=by omega
     have i4:(0:Int)<=(i:Int):=by omega
     have i5:(i:Int)<(q:Int)+1:=by omega
     have i6:(0:Int)<=(j1:Int):=by omega
     have i7:(j1:Int)<(q:Int)+1:=by omega
     have i8:(0:Int)<=(j2:Int):=by omega
     have i9:(j2:Int)<(q:Int)+1:=by have:=hik.out;have:=hm.out;omega
     have n1:IntKind.i64.wrap ((i:Int)+1)=(j1:Int):=by rw[xwi];omega
     have n2:IntKind.i64.wrap ((i:Int)+2)=(j2:Int):=by rw[xwi];omega
     obtain⟨b',o',A1,c1,e,-,-,q0,s0⟩:=hfd.out i (by omega);cases e;obtain⟨b',o',A2,c2,e,-,-,q1,s1⟩:=hfd.out j1 (by omega);cases e;obtain⟨b',o',A3,c3,e,-,-,q2,s2⟩:=hfd.out j2 (by have:=hik.out;have:=hm.out;omega);cases e;have p0:=(hb.out.cell (p:=⟨b0,o0+i * 2+1,none⟩) hb0).trans q0;have p1:=(hb.out.cell (p:=⟨b0,o0+j1 * 2+1,none⟩) hb0).trans q1;have p2:=(hb.out.cell (p:=⟨b0,o0+j2 * 2+1,none⟩) hb0).trans q2;have K:Hid (∀W,Below w1.heap.size w1 W->W.cell? ⟨b0,o0+i * 2+1,none⟩=some (.slice A1 (l.getD i (0,[])).2.length c1)/\W.cell? ⟨b0,o0+j1 * 2+1,none⟩=some (.slice A2 (l.getD j1 (0,[])).2.length c2)/\W.cell? ⟨b0,o0+j2 * 2+1,none⟩=some (.slice A3 (l.getD j2 (0,[])).2.length c3)):=fun W hW=>⟨(hW.cell (p:=⟨b0,o0+i * 2+1,none⟩) hb0).trans q0,(hW.cell (p:=⟨b0,o0+j1 * 2+1,none⟩) hb0).trans q1,(hW.cell (p:=⟨b0,o0+j2 * 2+1,none⟩) hb0).trans q2⟩
     have KS:Hid (∀W (v:Value),Below w1.heap.size w1 W->(W.setCell ⟨g7,0,none⟩ v).cell? ⟨b0,o0+i * 2+1,none⟩=some (.slice A1 (l.getD i (0,[])).2.length c1)/\(W.setCell ⟨g7,0,none⟩ v).cell? ⟨b0,o0+j1 * 2+1,none⟩=some (.slice A2 (l.getD j1 (0,[])).2.length c2)/\(W.setCell ⟨g7,0,none⟩ v).cell? ⟨b0,o0+j2 * 2+1,none⟩=some (.slice A3 (l.getD j2 (0,[])).2.length c3)):=fun W v hW=>K.out _ (hW.setCell (p:=⟨g7,0,none⟩) (Nat.le_of_eq hg7.out) v)
     clear q0 q1 q2;have ht:trip l k=((l.getD i (0,[])).2,(l.getD j1 (0,[])).2,(l.getD j2 (0,[])).2):=by rw[hj1,hj2,hik.out];rfl
     have hst:=exK_take hkm.out (l:=l);rw[ht] at hst;generalize (l.getD i (0,[])).2=e1 at *;generalize (l.getD j1 (0,[])).2=e2 at *;generalize (l.getD j2 (0,[])).2=e3 at *;replace hst:=lhd hst;clear ht;have hal2:=bgo (bdrew wr) (balloc wr.drew (.cells #[.slice A1 e1.length c1,.slice A2 e2.length c2,.slice A3 e3.length c3] 108));have hrec:=recs_lit wr.drew 108 3 1 [.slice A1 e1.length c1,.slice A2 e2.length c2,.slice A3 e3.length c3] rfl (by unfold maxLen;omega);have hv:∀j,(Value.slice Av k cv).ownBlock=some j->w1.heap.size<=j:=fun j hj=>Nat.le_trans hb7.out.size (ho7.out.lt j hj).1
     have hsz:=Nat.le_trans hb.out.size hal2.size;have hel:=lhd (trip3_elts (old_elt s0 nlr (hb.out.trans (hal2.mono hb.out.size)) hsz hv) (old_elt s1 nlr (hb.out.trans (hal2.mono hb.out.size)) hsz hv) (old_elt s2 nlr (hb.out.trans (hal2.mono hb.out.size)) hsz hv));have ho2:=lhd (ho7.out.below hal2);have hx8:=lhd (hx7.out.below hal2);have yA:(wr.alloc (.cells #[.slice A1 e1.length c1,.slice A2 e2.length c2,.slice A3 e3.length c3] 108)).cell? ⟨g7,0,none⟩=some (.slice Av k cv):=(hx7.out.below (balloc wr _)).cell 0;have hbD:=lhd (hb.out.trans ((bdrew wr).mono hb.out.size));have hbA:=lhd (hb.out.trans ((balloc wr (.cells #[.slice A1 e1.length c1,.slice A2 e2.length c2,.slice A3 e3.length c3] 108)).mono hb.out.size));have hbAD:=lhd (hbA.out.trans ((bdrew _).mono hbA.out.size));have hb8:=lhd (hb.out.trans (hal2.mono hb.out.size));have hz8:Hid (W7.heap.size<=_):=Nat.le_trans hz.out hal2.size;have hg7l:Hid (g7<W7.heap.size):=x7.out.lt;have hcnt:Hid (k+1<=1048576):=by show _<=_;have:=hkm.out;have:=hm.out;omega
     replace hrec:=lhd hrec;clear s0 s1 s2 hv hsz hal2 ho7 hb hz hx7 hj1 hj2
     go_upto_block 1 with (fail)
     clear hn0 hu0 hal hu1 x2w hfail bad hlb hR HL hfd ho hx KS hbD hbAD hg2
     go_cut [83] from 62 to 84 (fun v W=>AddQD W7 w1 g7 k x y (linkS ((exK l m).take (k+1))) v W)
     case first=>
      go_upto_region 11 with (fail)
      have kA:=And.intro p0 (And.intro p1 (And.intro p2 y0));have kB0:=K.out _ hbA.out;have kB:=And.intro kB0.1 (And.intro kB0.2.1 (And.intro kB0.2.2 yA));refine wp_region_J (fun W':World=>W'.cell? ⟨b0,o0+i * 2+1,none⟩=some (.slice A1 e1.length c1)/\W'.cell? ⟨b0,o0+j1 * 2+1,none⟩=some (.slice A2 e2.length c2)/\W'.cell? ⟨b0,o0+j2 * 2+1,none⟩=some (.slice A3 e3.length c3)/\W'.cell? ⟨g7,0,none⟩=some (.slice Av k cv)) 23 (by kernel_rfl) ?_ (fun hHeld=>?_)
      ·(try dsimp only);(first | exact kC | exact kB | exact kA)
      refine wpAnyJ_take0 (i:=0) (v:=?_) rfl (by kernel_rfl) (by kernel_rfl) (by kernel_rfl) (fun _ _ _ h=>h) (by rfl) (Or.inl ⟨by rfl,?_⟩) (by assumption) ?_;rotate_left 1
      ·intro w hSw;(try dsimp only at hSw);go_simp<;>(try with_reducible rfl)
      try simp only[Act.put,xsb,xsz,xss]
      refine wpAnyJ_take (i:=1) (v:=?_) rfl (by kernel_rfl) (by kernel_rfl) (by kernel_rfl) (fun _ _ _ h=>h) (by rfl) rfl (by kernel_rfl) (by kernel_rfl) (Or.inl ⟨by rfl,?_⟩) (by assumption) ?_;rotate_left 1
      ·intro w hSw;(try dsimp only at hSw);go_simp<;>(try with_reducible rfl)
      try simp only[Act.put,xsb,xsz,xss]
      refine wpAnyJ_take0 (i:=2) (v:=?_) rfl (by kernel_rfl) (by kernel_rfl) (by kernel_rfl) (fun _ _ _ h=>h) (by rfl) (Or.inl ⟨by rfl,?_⟩) (by assumption) ?_;rotate_left 1
      ·intro w hSw;(try dsimp only at hSw);go_simp<;>(try with_reducible rfl)
      try simp only[Act.put,xsb,xsz,xss]
      refine wpAnyJ_take0 (i:=3) (v:=?_) rfl (by kernel_rfl) (by kernel_rfl) (by kernel_rfl) (fun _ _ _ h=>h) (by rfl) (Or.inl ⟨by rfl,?_⟩) (by assumption) ?_;rotate_left 1
      ·intro w hSw;(try dsimp only at hSw);go_simp<;>(try with_reducible rfl)
      try simp only[Act.put,xsb,xsz,xss]
      refine wpAnyJ_take0 (i:=4) (v:=?_) rfl (by kernel_rfl) (by kernel_rfl) (by kernel_rfl) (fun _ _ _ h=>h) (by rfl) (Or.inl ⟨by rfl,?_⟩) (by assumption) ?_;rotate_left 1
      ·intro w hSw;(try dsimp only at hSw);go_simp<;>(try with_reducible rfl)
      try simp only[Act.put,xsb,xsz,xss]
      refine wpAnyJ_take0 (i:=5) (v:=?_) rfl (by kernel_rfl) (by kernel_rfl) (by kernel_rfl) (fun _ _ _ h=>h) (by rfl) (Or.inl ⟨by rfl,?_⟩) (by assumption) ?_;rotate_left 1
      ·intro w hSw;(try dsimp only at hSw);go_simp<;>(try with_reducible rfl)
      try simp only[Act.put,xsb,xsz,xss]
      refine wpAnyJ_take (i:=6) (v:=?_) rfl (by kernel_rfl) (by kernel_rfl) (by kernel_rfl) (fun _ _ _ h=>h) (by rfl) rfl (by kernel_rfl) (by kernel_rfl) (Or.inl ⟨by rfl,?_⟩) (by assumption) ?_;rotate_left 1
      ·intro w hSw;(try dsimp only at hSw);go_simp<;>(try with_reducible rfl)
      try simp only[Act.put,xsb,xsz,xss]
      refine wpAnyJ_take0 (i:=7) (v:=?_) rfl (by kernel_rfl) (by kernel_rfl) (by kernel_rfl) (fun _ _ _ h=>h) (by rfl) (Or.inl ⟨by rfl,?_⟩) (by assumption) ?_;rotate_left 1
      ·intro w hSw;(try dsimp only at hSw);go_simp<;>(try with_reducible rfl)
      try simp only[Act.put,xsb,xsz,xss]
      refine wpAnyJ_take0 (i:=8) (v:=?_) rfl (by kernel_rfl) (by kernel_rfl) (by kernel_rfl) (fun _ _ _ h=>h) (by rfl) (Or.inl ⟨by rfl,?_⟩) (by assumption) ?_;rotate_left 1
      ·intro w hSw;(try dsimp only at hSw);go_simp<;>(try with_reducible rfl)
      try simp only[Act.put,xsb,xsz,xss]
      refine wpAnyJ_take0 (i:=9) (v:=?_) rfl (by kernel_rfl) (by kernel_rfl) (by kernel_rfl) (fun _ _ _ h=>h) (by rfl) (Or.inl ⟨by rfl,?_⟩) (by assumption) ?_;rotate_left 1
      ·intro w hSw;(try dsimp only at hSw);go_simp<;>(try with_reducible rfl)
      try simp only[Act.put,xsb,xsz,xss]
      refine wpAnyJ_take0 (i:=10) (v:=?_) rfl (by kernel_rfl) (by kernel_rfl) (by kernel_rfl) (fun _ _ _ h=>h) (by rfl) (Or.inl ⟨by rfl,?_⟩) (by assumption) ?_;rotate_left 1
      ·intro w hSw;(try dsimp only at hSw);go_simp<;>(try with_reducible rfl)
      try simp only[Act.put,xsb,xsz,xss]
      refine wpAnyJ_take0 (i:=11) (v:=?_) rfl (by kernel_rfl) (by kernel_rfl) (by kernel_rfl) (fun _ _ _ h=>h) (by rfl) (Or.inl ⟨by rfl,?_⟩) (by assumption) ?_;rotate_left 1
      ·intro w hSw;(try dsimp only at hSw);go_simp<;>(try with_reducible rfl)
      try simp only[Act.put,xsb,xsz,xss]
      refine wpAnyJ_take (i:=12) (v:=?_) rfl (by kernel_rfl) (by kernel_rfl) (by kernel_rfl) (fun _ _ _ h=>h) (by rfl) rfl (by kernel_rfl) (by kernel_rfl) (Or.inl ⟨by rfl,?_⟩) (by assumption) ?_;rotate_left 1
      ·intro w hSw;(try dsimp only at hSw);go_simp<;>(try with_reducible rfl)
      try simp only[Act.put,xsb,xsz,xss]
      refine wpAnyJ_take0 (i:=13) (v:=?_) rfl (by kernel_rfl) (by kernel_rfl) (by kernel_rfl) (fun _ _ _ h=>h) (by rfl) (Or.inl ⟨by rfl,?_⟩) (by assumption) ?_;rotate_left 1
      ·intro w hSw;(try dsimp only at hSw);go_simp<;>(try with_reducible rfl)
      try simp only[Act.put,xsb,xsz,xss]
      refine wpAnyJ_take0 (i:=14) (v:=?_) rfl (by kernel_rfl) (by kernel_rfl) (by kernel_rfl) (fun _ _ _ h=>h) (by rfl) (Or.inl ⟨by rfl,?_⟩) (by assumption) ?_;rotate_left 1
      ·intro w hSw;(try dsimp only at hSw);go_simp<;>(try with_reducible rfl)
      try simp only[Act.put,xsb,xsz,xss]
      refine wpAnyJ_take0 (i:=15) (v:=?_) rfl (by kernel_rfl) (by kernel_rfl) (by kernel_rfl) (fun _ _ _ h=>h) (by rfl) (Or.inl ⟨by rfl,?_⟩) (by assumption) ?_;rotate_left 1
      ·intro w hSw;(try dsimp only at hSw);go_simp<;>(try with_reducible rfl)
      try simp only[Act.put,xsb,xsz,xss]
      refine wpAnyJ_take0 (i:=16) (v:=?_) rfl (by kernel_rfl) (by kernel_rfl) (by kernel_rfl) (fun _ _ _ h=>h) (by rfl) (Or.inl ⟨by rfl,?_⟩) (by assumption) ?_;rotate_left 1
      ·intro w hSw;(try dsimp only at hSw);go_simp<;>(try with_reducible rfl)
      try simp only[Act.put,xsb,xsz,xss]
      refine wpAnyJ_take0 (i:=17) (v:=?_) rfl (by kernel_rfl) (by kernel_rfl) (by kernel_rfl) (fun _ _ _ h=>h) (by rfl) (Or.inl ⟨by rfl,?_⟩) (by assumption) ?_;rotate_left 1
      ·intro w hSw;(try dsimp only at hSw);go_simp<;>(try with_reducible rfl)
      try simp only[Act.put,xsb,xsz,xss]
      refine wpAnyJ_take (i:=18) (v:=?_) rfl (by kernel_rfl) (by kernel_rfl) (by kernel_rfl) (fun _ _ _ h=>h) (by rfl) rfl (by kernel_rfl) (by kernel_rfl) (Or.inl ⟨by rfl,?_⟩) (by assumption) ?_;rotate_left 1
      ·intro w hSw;(try dsimp only at hSw);go_simp<;>(try with_reducible rfl)
      try simp only[Act.put,xsb,xsz,xss]
      refine wpAnyJ_take0 (i:=19) (v:=?_) rfl (by kernel_rfl) (by kernel_rfl) (by kernel_rfl) (fun _ _ _ h=>h) (by rfl) (Or.inl ⟨by rfl,?_⟩) (by assumption) ?_;rotate_left 1
      ·intro w hSw;(try dsimp only at hSw);go_simp<;>(try with_reducible rfl)
      try simp only[Act.put,xsb,xsz,xss]
      refine wpAnyJ_ready (rs:=[20]) (by kernel_rfl) (by simp) ?_;refine AllReadyJ.cons (o:=_) rfl (fun Kq hKq=>?_) ?_
      ·go_simp
       refine hKq.out _ _ ?_ (fun hHeld=>?_)
       ·intro _;(try dsimp only);(first | exact kC | exact kB | exact kA)
       clear hKq Kq
       try simp only[Act.put,xsb,xsz,xss]
       refine wpAnyJ_ready (rs:=[21]) (by kernel_rfl) (by simp) ?_;refine AllReadyJ.cons (o:=_) rfl (fun Kq hKq=>?_) ?_
       ·skip
        refine step_appR (by rfl) (.tmp 63) (.tmp 82) 104 108 underlying104 (by rfl) ti _ 3 72 hti.out htz.out hts.out htb.out (by rfl) (by omega) (by omega) W7.heap.size _ k _ (by rfl) ho2.out _ _ 1 _ (linkS [(e1,e2,e3)]) (by rfl) hrec.out (by rfl) hel.out hcnt.out hz8.out ?_;intro v' w' hW2 hb4;obtain⟨Aw,cw,rfl,-,-⟩:=hW2.sees.mk_;have hx9:Hid (Box w' g7 133 [.slice Av k cv,.int .i64 (x.toNat:Int),.int .i64 (y.toNat:Int)]):=(hb4.block g7 hg7l.out).trans hx8.out;obtain⟨y0',y1',y2',f0',f1',f2'⟩:=box3_cells hx9.out;have kC0:=K.out w' (hb8.out.trans (hb4.mono hb7.out.size));have kC:=And.intro kC0.1 (And.intro kC0.2.1 (And.intro kC0.2.2 y0'));refine hKq.out _ _ ?_ (fun hHeld=>?_)
        ·intro _;(try dsimp only);(first | exact kC | exact kB | exact kA)
        clear hKq Kq
        try simp only[Act.put,xsb,xsz,xss]
        refine wpAnyJ_take0 (i:=22) (v:=?_) rfl (by kernel_rfl) (by kernel_rfl) (by kernel_rfl) (fun _ _ _ h=>h) (by rfl) (Or.inl ⟨by rfl,?_⟩) (by assumption) ?_;rotate_left 1
        ·intro w hSw;(try dsimp only at hSw);go_simp<;>(try with_reducible rfl)
        try simp only[Act.put,xsb,xsz,xss]
        refine wpAnyJ_ready (rs:=[23]) (by kernel_rfl) (by simp) ?_;refine AllReadyJ.cons (o:=_) rfl (fun Kq hKq=>?_) ?_
        ·go_simp
         refine hKq.out _ _ ?_ (fun hHeld=>?_)
         ·intro hl;exact absurd hl (by decide)
         clear hKq Kq
         try simp only[Act.put,xsb,xsz,xss]
         refine wpAnyJ_done (by kernel_rfl) ?_ _
         go_wp2_with fail
         go_meet
         refine addQD_done hx9.out ?_ (hb8.out.trans (hb4.mono hb7.out.size)) hg7l.out (Nat.le_of_eq hg7.out) (Nat.le_trans hz8.out hb4.size);rw[hst.out,linkS_append];exact hW2
        exact AllReadyJ.nil
       exact AllReadyJ.nil
      exact AllReadyJ.nil
     case rest=>
     obtain⟨hx10,ho10,hb10,hz10⟩:=hcut
     go_wp2_with fail
     go_roundw
     case rel=>exact⟨i+3,k+1,_,by have:=hik.out;show _=_;omega,by have:=hik.out;have:=hm.out;have:=hkm.out;omega,by go_num,hx10,ho10,hb10,hz10⟩
     case measure=>simp[intOf];omega
    obtain rfl:i=q:=by omega
    have hkm:Hid (k=m):=by show _=_;have:=hik.out;have:=hm.out;omega
    have i0:¬(i:Int)<(i:Int):=by omega
    have hml:Hid ((exK l m).length=m):=exK_len _ _;have ho8:Hid (OwnR wr W7.heap.size 108 (.slice Av k cv) 3 (exK l m).length (linkS (exK l m))):=by
     have h:=ho7.out;rw[hkm.out,xtl (by rw[exK_len];exact Nat.le_refl _)] at h;show OwnR _ _ _ _ _ _ _;rw[exK_len,hkm.out];exact h
    have hlm2:l.length=3 * m+1:=by rw[HL.out,hm.out]
    have hbk:=enc_back_len hlm2 hx.out (show ((ty,[x,y]):Fd).2=[x,y] from rfl);have hen:=lhd (bencode_any (.slice Av k cv) (exK l m) (x.toNat:Int) (y.toNat:Int) wr ho8.out.sees (fun _=>by rw[hbk];exact hlb));have hlw:Hid (w1.heap.size<=wr.heap.size):=hb.out.size;have hg7l:Hid (g7<W7.heap.size):=x7.out.lt;have hal1:Hid (Below w.heap.size w wr):=bgo hal.out hb.out;have x2r:=lhd (x2w.out.below hb.out);have hg0:Hid (g<w1.heap.size):=x2w.out.lt;have hur:=lhd (seesB_of hu1.out nlr hb.out);clear hal hb x2w hu1 hfd ho bad x7 hb7 ho7
    by_cases h8:8<m
    ·have hD:Hid (DecL l none):=dec_no_many hlm2 h8
     replace hen:=lhd (hen.out.mono fun e w' h=>fenc_big (by rw[exK_len];exact h8) h)
     go_wp2_with fail
     refine hen.out.mono ?_;rintro e w9 ⟨v9,rfl,-,hb9⟩;have x2s:=x2r.out.below hb9;obtain⟨t0,t1,t2,r0,r1,r2⟩:=box3_cells x2s;have hbz:=lhd (bgo hal1.out hb9);clear y0 y1 y2 f0 f1 f2 hen;dsimp only
     go_wp2_with fail
     have kk:=box_lset3 x2s (.slice none 0 0) (.int .i64 0) (.int .i64 0);have kb:=lhd (below_set3 hbz.out hg2.out (.slice none 0 0) (.int .i64 0) (.int .i64 0));clear t0 t1 t2 r0 r1 r2 x2s;generalize ((w9.setCell ⟨g,0,none⟩ (.slice none 0 0)).setCell ⟨g,1,none⟩ (.int .i64 0)).setCell ⟨g,2,none⟩ (.int .i64 0)=W9 at *;obtain⟨z0,z1,z2,-,-,-⟩:=box3_cells kk;refine bodyPost_ret (v:=.tuple #[.agg #[.slice none 0 0,.int .i64 0,.int .i64 0],.int .i64 3]) (by simp[results,results89,go_sem,z0,z1,z2]) rfl ?_;exact hfail.out hD.out _ kb.out
    replace hen:=lhd (hen.out.mono fun e w' h=>fenc_fit (by rw[exK_len];omega) h);have hok:=hR.out.1;have hby:b=wrF l:=hR.out.2.symm;have hex:Hid ((wrF (encF (exK l m) x.toNat y.toNat) == b)=true->DecL l (some (exK l m,x.toNat,y.toNat))):=fun h=>by
     rw[beq_iff_eq,hby] at h;exact dec_yes hlm2 (by omega) (wrF_inj hok (enc_okF (by rw[hbk];exact hlb)) h.symm)
    have hne:Hid ((wrF (encF (exK l m) x.toNat y.toNat) == b)=false->DecL l none):=fun h=>by
     rw[beq_eq_false_iff_ne,hby] at h;exact dec_back hlm2 hx.out rfl (fun e=>h (by rw[<-e]))
    generalize wrF (encF (exK l m) x.toNat y.toNat)=back at *;clear hby hok
    go_wp2_with fail
    refine hen.out.mono ?_;rintro e w9 ⟨v9,rfl,o9,hb9⟩;obtain⟨A9,c9,rfl,-,-⟩:=o9.sees.mk_;have x2s:=x2r.out.below hb9;have x7s:=hx7.out.below hb9;have ho9:=lhd (ho8.out.below hb9);have hbz:=lhd (bgo hal1.out hb9);have heq:=lhd (equal_any w9.heap.size w9.heap.size _ _ back b w9 o9.sees (seesB_of hur.out nlr hb9));obtain⟨t0,t1,t2,r0,r1,r2⟩:=box3_cells x2s;clear y0 y1 y2 f0 f1 f2 hen o9 hb9;dsimp only;generalize hE:(back == b)=E at *;replace hE:=lhd hE;cases E with
    | false=>
      go_wp2_with fail
      refine heq.out.mono ?_;rintro e w10 ⟨rfl,hw⟩;obtain rfl:=hw.symm;clear heq;dsimp only
      go_wp2_with fail
      have kk:=box_lset3 x2s (.slice none 0 0) (.int .i64 0) (.int .i64 0);have kb:=lhd (below_set3 hbz.out hg2.out (.slice none 0 0) (.int .i64 0) (.int .i64 0));clear t0 t1 t2 r0 r1 r2 x2s;generalize ((w9.setCell ⟨g,0,none⟩ (.slice none 0 0)).setCell ⟨g,1,none⟩ (.int .i64 0)).setCell ⟨g,2,none⟩ (.int .i64 0)=W9 at *;obtain⟨z0,z1,z2,-,-,-⟩:=box3_cells kk;refine bodyPost_ret (v:=.tuple #[.agg #[.slice none 0 0,.int .i64 0,.int .i64 0],.int .i64 3]) (by simp[results,results89,go_sem,z0,z1,z2]) rfl ?_;exact hfail.out (hne.out trivial) _ kb.out
    | true=>
      obtain⟨y0,y1,y2,f0,f1,f2⟩:=box3_cells x7s
      go_wp2_with fail
      refine heq.out.mono ?_;rintro e w10 ⟨rfl,hw⟩;obtain rfl:=hw.symm;clear heq;dsimp only
      go_wp2_with fail
      have kk:=box_lset3 x2s (.slice Av k cv) (.int .i64 (x.toNat:Int)) (.int .i64 (y.toNat:Int));have kb:=lhd (below_set3 hbz.out hg2.out (.slice Av k cv) (.int .i64 (x.toNat:Int)) (.int .i64 (y.toNat:Int)));have ks:=lhd (ho9.out.pokes (g:=g) (by have:=hg0.out;have:=hg7l.out;have:=hg7.out;omega) x2s Av k cv (x.toNat:Int) (y.toNat:Int));clear t0 t1 t2 r0 r1 r2 x2s y0 y1 y2 f0 f1 f2 x7s;generalize ((w9.setCell ⟨g,0,none⟩ (.slice Av k cv)).setCell ⟨g,1,none⟩ (.int .i64 (x.toNat:Int))).setCell ⟨g,2,none⟩ (.int .i64 (y.toNat:Int))=W9 at *;obtain⟨z0,z1,z2,-,-,-⟩:=box3_cells kk;refine bodyPost_ret (v:=.tuple #[.agg #[.slice Av k cv,.int .i64 (x.toNat:Int),.int .i64 (y.toNat:Int)],.int .i64 0]) (by simp[results,results89,go_sem,z0,z1,z2]) rfl ?_;exact fdec_good hR.out (hex.out trivial) ks.out.sees kb.out
end Go.Proofs.YtjgepckncogdaaaGreat
