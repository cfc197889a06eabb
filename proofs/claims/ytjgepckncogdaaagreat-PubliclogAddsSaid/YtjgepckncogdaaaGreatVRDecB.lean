/- Contracts of functions, walks, plain facts. Conditions: those of each theorem. -/
import Derived.Test.YtjgepckncogdaaaGreatVRFChk
set_option linter.unusedVariables false
set_option linter.unusedSimpArgs false
set_option maxRecDepth 100000
set_option maxHeartbeats 16000000
namespace Go.Proofs.YtjgepckncogdaaaGreat
open Go Go.RowKit _root_.Go.Proofs.Tryz
attribute [local go_sem ↓] Go.wp_at_zero Go.wp_at_succ
def TyOk (l:List Fd) (k:Nat):Prop:=(l.getD (3 * k) (0,[])).1=1/\(l.getD (3 * k+1) (0,[])).1=2/\(l.getD (3 * k+2) (0,[])).1=3
theorem tyOk_no {l:List Fd} {m k:Nat} (hm:l.length=3 * m+1) (hk:k<m) (h:¬TyOk l k):DecL l none:=by
 refine dec_no_type hm hk ?_;unfold TyOk at h
 omega
theorem rbdecode_any (u:Value) (b:Bs) (w:World) (hu:SeesB w w.heap.size u b) (hn:b.length<=65535) :
 Calls prog 93 #[u] w (FDecP b w):=by
 obtain⟨A,c,rfl,-,-⟩:=hu.mk_;have hal:=balloc w (.cells #[.slice none 0 0,.int .i64 0,.int .i64 0] 133);have x2:=Box.new w 133 [.slice none 0 0,.int .i64 0,.int .i64 0];change Box (w.alloc (.cells #[.slice none 0 0,.int .i64 0,.int .i64 0] 133)) _ _ _ at x2;have hu0:=lhd (seesB_of hu nlr hal);have hn0:=lhd hn;clear hu hn;replace hal:=lhd hal
 go_enter func93,ntmps93
 go_upto_region 1 with (fail)
 generalize w.alloc (.cells #[.slice none 0 0,.int .i64 0,.int .i64 0] 133)=W0 at *;generalize hgg:w.heap.size=g at x2 ⊢;have hg2:=lhd (Nat.le_of_eq hgg);clear hgg;have hf:=lhd (rfields_any W0.heap.size _ b W0 hu0.out nlr hn0.out)
 go_wp2_with fail
 refine hf.out.mono ?_;rintro e w1 ⟨o,hR,hQ,hb1⟩;clear hf;have x2w:=x2.below hb1;replace hal:=lhd (bgo hal.out hb1);have hu1:=lhd (seesB_of hu0.out nlr hb1);clear x2 hb1;replace x2w:=lhd x2w;cases o with
 | none=>
   have hQ:e=.returned (.tuple #[.slice none 0 0,.int .i64 1]):=hQ;subst hQ;replace hR:=lhd hR;obtain⟨y0,y1,y2,f0,f1,f2⟩:=box3_cells x2w.out;dsimp only
   go_wp2_with fail
   have k:=box_lset3 x2w.out (.slice none 0 0) (.int .i64 0) (.int .i64 0);have kb:=lhd (below_set3 hal.out hg2.out (.slice none 0 0) (.int .i64 0) (.int .i64 0));clear y0 y1 y2 f0 f1 f2 x2w;generalize ((w1.setCell ⟨g,0,none⟩ (.slice none 0 0)).setCell ⟨g,1,none⟩ (.int .i64 0)).setCell ⟨g,2,none⟩ (.int .i64 0)=W9 at *;obtain⟨z0,z1,z2,-,-,-⟩:=box3_cells k;refine bodyPost_ret (v:=.tuple #[.agg #[.slice none 0 0,.int .i64 0,.int .i64 0],.int .i64 1]) (by simp[results,results93,go_sem,z0,z1,z2]) rfl ?_;exact fdec_short hR.out kb.out
 | some l=>
   obtain⟨v,hQ,ho⟩:=hQ;subst hQ;obtain⟨Al,cl,rfl,-,-⟩:=ho.own.sees.mk_;have hfail:Hid (DecL l none->∀W9,Below w.heap.size w W9->FDecP b w (.returned (.tuple #[.agg #[.slice none 0 0,.int .i64 0,.int .i64 0],.int .i64 3])) W9):=fun hD W9 hb=>fdec_bad hR hD hb
   have hll:=wrF_count l;have hlb:(wrF l).length<=65535:=by rw[hR.2];exact hn0.out
   replace hR:=lhd hR;have hfd:=lhd (fun k (hk:k<l.length)=>fd_atD ho.own.sees (k:=k) hk);replace ho:=lhd ho;have hlm:l.length<=16384:=by omega
   obtain⟨L,hL⟩:∃L,l.length=L:=⟨_,rfl⟩
   rw[hL] at ho hfd hlm ⊢;clear hll;have HL:=lhd hL;have bad:Hid (DecL l none->∀W9,W9=((w1.setCell ⟨g,0,none⟩ (.slice none 0 0)).setCell ⟨g,1,none⟩ (.int .i64 0)).setCell ⟨g,2,none⟩ (.int .i64 0)->W9.cell? ⟨g,0,none⟩=some (.slice none 0 0)/\W9.cell? ⟨g,1,none⟩=some (.int .i64 0)/\W9.cell? ⟨g,2,none⟩=some (.int .i64 0)/\FDecP b w (.returned (.tuple #[.agg #[.slice none 0 0,.int .i64 0,.int .i64 0],.int .i64 3])) W9):=fun hD W9 h9=>by
    subst h9;have k:=box_lset3 x2w.out (.slice none 0 0) (.int .i64 0) (.int .i64 0);obtain⟨z0,z1,z2,-,-,-⟩:=box3_cells k;exact⟨z0,z1,z2,hfail.out hD _ (below_set3 hal.out hg2.out (.slice none 0 0) (.int .i64 0) (.int .i64 0))⟩
   clear hL;dsimp only
   by_cases hL0:L=0
   ·subst hL0
    obtain⟨y0,y1,y2,f0,f1,f2⟩:=box3_cells x2w.out;have hbd:=lhd (bad.out (dec_no_len (by rw[HL.out];omega)) _ rfl)
    go_wp2_with fail
    generalize ((w1.setCell ⟨g,0,none⟩ (.slice none 0 0)).setCell ⟨g,1,none⟩ (.int .i64 0)).setCell ⟨g,2,none⟩ (.int .i64 0)=W9 at *;obtain⟨z0,z1,z2,hd⟩:=hbd.out;refine bodyPost_ret (v:=.tuple #[.agg #[.slice none 0 0,.int .i64 0,.int .i64 0],.int .i64 3]) (by simp[results,results93,go_sem,z0,z1,z2]) rfl ?_;exact hd
   obtain⟨q,rfl⟩:∃q,L=q+1:=⟨L - 1,by omega⟩
   have i1:(q:Int)<(q:Int)+1:=by omega
   have i2:(0:Int)<=(q:Int):=by omega
   have i3:¬(q:Int)<0:=by omega
   by_cases hq3:q % 3=0
   rotate_left
   ·have r0:¬Int.tmod (q:Int) 3=0:=by rw[Int.tmod_eq_emod_of_nonneg (by omega)];omega
    have hbd:=lhd (bad.out (dec_no_len (by rw[HL.out];omega)) _ rfl);obtain⟨y0,y1,y2,f0,f1,f2⟩:=box3_cells x2w.out;clear hq3
    go_wp2_with fail
    generalize ((w1.setCell ⟨g,0,none⟩ (.slice none 0 0)).setCell ⟨g,1,none⟩ (.int .i64 0)).setCell ⟨g,2,none⟩ (.int .i64 0)=W9 at *;obtain⟨z0,z1,z2,hd⟩:=hbd.out;refine bodyPost_ret (v:=.tuple #[.agg #[.slice none 0 0,.int .i64 0,.int .i64 0],.int .i64 3]) (by simp[results,results93,go_sem,z0,z1,z2]) rfl ?_;exact hd
   have r0:Int.tmod (q:Int) 3=0:=by rw[Int.tmod_eq_emod_of_nonneg (by omega)];omega
   obtain⟨m,hm⟩:∃m,q=3 * m:=⟨q / 3,by omega⟩
   obtain⟨b0,o0,A1,c1,e,hb0,d0,d1,s1⟩:=hfd.out q (by omega);subst e;have hx:Hid (l[3 * m]?=some (l.getD q (0,[]))):=by
    show _=_;rw[<-hm,xgd,xge (by rw[HL.out];omega)];rfl
   obtain⟨x,hxx⟩:∃x,l.getD q (0,[])=x:=⟨_,rfl⟩
   rw[hxx] at hx d0 d1 s1;clear hxx;obtain⟨ty,d⟩:=x;dsimp only at d0 d1 s1
   by_cases h8:8<m
   ·have r2:(8:Int)<(q:Int) / 3:=by omega
    have hbd:=lhd (bad.out (dec_no_many (by rw[HL.out,hm]) h8) _ rfl);obtain⟨y0,y1,y2,f0,f1,f2⟩:=box3_cells x2w.out;clear hq3 hm h8
    go_wp2_with fail
    generalize ((w1.setCell ⟨g,0,none⟩ (.slice none 0 0)).setCell ⟨g,1,none⟩ (.int .i64 0)).setCell ⟨g,2,none⟩ (.int .i64 0)=W9 at *;obtain⟨z0,z1,z2,hd⟩:=hbd.out;refine bodyPost_ret (v:=.tuple #[.agg #[.slice none 0 0,.int .i64 0,.int .i64 0],.int .i64 3]) (by simp[results,results93,go_sem,z0,z1,z2]) rfl ?_;exact hd
   have r2:¬(8:Int)<(q:Int) / 3:=by omega
   by_cases ht4:ty=4
   rotate_left
   ·have r3:((ty:Int) != 4)=true:=by simp;omega
    have hbd:=lhd (bad.out (dec_no_last (by rw[HL.out,hm]) hx.out (.inl ht4)) _ rfl);obtain⟨y0,y1,y2,f0,f1,f2⟩:=box3_cells x2w.out;clear hq3 hm h8 ht4
    go_wp2_with fail
    generalize ((w1.setCell ⟨g,0,none⟩ (.slice none 0 0)).setCell ⟨g,1,none⟩ (.int .i64 0)).setCell ⟨g,2,none⟩ (.int .i64 0)=W9 at *;obtain⟨z0,z1,z2,hd⟩:=hbd.out;refine bodyPost_ret (v:=.tuple #[.agg #[.slice none 0 0,.int .i64 0,.int .i64 0],.int .i64 3]) (by simp[results,results93,go_sem,z0,z1,z2]) rfl ?_;exact hd
   subst ht4
   by_cases hd2:d.length=2
   rotate_left
   ·have r1:((d.length:Int) != 2)=true:=by simp;omega
    have hbd:=lhd (bad.out (dec_no_last (by rw[HL.out,hm]) hx.out (.inr hd2)) _ rfl);obtain⟨y0,y1,y2,f0,f1,f2⟩:=box3_cells x2w.out;clear hq3 hd2 hm h8
    go_wp2_with fail
    generalize ((w1.setCell ⟨g,0,none⟩ (.slice none 0 0)).setCell ⟨g,1,none⟩ (.int .i64 0)).setCell ⟨g,2,none⟩ (.int .i64 0)=W9 at *;obtain⟨z0,z1,z2,hd⟩:=hbd.out;refine bodyPost_ret (v:=.tuple #[.agg #[.slice none 0 0,.int .i64 0,.int .i64 0],.int .i64 3]) (by simp[results,results93,go_sem,z0,z1,z2]) rfl ?_;exact hd
   obtain⟨x,y,rfl⟩:∃x y,d=[x,y]:=by
    match d,hd2 with
    | [x,y],_=>exact⟨x,y,rfl⟩
   obtain⟨b1,o1,rfl,hb1,hc1⟩:=s1.at_ (by simp);have p0:=hc1 0 (by simp);have p1:=hc1 1 (by simp);replace p0:w1.cell? ⟨b1,o1,none⟩=some (.int .u8 (x.toNat:Int)):=p0;replace p1:w1.cell? ⟨b1,o1+1,none⟩=some (.int .u8 (y.toNat:Int)):=p1;replace d1:w1.cell? ⟨b0,o0+q * 2+1,none⟩=some (.slice (some ⟨b1,o1,none⟩) 2 c1):=d1;replace hm:=lhd hm;replace h8:=lhd h8;clear hc1 hd2 hq3 hL0;have hxl:=x.toNat_lt;have hyl:=y.toNat_lt;have n1:IntKind.i64.wrap (x.toNat:Int)=(x.toNat:Int):=by rw[xwi];omega
   have n2:IntKind.i64.wrap (y.toNat:Int)=(y.toNat:Int):=by rw[xwi];omega
   clear hxl hyl
   go_upto_region 7 with (fail)
   go_big_region
   have x7:=(Box.new w1 133 [.slice none 0 0,.int .i64 (x.toNat:Int),.int .i64 (y.toNat:Int)]).below (bdrew _);have hb7:=lhd (bgo (balloc w1 (.cells #[.slice none 0 0,.int .i64 (x.toNat:Int),.int .i64 (y.toNat:Int)] 133)) (bdrew _));change Box (w1.alloc (.cells #[.slice none 0 0,.int .i64 (x.toNat:Int),.int .i64 (y.toNat:Int)] 133)).drew _ _ _ at x7;replace x7:=lhd x7;clear p0 p1 d0 d1 s1 r0 r2 i1 n1 n2 hb1;generalize (w1.alloc (.cells #[.slice none 0 0,.int .i64 (x.toNat:Int),.int .i64 (y.toNat:Int)] 133)).drew=W7 at *;obtain⟨g7,hg7⟩:∃g,w1.heap.size=g:=⟨_,rfl⟩
   rw[hg7] at x7 ⊢;replace hg7:=lhd hg7;obtain⟨ti,hti,htz,hts,htb⟩:=info_parts link_infoC;replace hti:=lhd hti;replace htz:=lhd htz;replace hts:=lhd hts;replace htb:=lhd htb
   go_wp2_with fail
   have hlm2:=lhd (show l.length=3 * m+1 by rw[HL.out,hm.out])
   go_loopw [8] (fun t wr=>∃(i k:Nat) (v:Value),Hid (i=3 * k)/\i<=q/\t=.int .i64 i/\Hid (Box wr g7 133 [v,.int .i64 (x.toNat:Int),.int .i64 (y.toNat:Int)])/\Hid (OwnR wr W7.heap.size 108 v 3 k (linkS ((exK l m).take k)))/\Hid (Below w1.heap.size w1 wr)/\Hid (W7.heap.size<=wr.heap.size)/\Hid (∀k',k'<k->TyOk l k')) (fun t _=>q - (intOf t).toNat)
   case atStart=>exact⟨0,0,.slice none 0 0,rfl,by omega,rfl,x7,OwnR.nil _ _ _ _,hb7,Nat.le_refl _,fun k' h=>absurd h (Nat.not_lt_zero _)⟩
   case round=>
    obtain⟨i,k,v,hik,hiq,rfl,hx7,ho7,hb,hz,hty⟩:=hrel;obtain⟨Av,cv,rfl,-,-⟩:=ho7.out.sees.mk_;obtain⟨y0,y1,y2,f0,f1,f2⟩:=box3_cells hx7.out
    by_cases hlt:i<q
    ·obtain⟨j1,hj1⟩:∃j,j=i+1:=⟨_,rfl⟩
     obtain⟨j2,hj2⟩:∃j,j=i+2:=⟨_,rfl⟩
     have hkm:Hid (k<m):=by show _<_;have:=hik.out;have:=hm.out;omega
     have i0:(i:Int)<(q:Int):=by omega
     have i4:(0:Int)<=(i:Int):=by omega
     have i5:(i:Int)<(q:Int)+1:=by omega
     have i6:(0:Int)<=(j1:Int):=by omega
     have i7:(j1:Int)<(q:Int)+1:=by omega
     have i8:(0:Int)<=(j2:Int):=by omega
     have i9:(j2:Int)<(q:Int)+1:=by have:=hik.out;have:=hm.out;omega
     obtain⟨b',o',A1,c1,e,-,u0,q0,s0⟩:=hfd.out i (by omega);cases e;obtain⟨b',o',A2,c2,e,-,u1,q1,s1⟩:=hfd.out j1 (by omega);cases e;obtain⟨b',o',A3,c3,e,-,u2,q2,s2⟩:=hfd.out j2 (by have:=hik.out;have:=hm.out;omega);cases e;have p0:=(hb.out.cell (p:=⟨b0,o0+i * 2+1,none⟩) hb0).trans q0;have p1:=(hb.out.cell (p:=⟨b0,o0+j1 * 2+1,none⟩) hb0).trans q1;have p2:=(hb.out.cell (p:=⟨b0,o0+j2 * 2+1,none⟩) hb0).trans q2;replace u0:=(hb.out.cell (p:=⟨b0,o0+i * 2,none⟩) hb0).trans u0;replace u1:=(hb.out.cell (p:=⟨b0,o0+j1 * 2,none⟩) hb0).trans u1;replace u2:=(hb.out.cell (p:=⟨b0,o0+j2 * 2,none⟩) hb0).trans u2;have v1:=u1;have v2:=u2;rw[show o0+j1 * 2=o0+(i+1) * 2 by rw[hj1]] at v1;rw[show o0+j2 * 2=o0+(i+2) * 2 by rw[hj2]] at v2;have i6b:(0:Int)<=(i:Int)+1:=by omega
     have i8b:(0:Int)<=(i:Int)+2:=by omega
     have i9b:(i:Int)+2<(q:Int)+1:=by have:=hik.out;have:=hm.out;omega
     have n1b:IntKind.i64.wrap ((i:Int)+1)=(i:Int)+1:=by rw[xwi];omega
     have n2b:IntKind.i64.wrap ((i:Int)+2)=(i:Int)+2:=by rw[xwi];omega
     have n7:((i:Int)+2).toNat=i+2:=by omega
     have ht:trip l k=((l.getD i (0,[])).2,(l.getD j1 (0,[])).2,(l.getD j2 (0,[])).2):=by rw[hj1,hj2,hik.out];rfl
     have htt:TyOk l k↔((l.getD i (0,[])).1=1/\(l.getD j1 (0,[])).1=2/\(l.getD j2 (0,[])).1=3):=by rw[hj1,hj2,hik.out];rfl
     have K:Hid (∀W,Below w1.heap.size w1 W->W.cell? ⟨b0,o0+i * 2+1,none⟩=some (.slice A1 (l.getD i (0,[])).2.length c1)/\W.cell? ⟨b0,o0+j1 * 2+1,none⟩=some (.slice A2 (l.getD j1 (0,[])).2.length c2)/\W.cell? ⟨b0,o0+j2 * 2+1,none⟩=some (.slice A3 (l.getD j2 (0,[])).2.length c3)):=fun W hW=>⟨(hW.cell (p:=⟨b0,o0+i * 2+1,none⟩) hb0).trans q0,(hW.cell (p:=⟨b0,o0+j1 * 2+1,none⟩) hb0).trans q1,(hW.cell (p:=⟨b0,o0+j2 * 2+1,none⟩) hb0).trans q2⟩
     have KS:Hid (∀W (v:Value),Below w1.heap.size w1 W->(W.setCell ⟨g7,0,none⟩ v).cell? ⟨b0,o0+i * 2+1,none⟩=some (.slice A1 (l.getD i (0,[])).2.length c1)/\(W.setCell ⟨g7,0,none⟩ v).cell? ⟨b0,o0+j1 * 2+1,none⟩=some (.slice A2 (l.getD j1 (0,[])).2.length c2)/\(W.setCell ⟨g7,0,none⟩ v).cell? ⟨b0,o0+j2 * 2+1,none⟩=some (.slice A3 (l.getD j2 (0,[])).2.length c3)):=fun W v hW=>K.out _ (hW.setCell (p:=⟨g7,0,none⟩) (Nat.le_of_eq hg7.out) v)
     have hbig:∀j,(l.getD j (0,[])).2.length<65536:=fun j=>by
      rw[xgd];cases hj:l[j]? with
      | none=>simp
      | some x=>exact (hR.out.1 x (List.mem_of_getElem? hj)).2
     have hl0:=hbig i;have hl1:=hbig j1;have hl2:=hbig j2;have hst:=exK_take hkm.out (l:=l);rw[ht] at hst;generalize (l.getD i (0,[])).2=e1 at *;generalize (l.getD j1 (0,[])).2=e2 at *;generalize (l.getD j2 (0,[])).2=e3 at *;generalize (l.getD i (0,[])).1=ta at *;generalize (l.getD j1 (0,[])).1=tb at *;generalize (l.getD j2 (0,[])).1=tc at *;replace hst:=lhd hst;replace htt:=lhd htt;clear ht q0 q1 q2 hbig
     by_cases hT:ta=1/\tb=2/\tc=3
     rotate_left
     ·have hD:Hid (DecL l none):=tyOk_no hlm2.out hkm.out (fun h=>hT (htt.out.1 h))
      have hbz:=lhd (bgo hal.out hb.out);have x2s:=x2w.out.below hb.out;obtain⟨t0,t1,t2,r0,r1,r2⟩:=box3_cells x2s;clear K KS hst htt hn0 hu0 hal hu1 hR hfd ho hx ho7 s0 s1 s2
      by_cases ha:ta=1
      ·subst ha
       replace u0:wr.cell? ⟨b0,o0+i * 2,none⟩=some (.int .i64 1):=u0
       by_cases hb2:tb=2
       ·subst hb2
        replace u1:wr.cell? ⟨b0,o0+j1 * 2,none⟩=some (.int .i64 2):=u1;replace v1:wr.cell? ⟨b0,o0+(i+1) * 2,none⟩=some (.int .i64 2):=v1;have e3:((tc:Int) != 3)=true:=by simp;omega
        clear hT
        go_wp2_with fail
        have kk:=box_lset3 x2s (.slice none 0 0) (.int .i64 0) (.int .i64 0);have kb:=lhd (below_set3 hbz.out hg2.out (.slice none 0 0) (.int .i64 0) (.int .i64 0));clear t0 t1 t2 r0 r1 r2 x2s;generalize ((wr.setCell ⟨g,0,none⟩ (.slice none 0 0)).setCell ⟨g,1,none⟩ (.int .i64 0)).setCell ⟨g,2,none⟩ (.int .i64 0)=W9 at *;obtain⟨z0,z1,z2,-,-,-⟩:=box3_cells kk
        try simp only[Exit.inBlock,Exit.then]
        refine bodyPost_ret (v:=.tuple #[.agg #[.slice none 0 0,.int .i64 0,.int .i64 0],.int .i64 3]) (by simp[results,results93,go_sem,z0,z1,z2]) rfl ?_;exact hfail.out hD.out _ kb.out
       have e2:((tb:Int) != 2)=true:=by simp;omega
       clear hT hb2
       go_wp2_with fail
       have kk:=box_lset3 x2s (.slice none 0 0) (.int .i64 0) (.int .i64 0);have kb:=lhd (below_set3 hbz.out hg2.out (.slice none 0 0) (.int .i64 0) (.int .i64 0));clear t0 t1 t2 r0 r1 r2 x2s;generalize ((wr.setCell ⟨g,0,none⟩ (.slice none 0 0)).setCell ⟨g,1,none⟩ (.int .i64 0)).setCell ⟨g,2,none⟩ (.int .i64 0)=W9 at *;obtain⟨z0,z1,z2,-,-,-⟩:=box3_cells kk
       try simp only[Exit.inBlock,Exit.then]
       refine bodyPost_ret (v:=.tuple #[.agg #[.slice none 0 0,.int .i64 0,.int .i64 0],.int .i64 3]) (by simp[results,results93,go_sem,z0,z1,z2]) rfl ?_;exact hfail.out hD.out _ kb.out
      have e1:((ta:Int) != 1)=true:=by simp;omega
      clear hT ha
      go_wp2_with fail
      have kk:=box_lset3 x2s (.slice none 0 0) (.int .i64 0) (.int .i64 0);have kb:=lhd (below_set3 hbz.out hg2.out (.slice none 0 0) (.int .i64 0) (.int .i64 0));clear t0 t1 t2 r0 r1 r2 x2s;generalize ((wr.setCell ⟨g,0,none⟩ (.slice none 0 0)).setCell ⟨g,1,none⟩ (.int .i64 0)).setCell ⟨g,2,none⟩ (.int .i64 0)=W9 at *;obtain⟨z0,z1,z2,-,-,-⟩:=box3_cells kk
      try simp only[Exit.inBlock,Exit.then]
      refine bodyPost_ret (v:=.tuple #[.agg #[.slice none 0 0,.int .i64 0,.int .i64 0],.int .i64 3]) (by simp[results,results93,go_sem,z0,z1,z2]) rfl ?_;exact hfail.out hD.out _ kb.out
     obtain⟨rfl,rfl,rfl⟩:=hT;have htyk:Hid (∀k',k'<k+1->TyOk l k'):=fun k' h=>by
      rcases Nat.lt_or_ge k' k with h1|h1
      ·exact hty.out k' h1
      rw[show k'=k from by omega];exact htt.out.2 ⟨rfl,rfl,rfl⟩
     replace hl0:=lhd hl0;replace hl1:=lhd hl1;replace hl2:=lhd hl2;have hcp:=lhd (rlcopy_any (e1,e2,e3) (.slice A1 e1.length c1) (.slice A2 e2.length c2) (.slice A3 e3.length c3) wr.drew (seesB_of (s0.below (hb.out)) hb.out.size (bdrew wr)) (seesB_of (s1.below hb.out) hb.out.size (bdrew wr)) (seesB_of (s2.below hb.out) hb.out.size (bdrew wr)) (by have:=hl0.out;show e1.length<=_;omega) (by have:=hl1.out;show e2.length<=_;omega) (by have:=hl2.out;show e3.length<=_;omega));have hv:Hid (∀j,(Value.slice Av k cv).ownBlock=some j->j<wr.heap.size):=fun j hj=>(ho7.out.lt j hj).2
     have hg7l:Hid (g7<W7.heap.size):=x7.out.lt;have hcnt:Hid (k+1<=1048576):=by show _<=_;have:=hkm.out;have:=hm.out;omega
     clear hn0 hu0 hal hu1 x2w hfail bad hlb hR HL hfd ho hx hg2 s0 s1 s2 htt hty hlm2;replace u0:wr.cell? ⟨b0,o0+i * 2,none⟩=some (.int .i64 1):=u0;replace u1:wr.cell? ⟨b0,o0+j1 * 2,none⟩=some (.int .i64 2):=u1;replace u2:wr.cell? ⟨b0,o0+j2 * 2,none⟩=some (.int .i64 3):=u2;replace v1:wr.cell? ⟨b0,o0+(i+1) * 2,none⟩=some (.int .i64 2):=v1;replace v2:wr.cell? ⟨b0,o0+(i+2) * 2,none⟩=some (.int .i64 3):=v2;rw[hj1,hj2] at K KS;have hbX:True:=trivial
     go_wp2_with fail
     clear u0 u1 u2 v1 v2;refine wp_region_noPanic ?_;refine wp_region_held_drew (S:=(fun W':World=>W'.cell? ⟨b0,o0+i * 2+1,none⟩=some (.slice A1 e1.length c1)/\W'.cell? ⟨b0,o0+(i+1) * 2+1,none⟩=some (.slice A2 e2.length c2)/\W'.cell? ⟨b0,o0+(i+2) * 2+1,none⟩=some (.slice A3 e3.length c3))) (by kernel_rfl) ?_ (fun hHeld=>?_)
     ·(try dsimp only);(first | (with_reducible exact K.out _ hbX) | (with_reducible exact KS.out _ _ hbX) | (with_reducible exact K.out _ hbY) | exact K.out _ (hb.out.trans ((bdrew wr).mono hb.out.size)) | (go_keep;done))
     refine wpAnyH_take (i:=0) (v:=?_) rfl (by kernel_rfl) (by kernel_rfl) (by kernel_rfl) (fun _ _ _ h=>h) (Or.inl ⟨by rfl,?_⟩) (by assumption) ?_;rotate_left 1
     ·intro w hSw;(try dsimp only at hSw);go_simp<;>(try with_reducible rfl)
     try simp only[Act.put,xsb,xsz,xss]
     refine wpAnyH_take (i:=2) (v:=?_) rfl (by kernel_rfl) (by kernel_rfl) (by kernel_rfl) (fun _ _ _ h=>h) (Or.inl ⟨by rfl,?_⟩) (by assumption) ?_;rotate_left 1
     ·intro w hSw;(try dsimp only at hSw);go_simp<;>(try with_reducible rfl)
     try simp only[Act.put,xsb,xsz,xss]
     refine wpAnyH_take (i:=3) (v:=?_) rfl (by kernel_rfl) (by kernel_rfl) (by kernel_rfl) (fun _ _ _ h=>h) (Or.inl ⟨by rfl,?_⟩) (by assumption) ?_;rotate_left 1
     ·intro w hSw;(try dsimp only at hSw);go_simp<;>(try with_reducible rfl)
     try simp only[Act.put,xsb,xsz,xss]
     refine wpAnyH_take (i:=4) (v:=?_) rfl (by kernel_rfl) (by kernel_rfl) (by kernel_rfl) (fun _ _ _ h=>h) (Or.inl ⟨by rfl,?_⟩) (by assumption) ?_;rotate_left 1
     ·intro w hSw;(try dsimp only at hSw);go_simp<;>(try with_reducible rfl)
     try simp only[Act.put,xsb,xsz,xss]
     refine wpAnyH_take (i:=5) (v:=?_) rfl (by kernel_rfl) (by kernel_rfl) (by kernel_rfl) (fun _ _ _ h=>h) (Or.inl ⟨by rfl,?_⟩) (by assumption) ?_;rotate_left 1
     ·intro w hSw;(try dsimp only at hSw);go_simp<;>(try with_reducible rfl)
     try simp only[Act.put,xsb,xsz,xss]
     refine wpAnyH_take (i:=6) (v:=?_) rfl (by kernel_rfl) (by kernel_rfl) (by kernel_rfl) (fun _ _ _ h=>h) (Or.inl ⟨by rfl,?_⟩) (by assumption) ?_;rotate_left 1
     ·intro w hSw;(try dsimp only at hSw);go_simp<;>(try with_reducible rfl)
     try simp only[Act.put,xsb,xsz,xss]
     refine wpAnyH_take (i:=7) (v:=?_) rfl (by kernel_rfl) (by kernel_rfl) (by kernel_rfl) (fun _ _ _ h=>h) (Or.inl ⟨by rfl,?_⟩) (by assumption) ?_;rotate_left 1
     ·intro w hSw;(try dsimp only at hSw);go_simp<;>(try with_reducible rfl)
     try simp only[Act.put,xsb,xsz,xss]
     refine wpAnyH_take (i:=8) (v:=?_) rfl (by kernel_rfl) (by kernel_rfl) (by kernel_rfl) (fun _ _ _ h=>h) (Or.inl ⟨by rfl,?_⟩) (by assumption) ?_;rotate_left 1
     ·intro w hSw;(try dsimp only at hSw);go_simp<;>(try with_reducible rfl)
     try simp only[Act.put,xsb,xsz,xss]
     refine wpAnyH_take (i:=9) (v:=?_) rfl (by kernel_rfl) (by kernel_rfl) (by kernel_rfl) (fun _ _ _ h=>h) (Or.inl ⟨by rfl,?_⟩) (by assumption) ?_;rotate_left 1
     ·intro w hSw;(try dsimp only at hSw);go_simp<;>(try with_reducible rfl)
     try simp only[Act.put,xsb,xsz,xss]
     refine wpAnyH_take (i:=10) (v:=?_) rfl (by kernel_rfl) (by kernel_rfl) (by kernel_rfl) (fun _ _ _ h=>h) (Or.inl ⟨by rfl,?_⟩) (by assumption) ?_;rotate_left 1
     ·intro w hSw;(try dsimp only at hSw);go_simp<;>(try with_reducible rfl)
     try simp only[Act.put,xsb,xsz,xss]
     refine wpAnyH_take (i:=11) (v:=?_) rfl (by kernel_rfl) (by kernel_rfl) (by kernel_rfl) (fun _ _ _ h=>h) (Or.inl ⟨by rfl,?_⟩) (by assumption) ?_;rotate_left 1
     ·intro w hSw;(try dsimp only at hSw);go_simp<;>(try with_reducible rfl)
     try simp only[Act.put,xsb,xsz,xss]
     refine wpAnyH_take (i:=12) (v:=?_) rfl (by kernel_rfl) (by kernel_rfl) (by kernel_rfl) (fun _ _ _ h=>h) (Or.inl ⟨by rfl,?_⟩) (by assumption) ?_;rotate_left 1
     ·intro w hSw;(try dsimp only at hSw);go_simp<;>(try with_reducible rfl)
     try simp only[Act.put,xsb,xsz,xss]
     refine wpAnyH_take (i:=13) (v:=?_) rfl (by kernel_rfl) (by kernel_rfl) (by kernel_rfl) (fun _ _ _ h=>h) (Or.inl ⟨by rfl,?_⟩) (by assumption) ?_;rotate_left 1
     ·intro w hSw;(try dsimp only at hSw);go_simp<;>(try with_reducible rfl)
     try simp only[Act.put,xsb,xsz,xss]
     refine wpAnyH_take (i:=14) (v:=?_) rfl (by kernel_rfl) (by kernel_rfl) (by kernel_rfl) (fun _ _ _ h=>h) (Or.inl ⟨by rfl,?_⟩) (by assumption) ?_;rotate_left 1
     ·intro w hSw;(try dsimp only at hSw);go_simp<;>(try with_reducible rfl)
     try simp only[Act.put,xsb,xsz,xss]
     refine wpAnyH_take (i:=15) (v:=?_) rfl (by kernel_rfl) (by kernel_rfl) (by kernel_rfl) (fun _ _ _ h=>h) (Or.inl ⟨by rfl,?_⟩) (by assumption) ?_;rotate_left 1
     ·intro w hSw;(try dsimp only at hSw);go_simp<;>(try with_reducible rfl)
     try simp only[Act.put,xsb,xsz,xss]
     refine wpAnyH_take (i:=16) (v:=?_) rfl (by kernel_rfl) (by kernel_rfl) (by kernel_rfl) (fun _ _ _ h=>h) (Or.inl ⟨by rfl,?_⟩) (by assumption) ?_;rotate_left 1
     ·intro w hSw;(try dsimp only at hSw);go_simp<;>(try with_reducible rfl)
     try simp only[Act.put,xsb,xsz,xss]
     refine wpAnyH_take (i:=17) (v:=?_) rfl (by kernel_rfl) (by kernel_rfl) (by kernel_rfl) (fun _ _ _ h=>h) (Or.inl ⟨by rfl,?_⟩) (by assumption) ?_;rotate_left 1
     ·intro w hSw;(try dsimp only at hSw);go_simp<;>(try with_reducible rfl)
     try simp only[Act.put,xsb,xsz,xss]
     refine wpAnyH_take (i:=18) (v:=?_) rfl (by kernel_rfl) (by kernel_rfl) (by kernel_rfl) (fun _ _ _ h=>h) (Or.inl ⟨by rfl,?_⟩) (by assumption) ?_;rotate_left 1
     ·intro w hSw;(try dsimp only at hSw);go_simp<;>(try with_reducible rfl)
     try simp only[Act.put,xsb,xsz,xss]
     refine wpAnyH_take (i:=19) (v:=?_) rfl (by kernel_rfl) (by kernel_rfl) (by kernel_rfl) (fun _ _ _ h=>h) (Or.inl ⟨by rfl,?_⟩) (by assumption) ?_;rotate_left 1
     ·intro w hSw;(try dsimp only at hSw);go_simp<;>(try with_reducible rfl)
     try simp only[Act.put,xsb,xsz,xss]
     refine wpAnyH_ready (rs:=[1,20]) (by kernel_rfl) (by simp) ?_;refine AllReadyH.cons (o:=_) rfl (fun Kq hKq=>?_) ?_
     ·go_simp
      refine hKq.out _ _ ?_ (fun hHeld=>?_)
      ·(try dsimp only);(first | (with_reducible exact K.out _ hbX) | (with_reducible exact KS.out _ _ hbX) | (with_reducible exact K.out _ hbY) | exact K.out _ (hb.out.trans ((bdrew wr).mono hb.out.size)) | (go_keep;done))
      clear hKq Kq
      try simp only[Act.put,xsb,xsz,xss]
      refine wpAnyH_ready (rs:=[20]) (by kernel_rfl) (by simp) ?_;refine AllReadyH.cons (o:=_) rfl (fun Kq hKq=>?_) ?_
      ·go_simp
       go_at_call 164
       with_reducible refine hcp.out.mono ?_
       rintro e w8 ⟨v1,v2,v3,rfl,t1,t2,t3,r1,r2,r3,hb80⟩;obtain⟨B1,d1,rfl,-,-⟩:=t1.mk_;obtain⟨B2,d2,rfl,-,-⟩:=t2.mk_;obtain⟨B3,d3,rfl,-,-⟩:=t3.mk_;have hbc:=bgo (bdrew wr) hb80;have hal9:=balloc w8 (.cells #[.slice B1 e1.length d1,.slice B2 e2.length d2,.slice B3 e3.length d3] 108);have hrec:=lhd (recs_lit w8 108 3 1 [.slice B1 e1.length d1,.slice B2 e2.length d2,.slice B3 e3.length d3] rfl (by unfold maxLen;omega));have hel:=lhd (trip3_elts (EltS.of_from (v:=.slice Av k cv) (seesB_of t1 nlr hal9) r1 hv.out) (EltS.of_from (v:=.slice Av k cv) (seesB_of t2 nlr hal9) r2 hv.out) (EltS.of_from (v:=.slice Av k cv) (seesB_of t3 nlr hal9) r3 hv.out));have ho2:=lhd (ho7.out.below (bgo hbc hal9));have hx8:=lhd (hx7.out.below (bgo hbc hal9));have yB:=(hx7.out.below hbc).cell 0;have yA:=hx8.out.cell 0;have hb8:=lhd (hb.out.trans ((bgo hbc hal9).mono hb.out.size));have hz8:Hid (W7.heap.size<=(w8.alloc (.cells #[.slice B1 e1.length d1,.slice B2 e2.length d2,.slice B3 e3.length d3] 108)).heap.size):=Nat.le_trans hz.out (bgo hbc hal9).size;have hbX:=hb.out.trans (hbc.mono hb.out.size);have hbY:=hb8.out;clear hal9 t1 t2 t3 r1 r2 r3
       go_wp2_with fail
       refine hKq.out _ _ ?_ (fun hHeld=>?_)
       ·(try dsimp only);(first | (with_reducible exact K.out _ hbX) | (with_reducible exact KS.out _ _ hbX) | (with_reducible exact K.out _ hbY) | exact K.out _ (hb.out.trans ((bdrew wr).mono hb.out.size)) | (go_keep;done))
       clear hKq Kq
       try simp only[Act.put,xsb,xsz,xss]
       refine wpAnyH_ready (rs:=[21]) (by kernel_rfl) (by simp) ?_;refine AllReadyH.cons (o:=_) rfl (fun Kq hKq=>?_) ?_
       ·go_simp
        refine hKq.out _ _ ?_ (fun hHeld=>?_)
        ·(try dsimp only);(first | (with_reducible exact K.out _ hbX) | (with_reducible exact KS.out _ _ hbX) | (with_reducible exact K.out _ hbY) | exact K.out _ (hb.out.trans ((bdrew wr).mono hb.out.size)) | (go_keep;done))
        clear hKq Kq
        try simp only[Act.put,xsb,xsz,xss]
        refine wpAnyH_ready (rs:=[22]) (by kernel_rfl) (by simp) ?_;refine AllReadyH.cons (o:=_) rfl (fun Kq hKq=>?_) ?_
        ·skip
         refine step_appR (by rfl) (.tmp 99) (.tmp 119) 104 108 underlying104 (by rfl) ti _ 3 72 hti.out htz.out hts.out htb.out (by rfl) (by omega) (by omega) W7.heap.size _ k _ (by rfl) ho2.out _ _ 1 _ (linkS [(e1,e2,e3)]) (by rfl) hrec.out (by rfl) hel.out hcnt.out hz8.out ?_;intro v' w' hW2 hb4;obtain⟨Aw,cw,rfl,-,-⟩:=hW2.sees.mk_;have hx9:Hid (Box w' g7 133 [.slice Av k cv,.int .i64 (x.toNat:Int),.int .i64 (y.toNat:Int)]):=(hb4.block g7 hg7l.out).trans hx8.out;have hbX:=hb8.out.trans (hb4.mono hb7.out.size);obtain⟨y0',y1',y2',f0',f1',f2'⟩:=box3_cells hx9.out;refine hKq.out _ _ ?_ (fun hHeld=>?_)
         ·(try dsimp only);(first | (with_reducible exact K.out _ hbX) | (with_reducible exact KS.out _ _ hbX) | (with_reducible exact K.out _ hbY) | exact K.out _ (hb.out.trans ((bdrew wr).mono hb.out.size)) | (go_keep;done))
         clear hKq Kq
         try simp only[Act.put,xsb,xsz,xss]
         refine wpAnyH_take (i:=23) (v:=?_) rfl (by kernel_rfl) (by kernel_rfl) (by kernel_rfl) (fun _ _ _ h=>h) (Or.inl ⟨by rfl,?_⟩) (by assumption) ?_;rotate_left 1
         ·intro w hSw;(try dsimp only at hSw);go_simp<;>(try with_reducible rfl)
         try simp only[Act.put,xsb,xsz,xss]
         refine wpAnyH_ready (rs:=[24]) (by kernel_rfl) (by simp) ?_;refine AllReadyH.cons (o:=_) rfl (fun Kq hKq=>?_) ?_
         ·go_simp
          refine hKq.out _ _ ?_ (fun hHeld=>?_)
          ·(try dsimp only);(first | (with_reducible exact K.out _ hbX) | (with_reducible exact KS.out _ _ hbX) | (with_reducible exact K.out _ hbY) | exact K.out _ (hb.out.trans ((bdrew wr).mono hb.out.size)) | (go_keep;done))
          clear hKq Kq
          try simp only[Act.put,xsb,xsz,xss]
          refine wpAnyH_done (by kernel_rfl) ?_ _;refine NoPanic.normal ?_;have haq:=lhd (addQD_done (ss:=linkS ((exK l m).take (k+1))) hx9.out (by rw[hst.out,linkS_append];exact hW2) hbX hg7l.out (Nat.le_of_eq hg7.out) (Nat.le_trans hz8.out hb4.size));clear y0' y1' y2' f0' f1' f2' hx9 hW2 hb4 hbX;generalize w'.setCell ⟨g7,0,none⟩ (.slice Aw (k+1) cw)=W9 at *;obtain⟨hx10,ho10,hb10,hz10⟩:=haq.out
          go_wp2_with fail
          go_roundw
          case rel=>exact⟨i+3,k+1,_,by have:=hik.out;show _=_;omega,by have:=hik.out;have:=hm.out;have:=hkm.out;omega,by go_num,hx10,ho10,hb10,hz10,htyk⟩
          case measure=>simp[intOf];omega
         exact AllReadyH.nil
        exact AllReadyH.nil
       exact AllReadyH.nil
      exact AllReadyH.nil
     refine AllReadyH.cons (o:=_) rfl (fun Kq hKq=>?_) ?_
     ·go_simp
      go_at_call 164
      with_reducible refine hcp.out.mono ?_
      rintro e w8 ⟨v1,v2,v3,rfl,t1,t2,t3,r1,r2,r3,hb80⟩;obtain⟨B1,d1,rfl,-,-⟩:=t1.mk_;obtain⟨B2,d2,rfl,-,-⟩:=t2.mk_;obtain⟨B3,d3,rfl,-,-⟩:=t3.mk_;have hbc:=bgo (bdrew wr) hb80;have hal9:=balloc w8 (.cells #[.slice B1 e1.length d1,.slice B2 e2.length d2,.slice B3 e3.length d3] 108);have hrec:=lhd (recs_lit w8 108 3 1 [.slice B1 e1.length d1,.slice B2 e2.length d2,.slice B3 e3.length d3] rfl (by unfold maxLen;omega));have hel:=lhd (trip3_elts (EltS.of_from (v:=.slice Av k cv) (seesB_of t1 nlr hal9) r1 hv.out) (EltS.of_from (v:=.slice Av k cv) (seesB_of t2 nlr hal9) r2 hv.out) (EltS.of_from (v:=.slice Av k cv) (seesB_of t3 nlr hal9) r3 hv.out));have ho2:=lhd (ho7.out.below (bgo hbc hal9));have hx8:=lhd (hx7.out.below (bgo hbc hal9));have yB:=(hx7.out.below hbc).cell 0;have yA:=hx8.out.cell 0;have hb8:=lhd (hb.out.trans ((bgo hbc hal9).mono hb.out.size));have hz8:Hid (W7.heap.size<=(w8.alloc (.cells #[.slice B1 e1.length d1,.slice B2 e2.length d2,.slice B3 e3.length d3] 108)).heap.size):=Nat.le_trans hz.out (bgo hbc hal9).size;have hbX:=hb.out.trans (hbc.mono hb.out.size);have hbY:=hb8.out;clear hal9 t1 t2 t3 r1 r2 r3
      go_wp2_with fail
      refine hKq.out _ _ ?_ (fun hHeld=>?_)
      ·(try dsimp only);(first | (with_reducible exact K.out _ hbX) | (with_reducible exact KS.out _ _ hbX) | (with_reducible exact K.out _ hbY) | exact K.out _ (hb.out.trans ((bdrew wr).mono hb.out.size)) | (go_keep;done))
      clear hKq Kq
      try simp only[Act.put,xsb,xsz,xss]
      refine wpAnyH_ready (rs:=[1,21]) (by kernel_rfl) (by simp) ?_;refine AllReadyH.cons (o:=_) rfl (fun Kq hKq=>?_) ?_
      ·go_simp
       refine hKq.out _ _ ?_ (fun hHeld=>?_)
       ·(try dsimp only);(first | (with_reducible exact K.out _ hbX) | (with_reducible exact KS.out _ _ hbX) | (with_reducible exact K.out _ hbY) | exact K.out _ (hb.out.trans ((bdrew wr).mono hb.out.size)) | (go_keep;done))
       clear hKq Kq
       try simp only[Act.put,xsb,xsz,xss]
       refine wpAnyH_ready (rs:=[21]) (by kernel_rfl) (by simp) ?_;refine AllReadyH.cons (o:=_) rfl (fun Kq hKq=>?_) ?_
       ·go_simp
        refine hKq.out _ _ ?_ (fun hHeld=>?_)
        ·(try dsimp only);(first | (with_reducible exact K.out _ hbX) | (with_reducible exact KS.out _ _ hbX) | (with_reducible exact K.out _ hbY) | exact K.out _ (hb.out.trans ((bdrew wr).mono hb.out.size)) | (go_keep;done))
        clear hKq Kq
        try simp only[Act.put,xsb,xsz,xss]
        refine wpAnyH_ready (rs:=[22]) (by kernel_rfl) (by simp) ?_;refine AllReadyH.cons (o:=_) rfl (fun Kq hKq=>?_) ?_
        ·skip
         refine step_appR (by rfl) (.tmp 99) (.tmp 119) 104 108 underlying104 (by rfl) ti _ 3 72 hti.out htz.out hts.out htb.out (by rfl) (by omega) (by omega) W7.heap.size _ k _ (by rfl) ho2.out _ _ 1 _ (linkS [(e1,e2,e3)]) (by rfl) hrec.out (by rfl) hel.out hcnt.out hz8.out ?_;intro v' w' hW2 hb4;obtain⟨Aw,cw,rfl,-,-⟩:=hW2.sees.mk_;have hx9:Hid (Box w' g7 133 [.slice Av k cv,.int .i64 (x.toNat:Int),.int .i64 (y.toNat:Int)]):=(hb4.block g7 hg7l.out).trans hx8.out;have hbX:=hb8.out.trans (hb4.mono hb7.out.size);obtain⟨y0',y1',y2',f0',f1',f2'⟩:=box3_cells hx9.out;refine hKq.out _ _ ?_ (fun hHeld=>?_)
         ·(try dsimp only);(first | (with_reducible exact K.out _ hbX) | (with_reducible exact KS.out _ _ hbX) | (with_reducible exact K.out _ hbY) | exact K.out _ (hb.out.trans ((bdrew wr).mono hb.out.size)) | (go_keep;done))
         clear hKq Kq
         try simp only[Act.put,xsb,xsz,xss]
         refine wpAnyH_take (i:=23) (v:=?_) rfl (by kernel_rfl) (by kernel_rfl) (by kernel_rfl) (fun _ _ _ h=>h) (Or.inl ⟨by rfl,?_⟩) (by assumption) ?_;rotate_left 1
         ·intro w hSw;(try dsimp only at hSw);go_simp<;>(try with_reducible rfl)
         try simp only[Act.put,xsb,xsz,xss]
         refine wpAnyH_ready (rs:=[24]) (by kernel_rfl) (by simp) ?_;refine AllReadyH.cons (o:=_) rfl (fun Kq hKq=>?_) ?_
         ·go_simp
          refine hKq.out _ _ ?_ (fun hHeld=>?_)
          ·(try dsimp only);(first | (with_reducible exact K.out _ hbX) | (with_reducible exact KS.out _ _ hbX) | (with_reducible exact K.out _ hbY) | exact K.out _ (hb.out.trans ((bdrew wr).mono hb.out.size)) | (go_keep;done))
          clear hKq Kq
          try simp only[Act.put,xsb,xsz,xss]
          refine wpAnyH_done (by kernel_rfl) ?_ _;refine NoPanic.normal ?_;have haq:=lhd (addQD_done (ss:=linkS ((exK l m).take (k+1))) hx9.out (by rw[hst.out,linkS_append];exact hW2) hbX hg7l.out (Nat.le_of_eq hg7.out) (Nat.le_trans hz8.out hb4.size));clear y0' y1' y2' f0' f1' f2' hx9 hW2 hb4 hbX;generalize w'.setCell ⟨g7,0,none⟩ (.slice Aw (k+1) cw)=W9 at *;obtain⟨hx10,ho10,hb10,hz10⟩:=haq.out
          go_wp2_with fail
          go_roundw
          case rel=>exact⟨i+3,k+1,_,by have:=hik.out;show _=_;omega,by have:=hik.out;have:=hm.out;have:=hkm.out;omega,by go_num,hx10,ho10,hb10,hz10,htyk⟩
          case measure=>simp[intOf];omega
         exact AllReadyH.nil
        exact AllReadyH.nil
       exact AllReadyH.nil
      refine AllReadyH.cons (o:=_) rfl (fun Kq hKq=>?_) ?_
      ·go_simp
       refine hKq.out _ _ ?_ (fun hHeld=>?_)
       ·(try dsimp only);(first | (with_reducible exact K.out _ hbX) | (with_reducible exact KS.out _ _ hbX) | (with_reducible exact K.out _ hbY) | exact K.out _ (hb.out.trans ((bdrew wr).mono hb.out.size)) | (go_keep;done))
       clear hKq Kq
       try simp only[Act.put,xsb,xsz,xss]
       refine wpAnyH_ready (rs:=[1]) (by kernel_rfl) (by simp) ?_;refine AllReadyH.cons (o:=_) rfl (fun Kq hKq=>?_) ?_
       ·go_simp
        refine hKq.out _ _ ?_ (fun hHeld=>?_)
        ·(try dsimp only);(first | (with_reducible exact K.out _ hbX) | (with_reducible exact KS.out _ _ hbX) | (with_reducible exact K.out _ hbY) | exact K.out _ (hb.out.trans ((bdrew wr).mono hb.out.size)) | (go_keep;done))
        clear hKq Kq
        try simp only[Act.put,xsb,xsz,xss]
        refine wpAnyH_ready (rs:=[22]) (by kernel_rfl) (by simp) ?_;refine AllReadyH.cons (o:=_) rfl (fun Kq hKq=>?_) ?_
        ·skip
         refine step_appR (by rfl) (.tmp 99) (.tmp 119) 104 108 underlying104 (by rfl) ti _ 3 72 hti.out htz.out hts.out htb.out (by rfl) (by omega) (by omega) W7.heap.size _ k _ (by rfl) ho2.out _ _ 1 _ (linkS [(e1,e2,e3)]) (by rfl) hrec.out (by rfl) hel.out hcnt.out hz8.out ?_;intro v' w' hW2 hb4;obtain⟨Aw,cw,rfl,-,-⟩:=hW2.sees.mk_;have hx9:Hid (Box w' g7 133 [.slice Av k cv,.int .i64 (x.toNat:Int),.int .i64 (y.toNat:Int)]):=(hb4.block g7 hg7l.out).trans hx8.out;have hbX:=hb8.out.trans (hb4.mono hb7.out.size);obtain⟨y0',y1',y2',f0',f1',f2'⟩:=box3_cells hx9.out;refine hKq.out _ _ ?_ (fun hHeld=>?_)
         ·(try dsimp only);(first | (with_reducible exact K.out _ hbX) | (with_reducible exact KS.out _ _ hbX) | (with_reducible exact K.out _ hbY) | exact K.out _ (hb.out.trans ((bdrew wr).mono hb.out.size)) | (go_keep;done))
         clear hKq Kq
         try simp only[Act.put,xsb,xsz,xss]
         refine wpAnyH_take (i:=23) (v:=?_) rfl (by kernel_rfl) (by kernel_rfl) (by kernel_rfl) (fun _ _ _ h=>h) (Or.inl ⟨by rfl,?_⟩) (by assumption) ?_;rotate_left 1
         ·intro w hSw;(try dsimp only at hSw);go_simp<;>(try with_reducible rfl)
         try simp only[Act.put,xsb,xsz,xss]
         refine wpAnyH_ready (rs:=[24]) (by kernel_rfl) (by simp) ?_;refine AllReadyH.cons (o:=_) rfl (fun Kq hKq=>?_) ?_
         ·go_simp
          refine hKq.out _ _ ?_ (fun hHeld=>?_)
          ·(try dsimp only);(first | (with_reducible exact K.out _ hbX) | (with_reducible exact KS.out _ _ hbX) | (with_reducible exact K.out _ hbY) | exact K.out _ (hb.out.trans ((bdrew wr).mono hb.out.size)) | (go_keep;done))
          clear hKq Kq
          try simp only[Act.put,xsb,xsz,xss]
          refine wpAnyH_done (by kernel_rfl) ?_ _;refine NoPanic.normal ?_;have haq:=lhd (addQD_done (ss:=linkS ((exK l m).take (k+1))) hx9.out (by rw[hst.out,linkS_append];exact hW2) hbX hg7l.out (Nat.le_of_eq hg7.out) (Nat.le_trans hz8.out hb4.size));clear y0' y1' y2' f0' f1' f2' hx9 hW2 hb4 hbX;generalize w'.setCell ⟨g7,0,none⟩ (.slice Aw (k+1) cw)=W9 at *;obtain⟨hx10,ho10,hb10,hz10⟩:=haq.out
          go_wp2_with fail
          go_roundw
          case rel=>exact⟨i+3,k+1,_,by have:=hik.out;show _=_;omega,by have:=hik.out;have:=hm.out;have:=hkm.out;omega,by go_num,hx10,ho10,hb10,hz10,htyk⟩
          case measure=>simp[intOf];omega
         exact AllReadyH.nil
        exact AllReadyH.nil
       exact AllReadyH.nil
      exact AllReadyH.nil
     exact AllReadyH.nil
    obtain rfl:i=q:=by omega
    have hkm:Hid (k=m):=by show _=_;have:=hik.out;have:=hm.out;omega
    have i0:¬(i:Int)<(i:Int):=by omega
    have hml:Hid ((exK l m).length=m):=exK_len _ _;have ho8:Hid (OwnR wr W7.heap.size 108 (.slice Av k cv) 3 (exK l m).length (linkS (exK l m))):=by
     have h:=ho7.out;rw[hkm.out,xtl (by rw[exK_len];exact Nat.le_refl _)] at h;show OwnR _ _ _ _ _ _ _;rw[exK_len,hkm.out];exact h
    have hD:Hid (DecL l (some (exK l m,x.toNat,y.toNat))):=dec_yes hlm2.out (by have:=h8.out;omega) (dec_types hlm2.out hx.out (fun k' h=>hty.out k' (by rw[hkm.out];exact h)));have hg7l:Hid (g7<W7.heap.size):=x7.out.lt;have hal1:Hid (Below w.heap.size w wr):=bgo hal.out hb.out;have x2s:=x2w.out.below hb.out;have hg0:Hid (g<w1.heap.size):=x2w.out.lt;clear hal hb x2w hu1 hfd ho bad x7 hb7 ho7 hfail hx hty hlm2;obtain⟨t0,t1,t2,r0,r1,r2⟩:=box3_cells x2s
    go_wp2_with fail
    have kk:=box_lset3 x2s (.slice Av k cv) (.int .i64 (x.toNat:Int)) (.int .i64 (y.toNat:Int));have kb:=lhd (below_set3 hal1.out hg2.out (.slice Av k cv) (.int .i64 (x.toNat:Int)) (.int .i64 (y.toNat:Int)));have ks:=lhd (ho8.out.pokes (g:=g) (by have:=hg0.out;have:=hg7l.out;have:=hg7.out;omega) x2s Av k cv (x.toNat:Int) (y.toNat:Int));clear t0 t1 t2 r0 r1 r2 x2s y0 y1 y2 f0 f1 f2;generalize ((wr.setCell ⟨g,0,none⟩ (.slice Av k cv)).setCell ⟨g,1,none⟩ (.int .i64 (x.toNat:Int))).setCell ⟨g,2,none⟩ (.int .i64 (y.toNat:Int))=W9 at *;obtain⟨z0,z1,z2,-,-,-⟩:=box3_cells kk;refine bodyPost_ret (v:=.tuple #[.agg #[.slice Av k cv,.int .i64 (x.toNat:Int),.int .i64 (y.toNat:Int)],.int .i64 0]) (by simp[results,results93,go_sem,z0,z1,z2]) rfl ?_;exact fdec_good hR.out hD.out ks.out.sees kb.out
end Go.Proofs.YtjgepckncogdaaaGreat
