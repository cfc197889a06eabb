/- Contracts of functions, walks, plain facts. Conditions: those of each theorem. -/
import Derived.Test.YtjgepckncogdaaaGreatVRWrite
import Derived.Test.YtjgepckncogdaaaGreatVLogD
import Derived.Test.YtjgepckncogdaaaGreatVHonest
set_option linter.unusedVariables false
set_option linter.unusedSimpArgs false
set_option maxRecDepth 100000
set_option maxHeartbeats 16000000
namespace Go.Proofs.YtjgepckncogdaaaGreat
open Go Go.RowKit _root_.Go.Proofs.Tryz
attribute [local go_sem ↓] Go.wp_at_zero Go.wp_at_succ
def PCopy (n9:Nat) (w1:World) (g9 k:Nat) (a b:Int) (ss:List Spec) (v:Value) (W:World):Prop:=
 Box W g9 133 [v,.int .i64 a,.int .i64 b]/\OwnR W n9 108 v 3 k ss/\Below w1.heap.size w1 W/\n9<=W.heap.size
theorem pcopy_next {n9 g9 k n c:Nat} {w1 w':World} {a b:Int} {ss:List Spec} {v':Value} {A:Option Addr} (hx:Box w' g9 133 [.slice A n c,.int .i64 a,.int .i64 b]) (ho:OwnR w' n9 108 v' 3 (k+1) ss) (hb:Below w1.heap.size w1 w') (hg:g9<n9) (hg1:w1.heap.size<=g9) (hz:n9<=w'.heap.size) :
 PCopy n9 w1 g9 (k+1) a b ss v' (w'.setCell ⟨g9,0,none⟩ v'):=
 ⟨by have:=hx.set 0 v';simpa only [xsz] using this,ho.poke hg hx (noB_pf _ _ _ _ _),hb.setCell (p:=⟨g9,0,none⟩) hg1 v',by simpa [World.setCell] using hz⟩
theorem rbfind_any (B:Nat) (u:Value) (ls:List LinkG) (w:World) (hu:SeesR w B u 3 ls.length (linkS ls)) (hB:B<=w.heap.size) (hn:ls.length<=1000) (hl:∀t∈ls,t.1.length<=1048576/\t.2.1.length<=1048576/\t.2.2.length<=1048576) :
 Calls prog 83 #[u] w (FindP ls w):=by
 obtain⟨A,c,rfl,hc0,-⟩:=hu.mk_;have hal:=balloc w (.cells #[.slice none 0 0,.int .i64 0,.int .i64 0] 133);have x2:=Box.new w 133 [.slice none 0 0,.int .i64 0,.int .i64 0];change Box (w.alloc (.cells #[.slice none 0 0,.int .i64 0,.int .i64 0] 133)) _ _ _ at x2;replace hu:=lhd ((hu.more hB).below hal);replace hal:=lhd hal;have hg2:Hid (w.heap.size<(w.alloc (.cells #[.slice none 0 0,.int .i64 0,.int .i64 0] 133)).heap.size):=x2.lt
 go_enter func83,ntmps83
 go_upto_region 1 with (fail)
 generalize w.alloc (.cells #[.slice none 0 0,.int .i64 0,.int .i64 0] 133)=W0 at *;have hver:=lhd (rcverify_any w.heap.size _ ls W0 hu.out (Nat.le_of_lt hg2.out) (by omega) (fun t ht=>(hl t ht).2.2));have hcv:Hid (cverC ls=0->(cverV ls).length=ls.length):=cverV_len;have hFP:Hid (FindP ls w=FindP ls w):=rfl;unfold CVerP at hver;replace hl:=lhd hl
 go_wp2_with fail
 refine hver.out.mono ?_;rintro e w1 ⟨v1,rfl,p1,hb1⟩;unfold FindP;generalize hC:cverC ls=C at *;replace hC:=lhd hC;have xb:=x2.below hb1;have hb:=lhd (bgo hal.out hb1)
 by_cases h0:C=0
 rotate_left
 ·obtain⟨A1,c1,rfl,-,-⟩:=p1.mk_
  have k0:=xb.cell 0;have k1:=xb.cell 1;have k2:=xb.cell 2;simp only[xqz,xqs] at k0 k1 k2;have f0:=xb.frozen 0;have f1:=xb.frozen 1;have f2:=xb.frozen 2;have hne:Hid (C≠0):=h0;clear hver p1 hb1;dsimp only
  go_wp2_with fail
  have hb3:=((hb.out.setCell (p:=⟨w.heap.size,0,none⟩) nlr (.slice none 0 0)).setCell (p:=⟨w.heap.size,1,none⟩) nlr (.int .i64 0)).setCell (p:=⟨w.heap.size,2,none⟩) nlr (.int .i64 0);have x3:=box_lset3 xb (.slice none 0 0) (.int .i64 0) (.int .i64 0);generalize ((w1.setCell ⟨w.heap.size,0,none⟩ (.slice none 0 0)).setCell ⟨w.heap.size,1,none⟩ (.int .i64 0)).setCell ⟨w.heap.size,2,none⟩ (.int .i64 0)=W7 at *;obtain⟨z0,z1,z2,-,-,-⟩:=box3_cells x3;refine bodyPost_ret (v:=.tuple #[.agg #[.slice none 0 0,.int .i64 0,.int .i64 0],.bool false,.int .i64 C]) (by simp[results,results83,go_sem,z0,z1,z2]) rfl ?_;exact .inl ⟨by rw[hC.out];exact hne.out,by rw[hC.out],hb3⟩
 subst h0;have hVl:=hcv.out rfl;generalize hV:cverV ls=V at *;rw[hVl] at p1;have hsp:=spanC2_sees p1;obtain⟨A1,c1,rfl,hc1,-⟩:=p1.mk_;have hgt:=spanC2_get V;rw[hVl] at hgt;have hu1:=lhd (hu.out.below (Below.mono hb1 (Nat.le_of_lt hg2.out)));have hgw:w.heap.size<w1.heap.size:=Nat.lt_of_lt_of_le hg2.out hb1.size;obtain⟨cv,b2,o2,hc2,hA2,hcell,hsl,hcs2⟩:=row_cells hu1.out rfl;replace hA2:=lhd hA2;replace hcell:=lhd hcell;replace hsl:=lhd hsl;replace hcs2:=lhd hcs2;replace hV:=lhd hV;replace hVl:=lhd hVl;replace hsp:=lhd hsp;replace hgt:=lhd hgt;replace xb:=lhd xb;clear hver hcv hu x2 hal hb1 p1;obtain⟨ti,hti,htz,hts,htb⟩:=info_parts link_infoC;replace hti:=lhd hti;replace htz:=lhd htz;replace hts:=lhd hts;replace htb:=lhd htb;dsimp only
 go_wp2_with fail
 go_loopw [7] (fun t wr=>∃j:Nat,j<=ls.length/\t=.int .i64 (j:Int)/\Hid (∀j',j'<j->∀i',i'<j'->agB ls V i' j'=false)/\Hid (Below w1.heap.size w1 wr)) (fun t _=>ls.length - (intOf t).toNat)
 case atStart=>exact⟨0,by omega,rfl,(fun j' h=>absurd h (Nat.not_lt_zero _)),Below.refl _ _⟩
 case round=>
  obtain⟨j,hj,rfl,hag,hbr⟩:=hrel
  by_cases hlt:j<ls.length
  ·have i0:(j:Int)<(ls.length:Int):=by omega
   go_wp2_with fail
   go_loopw [8] (fun t wi=>∃i:Nat,i<=j/\t=.int .i64 (i:Int)/\Hid (∀i',i'<i->agB ls V i' j=false)/\Hid (Below w1.heap.size w1 wi)) (fun t _=>j - (intOf t).toNat)
   case atStart=>exact⟨0,by omega,rfl,(fun i' h=>absurd h (Nat.not_lt_zero _)),hbr.out⟩
   case round=>
    obtain⟨i,hij,rfl,hai,hbi⟩:=hrel
    by_cases hlt2:i<j
    ·have i1:(i:Int)<(j:Int):=by omega
     have hga:=lhd (against_any _ _ _ _ ls V wr i j (hu1.out.below (Below.mono hbi.out (Nat.le_of_lt hgw))) (hsp.out.below hbi.out) hVl.out (by omega) hlt);cases hE:agB ls V i j with
     | false=>
       rw[hE] at hga;replace hE:=lhd hE
       go_wp2_with fail
       refine hga.out.mono ?_;rintro e w2 ⟨rfl,m,rfl⟩;dsimp only
       go_wp2_with fail
       go_roundw
       case rel=>
        refine⟨i+1,by omega,by go_num,?_,below_drewN hbi.out m⟩;intro i' h';rcases Nat.lt_or_ge i' i with h|h
        ·exact hai.out i' h
        obtain rfl:i'=i:=by omega
        exact hE.out
       case measure=>simp[intOf];omega
     | true=>
       rw[hE] at hga;replace hE:=lhd hE
       go_wp2_with fail
       refine hga.out.mono ?_;rintro e w2 ⟨rfl,m,rfl⟩;have hb2:=lhd (below_drewN hbi.out m);clear hga;generalize wr.drewN m=W2 at *;dsimp only
       go_upto_region 12 with (fail)
       have hal9:=balloc W2 (.cells #[.slice none 0 0,.int .i64 (i:Int),.int .i64 (j:Int)] 133);have x9:=Box.new W2 133 [.slice none 0 0,.int .i64 (i:Int),.int .i64 (j:Int)];change Box (W2.alloc (.cells #[.slice none 0 0,.int .i64 (i:Int),.int .i64 (j:Int)] 133)) _ _ _ at x9;have hb9:=lhd (bgo hb2.out hal9);obtain⟨n9,hn9⟩:∃n,(W2.alloc (.cells #[.slice none 0 0,.int .i64 (i:Int),.int .i64 (j:Int)] 133)).heap.size=n:=⟨_,rfl⟩
       have hg9:Hid (W2.heap.size<n9):=by show _<_;rw[<-hn9];exact x9.lt
       have hg91:Hid (w1.heap.size<=W2.heap.size):=hb2.out.size;replace hn9:=lhd hn9;clear hal9;generalize W2.alloc (.cells #[.slice none 0 0,.int .i64 (i:Int),.int .i64 (j:Int)] 133)=W9 at *;generalize W2.heap.size=g9 at *
       go_wp2_with fail
       go_loopw [10] (fun t wk=>∃k:Nat,k<=j+1/\t=.int .i64 (k:Int)/\∃v,PCopy n9 w1 g9 k (i:Int) (j:Int) (linkS (ls.take k)) v wk) (fun t _=>j+1 - (intOf t).toNat)
       case atStart=>exact⟨0,by omega,rfl,.slice none 0 0,x9,OwnR.nil _ _ _ _,hb9.out,Nat.le_of_eq hn9.out.symm⟩
       case round=>
        clear x9 hb9;obtain⟨k,hk,rfl,v9,x9,ho7,hb9,hz9⟩:=hrel;replace hz9:=lhd hz9;obtain⟨Av,cv9,rfl,-,-⟩:=ho7.sees.mk_
        by_cases hlk:k<j+1
        ·have k0:(k:Int)<=(j:Int):=by omega
         have k1:(k:Int)<(ls.length:Int):=by omega
         obtain⟨rfl,hbA⟩:=hA2.out (by omega);obtain⟨P0,n0,r0,y0⟩:=hsl.out (k * 3) (by omega);obtain⟨P1,n1,r1,y1⟩:=hsl.out (k * 3+1) (by omega);obtain⟨P2,n2,r2,y2⟩:=hsl.out (k * 3+2) (by omega);obtain⟨s0,s1,s2⟩:=hcs2.out k (by omega);have p0:=hcell.out (k * 3) (by omega);have p1:=hcell.out (k * 3+1) (by omega);have p2:=hcell.out (k * 3+2) (by omega);rw[y0] at p0 s0;rw[y1] at p1 s1;rw[y2] at p2 s2;rw[<-Nat.add_assoc] at p1 p2;obtain⟨l1,l2,l3⟩:=hl.out _ (link_mem (show k<ls.length by omega));have htk:Hid (linkS (ls.take k)++linkS [linkT ls k]=linkS (ls.take (k+1))):=by
          show _=_;rw[linkS_take ls k (linkT ls k) (by rw[linkT,xgd,xge (by omega)];rfl)]
          rfl
         obtain⟨e1,e2,e3,ht⟩:∃a b c,linkT ls k=(a,b,c):=⟨_,_,_,rfl⟩
         replace htk:=htk.out;rw[ht] at s0 s1 s2 l1 l2 l3 htk;replace htk:=lhd htk;clear ht;dsimp only at s0 s1 s2 l1 l2 l3;have hn0:n0=e1.length:=by obtain⟨_,_,e,-,-⟩:=s0.mk_;injection e
         have hn1:n1=e2.length:=by obtain⟨_,_,e,-,-⟩:=s1.mk_;injection e
         have hn2:n2=e3.length:=by obtain⟨_,_,e,-,-⟩:=s2.mk_;injection e
         subst hn0 hn1 hn2;have hwl:w.heap.size<=w1.heap.size:=Nat.le_of_lt hgw;have hbd:Hid (Below w1.heap.size w1 wr.drew):=bgo hb9 (bdrew wr);have hcp:=lhd (rlcopy_any (e1,e2,e3) (.slice P0 e1.length r0) (.slice P1 e2.length r1) (.slice P2 e3.length r2) wr.drew (seesB_of s0 hwl hbd.out) (seesB_of s1 hwl hbd.out) (seesB_of s2 hwl hbd.out) l1 l2 l3);have hb2l:b2<w1.heap.size:=by omega
         have hg9r:=x9.lt;have K:Hid (∀W,Below wr.heap.size wr W->W.cell? ⟨b2,o2+k * 3,none⟩=some (.slice P0 e1.length r0)/\W.cell? ⟨b2,o2+k * 3+1,none⟩=some (.slice P1 e2.length r1)/\W.cell? ⟨b2,o2+k * 3+2,none⟩=some (.slice P2 e3.length r2)/\W.cell? ⟨g9,0,none⟩=some (.slice Av k cv9)):=fun W hW=>
          have hW1:=bgo hb9 hW
          ⟨(hW1.cell (p:=⟨b2,o2+k * 3,none⟩) hb2l).trans p0,(hW1.cell (p:=⟨b2,o2+k * 3+1,none⟩) hb2l).trans p1,(hW1.cell (p:=⟨b2,o2+k * 3+2,none⟩) hb2l).trans p2,(x9.below hW).cell 0⟩
         have KB:Hid (∀W,Below w1.heap.size w1 W->W.cell? ⟨b2,o2+k * 3,none⟩=some (.slice P0 e1.length r0)/\W.cell? ⟨b2,o2+k * 3+1,none⟩=some (.slice P1 e2.length r1)/\W.cell? ⟨b2,o2+k * 3+2,none⟩=some (.slice P2 e3.length r2)):=fun W hW1=>
          ⟨(hW1.cell (p:=⟨b2,o2+k * 3,none⟩) hb2l).trans p0,(hW1.cell (p:=⟨b2,o2+k * 3+1,none⟩) hb2l).trans p1,(hW1.cell (p:=⟨b2,o2+k * 3+2,none⟩) hb2l).trans p2⟩
         have hv:Hid (∀q,(Value.slice Av k cv9).ownBlock=some q->q<wr.heap.size):=fun q hq=>(ho7.lt q hq).2
         have hcnt:Hid (k+1<=1048576):=by show _<=_;omega
         have hz1:Hid (w1.heap.size<=n9):=Nat.le_trans hg91.out (Nat.le_of_lt hg9.out);have kA:=K.out wr.drew (bdrew wr);replace x9:=lhd x9;replace ho7:=lhd ho7;replace hb9:=lhd hb9;clear p0 p1 p2 s0 s1 s2 y0 y1 y2 l1 l2 l3 hsl hcell hcs2 hA2 hu1 hsp hl hn9 hFP hgt hag hai hbr hbi hg9r hg2 xb hVl hV hE hb hb2
         go_wp2_with fail
         refine wp_region_J (fun W':World=>W'.cell? ⟨b2,o2+k * 3,none⟩=some (.slice P0 e1.length r0)/\W'.cell? ⟨b2,o2+k * 3+1,none⟩=some (.slice P1 e2.length r1)/\W'.cell? ⟨b2,o2+k * 3+2,none⟩=some (.slice P2 e3.length r2)/\W'.cell? ⟨g9,0,none⟩=some (.slice Av k cv9)) 10 (by kernel_rfl) ?_ (fun hHeld=>?_)
         ·(try dsimp only);(first | exact kC | exact kB | exact kA)
         refine wpAnyJ_take0 (i:=0) (v:=?_) rfl (by kernel_rfl) (by kernel_rfl) (by kernel_rfl) (fun _ _ _ h=>h) (by rfl) (Or.inl ⟨by rfl,?_⟩) (by assumption) ?_;rotate_left 1
         ·intro w hSw;(try dsimp only at hSw);go_simp<;>(try with_reducible rfl)
         try simp only[Act.put,xgt,List.getElem_cons_succ,xgz,xsb,xsz,xss]
         refine wpAnyJ_take (i:=1) (v:=?_) rfl (by kernel_rfl) (by kernel_rfl) (by kernel_rfl) (fun _ _ _ h=>h) (by rfl) rfl (by kernel_rfl) (by kernel_rfl) (Or.inl ⟨by rfl,?_⟩) (by assumption) ?_;rotate_left 1
         ·intro w hSw;(try dsimp only at hSw);go_simp<;>(try with_reducible rfl)
         try simp only[Act.put,xgt,List.getElem_cons_succ,xgz,xsb,xsz,xss]
         refine wpAnyJ_take0 (i:=2) (v:=?_) rfl (by kernel_rfl) (by kernel_rfl) (by kernel_rfl) (fun _ _ _ h=>h) (by rfl) (Or.inl ⟨by rfl,?_⟩) (by assumption) ?_;rotate_left 1
         ·intro w hSw;(try dsimp only at hSw);go_simp<;>(try with_reducible rfl)
         try simp only[Act.put,xgt,List.getElem_cons_succ,xgz,xsb,xsz,xss]
         refine wpAnyJ_take0 (i:=3) (v:=?_) rfl (by kernel_rfl) (by kernel_rfl) (by kernel_rfl) (fun _ _ _ h=>h) (by rfl) (Or.inl ⟨by rfl,?_⟩) (by assumption) ?_;rotate_left 1
         ·intro w hSw;(try dsimp only at hSw);go_simp<;>(try with_reducible rfl)
         try simp only[Act.put,xgt,List.getElem_cons_succ,xgz,xsb,xsz,xss]
         refine wpAnyJ_take0 (i:=4) (v:=?_) rfl (by kernel_rfl) (by kernel_rfl) (by kernel_rfl) (fun _ _ _ h=>h) (by rfl) (Or.inl ⟨by rfl,?_⟩) (by assumption) ?_;rotate_left 1
         ·intro w hSw;(try dsimp only at hSw);go_simp<;>(try with_reducible rfl)
         try simp only[Act.put,xgt,List.getElem_cons_succ,xgz,xsb,xsz,xss]
         refine wpAnyJ_take (i:=5) (v:=?_) rfl (by kernel_rfl) (by kernel_rfl) (by kernel_rfl) (fun _ _ _ h=>h) (by rfl) rfl (by kernel_rfl) (by kernel_rfl) (Or.inl ⟨by rfl,?_⟩) (by assumption) ?_;rotate_left 1
         ·intro w hSw;(try dsimp only at hSw);go_simp<;>(try with_reducible rfl)
         try simp only[Act.put,xgt,List.getElem_cons_succ,xgz,xsb,xsz,xss]
         refine wpAnyJ_ready (rs:=[6]) (by kernel_rfl) (by simp) ?_;refine AllReadyJ.cons (o:=_) rfl (fun Kq hKq=>?_) ?_
         ·go_simp
          go_at_call 164
          with_reducible refine hcp.out.mono ?_
          rintro e w8 ⟨v1,v2,v3,rfl,t1,t2,t3,q1,q2,q3,hb80⟩;obtain⟨B1,d1,rfl,-,-⟩:=t1.mk_;obtain⟨B2,d2,rfl,-,-⟩:=t2.mk_;obtain⟨B3,d3,rfl,-,-⟩:=t3.mk_;have hbc:=bgo (bdrew wr) hb80;have kA:=K.out w8 hbc;have hal9:=balloc w8 (.cells #[.slice B1 e1.length d1,.slice B2 e2.length d2,.slice B3 e3.length d3] 108);have hrec:=lhd (recs_lit w8 108 3 1 [.slice B1 e1.length d1,.slice B2 e2.length d2,.slice B3 e3.length d3] rfl (by unfold maxLen;omega));have hel:=lhd (link_elts (t:=(e1,e2,e3)) (EltS.of_from (v:=.slice Av k cv9) (seesB_of t1 nlr hal9) q1 hv.out) (EltS.of_from (v:=.slice Av k cv9) (seesB_of t2 nlr hal9) q2 hv.out) (EltS.of_from (v:=.slice Av k cv9) (seesB_of t3 nlr hal9) q3 hv.out));have ho2:=lhd (ho7.out.below (bgo hbc hal9));have hx8:=lhd (x9.out.below (bgo hbc hal9));have hb8:=lhd (bgo hb9.out (bgo hbc hal9));have kB:=K.out _ (bgo hbc hal9);have hz8:Hid (n9<=(w8.alloc (.cells #[.slice B1 e1.length d1,.slice B2 e2.length d2,.slice B3 e3.length d3] 108)).heap.size):=Nat.le_trans hz9.out (bgo hbc hal9).size
          go_wp2_with fail
          refine hKq.out _ _ ?_ (fun hHeld=>?_)
          ·intro _;(try dsimp only);(first | exact kC | exact kB | exact kA)
          clear hKq Kq
          try simp only[Act.put,xgt,List.getElem_cons_succ,xgz,xsb,xsz,xss]
          refine wpAnyJ_ready (rs:=[7]) (by kernel_rfl) (by simp) ?_;refine AllReadyJ.cons (o:=_) rfl (fun Kq hKq=>?_) ?_
          ·go_simp
           refine hKq.out _ _ ?_ (fun hHeld=>?_)
           ·intro _;(try dsimp only);(first | exact kC | exact kB | exact kA)
           clear hKq Kq
           try simp only[Act.put,xgt,List.getElem_cons_succ,xgz,xsb,xsz,xss]
           refine wpAnyJ_ready (rs:=[8]) (by kernel_rfl) (by simp) ?_;refine AllReadyJ.cons (o:=_) rfl (fun Kq hKq=>?_) ?_
           ·skip
            refine step_appR (by rfl) (.tmp 45) (.tmp 51) 104 108 underlying104 (by rfl) ti _ 3 72 hti.out htz.out hts.out htb.out (by rfl) (by omega) (by omega) n9 _ k _ (by rfl) ho2.out _ _ 1 _ (linkS [(e1,e2,e3)]) (by rfl) hrec.out (by rfl) hel.out hcnt.out hz8.out ?_;intro v' w' hW2 hb4;obtain⟨Aw,cw,rfl,-,-⟩:=hW2.sees.mk_;have hx9:Hid (Box w' g9 133 [.slice Av k cv9,.int .i64 (i:Int),.int .i64 (j:Int)]):=(hb4.block g9 hg9.out).trans hx8.out;obtain⟨y0',y1',y2',f0',f1',f2'⟩:=box3_cells hx9.out;have kC0:=KB.out w' (hb8.out.trans (hb4.mono hz1.out));have kC:=And.intro kC0.1 (And.intro kC0.2.1 (And.intro kC0.2.2 y0'));refine hKq.out _ _ ?_ (fun hHeld=>?_)
            ·intro _;(try dsimp only);(first | exact kC | exact kB | exact kA)
            clear hKq Kq
            try simp only[Act.put,xgt,List.getElem_cons_succ,xgz,xsb,xsz,xss]
            refine wpAnyJ_take0 (i:=9) (v:=?_) rfl (by kernel_rfl) (by kernel_rfl) (by kernel_rfl) (fun _ _ _ h=>h) (by rfl) (Or.inl ⟨by rfl,?_⟩) (by assumption) ?_;rotate_left 1
            ·intro w hSw;(try dsimp only at hSw);go_simp<;>(try with_reducible rfl)
            try simp only[Act.put,xgt,List.getElem_cons_succ,xgz,xsb,xsz,xss]
            refine wpAnyJ_ready (rs:=[10]) (by kernel_rfl) (by simp) ?_;refine AllReadyJ.cons (o:=_) rfl (fun Kq hKq=>?_) ?_
            ·go_simp
             refine hKq.out _ _ ?_ (fun hHeld=>?_)
             ·intro hl;exact absurd hl (by decide)
             clear hKq Kq
             try simp only[Act.put,xgt,List.getElem_cons_succ,xgz,xsb,xsz,xss]
             refine wpAnyJ_done (by kernel_rfl) ?_ _
             go_wp2_with fail
             have hnx:=pcopy_next hx9.out hW2 (hb8.out.trans (hb4.mono hz1.out)) hg9.out hg91.out (Nat.le_trans hz8.out hb4.size);rw[htk.out] at hnx
             go_roundw
             case rel=>exact⟨k+1,by omega,by go_num,_,hnx⟩
             case measure=>simp[intOf];omega
            exact AllReadyJ.nil
           exact AllReadyJ.nil
          exact AllReadyJ.nil
         exact AllReadyJ.nil
        obtain rfl:k=j+1:=by omega
        obtain⟨m0,m1,m2,-,-,-⟩:=box3_cells x9;have hg9r:=x9.lt;have xe:=xb.out.below hb9;have k0:=xe.cell 0;have k1:=xe.cell 1;have k2:=xe.cell 2;simp only[xqz,xqs] at k0 k1 k2;have f0:=xe.frozen 0;have f1:=xe.frozen 1;have f2:=xe.frozen 2;have hlen:Hid ((ls.take (j+1)).length=j+1):=by show _=_;rw[xlt];omega
        have hF:FindR ls V (some (i,j)):=⟨hlt2,hlt,hE.out,fun j' hj' i' hi'=>hag.out j' hj' i' hi',fun i' hi'=>hai.out i' hi'⟩
        rw[<-hV.out] at hF;replace hF:=lhd hF;have hwn:Hid (w.heap.size<n9):=Nat.lt_of_lt_of_le hgw (Nat.le_trans hg91.out (Nat.le_of_lt hg9.out));clear hsl hcell hcs2 hA2 hu1 hsp hl hn9 hFP hgt hag hai hbr hbi hg9r hg2 hE
        go_wp2_with fail
        have hb3:=(((bgo hb.out hb9).setCell (p:=⟨w.heap.size,0,none⟩) nlr (.slice Av (j+1) cv9)).setCell (p:=⟨w.heap.size,1,none⟩) nlr (.int .i64 (i:Int))).setCell (p:=⟨w.heap.size,2,none⟩) nlr (.int .i64 (j:Int));have x3:=box_lset3 xe (.slice Av (j+1) cv9) (.int .i64 (i:Int)) (.int .i64 (j:Int));have o13:=ho7.pokes hwn.out xe Av (j+1) cv9 (i:Int) (j:Int);clear k0 k1 k2 f0 f1 f2 xe m0 m1 m2 x9;generalize ((wr.setCell ⟨w.heap.size,0,none⟩ (.slice Av (j+1) cv9)).setCell ⟨w.heap.size,1,none⟩ (.int .i64 (i:Int))).setCell ⟨w.heap.size,2,none⟩ (.int .i64 (j:Int))=W7 at *;obtain⟨z0,z1,z2,-,-,-⟩:=box3_cells x3;refine bodyPost_ret (v:=.tuple #[.agg #[.slice Av (j+1) cv9,.int .i64 (i:Int),.int .i64 (j:Int)],.bool true,.int .i64 0]) (by simp[results,results83,go_sem,z0,z1,z2]) rfl ?_;refine .inr (.inr ⟨hC.out,i,j,.slice Av (j+1) cv9,hF.out,rfl,?_,hb3⟩);rw[hlen.out];exact o13.sees
    obtain rfl:i=j:=by omega
    go_wp2_with fail
    go_roundw
    case rel=>
     refine⟨i+1,by omega,by go_num,?_,hbi.out⟩;intro j' h' i' hi';rcases Nat.lt_or_ge j' i with h|h
     ·exact hag.out j' h i' hi'
     obtain rfl:j'=i:=by omega
     exact hai.out i' hi'
    case measure=>simp[intOf];omega
  obtain rfl:j=ls.length:=by omega
  have xe:=xb.out.below hbr.out;have k0:=xe.cell 0;have k1:=xe.cell 1;have k2:=xe.cell 2;simp only[xqz,xqs] at k0 k1 k2;have f0:=xe.frozen 0;have f1:=xe.frozen 1;have f2:=xe.frozen 2
  go_wp2_with fail
  have hb3:=(((bgo hb.out hbr.out).setCell (p:=⟨w.heap.size,0,none⟩) nlr (.slice none 0 0)).setCell (p:=⟨w.heap.size,1,none⟩) nlr (.int .i64 0)).setCell (p:=⟨w.heap.size,2,none⟩) nlr (.int .i64 0);have x3:=box_lset3 xe (.slice none 0 0) (.int .i64 0) (.int .i64 0);clear k0 k1 k2 f0 f1 f2 xe;generalize ((wr.setCell ⟨w.heap.size,0,none⟩ (.slice none 0 0)).setCell ⟨w.heap.size,1,none⟩ (.int .i64 0)).setCell ⟨w.heap.size,2,none⟩ (.int .i64 0)=W7 at *;obtain⟨z0,z1,z2,-,-,-⟩:=box3_cells x3;refine bodyPost_ret (v:=.tuple #[.agg #[.slice none 0 0,.int .i64 0,.int .i64 0],.bool false,.int .i64 0]) (by simp[results,results83,go_sem,z0,z1,z2]) rfl ?_;have hF:FindR ls V none:=fun j' hj' i' hi'=>hag.out j' hj' i' hi'
  rw[<-hV.out] at hF;exact .inr (.inl ⟨hC.out,hF,rfl,hb3⟩)
theorem mid2_vS {lo hi:Int} (h:-1000<=lo/\lo<=hi/\hi<=1000):vS lo hi=true:=by
 unfold vS;rw[decide_eq_true_iff]
 omega
theorem mid2_inS {lo hi:Int} (h:-1000<=lo/\lo<=hi/\hi<=1000):inS lo hi (-1099511627776) 1099511627776=true:=by
 unfold inS;rw[mid2_vS h,wide_vS,decide_eq_true (by omega),decide_eq_true (by omega)]
 rfl
theorem box_row2 {W:World} {g size n:Nat} {T:TypeId} {xs:List Value} (h:Box W g T xs) (hl:xs.length=n * size) (hn:n<=maxLen:=by decide):Sees W W.heap.size (.slice (some ⟨g,0,none⟩) n n) size n xs:=
 ⟨hl,_,n,rfl,Nat.le_refl _,hn,fun _=>⟨g,0,rfl,h.lt,fun j u hj=>by rw[Nat.zero_add,h.cell];exact hj⟩⟩
def PfOk (v:Int) (ls:List LinkG):Prop:=
 ls.length=2/\(∀t∈ls,t.1.length=32/\t.2.1.length=32/\t.2.2.length<=2048)/\fencC ls 0 1=0/\fchkC ls 0 1=0/\(linkT ls 0).1=pubG (seedW v 0) 1
theorem pf_plain {v:Int} {ls:List LinkG} (hlen:ls.length=2) (hel:∀t∈ls,t.1.length=32/\t.2.1.length=32/\t.2.2.length<=2048) (k0:HonS ls 0 (seedW v 0) 50 60) (k1:HonS ls 1 (seedW v 0) 10 40) :
 cverC ls=0/\FindR ls (cverV ls) (some (0,1))/\PfOk v ls:=by
 have a0:=(honK_add k0.honK (by omega) (by omega) hel (mid2_vS (by omega)) (mid2_inS (by omega))).2.2.2;have a1:=(honK_add k1.honK (by omega) (by omega) hel (mid2_vS (by omega)) (mid2_inS (by omega))).2.2.2;have ha:=hon_all (ls:=ls) (sp:=fun k=>if k=0 then (50,60) else (10,40)) (by omega) (fun k hk=>by
  obtain rfl|rfl:k=0\/k=1:=by omega
  ·exact a0
  exact a1) 2 (by omega)
 rw[xtl (by omega)] at ha;obtain⟨hC,hV⟩:=ha;have hg:agB ls (cverV ls) 0 1=true:=by
  rw[hV];show (((linkT ls 0).1 == (linkT ls 1).1)&&decide ((40:Int)<50))=true;rw[k0.pub,k1.pub,beq_self_eq_true]
  rfl
 refine⟨hC,⟨by omega,by omega,hg,fun j' hj' i' hi'=>by omega,fun i' hi'=>by omega⟩,hlen,hel,?_,?_,k0.pub⟩
 ·unfold fencC
  rw[if_neg (by omega),if_pos (by omega)]
 rw[fchkC,if_pos hC]
 have:namesB ls 0 1=true:=by
  unfold namesB;rw[hlen];show (decide _&&agB ls (cverV ls) 0 1)=true;rw[hg,decide_eq_true (by omega)]
  rfl
 rw[this]
 rfl
theorem enc_small2 {ls:List Lk} (h8:ls.length<=8) (hl:∀t∈ls,t.1.length=32/\t.2.1.length=32/\t.2.2.length<=2048):(wrF (encF ls 0 0)).length<=65535:=by
 have h:∀ls:List Lk,(∀t∈ls,t.1.length=32/\t.2.1.length=32/\t.2.2.length<=2048)->(wrF (ls.flatMap lkF)).length<=2124 * ls.length:=by
  intro ls
  induction ls with
  | nil=>intro _;exact Nat.le_refl _
  | cons t ls ih=>
    intro hl;have h1:=ih fun x hx=>hl x (xmc _ hx)
    obtain⟨a1,a2,a3⟩:=hl t (List.mem_cons_self ..);rw[List.flatMap_cons,wrF_append,xla,xlc]
    have:(wrF (lkF t)).length=12+t.1.length+t.2.1.length+t.2.2.length:=by
     simp only[lkF,wrF_cons,wrF_nil,xla,fdB_len,List.length_nil]
     omega
    omega
 have h1:=h ls hl;rw[encF,wrF_append,xla,wrF_one,fdB_len];show _+(4+2)<=_
 omega
theorem pf_sizes {v:Int} {ls:List LinkG} (h:PfOk v ls):ls.length<=8->(wrF (encF ls 0 0)).length<=65535:=fun h8=>enc_small2 h8 h.2.1
def PfP (v:Int) (w:World) (e:Ending) (w':World):Prop:=
 ∃v1 v2 ls,e=.returned (.tuple #[v1,v2])/\PfOk v ls/\SeesB w' w'.heap.size v1 (fencB ls 0 1)/\SeesB w' w'.heap.size v2 (pubG (seedW v 0) 1)/\Below w.heap.size w w'
theorem lproof_any (v:Int) (w:World):Calls prog 21 #[.int .i64 v] w (PfP v w):=by
 have b1:=balloc w (.cells #[.int .i64 0,.int .i64 0] 3);have b2:=balloc (w.alloc (.cells #[.int .i64 0,.int .i64 0] 3)) (.cells #[.int .i64 50,.int .i64 60,.int .i64 10,.int .i64 40] 24);have x1:=(Box.new w 3 [.int .i64 0,.int .i64 0]).below b2;have x2:=Box.new (w.alloc (.cells #[.int .i64 0,.int .i64 0] 3)) 24 [.int .i64 50,.int .i64 60,.int .i64 10,.int .i64 40];rw[xsa] at x2;change Box ((w.alloc (.cells #[.int .i64 0,.int .i64 0] 3)).alloc (.cells #[.int .i64 50,.int .i64 60,.int .i64 10,.int .i64 40] 24)) _ _ _ at x1;change Box ((w.alloc (.cells #[.int .i64 0,.int .i64 0] 3)).alloc (.cells #[.int .i64 50,.int .i64 60,.int .i64 10,.int .i64 40] 24)) _ _ _ at x2;have hs1:Sees ((w.alloc (.cells #[.int .i64 0,.int .i64 0] 3)).alloc (.cells #[.int .i64 50,.int .i64 60,.int .i64 10,.int .i64 40] 24)) ((w.alloc (.cells #[.int .i64 0,.int .i64 0] 3)).alloc (.cells #[.int .i64 50,.int .i64 60,.int .i64 10,.int .i64 40] 24)).heap.size (.slice (some ⟨w.heap.size,0,none⟩) 2 2) 1 2 [.int .i64 0,.int .i64 0]:=box_row2 x1 rfl;have hs2:Sees ((w.alloc (.cells #[.int .i64 0,.int .i64 0] 3)).alloc (.cells #[.int .i64 50,.int .i64 60,.int .i64 10,.int .i64 40] 24)) ((w.alloc (.cells #[.int .i64 0,.int .i64 0] 3)).alloc (.cells #[.int .i64 50,.int .i64 60,.int .i64 10,.int .i64 40] 24)).heap.size (.slice (some ⟨w.heap.size+1,0,none⟩) 2 2) 2 2 [.int .i64 50,.int .i64 60,.int .i64 10,.int .i64 40]:=box_row2 x2 rfl
 have hch:=lhd (kchainS_any v 2 (by omega) (fun k=>0) (fun k=>if k=0 then (50,60) else (10,40)) _ _ (fun k hk=>by
  obtain rfl|rfl:k=0\/k=1:=by omega
  ·rfl
  ·rfl) (fun k hk=>by
  obtain rfl|rfl:k=0\/k=1:=by omega
  ·exact⟨rfl,rfl⟩
  ·exact⟨rfl,rfl⟩) (fun k=>by simp) (fun k hk=>by
  obtain rfl|rfl:k=0\/k=1:=by omega
  ·exact⟨mid2_vS (by simp),mid2_inS (by simp)⟩
  exact⟨mid2_vS (by simp),mid2_inS (by simp)⟩) _ _ _ hs1 hs2)
 have hbw:=lhd (bgo b1 b2);clear b1 b2 x1 x2 hs1 hs2
 go_enter func21,ntmps21
 go_wp2_with fail
 refine hch.out.mono ?_;rintro e w5 ⟨v5,ls,rfl,o5,hlen,hel,hho,hb5⟩;obtain⟨hC,hF,hok⟩:=pf_plain hlen hel (hho 0 (by omega)) (hho 1 (by omega));have o5s:=o5.own.sees;obtain⟨A5,c5,rfl,-,-⟩:=o5s.mk_;have he3:∀t∈ls,t.1.length<=1048576/\t.2.1.length<=1048576/\t.2.2.length<=1048576:=fun t ht=>by have:=hel t ht;omega
 have hf1:=lhd (rbfind_any w5.heap.size _ ls w5 o5s nlr (by omega) he3);replace hbw:=lhd (bgo hbw.out hb5);have hl8:=pf_sizes hok;replace hlen:=lhd hlen;replace hC:=lhd hC;replace hF:=lhd hF;clear o5 o5s he3 hel hho hb5 hch;dsimp only
 go_wp2_with fail
 refine hf1.out.mono ?_;intro e w6 h6;have h6':∃v6,e=.returned (.tuple #[.agg #[v6,.int .i64 0,.int .i64 1],.bool true,.int .i64 0])/\SeesR w6 w6.heap.size v6 3 ls.length (linkS ls)/\Below w5.heap.size w5 w6:=by
  rcases h6 with ⟨h,-⟩|⟨-,h,-⟩|⟨-,i,j,v,hr,h1,h2,h3⟩
  ·exact absurd hC.out h
  ·cases find_one hF.out h
  cases find_one hF.out hr;rw[xtl (by have:=hlen.out;omega)] at h2;exact⟨v,h1,h2,h3⟩
 obtain⟨v6,rfl,s6,hb6⟩:=h6';obtain⟨A6,c6,rfl,-,-⟩:=s6.mk_;have hal:=balloc w6 (.cells #[.slice A6 ls.length c6,.int .i64 0,.int .i64 1] 133);have x5:=Box.new w6 133 [.slice A6 ls.length c6,.int .i64 0,.int .i64 1];change Box (w6.alloc (.cells #[.slice A6 ls.length c6,.int .i64 0,.int .i64 1] 133)) _ _ _ at x5;replace s6:=SeesR.more (SeesR.below s6 hal) hal.size;have hen:=lhd (rbencode_any _ ls 0 1 _ s6 hl8);replace hbw:=lhd (bgo hbw.out (bgo hb6 hal));clear h6 hf1 hb6 hal hl8;dsimp only
 go_upto_region 3 with (fail)
 generalize w6.alloc (.cells #[.slice A6 ls.length c6,.int .i64 0,.int .i64 1] 133)=W6 at *;generalize w6.heap.size=g5 at *;obtain⟨y0,y1,y2,-,-,-⟩:=box3_cells x5;unfold FEncP at hen;generalize fencC ls 0 1=fc at *
 go_wp2_with fail
 refine hen.out.mono ?_;rintro e w7 ⟨v7,rfl,o7,hb7⟩;have s7:=o7.sees;obtain⟨A7,c7,rfl,-,-⟩:=s7.mk_;replace s6:=SeesR.more (SeesR.below s6 hb7) hb7.size;replace x5:=x5.below hb7;replace hbw:=lhd (bgo hbw.out hb7);clear y0 y1 y2 hen o7 hb7;obtain⟨b4,o4,B1,d1,B2,d2,B3,d3,rfl,-,z1,s1,-⟩:=link_at s6 0 (linkT ls 0) (by rw[linkT,xgd,xge (by have:=hlen.out;omega)];rfl);rw[Nat.zero_mul,Nat.add_zero] at z1;have i1:(0:Int)<(ls.length:Int):=by have:=hlen.out;omega
 rw[hok.2.2.2.2] at s1 z1;have hpost:=lhd (show PfP v w (.returned (.tuple #[.slice A7 (fencB ls 0 1).length c7,.slice B1 (pubG (seedW v 0) 1).length d1])) w7 from⟨_,_,ls,rfl,hok,s7,s1,hbw.out⟩);have hpostd:=lhd (show PfP v w (.returned (.tuple #[.slice A7 (fencB ls 0 1).length c7,.slice B1 (pubG (seedW v 0) 1).length d1])) w7.drew from⟨_,_,ls,rfl,hok,seesB_of s7 nlr (bdrew _),seesB_of s1 nlr (bdrew _),bgo hbw.out (bdrew _)⟩);obtain⟨y0,y1,y2,-,-,-⟩:=box3_cells x5;clear s6 s1 s7 hok x5;generalize fencB ls 0 1=fb at *;generalize pubG (seedW v 0) 1=pk at *;dsimp only
 go_upto_region 4 with (fail)
 go_region
 all_goals
  go_wp2_with fail
  go_returns
  first
   | exact hpost.out
   | exact hpostd.out
end Go.Proofs.YtjgepckncogdaaaGreat
