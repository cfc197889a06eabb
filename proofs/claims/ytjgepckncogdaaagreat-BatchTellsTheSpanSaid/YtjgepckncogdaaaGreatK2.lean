/- Contracts of functions, walks, plain facts. Conditions: those of each theorem. -/
import Derived.Test.YtjgepckncogdaaaGreatK1
set_option linter.unusedVariables false
set_option linter.unusedSimpArgs false
set_option maxRecDepth 100000
set_option maxHeartbeats 16000000
namespace Go.Proofs.YtjgepckncogdaaaGreat
open Go Go.RowKit _root_.Go.Proofs.Tryz
attribute [local go_sem ↓] Go.wp_at_zero Go.wp_at_succ
def BlockPost (gh:Nat) (T:TypeId) (s:St) (bs:Bs) (w:World) (e:Ending) (w':World):Prop:=
 e=.returned (.tuple #[])/\w'.rowIs gh T 8 (fun i=>wdV (stAt (compress s bs) i))/\w.grownBy w' (some gh)
theorem block_any (gh kg gb ob c:Nat) (T T':TypeId) (s:St) (bs:Bs) (w:World) (hlen:bs.length=64)
 (hs:w.rowIs gh T 8 (fun i=>wdV (stAt s i))) (hk:w.rowIs kg T' 64 (fun t=>wdV (kAt t))) (hgb:gb<w.heap.size)
 (hb:∀j,j<64->w.cell? ⟨gb,ob+j,none⟩=some (byV (bs.getD j 0))) :
 Calls prog 284 #[.pointer (some ⟨gh,0,none⟩),.slice (some ⟨gb,ob,none⟩) 64 c,.pointer (some ⟨kg,0,none⟩)] w (BlockPost gh T s bs w):=by
 have HS:=lhd hs;have HK:=lhd hk;have HB:=lhd hb;have l1:=hs.lt;have l2:=hk.lt;clear hs hk hb
 go_enter func284,ntmps284
 go_wp2_with fail
 refine wp_named (fun W=>Hid (W.rowIs w.heap.size 258 64 (fun _=>wdV 0))/\Below w.heap.size w W) ⟨rowIs_rep _ _ _ _ _ (by kernel_rfl),(Below.refl _ _).alloc nlr _⟩ ?_;rintro W0 ⟨hW,hbw⟩
 go_loopw [20] (fun t wr=>∃k:Nat,k<=16/\t=.int .i64 k/\Hid (wr.rowIs w.heap.size 258 64 (fun j=>if j<k then wdV (wordAt bs j) else wdV 0))/\Below w.heap.size w wr) (fun t _=>16 - (intOf t).toNat)
 case atStart=>exact⟨0,by omega,rfl,hW.out.congr (fun _ _=>by simp),hbw⟩
 case round=>
  obtain⟨k,hk16,rfl,hrow,hbr⟩:=hrel
  by_cases hlt:k<16
  ·have c0:=(hbr.cell (p:=⟨gb,ob+4 * k,none⟩) hgb).trans (HB.out (4 * k) (by omega))
   have c1:=(hbr.cell (p:=⟨gb,ob+(4 * k+1),none⟩) hgb).trans (HB.out (4 * k+1) (by omega));have c2:=(hbr.cell (p:=⟨gb,ob+(4 * k+2),none⟩) hgb).trans (HB.out (4 * k+2) (by omega));have c3:=(hbr.cell (p:=⟨gb,ob+(4 * k+3),none⟩) hgb).trans (HB.out (4 * k+3) (by omega));have cw:=hrow.out.cell (i:=k) (by omega);have fw:=hrow.out.frozen k;have hw:=word4_int (bs.getD (4 * k) 0) (bs.getD (4 * k+1) 0) (bs.getD (4 * k+2) 0) (bs.getD (4 * k+3) 0);rw[if_neg (by omega)] at cw;have Hw:=lhd hw;clear hw;unfold byV at c0 c1 c2 c3;unfold wdV at cw;have HX:Hid (word4 (bs.getD (4 * k) 0) (bs.getD (4 * k+1) 0) (bs.getD (4 * k+2) 0) (bs.getD (4 * k+3) 0)=wordAt bs k):=rfl;generalize bs.getD (4 * k) 0=x0 at *;generalize bs.getD (4 * k+1) 0=x1 at *;generalize bs.getD (4 * k+2) 0=x2 at *;generalize bs.getD (4 * k+3) 0=x3 at *;have e0:IntKind.i64.wrap (4 * (k:Int))=4 * (k:Int):=by rw[xwi];omega
   have l0a:(0:Int)<=4 * (k:Int):=by omega
   have l0b:4 * (k:Int)<64:=by omega
   have t0:(4 * (k:Int)).toNat=4 * k:=by omega
   have e1:IntKind.i64.wrap (4 * (k:Int)+1)=4 * (k:Int)+1:=by rw[xwi];omega
   have l1a:(0:Int)<=4 * (k:Int)+1:=by omega
   have l1b:4 * (k:Int)+1<64:=by omega
   have t1:(4 * (k:Int)+1).toNat=4 * k+1:=by omega
   have e2:IntKind.i64.wrap (4 * (k:Int)+2)=4 * (k:Int)+2:=by rw[xwi];omega
   have l2a:(0:Int)<=4 * (k:Int)+2:=by omega
   have l2b:4 * (k:Int)+2<64:=by omega
   have t2:(4 * (k:Int)+2).toNat=4 * k+2:=by omega
   have e3:IntKind.i64.wrap (4 * (k:Int)+3)=4 * (k:Int)+3:=by rw[xwi];omega
   have l3a:(0:Int)<=4 * (k:Int)+3:=by omega
   have l3b:4 * (k:Int)+3<64:=by omega
   have t3:(4 * (k:Int)+3).toNat=4 * k+3:=by omega
   have k0:(0:Int)<=(k:Int):=by omega
   have k1:(k:Int)<64:=by omega
   have hne:¬w.heap.size=gb:=by omega
   go_wp2_with fail
   go_region_held3 (fun w'=>w'.cell? ⟨gb,ob+4 * k,none⟩=some (.int .u8 x0.toNat)/\w'.cell? ⟨gb,ob+(4 * k+1),none⟩=some (.int .u8 x1.toNat)/\w'.cell? ⟨gb,ob+(4 * k+2),none⟩=some (.int .u8 x2.toNat)/\w'.cell? ⟨gb,ob+(4 * k+3),none⟩=some (.int .u8 x3.toNat)) (go_keep) (fail)
   go_wp2
   go_roundw
   case rel=>
    refine⟨k+1,by omega,by go_num,?_,(hbr.setCell nlr _).drew⟩;rw[Hw.out,HX.out];exact (hrow.out.set k _).congr (fun j hj=>by
     by_cases h1:j=k
     ·subst h1;rw[if_pos rfl,if_pos (by omega)];rfl
     rw[if_neg h1]
     by_cases h2:j<k
     ·rw[if_pos h2,if_pos (by omega)]
     rw[if_neg h2,if_neg (by omega)])
   case measure=>simp[intOf];omega
  ·have hrow2:Hid (wr.rowIs w.heap.size 258 64 (fun j=>if j<16 then wdV (sched (wordAt bs) j) else wdV 0)):=hrow.out.congr (fun j hj=>by
    obtain rfl:k=16:=by omega
    by_cases h2:j<16
    ·rw[if_pos h2,if_pos h2,sched,if_pos h2]
    rw[if_neg h2,if_neg h2])
   clear hrow hW hbw
   go_wp2_with fail
   obtain⟨S,hS⟩:∃S:Nat->Wd,S=sched (wordAt bs):=⟨_,rfl⟩
   have hSt:Hid (∀k,16<=k->sig1 (S (k - 2))+S (k - 7)+sig0 (S (k - 15))+S (k - 16)=S k):=fun k hk=>by
    rw[hS];exact ((sched_eq (wordAt bs) k).trans (if_neg (by omega))).symm
   rw[<-hS] at hrow2;have HSS:=lhd hS;clear hS;have hbr0:=hbr;obtain⟨wl,rfl⟩:∃wl:World,wl=wr:=⟨_,rfl⟩
   go_loopw [8] (fun t wr=>∃k:Nat,16<=k/\k<=64/\t=.int .i64 k/\Hid (wr.rowIs w.heap.size 258 64 (fun j=>if j<k then wdV (S j) else wdV 0))/\Below w.heap.size w wr) (fun t _=>64 - (intOf t).toNat)
   case atStart=>exact⟨16,by omega,by omega,rfl,hrow2,hbr⟩
   case round=>
    obtain⟨k,hk16,hk64,rfl,hrow,hbr⟩:=hrel
    by_cases hlt:k<64
    ·obtain⟨k15,e15⟩:∃m,k - 15=m:=⟨_,rfl⟩
     obtain⟨k2,e2⟩:∃m,k - 2=m:=⟨_,rfl⟩
     obtain⟨k7,e7⟩:∃m,k - 7=m:=⟨_,rfl⟩
     obtain⟨kk,e16⟩:∃m,k - 16=m:=⟨_,rfl⟩
     have c15:=hrow.out.cell (i:=k15) (by omega);have c2:=hrow.out.cell (i:=k2) (by omega);have c7:=hrow.out.cell (i:=k7) (by omega);have c16:=hrow.out.cell (i:=kk) (by omega);have cw:=hrow.out.cell (i:=k) (by omega);have fw:=hrow.out.frozen k;rw[if_pos (by omega)] at c15 c2 c7 c16;rw[if_neg (by omega)] at cw;have hst:=hSt.out k hk16;rw[e15,e2,e7,e16] at hst;have w15:IntKind.i64.wrap ((k:Int) - 15)=(k15:Int):=by rw[xwi];omega
     have w2:IntKind.i64.wrap ((k:Int) - 2)=(k2:Int):=by rw[xwi];omega
     have w7:IntKind.i64.wrap ((k:Int) - 7)=(k7:Int):=by rw[xwi];omega
     have w16:IntKind.i64.wrap ((k:Int) - 16)=(kk:Int):=by rw[xwi];omega
     have a15:(0:Int)<=(k15:Int):=by omega
     have a2:(0:Int)<=(k2:Int):=by omega
     have a7:(0:Int)<=(k7:Int):=by omega
     have a16:(0:Int)<=(kk:Int):=by omega
     have d15:(k15:Int)<64:=by omega
     have d2:(k2:Int)<64:=by omega
     have d7:(k7:Int)<64:=by omega
     have d16:(kk:Int)<64:=by omega
     have d0:(k:Int)<64:=by omega
     have a0:(0:Int)<=(k:Int):=by omega
     have hne7:k≠k7:=by omega
     have hne16:k≠kk:=by omega
     unfold wdV at c15 c2 c7 c16 cw;have HST:=lhd hst;clear hst e15 e2 e7 e16;generalize S k15=x at c15 HST;generalize S k2=y at c2 HST;generalize S k7=p at c7 HST;generalize S kk=q at c16 HST
     go_wp2_with fail
     go_quiet (fail)
     go_wp2_with (go_at_call 300;refine (rotate_any' _ _ _ rfl (by simp) _).mono ?_;rintro e w' ⟨rfl,rfl⟩)
     have hrow3:Hid ((wr.drewN nq).rowIs w.heap.size 258 64 (fun j=>if j<k then wdV (S j) else wdV 0)):=hrow;have hbr3:=below_drewN hbr nq;have z7:(wr.drewN nq).cell? ⟨w.heap.size,k7,none⟩=some (.int .u32 (p.toNat:Int)):=c7;have z16:(wr.drewN nq).cell? ⟨w.heap.size,kk,none⟩=some (.int .u32 (q.toNat:Int)):=c16;have zw:(wr.drewN nq).cell? ⟨w.heap.size,k,none⟩=some (.int .u32 ((0:Wd).toNat:Int)):=cw;have zf:(wr.drewN nq).frozen? ⟨w.heap.size,k,none⟩=false:=fw;clear c15 c2 c7 c16 cw fw hrow hbr w15 w2 a15 a2 d15 d2;generalize wr.drewN nq=w3 at hrow3 hbr3 z7 z16 zw zf ⊢;have y7:∀v,(w3.setCell ⟨w.heap.size,k,none⟩ v).cell? ⟨w.heap.size,k7,none⟩=some (.int .u32 (p.toNat:Int)):=fun v=>(World.cell?_setCell_other _ _ _ _ (fun e=>by injection e;omega)).trans z7
     have y16:∀v,(w3.setCell ⟨w.heap.size,k,none⟩ v).cell? ⟨w.heap.size,kk,none⟩=some (.int .u32 (q.toNat:Int)):=fun v=>(World.cell?_setCell_other _ _ _ _ (fun e=>by injection e;omega)).trans z16
     have HE:=lhd (sched_int x y p q);generalize bits .xor .u32 (bits .xor .u32 ((rotr y 17).toNat:Int) ((rotr y 19).toNat:Int)) ((y.toNat:Int) / 1024)=Y at HE ⊢;generalize bits .xor .u32 (bits .xor .u32 ((rotr x 7).toNat:Int) ((rotr x 18).toNat:Int)) ((x.toNat:Int) / 8)=X at HE ⊢
     go_region_held3 (fun w'=>w'.cell? ⟨w.heap.size,k7,none⟩=some (.int .u32 (p.toNat:Int))/\w'.cell? ⟨w.heap.size,kk,none⟩=some (.int .u32 (q.toNat:Int))) (go_keep) (fail)
     go_wp2
     go_roundw
     case rel=>
      refine⟨k+1,by omega,by omega,by go_num,?_,(hbr3.setCell nlr _).drew⟩;rw[HE.out,HST.out];exact (hrow3.out.set k _).congr (fun j hj=>by
       by_cases h1:j=k
       ·subst h1;rw[if_pos rfl,if_pos (by omega)];rfl
       rw[if_neg h1]
       by_cases h2:j<k
       ·rw[if_pos h2,if_pos (by omega)]
       rw[if_neg h2,if_neg (by omega)])
     case measure=>simp[intOf];omega
    have hrow2:Hid (wr.rowIs w.heap.size 258 64 (fun j=>wdV (S j))):=hrow.out.congr (fun j hj=>by rw[if_pos (by omega)]);clear hrow hbr0 hSt;have g0:wr.cell? ⟨gh,0,none⟩=some (.int .u32 (s.a.toNat:Int)):=(hbr.cell (p:=⟨gh,0,none⟩) l1).trans (HS.out.cell (i:=0) (by omega));have g1:wr.cell? ⟨gh,1,none⟩=some (.int .u32 (s.b.toNat:Int)):=(hbr.cell (p:=⟨gh,1,none⟩) l1).trans (HS.out.cell (i:=1) (by omega));have g2:wr.cell? ⟨gh,2,none⟩=some (.int .u32 (s.c.toNat:Int)):=(hbr.cell (p:=⟨gh,2,none⟩) l1).trans (HS.out.cell (i:=2) (by omega));have g3:wr.cell? ⟨gh,3,none⟩=some (.int .u32 (s.d.toNat:Int)):=(hbr.cell (p:=⟨gh,3,none⟩) l1).trans (HS.out.cell (i:=3) (by omega));have g4:wr.cell? ⟨gh,4,none⟩=some (.int .u32 (s.e.toNat:Int)):=(hbr.cell (p:=⟨gh,4,none⟩) l1).trans (HS.out.cell (i:=4) (by omega));have g5:wr.cell? ⟨gh,5,none⟩=some (.int .u32 (s.f.toNat:Int)):=(hbr.cell (p:=⟨gh,5,none⟩) l1).trans (HS.out.cell (i:=5) (by omega));have g6:wr.cell? ⟨gh,6,none⟩=some (.int .u32 (s.g.toNat:Int)):=(hbr.cell (p:=⟨gh,6,none⟩) l1).trans (HS.out.cell (i:=6) (by omega));have g7:wr.cell? ⟨gh,7,none⟩=some (.int .u32 (s.h.toNat:Int)):=(hbr.cell (p:=⟨gh,7,none⟩) l1).trans (HS.out.cell (i:=7) (by omega))
    go_wp2_with fail
    clear g0 g1 g2 g3 g4 g5 g6 g7;have hz:=hbr.size;have hlw:w.heap.size<wr.heap.size:=hrow2.out.lt;refine wp_named (fun W=>Hid (W.heap[wr.heap.size]?=some (.cells (stCells s).toArray 279))/\Hid (W.rowIs w.heap.size 258 64 (fun j=>wdV (S j)))/\Below w.heap.size w W/\wr.heap.size<W.heap.size) ⟨heap_alloc_new wr _,hrow2.out.alloc _,hbr.alloc hz _,by simp⟩ ?_;rintro W1 ⟨hv,hrow3,hbw1,hlv⟩;obtain⟨gv,hgv⟩:∃gv,gv=wr.heap.size:=⟨_,rfl⟩
    rw[<-hgv] at hv hlv ⊢;have HGV:=lhd hgv;have hlw':w.heap.size<gv:=by omega
    clear hgv hbr hrow2
    go_loopw [105] (fun t wr=>∃k:Nat,k<=64/\t=.int .i64 k/\Hid (wr.heap[gv]?=some (.cells (stCells (rnds s S k)).toArray 279))/\Hid (wr.rowIs w.heap.size 258 64 (fun j=>wdV (S j)))/\Below w.heap.size w wr/\gv<wr.heap.size) (fun t _=>64 - (intOf t).toNat)
    case atStart=>exact⟨0,by omega,rfl,hv,hrow3,hbw1,hlv⟩
    case round=>
     clear hv hrow3 hbw1 hlv;obtain⟨m,hm64,rfl,hvr,hwr,hbr,hlv⟩:=hrel
     by_cases hlt3:m<64
     ·have hnext:Hid (rnds s S (m+1)=rnd (rnds s S m) (kAt m) (S m)):=rfl
      have ck:=(hbr.cell (p:=⟨kg,m,none⟩) l2).trans (HK.out.cell (i:=m) hlt3);have cS:=hwr.out.cell (i:=m) hlt3;unfold wdV at ck cS;generalize kAt m=km at ck hnext;generalize S m=sm at cS hnext;generalize rnds s S m=q at hvr hnext ⊢;have v0:wr.cell? ⟨gv,0,none⟩=some (.int .u32 (q.a.toNat:Int)):=(cell_of_row wr gv 0 _ _ _ hvr.out).trans rfl;have v1:wr.cell? ⟨gv,1,none⟩=some (.int .u32 (q.b.toNat:Int)):=(cell_of_row wr gv 1 _ _ _ hvr.out).trans rfl;have v2:wr.cell? ⟨gv,2,none⟩=some (.int .u32 (q.c.toNat:Int)):=(cell_of_row wr gv 2 _ _ _ hvr.out).trans rfl;have v3:wr.cell? ⟨gv,3,none⟩=some (.int .u32 (q.d.toNat:Int)):=(cell_of_row wr gv 3 _ _ _ hvr.out).trans rfl;have v4:wr.cell? ⟨gv,4,none⟩=some (.int .u32 (q.e.toNat:Int)):=(cell_of_row wr gv 4 _ _ _ hvr.out).trans rfl;have v5:wr.cell? ⟨gv,5,none⟩=some (.int .u32 (q.f.toNat:Int)):=(cell_of_row wr gv 5 _ _ _ hvr.out).trans rfl;have v6:wr.cell? ⟨gv,6,none⟩=some (.int .u32 (q.g.toNat:Int)):=(cell_of_row wr gv 6 _ _ _ hvr.out).trans rfl;have v7:wr.cell? ⟨gv,7,none⟩=some (.int .u32 (q.h.toNat:Int)):=(cell_of_row wr gv 7 _ _ _ hvr.out).trans rfl;have m0:(0:Int)<=(m:Int):=by omega
      have m1:(m:Int)<64:=by omega
      go_wp2_with fail
      go_quiet (fail)
      go_wp2_with fail
      go_quiet ((go_at_call 300;exact quiet_on (rotate_q _ _ _ rfl (by simp) _)))
      go_wp2_with fail
      rw[tOne_int q km sm]
      go_quiet ((go_at_call 300;exact quiet_on (rotate_q _ _ _ rfl (by simp) _)))
      go_wp2_with fail
      rw[tTwo_int q];have hnx:=hnext.out;rw[rnd_eq] at hnx;have HN:=lhd hnx;clear hnx hnext;refine wp_world (fun W=>Hid (W.heap[gv]?=some (.cells (stCells q).toArray 279))/\Hid (W.rowIs w.heap.size 258 64 (fun j=>wdV (S j)))/\Below w.heap.size w W/\gv<W.heap.size) ⟨hvr,hwr,below_drewN (below_drewN hbr _) _,hlv⟩ ?_;clear v0 v1 v2 v3 v4 v5 v6 v7 ck cS hvr hwr hbr hlv;rintro W3 ⟨hvr,hwr,hbr,hlv⟩;generalize tOne q km sm=p1 at HN ⊢;generalize tTwo q=p2 at HN ⊢;have hsz:(prog.info? 22).map (·.size)=some 1:=by kernel_rfl
      go_region_law (refine step_copy_splice rfl (.tmp 168) (.tmp 169) 211 211 rfl 22 underlying211 hsz (some ⟨gv,1,none⟩) (some ⟨gv,0,none⟩) 7 7 7 8 (by simp[Act.eval,Act.put]) (by simp[Act.eval,Act.put]) gv 1 (stCells q) 279 hvr.out ((stCells q).take 7) rfl (fun _=>⟨rfl,⟨gv,0,none⟩,rfl,fun j v hj=>take_cells hvr.out j v hj⟩) (by simp[stCells]) (by simp[stCells,Value.oneCell']) gv _ (Below.refl _ _) nlr ?_;intro W4 hg4 hb4)
      have hvr4:W4.heap[gv]?=some (.cells #[.int .u32 (q.a.toNat:Int),.int .u32 (q.a.toNat:Int),.int .u32 (q.b.toNat:Int),.int .u32 (q.c.toNat:Int),.int .u32 (q.d.toNat:Int),.int .u32 (q.e.toNat:Int),.int .u32 (q.f.toNat:Int),.int .u32 (q.g.toNat:Int)] 279):=hg4.out;have hwr4:Hid (W4.rowIs w.heap.size 258 64 (fun j=>wdV (S j))):=hwr.out.of_block (hb4.block _ hlw');have hbr4:Below w.heap.size w W4:=hbr.drew.trans (hb4.mono (Nat.le_of_lt hlw'));have hlv4:gv<W4.heap.size:=Nat.lt_of_lt_of_le hlv hb4.size;have y0:=(cell_of_row W4 gv 0 _ _ _ hvr4).trans rfl;have y4:=(cell_of_row W4 gv 4 _ _ _ hvr4).trans rfl;have yf:∀o,W4.frozen? ⟨gv,o,none⟩=false:=fun o=>by simp[World.frozen?,hvr4]
      have HV4:=lhd hvr4;clear hvr4 hg4 hb4 hvr hwr hbr hlv hsz
      go_wp2
      go_roundw
      case rel=>
       refine⟨m+1,by omega,by go_num,?_,?_,(hbr4.setCell (by dsimp only;omega) _).setCell (by dsimp only;omega) _,by simp[World.setCell];omega⟩
       ·rw[HN.out,wd_add',wd_add']
        exact set_block _ gv 0 _ (set_block W4 gv 4 _ HV4.out)
       exact (hwr4.out.setOther (by dsimp only;omega) _).setOther (by dsimp only;omega) _
      case measure=>simp[intOf];omega
     ·have hq:Hid (compress s bs=addSt s (rnds s S m)):=by
       obtain rfl:m=64:=by omega
       unfold compress;rw[HSS.out];rfl
      generalize rnds s S m=q at hvr hq
      go_wp2_with fail
      have hrv:=lhd (stCells_row hvr.out);have hrh:Hid (wr.rowIs gh T 8 (fun j=>if j<0 then wdV (stAt (addSt s q) j) else wdV (stAt s j))):=(HS.out.of_block (hbr.block _ l1)).congr (fun j _=>by rw[if_neg (by omega)]);have hgr:=grown_of_below hbr (some gh);clear hvr hwr;obtain⟨wl2,rfl⟩:∃wl2:World,wl2=wr:=⟨_,rfl⟩
      go_loopw [181] (fun t wr=>∃m:Nat,m<=8/\t=.int .i64 m/\Hid (wr.rowIs gh T 8 (fun j=>if j<m then wdV (stAt (addSt s q) j) else wdV (stAt s j)))/\Hid (wr.rowIs gv 279 8 (fun j=>wdV (stAt q j)))/\w.grownBy wr (some gh)) (fun t _=>8 - (intOf t).toNat)
      case atStart=>exact⟨0,by omega,rfl,hrh,hrv,hgr⟩
      case round=>
       clear hrh hrv hgr hbr hlv;obtain⟨i,hi8,rfl,hrh,hrv,hgr⟩:=hrel
       by_cases hi:i<8
       ·have ch:=hrh.out.cell (i:=i) hi
        have cv:=hrv.out.cell (i:=i) hi;have fh:=hrh.out.frozen i;rw[if_neg (by omega)] at ch;unfold wdV at ch cv;have hadd:=lhd (addSt_at s q i hi);generalize stAt s i=x at ch hadd;generalize stAt q i=y at cv hadd;have i0:(0:Int)<=(i:Int):=by omega
        have i1:(i:Int)<8:=by omega
        have hne:¬gh=gv:=by omega
        have ych:∀v,(wr.setCell ⟨gh,i,none⟩ v).cell? ⟨gv,i,none⟩=some (.int .u32 (y.toNat:Int)):=fun v=>(World.cell?_setCell_other _ _ _ _ (fun e=>by injection e;omega)).trans cv
        go_wp2_with fail
        go_region
        go_wp2
        go_roundw
        case rel=>
         refine⟨i+1,by omega,by go_num,?_,hrv.out.setOther (by dsimp only;omega) _,grown_drew (only_setCell hgr (.inl rfl) _)⟩;rw[wd_add',hadd.out];exact (hrh.out.set i _).congr (fun j hj=>by
          by_cases h1:j=i
          ·subst h1;rw[if_pos rfl,if_pos (by omega)];rfl
          rw[if_neg h1]
          by_cases h2:j<i
          ·rw[if_pos h2,if_pos (by omega)]
          rw[if_neg h2,if_neg (by omega)])
        case measure=>simp[intOf];omega
       go_wp2_with fail
       go_end0
       exact⟨rfl,by rw[hq.out];exact hrh.out.congr (fun j hj=>by rw[if_pos (by omega)]),hgr⟩
theorem turn_any (x:Wd) (k:Int) (n:Nat) (hk:k=(n:Int)) (hn:n∈[2,6,7,11,13,17,18,19,22,25]) (w:World) :
 Calls prog 222 #[.int .u32 (x.toNat:Int),.int .i64 k] w fun e w'=>e=.returned (.int .u32 ((rotr x n).toNat:Int))/\w=w':=by
 simp only[List.mem_cons,List.not_mem_nil,or_false] at hn;have hx:=wd_lt x;rcases hn with rfl|rfl|rfl|rfl|rfl|rfl|rfl|rfl|rfl|rfl
 ·subst hk
  go_enter func222,ntmps222
  go_wp2
  go_ret
  exact⟨ret_int (by rw[wd_shl' x 30 _ (by decide),wd_shr x 2 _ (by decide),wd_or,BitVec.or_comm];rfl),rfl⟩
 ·subst hk
  go_enter func222,ntmps222
  go_wp2
  go_ret
  exact⟨ret_int (by rw[wd_shl' x 26 _ (by decide),wd_shr x 6 _ (by decide),wd_or,BitVec.or_comm];rfl),rfl⟩
 ·subst hk
  go_enter func222,ntmps222
  go_wp2
  go_ret
  exact⟨ret_int (by rw[wd_shl' x 25 _ (by decide),wd_shr x 7 _ (by decide),wd_or,BitVec.or_comm];rfl),rfl⟩
 ·subst hk
  go_enter func222,ntmps222
  go_wp2
  go_ret
  exact⟨ret_int (by rw[wd_shl' x 21 _ (by decide),wd_shr x 11 _ (by decide),wd_or,BitVec.or_comm];rfl),rfl⟩
 ·subst hk
  go_enter func222,ntmps222
  go_wp2
  go_ret
  exact⟨ret_int (by rw[wd_shl' x 19 _ (by decide),wd_shr x 13 _ (by decide),wd_or,BitVec.or_comm];rfl),rfl⟩
 ·subst hk
  go_enter func222,ntmps222
  go_wp2
  go_ret
  exact⟨ret_int (by rw[wd_shl' x 15 _ (by decide),wd_shr x 17 _ (by decide),wd_or,BitVec.or_comm];rfl),rfl⟩
 ·subst hk
  go_enter func222,ntmps222
  go_wp2
  go_ret
  exact⟨ret_int (by rw[wd_shl' x 14 _ (by decide),wd_shr x 18 _ (by decide),wd_or,BitVec.or_comm];rfl),rfl⟩
 ·subst hk
  go_enter func222,ntmps222
  go_wp2
  go_ret
  exact⟨ret_int (by rw[wd_shl' x 13 _ (by decide),wd_shr x 19 _ (by decide),wd_or,BitVec.or_comm];rfl),rfl⟩
 ·subst hk
  go_enter func222,ntmps222
  go_wp2
  go_ret
  exact⟨ret_int (by rw[wd_shl' x 10 _ (by decide),wd_shr x 22 _ (by decide),wd_or,BitVec.or_comm];rfl),rfl⟩
 subst hk
 go_enter func222,ntmps222
 go_wp2
 go_ret
 exact⟨ret_int (by rw[wd_shl' x 7 _ (by decide),wd_shr x 25 _ (by decide),wd_or,BitVec.or_comm];rfl),rfl⟩
theorem turn_q (x:Wd) (k:Int) (n:Nat) (hk:k=(n:Int)) (hn:n∈[2,6,7,11,13,17,18,19,22,25]) (w:World) :
 Calls prog 222 #[.int .u32 (x.toNat:Int),.int .i64 k] w fun e w'=>e=.returned (.int .u32 ((rotr x n).toNat:Int))/\w'=w:=(turn_any x k n hk hn w).mono fun _ _ h=>⟨h.1,h.2.symm⟩
def RBlockPost (s:St) (bs:Bs) (w:World) (e:Ending) (w':World):Prop:=
 ∃v,e=.returned v/\w'.ownsRow w.heap.size 22 1 v 8 (stCells (compress s bs))/\Below w.heap.size w w'
theorem rblock_any (gh oh ch kg ok ck gb ob c:Nat) (s:St) (bs:Bs) (w:World) (lh:gh<w.heap.size) (lk:kg<w.heap.size) (hgb:gb<w.heap.size)
 (hs:∀j,j<8->w.cell? ⟨gh,oh+j,none⟩=some (wdV (stAt s j))) (hk:∀j,j<64->w.cell? ⟨kg,ok+j,none⟩=some (wdV (kAt j)))
 (hb:∀j,j<64->w.cell? ⟨gb,ob+j,none⟩=some (byV (bs.getD j 0))) :
 Calls prog 158 #[.slice (some ⟨gh,oh,none⟩) 8 ch,.slice (some ⟨kg,ok,none⟩) 64 ck,.slice (some ⟨gb,ob,none⟩) 64 c] w (RBlockPost s bs w):=by
 have HS:=lhd hs;have HK:=lhd hk;have HB:=lhd hb;clear hs hk hb
 go_enter func158,ntmps158
 go_wp2_with fail
 refine wp_named (fun W=>Hid (W.rowIs w.heap.size 258 64 (fun _=>wdV 0))/\Below w.heap.size w W) ⟨rowIs_rep _ _ _ _ _ (by kernel_rfl),(Below.refl _ _).alloc nlr _⟩ ?_;rintro W0 ⟨hW,hbw⟩
 go_loopw [8] (fun t wr=>∃k:Nat,k<=16/\t=.int .i64 k/\Hid (wr.rowIs w.heap.size 258 64 (fun j=>if j<k then wdV (wordAt bs j) else wdV 0))/\Below w.heap.size w wr) (fun t _=>16 - (intOf t).toNat)
 case atStart=>exact⟨0,by omega,rfl,hW.out.congr (fun _ _=>by simp),hbw⟩
 case round=>
  obtain⟨k,hk16,rfl,hrow,hbr⟩:=hrel
  by_cases hlt:k<16
  ·have c0:=(hbr.cell (p:=⟨gb,ob+4 * k,none⟩) hgb).trans (HB.out (4 * k) (by omega))
   have c1:=(hbr.cell (p:=⟨gb,ob+(4 * k+1),none⟩) hgb).trans (HB.out (4 * k+1) (by omega));have c2:=(hbr.cell (p:=⟨gb,ob+(4 * k+2),none⟩) hgb).trans (HB.out (4 * k+2) (by omega));have c3:=(hbr.cell (p:=⟨gb,ob+(4 * k+3),none⟩) hgb).trans (HB.out (4 * k+3) (by omega));have cw:=hrow.out.cell (i:=k) (by omega);have fw:=hrow.out.frozen k;have hw:=word4_int (bs.getD (4 * k) 0) (bs.getD (4 * k+1) 0) (bs.getD (4 * k+2) 0) (bs.getD (4 * k+3) 0);rw[if_neg (by omega)] at cw;have Hw:=lhd hw;clear hw;unfold byV at c0 c1 c2 c3;unfold wdV at cw;have HX:Hid (word4 (bs.getD (4 * k) 0) (bs.getD (4 * k+1) 0) (bs.getD (4 * k+2) 0) (bs.getD (4 * k+3) 0)=wordAt bs k):=rfl;generalize bs.getD (4 * k) 0=x0 at *;generalize bs.getD (4 * k+1) 0=x1 at *;generalize bs.getD (4 * k+2) 0=x2 at *;generalize bs.getD (4 * k+3) 0=x3 at *;have e0:IntKind.i64.wrap (4 * (k:Int))=4 * (k:Int):=by rw[xwi];omega
   have l0a:(0:Int)<=4 * (k:Int):=by omega
   have l0b:4 * (k:Int)<64:=by omega
   have t0:(4 * (k:Int)).toNat=4 * k:=by omega
   have e1:IntKind.i64.wrap (4 * (k:Int)+1)=4 * (k:Int)+1:=by rw[xwi];omega
   have l1a:(0:Int)<=4 * (k:Int)+1:=by omega
   have l1b:4 * (k:Int)+1<64:=by omega
   have t1:(4 * (k:Int)+1).toNat=4 * k+1:=by omega
   have e2:IntKind.i64.wrap (4 * (k:Int)+2)=4 * (k:Int)+2:=by rw[xwi];omega
   have l2a:(0:Int)<=4 * (k:Int)+2:=by omega
   have l2b:4 * (k:Int)+2<64:=by omega
   have t2:(4 * (k:Int)+2).toNat=4 * k+2:=by omega
   have e3:IntKind.i64.wrap (4 * (k:Int)+3)=4 * (k:Int)+3:=by rw[xwi];omega
   have l3a:(0:Int)<=4 * (k:Int)+3:=by omega
   have l3b:4 * (k:Int)+3<64:=by omega
   have t3:(4 * (k:Int)+3).toNat=4 * k+3:=by omega
   have k0:(0:Int)<=(k:Int):=by omega
   have k1:(k:Int)<64:=by omega
   have hne:¬w.heap.size=gb:=by omega
   go_wp2_with fail
   go_region_held3 (fun w'=>w'.cell? ⟨gb,ob+4 * k,none⟩=some (.int .u8 x0.toNat)/\w'.cell? ⟨gb,ob+(4 * k+1),none⟩=some (.int .u8 x1.toNat)/\w'.cell? ⟨gb,ob+(4 * k+2),none⟩=some (.int .u8 x2.toNat)/\w'.cell? ⟨gb,ob+(4 * k+3),none⟩=some (.int .u8 x3.toNat)) (go_keep) (fail)
   go_wp2
   go_roundw
   case rel=>
    refine⟨k+1,by omega,by go_num,?_,(hbr.setCell nlr _).drew⟩;rw[Hw.out,HX.out];exact (hrow.out.set k _).congr (fun j hj=>by
     by_cases h1:j=k
     ·subst h1;rw[if_pos rfl,if_pos (by omega)];rfl
     rw[if_neg h1]
     by_cases h2:j<k
     ·rw[if_pos h2,if_pos (by omega)]
     rw[if_neg h2,if_neg (by omega)])
   case measure=>simp[intOf];omega
  ·have hrow2:Hid (wr.rowIs w.heap.size 258 64 (fun j=>if j<16 then wdV (sched (wordAt bs) j) else wdV 0)):=hrow.out.congr (fun j hj=>by
    obtain rfl:k=16:=by omega
    by_cases h2:j<16
    ·rw[if_pos h2,if_pos h2,sched,if_pos h2]
    rw[if_neg h2,if_neg h2])
   clear hrow hW hbw
   go_wp2_with fail
   obtain⟨S,hS⟩:∃S:Nat->Wd,S=sched (wordAt bs):=⟨_,rfl⟩
   have hSt:Hid (∀k,16<=k->sig1 (S (k - 2))+S (k - 7)+sig0 (S (k - 15))+S (k - 16)=S k):=fun k hk=>by
    rw[hS];exact ((sched_eq (wordAt bs) k).trans (if_neg (by omega))).symm
   rw[<-hS] at hrow2;have HSS:=lhd hS;clear hS;have hbr0:=hbr;obtain⟨wl,rfl⟩:∃wl:World,wl=wr:=⟨_,rfl⟩
   go_loopw [9] (fun t wr=>∃k:Nat,16<=k/\k<=64/\t=.int .i64 k/\Hid (wr.rowIs w.heap.size 258 64 (fun j=>if j<k then wdV (S j) else wdV 0))/\Below w.heap.size w wr) (fun t _=>64 - (intOf t).toNat)
   case atStart=>exact⟨16,by omega,by omega,rfl,hrow2,hbr⟩
   case round=>
    obtain⟨k,hk16,hk64,rfl,hrow,hbr⟩:=hrel
    by_cases hlt:k<64
    ·obtain⟨k15,e15⟩:∃m,k - 15=m:=⟨_,rfl⟩
     obtain⟨k2,e2⟩:∃m,k - 2=m:=⟨_,rfl⟩
     obtain⟨k7,e7⟩:∃m,k - 7=m:=⟨_,rfl⟩
     obtain⟨kk,e16⟩:∃m,k - 16=m:=⟨_,rfl⟩
     have c15:=hrow.out.cell (i:=k15) (by omega);have c2:=hrow.out.cell (i:=k2) (by omega);have c7:=hrow.out.cell (i:=k7) (by omega);have c16:=hrow.out.cell (i:=kk) (by omega);have cw:=hrow.out.cell (i:=k) (by omega);have fw:=hrow.out.frozen k;rw[if_pos (by omega)] at c15 c2 c7 c16;rw[if_neg (by omega)] at cw;have hst:=hSt.out k hk16;rw[e15,e2,e7,e16] at hst;have w15:IntKind.i64.wrap ((k:Int) - 15)=(k15:Int):=by rw[xwi];omega
     have w2:IntKind.i64.wrap ((k:Int) - 2)=(k2:Int):=by rw[xwi];omega
     have w7:IntKind.i64.wrap ((k:Int) - 7)=(k7:Int):=by rw[xwi];omega
     have w16:IntKind.i64.wrap ((k:Int) - 16)=(kk:Int):=by rw[xwi];omega
     have a15:(0:Int)<=(k15:Int):=by omega
     have a2:(0:Int)<=(k2:Int):=by omega
     have a7:(0:Int)<=(k7:Int):=by omega
     have a16:(0:Int)<=(kk:Int):=by omega
     have d15:(k15:Int)<64:=by omega
     have d2:(k2:Int)<64:=by omega
     have d7:(k7:Int)<64:=by omega
     have d16:(kk:Int)<64:=by omega
     have d0:(k:Int)<64:=by omega
     have a0:(0:Int)<=(k:Int):=by omega
     have hne7:k≠k7:=by omega
     have hne16:k≠kk:=by omega
     unfold wdV at c15 c2 c7 c16 cw;have HST:=lhd hst;clear hst e15 e2 e7 e16;generalize S k15=x at c15 HST;generalize S k2=y at c2 HST;generalize S k7=p at c7 HST;generalize S kk=q at c16 HST
     go_wp2_with fail
     go_quiet (fail)
     go_wp2_with fail
     have hrow3:Hid ((wr.drewN nq).rowIs w.heap.size 258 64 (fun j=>if j<k then wdV (S j) else wdV 0)):=hrow;have hbr3:=below_drewN hbr nq;have z7:(wr.drewN nq).cell? ⟨w.heap.size,k7,none⟩=some (.int .u32 (p.toNat:Int)):=c7;have z16:(wr.drewN nq).cell? ⟨w.heap.size,kk,none⟩=some (.int .u32 (q.toNat:Int)):=c16;have zw:(wr.drewN nq).cell? ⟨w.heap.size,k,none⟩=some (.int .u32 ((0:Wd).toNat:Int)):=cw;have zf:(wr.drewN nq).frozen? ⟨w.heap.size,k,none⟩=false:=fw;clear c15 c2 c7 c16 cw fw hrow hbr w15 w2 a15 a2 d15 d2;generalize wr.drewN nq=w3 at hrow3 hbr3 z7 z16 zw zf ⊢;have y7:∀v,(w3.setCell ⟨w.heap.size,k,none⟩ v).cell? ⟨w.heap.size,k7,none⟩=some (.int .u32 (p.toNat:Int)):=fun v=>(World.cell?_setCell_other _ _ _ _ (fun e=>by injection e;omega)).trans z7
     have y16:∀v,(w3.setCell ⟨w.heap.size,k,none⟩ v).cell? ⟨w.heap.size,kk,none⟩=some (.int .u32 (q.toNat:Int)):=fun v=>(World.cell?_setCell_other _ _ _ _ (fun e=>by injection e;omega)).trans z16
     have HE:=lhd (sched_int x y p q)
     go_region_held3 (fun w'=>w'.cell? ⟨w.heap.size,k7,none⟩=some (.int .u32 (p.toNat:Int))/\w'.cell? ⟨w.heap.size,kk,none⟩=some (.int .u32 (q.toNat:Int))) (go_keep) ((go_at_call 222;refine (turn_any _ _ _ rfl (by simp) _).mono ?_;rintro e w' ⟨rfl,rfl⟩))
     go_wp2
     go_roundw
     case rel=>
      refine⟨k+1,by omega,by omega,by go_num,?_,(hbr3.setCell nlr _).drew⟩;rw[HE.out,HST.out];exact (hrow3.out.set k _).congr (fun j hj=>by
       by_cases h1:j=k
       ·subst h1;rw[if_pos rfl,if_pos (by omega)];rfl
       rw[if_neg h1]
       by_cases h2:j<k
       ·rw[if_pos h2,if_pos (by omega)]
       rw[if_neg h2,if_neg (by omega)])
     case measure=>simp[intOf];omega
    have hrow2:Hid (wr.rowIs w.heap.size 258 64 (fun j=>wdV (S j))):=hrow.out.congr (fun j hj=>by rw[if_pos (by omega)]);clear hrow hbr0 hSt;have g0:wr.cell? ⟨gh,oh,none⟩=some (.int .u32 (s.a.toNat:Int)):=(hbr.cell (p:=⟨gh,oh,none⟩) lh).trans (HS.out 0 (by omega));have g1:wr.cell? ⟨gh,oh+1,none⟩=some (.int .u32 (s.b.toNat:Int)):=(hbr.cell (p:=⟨gh,oh+1,none⟩) lh).trans (HS.out 1 (by omega));have g2:wr.cell? ⟨gh,oh+2,none⟩=some (.int .u32 (s.c.toNat:Int)):=(hbr.cell (p:=⟨gh,oh+2,none⟩) lh).trans (HS.out 2 (by omega));have g3:wr.cell? ⟨gh,oh+3,none⟩=some (.int .u32 (s.d.toNat:Int)):=(hbr.cell (p:=⟨gh,oh+3,none⟩) lh).trans (HS.out 3 (by omega));have g4:wr.cell? ⟨gh,oh+4,none⟩=some (.int .u32 (s.e.toNat:Int)):=(hbr.cell (p:=⟨gh,oh+4,none⟩) lh).trans (HS.out 4 (by omega));have g5:wr.cell? ⟨gh,oh+5,none⟩=some (.int .u32 (s.f.toNat:Int)):=(hbr.cell (p:=⟨gh,oh+5,none⟩) lh).trans (HS.out 5 (by omega));have g6:wr.cell? ⟨gh,oh+6,none⟩=some (.int .u32 (s.g.toNat:Int)):=(hbr.cell (p:=⟨gh,oh+6,none⟩) lh).trans (HS.out 6 (by omega));have g7:wr.cell? ⟨gh,oh+7,none⟩=some (.int .u32 (s.h.toNat:Int)):=(hbr.cell (p:=⟨gh,oh+7,none⟩) lh).trans (HS.out 7 (by omega))
    go_wp2_with fail
    go_quiet (fail)
    go_wp2_with fail
    refine wp_world (fun W=>Hid (W.rowIs w.heap.size 258 64 (fun j=>wdV (S j)))/\Below w.heap.size w W) ⟨hrow2,below_drewN hbr _⟩ ?_;clear g0 g1 g2 g3 g4 g5 g6 g7 hrow2 hbr;rintro W1 ⟨hrow2,hbr⟩;have hq0:Hid (s=rnds s S 0):=rfl
    go_loopw [12,13,14,15,16,17,18,19,20] (fun va vb vc vd ve vf vg vh t wr=>∃(m:Nat) (q:St),m<=64/\t=.int .i64 m/\Hid (q=rnds s S m)/\va=.int .u32 (q.a.toNat:Int)/\vb=.int .u32 (q.b.toNat:Int)/\vc=.int .u32 (q.c.toNat:Int)/\vd=.int .u32 (q.d.toNat:Int)/\ve=.int .u32 (q.e.toNat:Int)/\vf=.int .u32 (q.f.toNat:Int)/\vg=.int .u32 (q.g.toNat:Int)/\vh=.int .u32 (q.h.toNat:Int)/\Hid (wr.rowIs w.heap.size 258 64 (fun j=>wdV (S j)))/\Below w.heap.size w wr) (fun _ _ _ _ _ _ _ _ t _=>64 - (intOf t).toNat)
    case atStart=>exact⟨0,s,by omega,rfl,hq0,rfl,rfl,rfl,rfl,rfl,rfl,rfl,rfl,hrow2,hbr⟩
    case round=>
     clear hrow2 hbr;obtain⟨m,q,hm64,rfl,hq,rfl,rfl,rfl,rfl,rfl,rfl,rfl,rfl,hwr,hbr⟩:=hrel
     by_cases hlt3:m<64
     ·have hnext:Hid (rnd q (kAt m) (S m)=rnds s S (m+1)):=by rw[hq.out];rfl
      have ck:=(hbr.cell (p:=⟨kg,ok+m,none⟩) lk).trans (HK.out m hlt3);have cS:=hwr.out.cell (i:=m) hlt3;unfold wdV at ck cS;generalize kAt m=km at ck hnext;generalize S m=sm at cS hnext;have m0:(0:Int)<=(m:Int):=by omega
      have m1:(m:Int)<64:=by omega
      go_wp2_with fail
      go_quiet ((go_at_call 222;exact Calls.quiet_of_same (turn_q _ _ _ rfl (by simp) _)))
      go_wp2_with fail
      rw[tOne_int q km sm]
      go_wp2_with (go_at_call 222;refine (turn_any _ _ _ rfl (by simp) _).mono ?_;rintro e w' ⟨rfl,rfl⟩)
      go_roundw
      case rel=>
       refine⟨m+1,rnd q km sm,by omega,by go_num,hnext,?_,rfl,rfl,rfl,?_,rfl,rfl,rfl,hwr,below_drewN hbr nq⟩
       ·rw[tTwo_int,wd_add',rnd_eq]
       rw[wd_add',rnd_eq]
      case measure=>simp[intOf];omega
     ·have hfin:Hid (addSt s q=compress s bs):=by
       obtain rfl:m=64:=by omega
       unfold compress;rw[<-HSS.out,hq.out];exact rfl
      clear hwr hq;have g0:wr.cell? ⟨gh,oh,none⟩=some (.int .u32 (s.a.toNat:Int)):=(hbr.cell (p:=⟨gh,oh,none⟩) lh).trans (HS.out 0 (by omega));have g1:wr.cell? ⟨gh,oh+1,none⟩=some (.int .u32 (s.b.toNat:Int)):=(hbr.cell (p:=⟨gh,oh+1,none⟩) lh).trans (HS.out 1 (by omega));have g2:wr.cell? ⟨gh,oh+2,none⟩=some (.int .u32 (s.c.toNat:Int)):=(hbr.cell (p:=⟨gh,oh+2,none⟩) lh).trans (HS.out 2 (by omega));have g3:wr.cell? ⟨gh,oh+3,none⟩=some (.int .u32 (s.d.toNat:Int)):=(hbr.cell (p:=⟨gh,oh+3,none⟩) lh).trans (HS.out 3 (by omega));have g4:wr.cell? ⟨gh,oh+4,none⟩=some (.int .u32 (s.e.toNat:Int)):=(hbr.cell (p:=⟨gh,oh+4,none⟩) lh).trans (HS.out 4 (by omega));have g5:wr.cell? ⟨gh,oh+5,none⟩=some (.int .u32 (s.f.toNat:Int)):=(hbr.cell (p:=⟨gh,oh+5,none⟩) lh).trans (HS.out 5 (by omega));have g6:wr.cell? ⟨gh,oh+6,none⟩=some (.int .u32 (s.g.toNat:Int)):=(hbr.cell (p:=⟨gh,oh+6,none⟩) lh).trans (HS.out 6 (by omega));have g7:wr.cell? ⟨gh,oh+7,none⟩=some (.int .u32 (s.h.toNat:Int)):=(hbr.cell (p:=⟨gh,oh+7,none⟩) lh).trans (HS.out 7 (by omega))
      go_wp2_with fail
      go_region_held3 (fun w'=>w'.cell? ⟨gh,oh,none⟩=some (.int .u32 (s.a.toNat:Int))/\w'.cell? ⟨gh,oh+1,none⟩=some (.int .u32 (s.b.toNat:Int))/\w'.cell? ⟨gh,oh+2,none⟩=some (.int .u32 (s.c.toNat:Int))/\w'.cell? ⟨gh,oh+3,none⟩=some (.int .u32 (s.d.toNat:Int))/\w'.cell? ⟨gh,oh+4,none⟩=some (.int .u32 (s.e.toNat:Int))/\w'.cell? ⟨gh,oh+5,none⟩=some (.int .u32 (s.f.toNat:Int))/\w'.cell? ⟨gh,oh+6,none⟩=some (.int .u32 (s.g.toNat:Int))/\w'.cell? ⟨gh,oh+7,none⟩=some (.int .u32 (s.h.toNat:Int))) (go_keep) (fail)
      go_wp2_with fail
      go_ret
      refine⟨.slice (some ⟨wr.heap.size,0,none⟩) 8 8,rfl,?_,(hbr.alloc hbr.size _).drew⟩;rw[wd_add,wd_add,wd_add,wd_add,wd_add,wd_add,wd_add,wd_add,<-hfin.out];exact (World.ownsRow_lit (base:=w.heap.size) (size:=1) wr (stCells (addSt s q)).toArray 8 hbr.size (by decide) rfl).drew
end Go.Proofs.YtjgepckncogdaaaGreat
