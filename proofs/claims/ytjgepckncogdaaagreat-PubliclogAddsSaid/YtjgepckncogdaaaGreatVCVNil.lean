/- Contracts of functions, walks, plain facts. Conditions: those of each theorem. -/
import Derived.Test.YtjgepckncogdaaaGreatVNonce
import Derived.Shelf.RegionOpen
import Derived.Sort.CutIn
import Derived.RangeFuncNested
import Derived.Maps.OwnIn
set_option linter.unusedVariables false
set_option linter.unusedSimpArgs false
set_option maxRecDepth 100000
set_option maxHeartbeats 16000000
namespace Go.Proofs.YtjgepckncogdaaaGreat
open Go Go.RowKit _root_.Go.Proofs.Tryz
attribute [local go_sem ↓] Go.wp_at_zero Go.wp_at_succ
theorem followed_any (A:Option Addr) (n c:Nat) (w:World):Calls prog 133 #[.slice A n c] w fun e w'=>e=.returned (.func (.func 200) #[] #[.pointer (some ⟨w.heap.size,0,none⟩)])/\w'=w.alloc (.cells #[.slice A n c] 104):=by
 go_enter func133,ntmps133
 go_wp2_with fail
 go_ret
 exact⟨rfl,rfl⟩
end Go.Proofs.YtjgepckncogdaaaGreat
namespace Go.Proofs.YtjgepckncogdaaaGreat
open Go Go.RowKit Go.Shelf _root_.Go.Proofs.Tryz
attribute [local go_sem ↓] Go.wp_at_zero Go.wp_at_succ
attribute [local go_sem] Oper.semAt_some
def lastV (cv:Nat->Value):Nat->Value
 | 0=>.slice none 0 0
 | m+1=>cv (m * 3+2)
theorem last_at (cv:Nat->Value) (b o m c:Nat) (A:Option Addr) (w:World) (hm:m<=8) (hc:0<m->A=some ⟨b,o,none⟩/\w.cell? ⟨b,o+((m - 1) * 3+2),none⟩=some (cv ((m - 1) * 3+2))) :
 Calls prog 123 #[.slice A m c] w fun e w'=>e=.returned (lastV cv m)/\w'=w:=by
 cases m with
 | zero=>
   go_enter func123,ntmps123
   go_wp2_with fail
   go_returns
   exact⟨rfl,rfl⟩
 | succ m=>
   obtain⟨rfl,hx⟩:=hc (by omega);rw[Nat.add_sub_cancel,<-Nat.add_assoc] at hx;have hl:lastV cv (m+1)=cv (m * 3+2):=rfl;rw[hl];generalize cv (m * 3+2)=v at *;have i0:¬((m+1:Nat):Int)=0:=by omega
   have i1:((m+1:Nat):Int) - 1=(m:Int):=by omega
   have i2:(m:Int)<((m+1:Nat):Int):=by omega
   generalize m+1=k at *;clear hl hc
   go_enter func123,ntmps123
   go_wp2_with fail
   go_returns
   exact⟨rfl,rfl⟩
theorem link_size (w:World):(sizeOf 108).run prog w=.ok 3 w:=by kernel_rfl
def K2 (n₀ Bx:Nat) (X Y:World):Prop:=Below n₀ X Y/\(Bx<X.heap.size->Y.heap[Bx]?=X.heap[Bx]?)
theorem K2.trans {n₀ Bx:Nat} {X Y Z:World} (h:K2 n₀ Bx X Y) (k:K2 n₀ Bx Y Z):K2 n₀ Bx X Z:=⟨h.1.trans k.1,fun hb=>(k.2 (Nat.lt_of_lt_of_le hb h.1.size)).trans (h.2 hb)⟩
theorem K2.of_below {n₀ Bx:Nat} {X Y:World} (h:Below X.heap.size X Y) (hn:n₀<=X.heap.size):K2 n₀ Bx X Y:=⟨h.mono hn,fun hb=>h.block _ hb⟩
theorem K2.cell {n₀ Bx:Nat} {X Y:World} {v:Value} (h:K2 n₀ Bx X Y) (hc:X.cell? ⟨Bx,0,none⟩=some v) (hb:Bx<X.heap.size):Y.cell? ⟨Bx,0,none⟩=some v:=(World.cell?_of_block (a:=⟨Bx,0,none⟩) (h.2 hb)).trans hc
def finT (N k:Nat):List (Fin N):=(List.finRange N).take k
theorem finT_next (N k:Nat) (h:k<N):finT N (k+1)=finT N k++[⟨k,h⟩]:=take_one _ k _ (by rw[xge (by simpa using h)];simp)
theorem finT_len (N k:Nat) (h:k<=N):(finT N k).length=k:=by simp[finT];omega
def encK (cv:Nat->Value) (k:Nat):Array Value:=#[lastV cv k,.agg #[cv (k * 3),cv (k * 3+1),cv (k * 3+2)]]
theorem followed1_in (n:Nat) (hn:2<=n) (l Bx n₀ b o c N:Nat) (A:Option Addr) (cv:Nat->Value) (hN:N<=8) (hc:N<=c) (hA:0<N->A=some ⟨b,o,none⟩/\b<n₀) (J Jx:List (Fin N)->World->Prop) (B0:Nat) (hJ:AbidesFrom B0 J)
 (hY:∀pre x W,J pre W->pre.length<N->YieldAt Fence.wide (n - 1) prog l (encK cv x.val) W fun e W'=>
  (e=.returned (.bool true)/\J (pre++[x]) W'/\K2 n₀ Bx W W')\/(e=.returned (.bool false)/\Jx (pre++[x]) W'))
 (W:World) (hn0:n₀<=W.heap.size) (hbx:Bx<W.heap.size) (hcell:∀j,j<N * 3->W.cell? ⟨b,o+j,none⟩=some (cv j)) (hsl:∀j,j<N * 3->∃A n c,cv j=.slice A n c) (hBx:W.cell? ⟨Bx,0,none⟩=some (.slice A N c)) (h0:J [] W) :
 CallsIn Fence.wide n prog 200 #[.func (.yield l) #[] #[],.pointer (some ⟨Bx,0,none⟩)] W fun e W'=>(∃v,e=.returned v) /\
  ((∃ys,ys=finT N N/\J ys W')\/(∃pre,(∃k,k<=N/\pre=finT N k)/\Jx pre W')):=by
 refine callsIn_of_wp func200 rfl trivial ?_ rfl;simp only[ntmps200,List.size_toArray,xlc,List.length_nil,Nat.reduceAdd,Nat.reduceSub,Array.replicate_succ,Array.replicate_zero,List.push_toArray,List.append_toArray,List.nil_append,List.cons_append]
 gi_wp2
 gi_loopw [7] (fun i wr=>∃k:Nat,k<=N/\i=.int .i64 (k:Int)/\J (finT N k) wr/\Hid (K2 n₀ Bx W wr)) (fun i _=>N - (intOf i).toNat)
 case atStart=>exact⟨0,Nat.zero_le _,rfl,h0,K2.of_below (Below.refl _ _) hn0⟩
 case round=>
  obtain⟨k,hk,rfl,hJs,hnx⟩:=hrel;have c0:=hnx.out.cell hBx hbx
  by_cases hlt:k<N
  ·obtain⟨rfl,hb⟩:=hA (by omega)
   have i0:(k:Int)<(N:Int):=by omega
   have j0:(0:Int)<=(k:Int):=by omega
   have x0:=(hnx.out.1.cell (p:=⟨b,o+(k * 3),none⟩) hb).trans (hcell (k * 3) (by omega));have x1:=(hnx.out.1.cell (p:=⟨b,o+(k * 3+1),none⟩) hb).trans (hcell (k * 3+1) (by omega));have x2:=(hnx.out.1.cell (p:=⟨b,o+(k * 3+2),none⟩) hb).trans (hcell (k * 3+2) (by omega));rw[<-Nat.add_assoc] at x1 x2;have hs:=hnx.out.1.size;have hls:=fun A' W' (h1:W'.cell? ⟨b,o+((k - 1) * 3+2),none⟩=wr.cell? ⟨b,o+((k - 1) * 3+2),none⟩) (h2:0<k->A'=some ⟨b,o,none⟩)=>last_at cv b o k c A' W' (by omega) fun h=>⟨h2 h,h1.trans ((hnx.out.1.cell (p:=⟨b,o+((k - 1) * 3+2),none⟩) hb).trans (hcell _ (by omega)))⟩
   have hen:Hid (∀a0 a1 a2,a0=cv (k * 3)->a1=cv (k * 3+1)->a2=cv (k * 3+2)->encK cv k=#[lastV cv k,.agg #[a0,a1,a2]]):=fun a0 a1 a2 e0 e1 e2=>by rw[e0,e1,e2];rfl
   obtain⟨P0,q0,r0,y0⟩:=hsl (k * 3) (by omega);obtain⟨P1,q1,r1,y1⟩:=hsl (k * 3+1) (by omega);obtain⟨P2,q2,r2,y2⟩:=hsl (k * 3+2) (by omega);generalize h3:cv (k * 3)=a0 at *;generalize h4:cv (k * 3+1)=a1 at *;generalize h5:cv (k * 3+2)=a2 at *;replace hen:=lhd (hen.out _ _ _ rfl rfl rfl);clear hcell hA hsl h3 h4 h5;subst y0 y1 y2;have hrc:=run_cut_to (P:=prog) 104 underlying104 3 link_size (some ⟨b,o,none⟩) N c .i64 (k:Int) j0 (by omega);rw[xnc,Nat.sub_zero,Nat.sub_zero] at hrc
   gi_upto_region 3 with (fail)
   obtain⟨z0,z1,z2,-,-,-⟩:=box3_cells (Box.new wr 108 [.slice P0 q0 r0,.slice P1 q1 r1,.slice P2 q2 r2]);have hal:=balloc wr (.cells #[.slice P0 q0 r0,.slice P1 q1 r1,.slice P2 q2 r2] 108);change (wr.alloc (.cells #[.slice P0 q0 r0,.slice P1 q1 r1,.slice P2 q2 r2] 108)).cell? _=_ at z0 z1 z2;have hn1:n₀<=wr.heap.size:=Nat.le_trans hn0 hs;have hx1:=hnx.out.trans (K2.of_below hal hn1);have hbx1:Bx<wr.heap.size:=Nat.lt_of_lt_of_le hbx hs;have c1:=(hal.cell (p:=⟨Bx,0,none⟩) hbx1).trans c0;have hJ1:J (finT N k) (wr.alloc (.cells #[.slice P0 q0 r0,.slice P1 q1 r1,.slice P2 q2 r2] 108)).drew:=hJ _ _ _ none hJs ⟨rfl,rfl,rfl,hal.size,fun _ hk _=>hal.block _ hk⟩ (fun r e=>by cases e);have hl1:=hls (cutA (some ⟨b,o,none⟩) c 0 3) (wr.alloc (.cells #[.slice P0 q0 r0,.slice P1 q1 r1,.slice P2 q2 r2] 108)).drew (hal.cell (p:=⟨b,o+((k - 1) * 3+2),none⟩) (show b<wr.heap.size by omega)) (fun _=>by unfold cutA;rw[if_neg (by omega)];rfl);generalize cutA (some ⟨b,o,none⟩) c 0 3=A9 at *;generalize wr.alloc (.cells #[.slice P0 q0 r0,.slice P1 q1 r1,.slice P2 q2 r2] 108)=W1 at *;generalize wr.heap.size=g1 at *;obtain⟨fn,tmps,assign,body,hy,hR⟩:=hY _ ⟨k,hlt⟩ W1.drew hJ1 (by rw[finT_len N k (by omega)];exact hlt);dsimp only at hy;rw[hen.out] at hy;rw[<-finT_next] at hR;generalize lastV cv k=LV at *;have hR2:=hR.mono (R':=fun e W'=>∃β:Bool,e=.returned (.bool β)/\((β=true/\J (finT N (k+1)) W'/\K2 n₀ Bx W1.drew W')\/(β=false/\Jx (finT N (k+1)) W'))) (by
    rintro e W3 (⟨rfl,h1,h2⟩ | ⟨rfl,h1⟩)
    ·exact⟨true,rfl,.inl ⟨rfl,h1,h2⟩⟩
    exact⟨false,rfl,.inr ⟨rfl,h1⟩⟩)
   replace hx1:=lhd hx1;clear hJ1 hJs hal hls hR c0 x0 x1 x2 hnx
   gi_region_with (first
    | (refine⟨trivial,fun _=>(by omega:1<=n),(callsIn_wide.2 hl1).mono ?_⟩;rintro e w' ⟨rfl,rfl⟩)
    | (refine⟨fun _=>(by omega:1<=n),hR2.mono ?_⟩;rintro e W3 ⟨β,rfl,hβ⟩))
   all_goals
    rcases hβ with ⟨rfl,hJ3,hk3⟩|⟨rfl,hJx3⟩
    ·have hx3:Hid (K2 n₀ Bx W W3):=(hx1.out.trans (K2.of_below (bdrew W1) (Nat.le_trans hn0 hx1.out.1.size))).trans hk3
     clear hx1 hk3
     gi_wp2
     go_roundw
     case rel=>exact⟨k+1,by omega,by go_num,hJ3,hx3⟩
     case measure=>simp[intOf];omega
    gi_wp2
    refine bodyPost_ret (results_none rfl _ _ _) rfl ?_;exact⟨⟨_,rfl⟩,.inr ⟨_,⟨k+1,by omega,rfl⟩,hJx3⟩⟩
  ·obtain rfl:k=N:=by omega
   gi_wp2
   go_end0
   exact⟨⟨_,rfl⟩,.inl ⟨_,rfl,hJs⟩⟩
theorem followed_stops (n:Nat) (hn:2<=n) (Bx n₀ b o c N:Nat) (A:Option Addr) (cv:Nat->Value) (hN:N<=8) (hc:N<=c) (hA:0<N->A=some ⟨b,o,none⟩/\b<n₀) (w:World) (hbx:Bx<w.heap.size) (hn0:n₀<=w.heap.size)
 (hcell:∀j,j<N * 3->w.cell? ⟨b,o+j,none⟩=some (cv j)) (hsl:∀j,j<N * 3->∃A n c,cv j=.slice A n c) (hBx:w.cell? ⟨Bx,0,none⟩=some (.slice A N c)) :
 SeqStopsK Fence.wide n prog 200 #[.pointer (some ⟨Bx,0,none⟩)] (fun k:Fin N=>encK cv k.val) (K2 n₀ Bx) (fun ys=>ys=finT N N) (fun pre=>∃k,k<=N/\pre=finT N k) N w:=fun l J Jx W hW hJ _ hY h0=>
 followed1_in n hn l Bx n₀ b o c N A cv hN hc hA J Jx W.heap.size hJ hY W (Nat.le_trans hn0 hW.size) (Nat.lt_of_lt_of_le hbx hW.size)
  (fun j hj=>(hW.cell (p:=⟨b,o+j,none⟩) (show b<w.heap.size by have:=(hA (by omega)).2;omega)).trans (hcell j hj)) hsl ((hW.cell (p:=⟨Bx,0,none⟩) hbx).trans hBx) h0
theorem row_cells {w:World} {B n c:Nat} {A:Option Addr} {ls:List LinkG} (h:SeesR w B (.slice A n c) 3 n (linkS ls)) (hn:ls.length=n) :
 ∃(cv:Nat->Value) (b o:Nat),n<=c/\(0<n->A=some ⟨b,o,none⟩/\b<B)/\(∀j,j<n * 3->w.cell? ⟨b,o+j,none⟩=some (cv j))/\(∀j,j<n * 3->∃A n c,cv j=.slice A n c) /\
  ∀k,k<n->SeesB w B (cv (k * 3)) (linkT ls k).1/\SeesB w B (cv (k * 3+1)) (linkT ls k).2.1/\SeesB w B (cv (k * 3+2)) (linkT ls k).2.2:=by
 obtain⟨h0,vs,hs,hv⟩:=h;obtain⟨A',c',e,hc1,-⟩:=hs.mk_;injection e with e1 e2 e3;subst e1 e3;have hvl:vs.length=n * 3:=hs.len;have hg:∀j,j<n * 3->vs[j]?=some (vs.getD j undef):=fun j hj=>by rw[xgd,xge (by omega)];rfl
 have hk:∀k,k<n->SeesB w B (vs.getD (k * 3) undef) (linkT ls k).1/\SeesB w B (vs.getD (k * 3+1) undef) (linkT ls k).2.1/\SeesB w B (vs.getD (k * 3+2) undef) (linkT ls k).2.2:=fun k hk=>by
  have hdk:ls[k]?=some (linkT ls k):=by rw[linkT,xgd,xge (by omega)];rfl
  obtain⟨g1,g2,g3⟩:=linkS_get ls k _ hdk;have one:∀(j:Nat) (l:Bs),(linkS ls)[j]?=some (.byt l)->j<n * 3->SeesB w B (vs.getD j undef) l:=fun j l hj hjn=>by
   obtain⟨u,e1,e2⟩:=hv j _ hj;rw[hg j hjn] at e1;cases e1;exact e2
  exact⟨one _ _ g1 (by omega),one _ _ g2 (by omega),one _ _ g3 (by omega)⟩
 have hsl:∀j,j<n * 3->∃A n c,vs.getD j undef=.slice A n c:=fun j hj=>by
  have hq:=hk (j / 3) (by omega);rcases (show j % 3=0\/j % 3=1\/j % 3=2 by omega) with h|h|h
  ·obtain⟨A,c,e,-,-⟩:=hq.1.mk_
   rw[show j / 3 * 3=j by omega] at e;exact⟨_,_,_,e⟩
  ·obtain⟨A,c,e,-,-⟩:=hq.2.1.mk_
   rw[show j / 3 * 3+1=j by omega] at e;exact⟨_,_,_,e⟩
  obtain⟨A,c,e,-,-⟩:=hq.2.2.mk_;rw[show j / 3 * 3+2=j by omega] at e;exact⟨_,_,_,e⟩
 rcases Nat.eq_zero_or_pos n with hz|hz
 ·subst hz
  exact⟨fun j=>vs.getD j undef,0,0,hc1,fun h=>absurd h (by omega),fun j hj=>absurd hj (by omega),hsl,hk⟩
 obtain⟨b,o,e,hb,hcell⟩:=hs.at_ hz;exact⟨fun j=>vs.getD j undef,b,o,hc1,fun _=>⟨e,hb⟩,fun j hj=>hcell j _ (hg j hj),hsl,hk⟩
theorem last_sees {w:World} {B:Nat} {cv:Nat->Value} {ls:List LinkG} {n:Nat} (hn:ls.length=n) (h:∀k,k<n->SeesB w B (cv (k * 3+2)) (linkT ls k).2.2) (k:Nat) (hk:k<n):SeesB w B (lastV cv k) (lastA (ls.take k)):=by
 cases k with
 | zero=>exact SeesB.nil _ _
 | succ m=>
   have hdk:ls[m]?=some (linkT ls m):=by rw[linkT,xgd,xge (by omega)];rfl
   have hl:=lastA_get (ls.take (m+1)) m (linkT ls m) (by rw[xlt];omega) (by rw[List.getElem?_take,if_pos (by omega)];exact hdk);rw[hl];exact h m (by omega)
def spanC2 (vs:List (Int × Int)):List Value:=vs.flatMap fun v=>[.int .i64 v.1,.int .i64 v.2]
theorem spanC2_row {w:World} {base n:Nat} {v:Value} {vs:List (Int × Int)} (h:w.ownsRow base 24 2 v n (spanC2 vs)) (hn:vs.length=n):SeesR w w.heap.size v 2 n (spanS vs):=by
 refine⟨by rw[spanS_len,hn],_,Sees.of_own h,fun k s hk=>?_⟩;have e:(spanC2 vs).map Spec.val=spanS vs:=by simp[spanC2,spanS,List.map_flatMap]
 rw[<-e,xgm] at hk;cases hc:(spanC2 vs)[k]? with
 | none=>rw[hc] at hk;cases hk
 | some u=>
   rw[hc] at hk;cases hk;refine⟨u,rfl,rfl,?_⟩;have hm:=List.mem_of_getElem? hc;simp only[spanC2,List.mem_flatMap] at hm;obtain⟨p,-,hp⟩:=hm;simp at hp;rcases hp with rfl|rfl<;>rfl
theorem keeps_below {B:Nat} {W W':World} (h:Below W.heap.size W W'):KeepsFrom B W W':=
 ⟨h.size,fun k o hB hk _=>(h.block k (Array.getElem?_eq_some_iff.1 hk).1).trans hk⟩
theorem finT_map {β:Type} (N:Nat) (f:Nat->β):(finT N N).map (fun i=>f i.val)=(List.range N).map f:=by
 apply List.ext_getElem?;intro j
 by_cases h:j<N
 ·rw[xgm,xgm,List.getElem?_range h,finT,List.getElem?_take,if_pos h,xge (by simpa using h)]
  simp
 rw[List.getElem?_eq_none (by simp[finT];omega),List.getElem?_eq_none (by simp;omega)]
theorem finT_mem (N k j:Nat) (hk:k<=N) (h:j<k):(⟨j,by omega⟩:Fin N)∈finT N k:=by
 refine List.mem_of_getElem? (i:=j) ?_;rw[finT,List.getElem?_take,if_pos h,xge (by simp;omega)];simp
theorem first_all (ls:List LinkG) (k:Nat) (h:∀j,j<k->linkC ls j=0):firstC ls k=0:=by
 induction k with
 | zero=>rfl
 | succ k ih=>rw[first_ok ls k (ih fun j hj=>h j (by omega)),h k (by omega)]
theorem spanC2_sees {w:World} {B n:Nat} {v:Value} {vs:List (Int × Int)} (h:SeesR w B v 2 n (spanS vs)):Sees w B v 2 n (spanC2 vs):=by
 obtain⟨h0,us,hs,hu⟩:=h;have e:us=spanC2 vs:=by
  have em:(spanC2 vs).map Spec.val=spanS vs:=by simp[spanC2,spanS,List.map_flatMap]
  apply List.ext_getElem?;intro j
  by_cases hj:j<(spanS vs).length
  ·obtain⟨u,e1,e2⟩:=hu j _ (xge hj)
   have h2:((spanC2 vs).map Spec.val)[j]?=some (spanS vs)[j]:=by rw[em];exact xge hj
   rw[xgm] at h2;cases hc:(spanC2 vs)[j]? with
   | none=>rw[hc] at h2;cases h2
   | some y=>
     rw[hc] at h2;have h3:Spec.val y=(spanS vs)[j]:=Option.some.inj h2;rw[<-h3] at e2;rw[e1,e2.1]
  have hl:(spanC2 vs).length=(spanS vs).length:=by rw[<-em,xlm]
  rw[List.getElem?_eq_none (by rw[hs.len,<-h0];omega),List.getElem?_eq_none (by omega)]
 rw[<-e];exact hs
theorem spanC2_get (vs:List (Int × Int)):∀k,k<vs.length->(spanC2 vs)[k * 2]?=some (.int .i64 (vs.getD k (0,0)).1)/\(spanC2 vs)[k * 2+1]?=some (.int .i64 (vs.getD k (0,0)).2):=by
 induction vs with
 | nil=>intro k h;simp at h
 | cons a r ih=>
   intro k h;cases k with
   | zero=>exact⟨rfl,rfl⟩
   | succ k=>
     obtain⟨h1,h2⟩:=ih k (by simpa using h);have e:spanC2 (a :: r)=[.int .i64 a.1,.int .i64 a.2]++spanC2 r:=rfl;rw[e,show (k+1) * 2=k * 2+2 by omega,show k * 2+2+1=k * 2+1+2 by omega];exact⟨h1,h2⟩
end Go.Proofs.YtjgepckncogdaaaGreat
namespace Go.Proofs.YtjgepckncogdaaaGreat
open Go Go.RowKit Go.Shelf _root_.Go.Proofs.Tryz
attribute [local go_sem ↓] Go.wp_at_zero Go.wp_at_succ
attribute [local go_sem] Oper.semAt_some
def spansOf (ls:List LinkG) {N:Nat} (pre:List (Fin N)):List (Int × Int):=pre.map fun i=>linkV ls i.val
def InvV (ls:List LinkG) (N:Nat) (w:World) (A:Option Addr) (c G:Nat) (z:Nat) (pre:List (Fin N)) (W:World):Prop:=
 (∃v,Boxed W (w.heap.size+1+1) 67 v/\W.ownsRow w.heap.size 24 2 v pre.length (spanC2 (spansOf ls pre))/\True) /\
  (Boxed W w.heap.size 67 (.slice none 0 0)/\Boxed W (w.heap.size+1) 33 (.int .i64 0)/\Boxed W G 104 (.slice A N c))/\Below w.heap.size w W/\(∀x∈pre,linkC ls x.val=0)/\z<=W.heap.size
def OutV (ls:List LinkG) (N:Nat) (w:World) (c:Code) (pre:List (Fin N)) (W:World):Prop:=
 (c=.ret/\∃(qs:List (Fin N)) (x:Fin N),pre=qs++[x]/\(∀y∈qs,linkC ls y.val=0)/\linkC ls x.val≠0/\True) /\
  (Boxed W w.heap.size 67 (.slice none 0 0)/\(∃(qs:List (Fin N)) (x:Fin N),pre=qs++[x]/\Boxed W (w.heap.size+1) 33 (.int .i64 (linkC ls x.val))))/\Below w.heap.size w W
def AxV (cv:Nat->Value) (A:Option Addr) (c G N:Nat) (w:World) (x:Fin N) (a':Act) (W:World):Prop:=
 ∃g,W.heap[g]?=some (.cells #[cv (x.val * 3),cv (x.val * 3+1),cv (x.val * 3+2)] 108)/\a'={ tmps:=#[.slice A N c,undef,.pointer (some ⟨w.heap.size,0,none⟩),.pointer (some ⟨w.heap.size+1,0,none⟩),.pointer (some ⟨w.heap.size+1+1,0,none⟩),lastV cv x.val,.pointer (some ⟨g,0,none⟩),undef,undef,undef,.slice A N c,.int .i64 (N:Int),.bool false,.slice A N c,.func (.func 200) #[] #[.pointer (some ⟨G,0,none⟩)],lastV cv x.val,.agg #[cv (x.val * 3),cv (x.val * 3+1),cv (x.val * 3+2)],undef,undef,undef,undef,undef,undef,undef,undef,undef,undef,undef,undef,undef,undef,undef,undef,undef,undef,undef,undef,undef,undef,undef,undef,undef,undef,undef],defers:=[] }
theorem cells_own {β:Type} (B:Nat) (f:β->Nat->Prop) (T:TypeId) (cs:Array Value):OwnFrom B (fun (s:β) W=>∃g,W.heap[g]?=some (.cells cs T)/\f s g):=fun s X Y row hs hg hrow=>by
 obtain⟨g,h1,h2⟩:=hs;refine⟨g,(hg.block g (Array.getElem?_eq_some_iff.1 h1).1 (fun e=>?_)).trans h1,h2⟩;obtain⟨-,o,ho,hc⟩:=hrow g e.symm;rw[h1] at ho;cases ho;cases hc
theorem cells_two (w:World) (a b:Value) (T:TypeId):∀(j:Nat) (u:Value),[a,b][j]?=some u->(w.alloc (.cells #[a,b] T)).cell? ((⟨w.heap.size,0,none⟩:Addr).add j)=some u:=by
 intro j u h;have hx:=Box.new w T [a,b]
 match j,h with
 | 0,h=>cases h;exact hx.cell 0
 | 1,h=>cases h;exact hx.cell 1
theorem outV_of {ls:List LinkG} {N B:Nat} {w W w1:World} {pre:List (Fin N)} {x:Fin N} {C:Int} (j3:Boxed w1 w.heap.size 67 (.slice none 0 0)) (j4:Boxed w1 (w.heap.size+1) 33 (.int .i64 0)) (hK:KeepsFrom B W w1) (hb:Below w.heap.size w w1)
 (h0:∀y∈pre,linkC ls y.val=0) (hC:linkC ls x.val=C) (hne:C≠0) :
 KeepsFrom B W ((w1.setCell ⟨w.heap.size,0,none⟩ (.slice none 0 0)).setCell ⟨w.heap.size+1,0,none⟩ (.int .i64 C))/\OutV ls N w .ret (pre++[x]) ((w1.setCell ⟨w.heap.size,0,none⟩ (.slice none 0 0)).setCell ⟨w.heap.size+1,0,none⟩ (.int .i64 C)):=by
 refine⟨hK.trans (((KeepsOthers.setCell _ _ _).trans (KeepsOthers.setCell _ _ _)).from _),⟨rfl,pre,x,rfl,h0,by rw[hC];exact hne,trivial⟩,⟨(j3.set _).other (by omega) _,pre,x,rfl,?_⟩,(hb.setCell (p:=⟨w.heap.size,0,none⟩) nlr _).setCell (p:=⟨w.heap.size+1,0,none⟩) (Nat.le_succ _) _⟩;rw[hC];exact (j4.other (by omega) _).set _
theorem cver_in (B:Nat) (u:Value) (ls:List LinkG) (w:World) (hu:SeesR w B u 3 ls.length (linkS ls)) (hB:B<=w.heap.size) (hn:ls.length<=8) (hl:∀t∈ls,t.2.2.length<=1048576) :
 CallsIn Fence.wide 3 prog 65 #[u] w (CVerP ls w):=by
 obtain⟨A,c,rfl,-,-⟩:=hu.mk_;obtain⟨cv,b,o,hnc,hA,hcell,hsl,hk3⟩:=row_cells hu rfl;have hCC:Hid (cverC ls=firstC ls ls.length):=by show _=_;rw[cverC,if_neg (by omega)]
 have i8:¬(8:Int)<(ls.length:Int):=by omega
 generalize hN:ls.length=N at *;refine callsIn_of_wp_marks func65 rfl trivial ?_ rfl;simp only[ntmps65,List.size_toArray,xlc,List.length_nil,Nat.reduceAdd,Nat.reduceSub,Array.replicate_succ,Array.replicate_zero,List.push_toArray,List.append_toArray,List.nil_append,List.cons_append]
 gi_wp2
 have hb3:=bgo (bgo (balloc w (.cells #[.slice none 0 0] 67)) (balloc _ (.cells #[.int .i64 0] 33))) (balloc _ (.cells #[.slice none 0 0] 67));have hx0:Boxed (((w.alloc (.cells #[.slice none 0 0] 67)).alloc (.cells #[.int .i64 0] 33)).alloc (.cells #[.slice none 0 0] 67)) w.heap.size 67 (.slice none 0 0):=((Boxed.new w _ _).alloc _).alloc _;have hx1:=(Boxed.new (w.alloc (.cells #[.slice none 0 0] 67)) 33 (.int .i64 0)).alloc (.cells #[.slice none 0 0] 67);have hx2:=Boxed.new ((w.alloc (.cells #[.slice none 0 0] 67)).alloc (.cells #[.int .i64 0] 33)) 67 (.slice none 0 0);rw[xsa] at hx1;rw[xsa,xsa] at hx2;generalize ((w.alloc (.cells #[.slice none 0 0] 67)).alloc (.cells #[.int .i64 0] 33)).alloc (.cells #[.slice none 0 0] 67)=W3 at *;refine⟨trivial,(callsIn_wide.2 (followed_any _ _ _ _)).mono ?_⟩;rintro e w' ⟨rfl,rfl⟩;dsimp only
 gi_wp2
 have hal:=balloc W3 (.cells #[.slice A N c] 104);have hx3:=Boxed.new W3 104 (.slice A N c);have hx0':=hx0.alloc (.cells #[.slice A N c] 104);have hx1':=hx1.alloc (.cells #[.slice A N c] 104);have hx2':=hx2.alloc (.cells #[.slice A N c] 104);have hb4:=bgo hb3 hal;have hGn:=lhd hx2.lt;clear hx0 hx1 hx2 hb3 hal;generalize W3.alloc (.cells #[.slice A N c] 104)=W4 at *;generalize W3.heap.size=G at *;refine wpIn_rangeFunc_ownH (α:=Fin N) rfl (by omega) (gf:=200) (lb:=#[.pointer (some ⟨G,0,none⟩)]) rfl trivial (enters_of func200 (by kernel_rfl) rfl)
  (followed_stops 2 (by omega) G w.heap.size b o c N A cv hn hnc (fun h=>⟨(hA h).1,by have:=(hA h).2;omega⟩) W4 hx3.lt hb4.size (fun j hj=>(hb4.cell (p:=⟨b,o+j,none⟩) (show b<w.heap.size by have:=(hA (by omega)).2;omega)).trans (hcell j hj)) hsl hx3.cell) K2.trans (fun W l o o' hl ho h1 h2=>⟨belowK_b (w:=W4) hb4.size W l o o' hl ho h1 h2,fun hG=>World.putObj_heap_other (by have:=hx3.lt;omega)⟩) (Below.refl _ _) (fun _=>rfl)
  (InvV ls N w A c G W4.heap.size) (OutV ls N w)
  (OwnFrom.and (Own.from (holdsRow_own w.heap.size (w.heap.size+1+1) 67 24 2 (fun pre:List (Fin N)=>pre.length) (fun pre=>spanC2 (spansOf ls pre)) (fun _ _=>True)) _)
   (OwnFrom.and (OwnFrom.and (Own.from (boxed_own _ _ _) _) (OwnFrom.and (Own.from (boxed_own _ _ _) _) (Own.from (boxed_own _ _ _) _))) (OwnFrom.and (ownFrom_below nlr hb4.size) (OwnFrom.and (ownFrom_pure _ _) (fun s X Y row hs hg _=>Nat.le_trans hs hg.size)))))
  (fun cd=>OwnFrom.and (ownFrom_pure _ _) (OwnFrom.and (OwnFrom.and (Own.from (boxed_own _ _ _) _)
   (fun s X Y row hs hg hrow=>by obtain⟨qs,x,e,hx⟩:=hs;exact⟨qs,x,e,Own.from (boxed_own (w.heap.size+1) 33 (fun v:Value=>v)) W4.heap.size _ X Y row hx hg hrow⟩)) (ownFrom_below nlr hb4.size)))
  ⟨⟨_,hx2',World.ownsRow_nil _ _ _ _,trivial⟩,⟨hx0',hx1',hx3⟩,hb4,(fun x hx=>by cases hx),Nat.le_refl _⟩ (AxV cv A c G N w) (fun x a'=>cells_own _ _ _ _) ?assign ?body ?done ?stop
 case assign=>
  intro l pre x W K hI hK;obtain⟨P0,q0,r0,y0⟩:=hsl (x.val * 3) (by have:=x.isLt;omega);obtain⟨P1,q1,r1,y1⟩:=hsl (x.val * 3+1) (by have:=x.isLt;omega);obtain⟨P2,q2,r2,y2⟩:=hsl (x.val * 3+2) (by have:=x.isLt;omega);have hK2:=lhd (fun g (W':World) (h1:KeepsFrom W4.heap.size W W') (h2:K2 w.heap.size G W W') (h3:InvV ls N w A c G W4.heap.size pre W') (h4:W'.heap[g]?=some (.cells #[cv (x.val * 3),cv (x.val * 3+1),cv (x.val * 3+2)] 108))=>hK _ W' h1 h2 h3 ⟨g,h4,rfl⟩);clear hK;rw[y0,y1,y2] at hK2;unfold encK;rw[y0,y1,y2];generalize lastV cv x.val=LV at *
  gi_wp2
  have hal:=balloc W (.cells #[.slice P0 q0 r0,.slice P1 q1 r1,.slice P2 q2 r2] 108);obtain⟨⟨v,i1,i2,-⟩,⟨i3,i4,i9⟩,i5,i6,i7⟩:=hI;exact hK2.out _ _ (keeps_below hal) (K2.of_below hal i5.size) ⟨⟨v,i1.alloc _,i2.alloc _,trivial⟩,⟨i3.alloc _,i4.alloc _,i9.alloc _⟩,bgo i5 hal,i6,Nat.le_trans i7 hal.size⟩ (World.alloc_heap_new W _)
 case body=>
  rintro l pre x a' W hzl ⟨r,hr⟩ ⟨⟨v,i1,i2,-⟩,⟨i3,i4,i9⟩,i5,i6,i7⟩ ⟨g,hg,rfl⟩ hlt;have hx:=x.isLt;obtain⟨P0,q0,r0,y0⟩:=hsl (x.val * 3) (by omega);obtain⟨P1,q1,r1,y1⟩:=hsl (x.val * 3+1) (by omega);obtain⟨P2,q2,r2,y2⟩:=hsl (x.val * 3+2) (by omega);obtain⟨s0,s1,s2⟩:=hk3 x.val hx;have s3:=last_sees hN (fun k hk=>(hk3 k hk).2.2) x.val hx;have hiB:=i5.mono hB;have hBW:B<=W.heap.size:=Nat.le_trans hB i5.size;replace s0:=(s0.below hiB).more hBW;replace s1:=(s1.below hiB).more hBW;replace s2:=(s2.below hiB).more hBW;replace s3:=(s3.below hiB).more hBW;have hal:=hl _ (List.mem_of_getElem? (show ls[x.val]?=some (linkT ls x.val) by rw[linkT,xgd,xge (by omega)];rfl));have hLC:Hid (linkC ls x.val=if nonceC (lastA (ls.take x.val)) (linkT ls x.val).2.1=0 then dverC (linkT ls x.val).1 (linkN ls x.val) (linkT ls x.val).2.2 else nonceC (lastA (ls.take x.val)) (linkT ls x.val).2.1):=rfl;have hNN:Hid (linkN ls x.val=nonceG (lastA (ls.take x.val)) (linkT ls x.val).2.1):=rfl;have hLV:Hid (linkV ls x.val=(dverLo (linkT ls x.val).1 (linkN ls x.val) (linkT ls x.val).2.2,dverHi (linkT ls x.val).1 (linkN ls x.val) (linkT ls x.val).2.2)):=rfl;rw[y0] at s0;rw[y1] at s1;rw[y2] at s2;rw[y0,y1,y2] at hg ⊢;generalize lastV cv x.val=LV at *;have hno:=nonce_any W.heap.size W.heap.size _ _ _ _ W s3 nlr s1 nlr;unfold NonP at hno;rw[<-hNN.out] at hno;generalize linkT ls x.val=t at *;generalize linkN ls x.val=NN at *;generalize nonceC (lastA (ls.take x.val)) t.2.1=C1 at *;obtain⟨t1,t2,t3⟩:=t;dsimp only at *
  have z1:W.cell? ⟨g,1,none⟩=some (.slice P1 q1 r1):=by simp[World.cell?,hg]
  replace hno:=lhd hno;have z0:W.heap[g]?=some (.cells #[.slice P0 q0 r0,.slice P1 q1 r1,.slice P2 q2 r2] 108):=hg;have hgl:g<W.heap.size:=(Array.getElem?_eq_some_iff.1 z0).1;clear hk3 hsl hcell hA s3 hu hx0' hx1' hx2' hx3
  gi_wp2
  refine⟨trivial,CallsIn.inRound l ((callsIn_wide.2 hno.out).mono ?_)⟩;rintro e w1 ⟨v1,rfl,f1,hb1⟩;obtain⟨Q1,d1,rfl,-,-⟩:=f1.sees.mk_;have j3:Boxed w1 w.heap.size 67 (.slice none 0 0):=(hb1.block _ i3.lt).trans i3;have j4:Boxed w1 (w.heap.size+1) 33 (.int .i64 0):=(hb1.block _ i4.lt).trans i4;have j1:Boxed w1 (w.heap.size+1+1) 67 v:=(hb1.block _ i1.lt).trans i1;have j2:=own_below i2 hb1;have zz:=(hb1.block _ hgl).trans z0;replace s0:=seesB_of s0 nlr hb1;replace s2:=seesB_of s2 nlr hb1;have hbW:=lhd (bgo i5 hb1);clear hno z1 z0 hg
  by_cases hC:C1=0
  rotate_left
  ·have c3:=j3.cell
   have c4:=j4.cell;have d3:=j3.frozen;have d4:=j4.frozen;have hC':Hid (linkC ls x.val=C1):=by show _=_;rw[hLC.out,if_neg hC]
   have hne:Hid (C1≠0):=hC;replace j3:=lhd j3;replace j4:=lhd j4;replace hb1:=lhd hb1;clear hLC hLV hNN
   gi_wp2
   exact outV_of j3.out j4.out (keeps_below hb1.out) hbW.out i6 hC'.out hne.out
  subst hC;have hdv:=dverify_any w1.heap.size _ _ _ t1 NN t3 w1 s0 f1.sees s2 nlr hal;rw[if_pos rfl] at hLC;generalize hC2:dverC t1 NN t3=C2 at *;unfold DVerP at hdv;rw[hC2] at hdv;generalize dverLo t1 NN t3=lo at *;generalize dverHi t1 NN t3=hi at *;replace hdv:=lhd hdv;have z0:w1.cell? ⟨g,0,none⟩=some (.slice P0 q0 r0):=by simp[World.cell?,zz]
  have z2:w1.cell? ⟨g,2,none⟩=some (.slice P2 q2 r2):=by simp[World.cell?,zz]
  clear s0 s2 f1 hNN hC2 zz
  gi_wp2
  refine⟨trivial,CallsIn.inRound l ((callsIn_wide.2 hdv.out).mono ?_)⟩;rintro e w2 ⟨rfl,hb2⟩;have hal2:=balloc w2 (.cells #[.int .i64 lo,.int .i64 hi] 24);have hb3:=bgo hb2 hal2;have k3:Boxed (w2.alloc (.cells #[.int .i64 lo,.int .i64 hi] 24)) w.heap.size 67 (.slice none 0 0):=(hb3.block _ j3.lt).trans j3;have k4:Boxed (w2.alloc (.cells #[.int .i64 lo,.int .i64 hi] 24)) (w.heap.size+1) 33 (.int .i64 0):=(hb3.block _ j4.lt).trans j4;have k1:Boxed (w2.alloc (.cells #[.int .i64 lo,.int .i64 hi] 24)) (w.heap.size+1+1) 67 v:=(hb3.block _ j1.lt).trans j1;have k2:=own_below j2 hb3;have hbW3:=lhd (bgo hbW.out hb3);have hb13:=lhd (bgo hb1 hb3);obtain⟨x0,x1⟩:=boxT2 (Box.new w2 24 [.int .i64 lo,.int .i64 hi]);change (w2.alloc (.cells #[.int .i64 lo,.int .i64 hi] 24)).cell? _=_ at x0 x1;clear hdv z0 z2 j1 j2 j3 j4 hbW hb1 hb2 hb3 hal2;dsimp only
  gi_upto_region 11 with (fail)
  generalize w2.alloc (.cells #[.int .i64 lo,.int .i64 hi] 24)=W5 at *;generalize w2.heap.size=gz at *
  by_cases hC:C2=0
  rotate_left
  ·have c3:=k3.cell
   have c4:=k4.cell;have d3:=k3.frozen;have d4:=k4.frozen;have hne:Hid (C2≠0):=hC;replace k3:=lhd k3;replace k4:=lhd k4;clear hLV
   gi_wp2
   exact outV_of k3.out k4.out (keeps_below hb13.out) hbW3.out i6 hLC.out hne.out
  subst hC;have hc1:=k1.cell;obtain⟨ti,hti,htz,hts,htb⟩:=info_parts span_info;replace hti:=lhd hti;replace htz:=lhd htz;replace hts:=lhd hts;replace htb:=lhd htb;replace k3:=lhd k3;replace k4:=lhd k4;replace k1:=lhd k1;have hrow:=lhd (k2.alloc (.cells #[.int .i64 lo,.int .i64 hi] 24));replace k2:=lhd k2;have hpl:Hid (pre.length<=8):=by show _<=_;omega
  have hsz:Hid (w.heap.size<=W5.heap.size):=hbW3.out.size
  gi_wp2_with (gi_at_builtin;refine wpListIn_append_own_at _ rfl (.tmp 39) (.tmp 41) 67 rfl w.heap.size 24 ti (.agg #[.int .i64 0,.int .i64 0]) 2 16 underlying67 hti.out htz.out hts.out htb.out rfl (by decide) v pre.length (spanC2 (spansOf ls pre)) rfl hrow.out ⟨W5.heap.size,0,none⟩ 1 1 [.int .i64 lo,.int .i64 hi] rfl rfl (cells_two _ _ _ _) (by simp[Value.oneCell']) (by have:=hpl.out;unfold maxLen;omega) (by have:=hpl.out;omega) (Nat.le_trans hsz.out (by simp)) ?_;intro v' w6 hown' hgrow _ _;obtain⟨g',cap',rfl⟩:=ownsRow_succ hown';obtain⟨hv1,hv2,hr2,hk2,hb2⟩:=k1.out.appended (by decide) k2.out hsz.out (Nat.le_trans (Nat.le_succ _) (Nat.le_succ _)) hown' hgrow;have hc6:=hv1.cell;have hf6:=hv1.frozen)
  have hsp:Hid (spansOf ls (pre++[x])=spansOf ls pre++[(lo,hi)]):=by show _=_;rw[spansOf,List.map_append,<-hLV.out];rfl
  have hlen:(pre++[x]).length=pre.length+1:=by simp
  have m5:Boxed W5 G 104 (.slice A N c):=(hb13.out.block _ i9.lt).trans i9;have q9:=((m5.alloc (.cells #[.int .i64 lo,.int .i64 hi] 24)).kept hgrow (m5.not_row (by decide) k2.out)).other (B':=w.heap.size+1+1) (by have:=hGn.out;omega) (.slice (some ⟨g',0,none⟩) (pre.length+1) cap');have q3:=((k3.out.alloc (.cells #[.int .i64 lo,.int .i64 hi] 24)).kept hgrow (k3.out.not_row (by decide) k2.out)).other (B':=w.heap.size+1+1) (by omega) (.slice (some ⟨g',0,none⟩) (pre.length+1) cap');have q4:=((k4.out.alloc (.cells #[.int .i64 lo,.int .i64 hi] 24)).kept hgrow (k4.out.not_row (by decide) k2.out)).other (B':=w.heap.size+1+1) (by omega) (.slice (some ⟨g',0,none⟩) (pre.length+1) cap');refine⟨(keeps_below hb13.out).trans (hk2.from _),(K2.of_below hb13.out i5.size).trans ⟨hb2,fun hG=>q9.trans m5.symm⟩,⟨_,hv2,?_,trivial⟩,⟨q3,q4,q9⟩,hbW3.out.trans hb2,fun y hy=>?_,Nat.le_trans i7 (Nat.le_trans hb13.out.size hb2.size)⟩
  ·rw[hsp.out,hlen]
   have e:spanC2 (spansOf ls pre++[(lo,hi)])=spanC2 (spansOf ls pre)++[.int .i64 lo,.int .i64 hi]:=by simp[spanC2]
   rw[e];exact hr2
  rcases List.mem_append.1 hy with h | h
  ·exact i6 y h
  obtain rfl:=List.mem_singleton.1 h;exact hLC.out
 case done=>
  rintro D xs W hD rfl ⟨⟨v,i1,i2,-⟩,⟨i3,i4,i9⟩,i5,i6,i7⟩ hK;rw[finT_len N N nlr,show spansOf ls (finT N N)=cverK ls N from finT_map N _] at i2;have hz:cverC ls=0:=by rw[hCC.out];exact first_all ls N fun j hj=>i6 _ (finT_mem N N j nlr hj)
  obtain⟨A',c',rfl,-,-⟩:=(Sees.of_own i2).mk_;have c1:=i1.cell;have c3:=i3.cell;have c4:=i4.cell;have d3:=i3.frozen;have d4:=i4.frozen;have hD0:W4.heap.size<=D:=hD;have hg4:=hb4.size;have n0:=hGn.out;have n1:=hx3.lt;replace i1:=lhd i1;replace i2:=lhd i2;replace i3:=lhd i3;replace i4:=lhd i4;replace hz:=lhd hz;clear hu hcell hsl hk3 hA i6 i9 i7
  gi_wp2
  have hne0:D≠w.heap.size:=by omega
  have hne1:D≠w.heap.size+1:=by omega
  have hK':((W.setCell ⟨w.heap.size,0,none⟩ (.slice A' N c')).setCell ⟨w.heap.size+1,0,none⟩ (.int .i64 0)).heap[D]?=some (.deferred (some [])):=by
   rw[Below.heap_setCell _ ⟨w.heap.size+1,0,none⟩ _ D hne1,Below.heap_setCell _ ⟨w.heap.size,0,none⟩ _ D hne0];exact hK
  have hbS:Below w.heap.size w ((W.setCell ⟨w.heap.size,0,none⟩ (.slice A' N c')).setCell ⟨w.heap.size+1,0,none⟩ (.int .i64 0)):=(i5.setCell (p:=⟨w.heap.size,0,none⟩) nlr _).setCell (p:=⟨w.heap.size+1,0,none⟩) (Nat.le_succ _) _;have y3:Boxed ((W.setCell ⟨w.heap.size,0,none⟩ (.slice A' N c')).setCell ⟨w.heap.size+1,0,none⟩ (.int .i64 0)) w.heap.size 67 (.slice A' N c'):=(i3.out.set _).other (by omega) _;have y4:Boxed ((W.setCell ⟨w.heap.size,0,none⟩ (.slice A' N c')).setCell ⟨w.heap.size+1,0,none⟩ (.int .i64 0)) (w.heap.size+1) 33 (.int .i64 0):=(i4.out.other (by omega) _).set _;have y2:=ownsRow_setCell_other (ownsRow_setCell_other i2.out (a:=⟨w.heap.size,0,none⟩) (fun e=>i3.out.not_row (by decide) i2.out e.symm) (.slice A' N c')) (a:=⟨w.heap.size+1,0,none⟩) (fun e=>i4.out.not_row (by decide) i2.out e.symm) (.int .i64 0);generalize (W.setCell ⟨w.heap.size,0,none⟩ (.slice A' N c')).setCell ⟨w.heap.size+1,0,none⟩ (.int .i64 0)=W6 at *;refine⟨by simp,.inl ⟨_,_,rfl,run_takeDeferred hK',?_⟩⟩;have u3:Boxed (W6.putObj D (.deferred none)) w.heap.size 67 (.slice A' N c'):=(World.putObj_heap_other (fun e=>hne0 e.symm)).trans y3;have u4:Boxed (W6.putObj D (.deferred none)) (w.heap.size+1) 33 (.int .i64 0):=(World.putObj_heap_other (fun e=>hne1 e.symm)).trans y4;have u2:=ownsRow_putObj y2 (.deferred none) hK' rfl;have hbT:Below w.heap.size w (W6.putObj D (.deferred none)):=hbS.trans (belowK_b (w:=w) nlr W6 D _ _ (by omega) hK' rfl rfl);generalize W6.putObj D (.deferred none)=W7 at *
  have z3:=u3.cell;have z4:=u4.cell;refine⟨.tuple #[.slice A' N c',.int .i64 0],by simp[results,results65,go_sem,z3,z4],?_⟩;exact cver_ok hz.out (by rw[hN];exact spanC2_row u2 (cverK_len _ _)) hbT
 case stop=>
  rintro D cd pre W hD ⟨k,hk,rfl⟩ ⟨⟨rfl,qs,x,e1,e2,e3,-⟩,⟨i3,qs',x',e4,i4⟩,i5⟩ hK;rw[e1] at e4;obtain⟨rfl,hx'⟩:=List.append_inj' e4 rfl;obtain rfl:=List.singleton_inj.1 hx';clear e4 hx';have hz:cverC ls=linkC ls x.val:=by
   have hkl:k=qs.length+1:=by have:=congrArg List.length e1;rw[finT_len N k hk,xla] at this;exact this
   have hxv:x.val=qs.length:=by
    have h1:(finT N k)[qs.length]?=(qs++[x])[qs.length]?:=by rw[e1]
    rw[xar nlr,Nat.sub_self,finT,List.getElem?_take,if_pos (by omega),xge (by simp;omega)] at h1;simp at h1;rw[<-h1]
   have hpre:firstC ls x.val=0:=first_all ls x.val fun j hj=>by
    have hm:=finT_mem N k j hk (by omega);rw[e1] at hm;rcases List.mem_append.1 hm with h|h
    ·exact e2 _ h
    have:=List.mem_singleton.1 h
    rw[<-this] at hj;exact absurd hj (Nat.lt_irrefl _)
   rw[hCC.out];exact first_bad ls x.val N hpre e3 x.isLt
  generalize linkC ls x.val=C at *;have c3:=i3.cell;have c4:=i4.cell;have hD0:W4.heap.size<=D:=hD;have hg4:=hb4.size;have n0:=hGn.out;have n1:=hx3.lt;replace hz:=lhd hz;replace e3:=lhd e3;replace i3:=lhd i3;replace i4:=lhd i4;clear hu hcell hsl hk3 hA e1 e2
  gi_wp2
  have hne0:D≠w.heap.size:=by omega
  have hne1:D≠w.heap.size+1:=by omega
  refine⟨by simp,.inl ⟨_,_,rfl,run_takeDeferred hK,?_⟩⟩;have u3:Boxed (W.putObj D (.deferred none)) w.heap.size 67 (.slice none 0 0):=(World.putObj_heap_other (fun e=>hne0 e.symm)).trans i3.out;have u4:Boxed (W.putObj D (.deferred none)) (w.heap.size+1) 33 (.int .i64 C):=(World.putObj_heap_other (fun e=>hne1 e.symm)).trans i4.out;have hbT:Below w.heap.size w (W.putObj D (.deferred none)):=i5.trans (belowK_b (w:=w) nlr W D _ _ (by omega) hK rfl rfl);generalize W.putObj D (.deferred none)=W7 at *;have z3:=u3.cell;have z4:=u4.cell;exact⟨.tuple #[.slice none 0 0,.int .i64 C],by simp[results,results65,go_sem,z3,z4],cver_bad hz.out e3.out hbT⟩
theorem cverify_any (B:Nat) (u:Value) (ls:List LinkG) (w:World) (hu:SeesR w B u 3 ls.length (linkS ls)) (hB:B<=w.heap.size) (hn:ls.length<=1048576) (hl:∀t∈ls,t.2.2.length<=1048576) :
 Calls prog 65 #[u] w (CVerP ls w):=by
 by_cases h8:ls.length<=8
 ·exact callsIn_wide.1 (cver_in B u ls w hu hB h8 hl)
 obtain⟨A,c,rfl,-,-⟩:=hu.mk_;have i0:(8:Int)<(ls.length:Int):=by omega
 have hC:Hid (cverC ls=8):=by show _=_;rw[cverC,if_pos (by omega)]
 clear hu hl
 go_enter func65,ntmps65
 go_wp2_with fail
 have hb8:=bgo (balloc w (.cells #[.slice none 0 0] 67)) (balloc _ (.cells #[.int .i64 8] 33));have z3:=((Boxed.new w 67 (.slice none 0 0)).alloc (.cells #[.int .i64 8] 33)).cell;have z4:=(Boxed.new (w.alloc (.cells #[.slice none 0 0] 67)) 33 (.int .i64 8)).cell;rw[xsa] at z4;generalize (w.alloc (.cells #[.slice none 0 0] 67)).alloc (.cells #[.int .i64 8] 33)=W7 at *;refine bodyPost_ret (v:=.tuple #[.slice none 0 0,.int .i64 8]) (by simp[results,results65,go_sem,z3,z4]) rfl ?_;exact cver_bad hC.out (by decide) hb8
theorem SeesR.cut {w:World} {B size n c a b:Nat} {A:Option Addr} {ss:List Spec} (h:SeesR w B (.slice A n c) size n ss) (hab:a<=b) (hb:b<=n) :
 SeesR w B (.slice (cutA A c a size) (b - a) (c - a)) size (b - a) ((ss.drop (a * size)).take ((b - a) * size)):=by
 obtain⟨h0,vs,hs,hv⟩:=h;have hm:(b - a) * size+a * size<=n * size:=by
  rw[<-Nat.add_mul];exact Nat.mul_le_mul_right _ (by omega)
 refine⟨by rw[xlt,xld,h0];omega,_,hs.cut hab hb,fun k s hk=>?_⟩;have hkl:k<(b - a) * size:=by
  have:=(List.getElem?_eq_some_iff.1 hk).1
  rw[xlt] at this;omega
 rw[List.getElem?_take,if_pos hkl,List.getElem?_drop] at hk ⊢;exact hv _ s hk
section
variable {w W:World} {g n c base size:Nat} {T:TypeId} {v:Value} {ss:List Spec}
theorem OwnRF.at_ (h:OwnRF w base T v size n ss) (h0:0<n):∃g c,v=.slice (some ⟨g,0,none⟩) n c/\base<=g/\g<w.heap.size/\n<=c/\c<=maxLen:=by
 have hlt:=h.own.lt;obtain⟨_,vs,h1,_⟩:=h;rcases h1.2 with ⟨_,hz⟩|⟨g,cap,cur,rfl,hb,hg,hc1,hc2,_⟩
 ·omega
 exact⟨g,cap,rfl,hb,(hlt g rfl).2,hc1,hc2⟩
theorem elt_grown {u:Value} {s:Spec} (h:EltS w v u s) (hg:w.grownBy W v.ownBlock):EltS W v u s:=by
 cases s with
 | val x=>exact h
 | byt l=>exact⟨Elt.grown h hg,h.2⟩
theorem OwnRF.put {u:Value} {s:Spec} {j:Nat} (h:OwnRF w base T (.slice (some ⟨g,0,none⟩) n c) size n ss) (hj:j<n * size) (he:EltS w (.slice (some ⟨g,0,none⟩) n c) u s) (hf:From base u) :
 OwnRF (w.setCell ⟨g,j,none⟩ u) base T (.slice (some ⟨g,0,none⟩) n c) size n (ss.set j s):=by
 obtain⟨h0,vs,h1,h2⟩:=h;have hg:=setCell_grown w g j u;rcases h1.2 with ⟨e,_⟩|⟨g',cap,cur,e,hb,hh,hc1,hc2,hcs,htk⟩
 ·cases e
 injection e with e1 _ e3;injection e1 with e1;injection e1 with e1;subst e1 e3;have hB:Box w g T cur.toList:=hh;have hB':=hB.set j u;have hvl:vs.length=n * size:=h1.1;refine⟨by rw[List.length_set,h0],vs.set j u,⟨by rw[List.length_set,hvl],.inr ⟨g,c,(cur.toList.set j u).toArray,rfl,hb,hB',hc1,hc2,by simp[hcs],?_⟩⟩,fun k t hk=>?_⟩
 ·rw[<-htk]
  simp[List.take_set]
 by_cases hkj:k=j
 ·subst hkj
  rw[List.getElem?_set_self (by omega)] at hk ⊢;cases hk;exact⟨u,rfl,elt_grown he hg,hf⟩
 rw[List.getElem?_set_ne (fun e=>hkj e.symm)] at hk ⊢;obtain⟨y,e1,e2,e3⟩:=h2 k t hk;exact⟨y,e1,elt_grown e2 hg,e3⟩
theorem OwnRF.frozen (h:OwnRF w base T (.slice (some ⟨g,0,none⟩) n c) size n ss) (j:Nat):w.frozen? ⟨g,j,none⟩=false:=by
 obtain⟨_,vs,h1,_⟩:=h;rcases h1.2 with ⟨e,_⟩|⟨g',cap,cur,e,_,hh,_⟩
 ·cases e
 injection e with e1 _ e3;injection e1 with e1;injection e1 with e1;subst e1;have hB:Box w g T cur.toList:=hh;exact hB.frozen j
theorem OwnRF.cell {j:Nat} {s:Spec} (h:OwnRF w base T (.slice (some ⟨g,0,none⟩) n c) size n ss) (h0:0<n) (hj:ss[j]?=some s):∃u,w.cell? ⟨g,j,none⟩=some u/\EltS w (.slice (some ⟨g,0,none⟩) n c) u s/\From base u:=by
 obtain⟨_,vs,h1,h2⟩:=h;obtain⟨u,e1,e2,e3⟩:=h2 j s hj;obtain⟨b,o,e4,hb,hcell⟩:=(Sees.of_own h1).at_ h0;injection e4 with e5;injection e5 with e6 e7;subst e6 e7
 have:=hcell j u e1
 rw[Nat.zero_add] at this;exact⟨u,this,e2,e3⟩
end
theorem linkT_get (ls:List LinkG) (i:Nat) (h:i<ls.length):ls[i]?=some (linkT ls i):=by rw[linkT,xgd,xge h];rfl
def LkS (w:World) (v:Value) (W:World):Prop:=
 ∃ls:List LinkG,SeesR W W.heap.size v 3 ls.length (linkS ls)/\ls.length<=8/\(∀t∈ls,t.1.length<=2048/\t.2.1.length<=2048/\t.2.2.length<=2048)/\Below w.heap.size w W
theorem LkS.drew {w W:World} {v:Value} (h:LkS w v W):LkS w v W.drew:=by
 obtain⟨ls,h1,h2,h3,h4⟩:=h;exact⟨ls,(h1.below (bdrew W)).more (bdrew W).size,h2,h3,bgo h4 (bdrew W)⟩
end Go.Proofs.YtjgepckncogdaaaGreat
