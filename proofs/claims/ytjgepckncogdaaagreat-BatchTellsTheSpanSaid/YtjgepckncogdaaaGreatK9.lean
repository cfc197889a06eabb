/- Contracts of functions, walks, plain facts. Conditions: those of each theorem. -/
import Derived.RangeFuncBox
import Derived.OwnWalkIn
import Derived.LoopNIn
import Derived.LoopIn
import Derived.Sort.QuietIn
import Derived.Test.YtjgepckncogdaaaGreatK8
set_option linter.unusedVariables false
set_option linter.unusedSimpArgs false
set_option maxRecDepth 100000
set_option maxHeartbeats 16000000
namespace Go.Proofs.YtjgepckncogdaaaGreat
open Go.RowKit Go.Shelf _root_.Go.Proofs.Tryz
attribute [local go_sem] Oper.semAt_some
def chunkV (b o size k:Nat):Value:=.slice (some ⟨b,o+size * k,none⟩) size size
theorem range_snoc (k:Nat):List.range (k+1)=List.range k++[k]:=List.range_succ
theorem run_cut3g {P:Program} (t:TypeId) (ht:P.underlying t=some (.slice (P.elem t))) (size:Nat) (hs:∀w,(sizeOf (P.elem t)).run P w=.ok size w) (A:Option Addr) (n c:Nat) (l h:Int) (h0:0<=l) (h1:l<=h) (h2:h<=c) (w:World) :
 (Instr.slice t (.slice A n c) (some (.int .i64 l)) (some (.int .i64 h)) (some (.int .i64 h))).run P w=.ok (.slice (cutA A h.toNat l.toNat size) (h.toNat - l.toNat) (h.toNat - l.toNat)) w:=by
 rw[run_slice_lhm w t A n c ht .i64 .i64 .i64 l h h h0 h1 (Int.le_refl _) h2,hs];rfl
theorem run_cut3 (b o len cap sk size:Nat) (h1:sk+size<=cap) (h2:0<size) (w:World) :
 (Instr.slice 25 (.slice (some ⟨b,o,none⟩) len cap) (some (.int .i64 (sk:Int))) (some (.int .i64 ((sk:Int)+(size:Int)))) (some (.int .i64 ((sk:Int)+(size:Int))))).run prog w=.ok (.slice (some ⟨b,o+sk,none⟩) size size) w:=by
 have h:=run_cut3g (P:=prog) 25 underlying25 1 byte_size (some ⟨b,o,none⟩) len cap (sk:Int) ((sk:Int)+(size:Int)) (by omega) (by omega) (by omega) w;rw[xnc,show ((sk:Int)+(size:Int)).toNat=sk+size from by omega,cutA,if_neg (by omega),Option.map_some,add_zero',Nat.mul_one,Nat.add_sub_cancel_left] at h;exact h
theorem chunk1_in (n:Nat) (hn:1<=n) (l Bs Bn n₀ b o cap size N:Nat) (A:Option Addr) (hA:0<N->A=some ⟨b,o,none⟩) (hs0:0<size) (hs1:size<=64) (hN:N<=64) (hcap:size * N<=cap) (hbs:Bs<n₀) (hbn:Bn<n₀) (J Jx:List Nat->World->Prop) (B0:Nat) (hJ:AbidesFrom B0 J)
 (hY:∀pre x W,J pre W->pre.length<N->YieldAt Fence.wide (n - 1) prog l #[chunkV b o size x] W fun e W'=>
  (e=.returned (.bool true)/\J (pre++[x]) W'/\Below n₀ W W')\/(e=.returned (.bool false)/\Jx (pre++[x]) W'))
 (W:World) (hBs:W.cell? ⟨Bs,0,none⟩=some (.slice A (size * N) cap)) (hBn:W.cell? ⟨Bn,0,none⟩=some (.int .i64 (size:Int))) (h0:J [] W) :
 CallsIn Fence.wide n prog 216 #[.func (.yield l) #[] #[],.pointer (some ⟨Bs,0,none⟩),.pointer (some ⟨Bn,0,none⟩)] W fun e W'=>(∃v,e=.returned v) /\
  ((∃ys,ys=List.range N/\J ys W')\/(∃pre,(∃k,k<=N/\pre=List.range k)/\Jx pre W')):=by
 have hsn:size * N<=4096:=Nat.le_trans (Nat.mul_le_mul hs1 hN) (by omega);refine callsIn_of_wp func216 rfl trivial ?_ rfl;simp only[ntmps216,List.size_toArray,xlc,List.length_nil,Nat.reduceAdd,Nat.reduceSub,Array.replicate_succ,Array.replicate_zero,List.push_toArray,List.append_toArray,List.nil_append,List.cons_append]
 gi_wp2
 gi_loopw [4,5] (fun i _ wr=>∃k:Nat,k<=N/\i=.int .i64 ((size * k:Nat):Int)/\J (List.range k) wr/\Hid (Below n₀ W wr)) (fun i _ _=>size * N - (intOf i).toNat)
 case atStart=>exact⟨0,Nat.zero_le _,rfl,h0,Below.refl _ _⟩
 case round=>
  obtain⟨k,hk,rfl,hJs,hnx⟩:=hrel;have c0:=(hnx.out.cell (p:=⟨Bs,0,none⟩) hbs).trans hBs;have c1:=(hnx.out.cell (p:=⟨Bn,0,none⟩) hbn).trans hBn
  by_cases hlt:k<N
  ·obtain rfl:=hA (by omega)
   have hch:chunkV b o size k=.slice (some ⟨b,o+size * k,none⟩) size size:=rfl;have hmul:size * (k+1)<=size * N:=Nat.mul_le_mul_left _ hlt;rw[Nat.mul_succ] at hmul;have hnext:Hid (size * (k+1)=size * k+size):=Nat.mul_succ _ _;generalize size * k=sk at *;generalize hSN:size * N=SN at *;replace hSN:=lhd hSN;have r3:=run_cut3 b o SN cap sk size (by omega) hs0;have r1:∀W,(Instr.slice 25 (.slice (some ⟨b,o,none⟩) SN cap) (some (.int .i64 (sk:Int))) none none).run prog W=.ok (.slice (some ⟨b,o+sk,none⟩) (SN - sk) (cap - sk)) W:=fun W=>by
    have:=run_cut_from (P:=prog) 25 underlying25 1 byte_size (some ⟨b,o,none⟩) SN cap .i64 (sk:Int) (by omega) (by omega) W
    rw[xnc,cutA,if_neg (by omega),Option.map_some,add_zero',Nat.mul_one] at this;exact this
   have i0:(sk:Int)<(SN:Int):=by omega
   have i1:¬(((SN - sk:Nat):Int)<(size:Int)):=by omega
   have i2:¬((SN:Int) - (sk:Int)<(size:Int)):=by omega
   have i3:(sk:Int)<=(SN:Int):=by omega
   have i4:min (size:Int) ((SN - sk:Nat):Int)=(size:Int):=by omega
   replace hch:=lhd hch
   gi_wp2
   gi_quiet (fail)
   have hJq:J (List.range k) (wr.drewN nq):=hJ _ _ _ none hJs ⟨rfl,rfl,rfl,Nat.le_refl _,fun _ _ _=>rfl⟩ (fun r e=>by cases e);obtain⟨fn,tmps,assign,body,hy,hR⟩:=hY _ k (wr.drewN nq) hJq (by rw[List.length_range];exact hlt);rw[hch.out] at hy;have hxq:Hid (Below n₀ W (wr.drewN nq)):=below_drewN hnx.out nq;rw[<-range_snoc] at hR;have c0q:(wr.drewN nq).cell? ⟨Bs,0,none⟩=some (.slice (some ⟨b,o,none⟩) SN cap):=c0;clear hJq hJs hnx c0 c1;generalize wr.drewN nq=wq at *
   gi_wp2
   refine hR.mono ?_;rintro e W3 (⟨rfl,hJ3,hk3⟩ | ⟨rfl,hJx3⟩)
   ·have c1:=(hxq.out.cell (p:=⟨Bn,0,none⟩) hbn).trans hBn
    have c2:=(hk3.cell (p:=⟨Bn,0,none⟩) hbn).trans c1;have hx3:Hid (Below n₀ W W3):=hxq.out.trans hk3;clear hk3 hxq c1
    gi_wp2
    go_roundw
    case rel=>exact⟨k+1,by omega,by rw[hnext.out];go_num,hJ3,hx3⟩
    case measure=>simp[intOf];omega
   gi_wp2
   refine bodyPost_ret (results_none rfl _ _ _) rfl ?_;exact⟨⟨_,rfl⟩,.inr ⟨_,⟨k+1,by omega,rfl⟩,hJx3⟩⟩
  obtain rfl:k=N:=by omega
  generalize size * k=SN at *
  gi_wp2
  go_end0
  exact⟨⟨_,rfl⟩,.inl ⟨_,rfl,hJs⟩⟩
theorem chunk_stops (n:Nat) (hn:1<=n) (Bs Bn n₀ b o cap size N:Nat) (A:Option Addr) (hA:0<N->A=some ⟨b,o,none⟩) (hs0:0<size) (hs1:size<=64) (hN:N<=64) (hcap:size * N<=cap) (hbs:Bs<n₀) (hbn:Bn<n₀) (w:World) (hn0:n₀<=w.heap.size)
 (hBs:w.cell? ⟨Bs,0,none⟩=some (.slice A (size * N) cap)) (hBn:w.cell? ⟨Bn,0,none⟩=some (.int .i64 (size:Int))) :
 SeqStopsK Fence.wide n prog 216 #[.pointer (some ⟨Bs,0,none⟩),.pointer (some ⟨Bn,0,none⟩)] (fun k:Nat=>#[chunkV b o size k]) (Below n₀) (fun ys=>ys=List.range N) (fun pre=>∃k,k<=N/\pre=List.range k) N w:=fun l J Jx W hW hJ _ hY h0=>
 chunk1_in n hn l Bs Bn n₀ b o cap size N A hA hs0 hs1 hN hcap hbs hbn J Jx W.heap.size hJ hY W ((hW.cell (p:=⟨Bs,0,none⟩) (by dsimp only;omega)).trans hBs) ((hW.cell (p:=⟨Bn,0,none⟩) (by dsimp only;omega)).trans hBn) h0
theorem appendSeq_in (n:Nat) (hn:3<=n) (Bs Bn b o cap size N:Nat) (A:Option Addr) (hA:0<N->A=some ⟨b,o,none⟩) (hs0:0<size) (hs1:size<=64) (hN:N<=64) (hcap:size * N<=cap) (w:World) (hbs:Bs<w.heap.size) (hbn:Bn<w.heap.size)
 (hBs:w.cell? ⟨Bs,0,none⟩=some (.slice A (size * N) cap)) (hBn:w.cell? ⟨Bn,0,none⟩=some (.int .i64 (size:Int))) :
 CallsIn Fence.wide n prog 215 #[.slice none 0 0,.func (.func 216) #[] #[.pointer (some ⟨Bs,0,none⟩),.pointer (some ⟨Bn,0,none⟩)]] w fun e W'=>∃v,e=.returned v/\W'.ownsRow w.heap.size 25 1 v (List.range N).length ((List.range N).map (chunkV b o size))/\Below w.heap.size w W':=by
 have h1:1<=n:=by omega
 obtain⟨i0,hi,hz0,hz1,hz2⟩:=info_parts slice_info;refine callsIn_of_wp_marks func215 rfl trivial ?_ rfl;simp only[ntmps215,List.size_toArray,xlc,List.length_nil,Nat.reduceAdd,Nat.reduceSub,Array.replicate_succ,Array.replicate_zero,List.push_toArray,List.append_toArray,List.nil_append,List.cons_append]
 gi_wp2
 have bO:=Boxed.new w 30 (.slice none 0 0);have hB0:Below w.heap.size w (w.alloc (.cells #[.slice none 0 0] 30)):=balloc w _;refine wpIn_rangeFunc_ownG rfl h1 (gf:=216) (lb:=#[.pointer (some ⟨Bs,0,none⟩),.pointer (some ⟨Bn,0,none⟩)]) rfl trivial (enters_of func216 (by kernel_rfl) rfl)
  (chunk_stops (n - 1) (by omega) Bs Bn w.heap.size b o cap size N A hA hs0 hs1 hN hcap hbs hbn _ (by simp) ((hB0.cell (p:=⟨Bs,0,none⟩) hbs).trans hBs) ((hB0.cell (p:=⟨Bn,0,none⟩) hbn).trans hBn)) belowK_t (belowK_b (by simp)) (Below.refl _ _) (fun _=>rfl)
  (fun pre W=>(∃v,Boxed W w.heap.size 30 v/\W.ownsRow w.heap.size 25 1 v pre.length (pre.map (chunkV b o size))/\True)/\Below w.heap.size w W)
  (fun _ _ _=>False)
  (OwnFrom.and (Own.from (holdsRow_own w.heap.size w.heap.size 30 25 1 (fun pre:List Nat=>pre.length) (fun pre=>pre.map (chunkV b o size)) (fun _ _=>True)) _) (ownFrom_below nlr (by simp)))
  (fun _ _ _ _ _ hs _ _=>hs)
  ⟨⟨_,bO,World.ownsRow_nil _ _ _ _,trivial⟩,hB0⟩
  (fun k=>{ tmps:=#[.slice none 0 0,.func (.func 216) #[] #[.pointer (some ⟨Bs,0,none⟩),.pointer (some ⟨Bn,0,none⟩)],.pointer (some ⟨w.heap.size,0,none⟩),undef,.slice none 0 0,.slice (some ⟨b,o+size * k,none⟩) size size,.func (.func 216) #[] #[.pointer (some ⟨Bs,0,none⟩),.pointer (some ⟨Bn,0,none⟩)],.slice (some ⟨b,o+size * k,none⟩) size size,undef,undef,undef,undef,undef],defers:=[] }) ?assign ?body ?done ?stop
 case assign=>
  intro l x W K hK
  gi_wp2
  exact hK
 case body=>
  rintro l pre x W ⟨⟨v,hv,hrow,-⟩,hB⟩ hlt;have hc:=hv.cell;have hcx:chunkV b o size x=.slice (some ⟨b,o+size * x,none⟩) size size:=rfl;generalize (⟨b,o+size * x,none⟩:Addr)=ad at *;replace hcx:=lhd hcx
  gi_wp2_with (gi_at_builtin;refine wpListIn_append_own _ rfl _ _ 30 rfl w.heap.size 25 i0 (.slice none 0 0) 1 24 underlying30 hi hz0 hz1 hz2 rfl (by decide) _ _ _ rfl (hrow.alloc _) ⟨W.heap.size,0,none⟩ 1 1 [.slice (some ad) size size] rfl rfl (cell_one_new _ _ _) (by simp[Value.oneCell']) (by unfold maxLen;omega) (by omega) (by have:=hB.size;simp;omega) ?_;intro v' w1 hown' hgrow _;obtain⟨g',cap',rfl⟩:=ownsRow_succ hown';obtain⟨hv1,hv2,hr2,hk2,hb2⟩:=hv.appended (by decide) hrow hB.size nlr hown' hgrow;have hc1:=hv1.cell;have hf1:=hv1.frozen)
  exact⟨hk2.from _,hb2,⟨_,hv2,by rw[List.map_append,List.map_singleton,hcx.out,xla,xl1];exact hr2,trivial⟩,hB.trans hb2⟩
 case done=>
  rintro D ys W hD rfl ⟨⟨v,hv,hrow,-⟩,hB⟩ hK;have hc:=hv.cell
  gi_wp2
  refine⟨by simp,.inl ⟨_,_,rfl,run_takeDeferred hK,?_⟩⟩;exact⟨_,results_tmp rfl _ _ _,v,rfl,ownsRow_putObj hrow _ hK rfl,hB.trans (belowK_b (w:=w) nlr W D _ _ (by simp at hD;omega) hK rfl rfl)⟩
 case stop=>
  rintro D c pre W _ _ h _;exact h.elim
attribute [local go_sem ↓] Go.wp_at_zero Go.wp_at_succ
theorem cutL_get (size n:Nat) (l:Bs) (k:Nat) (hk:k<n):(cutL size n l).getD k []=(l.drop (size * k)).take size:=by
 induction n generalizing l k with
 | zero=>omega
 | succ n ih=>
   cases k with
   | zero=>simp[cutL]
   | succ k=>
     rw[cutL,List.getD_cons_succ,ih _ k (by omega),List.drop_drop,Nat.mul_succ,Nat.add_comm]
theorem chunk_sees {w:World} {B b o n c size k:Nat} {l:Bs} (h:SeesB w B (.slice (some ⟨b,o,none⟩) n c) l) (hk:size * k+size<=l.length) (hs:size<=64) :
 SeesB w B (chunkV b o size k) ((l.drop (size * k)).take size):=by
 have hl:((l.drop (size * k)).take size).length=size:=by rw[xlt,xld];omega
 unfold SeesB chunkV;rw[hl];refine⟨by rw[vb_len,hl,Nat.mul_one],_,size,rfl,Nat.le_refl _,by unfold maxLen;omega,fun h0=>?_⟩;obtain⟨b',o',e,hb,hcell⟩:=h.at_ (by omega);cases e;refine⟨b,o+size * k,rfl,hb,fun j x hj=>?_⟩;rw[vb_get,List.getElem?_take] at hj
 split at hj
 ·rw[List.getElem?_drop] at hj
  obtain⟨y,hy,rfl⟩:=Option.map_eq_some_iff.1 hj;rw[Nat.add_assoc,hcell _ (List.getElem?_eq_some_iff.1 hy).1,xgd,hy]
  rfl
 cases hj
theorem collect_any (Bs Bn b o cap size N:Nat) (A:Option Addr) (hA:0<N->A=some ⟨b,o,none⟩) (hs0:0<size) (hs1:size<=64) (hN:N<=64) (hcap:size * N<=cap) (w:World) (hbs:Bs<w.heap.size) (hbn:Bn<w.heap.size)
 (hBs:w.cell? ⟨Bs,0,none⟩=some (.slice A (size * N) cap)) (hBn:w.cell? ⟨Bn,0,none⟩=some (.int .i64 (size:Int))) :
 Calls prog 148 #[.func (.func 216) #[] #[.pointer (some ⟨Bs,0,none⟩),.pointer (some ⟨Bn,0,none⟩)]] w fun e W'=>∃v,e=.returned v/\W'.ownsRow w.heap.size 25 1 v (List.range N).length ((List.range N).map (chunkV b o size))/\Below w.heap.size w W':=by
 have h:=lhd (callsIn_wide.1 (appendSeq_in 3 (by omega) Bs Bn b o cap size N A hA hs0 hs1 hN hcap w hbs hbn hBs hBn));clear hBs hBn hA hcap
 go_enter func148,ntmps148
 go_wp2_with fail
 refine h.out.mono ?_;rintro e w1 ⟨v,rfl,h1,hb1⟩;dsimp only
 go_wp2_with fail
 go_ret
 exact⟨v,rfl,h1,hb1⟩
theorem chunk_any (A:Option Addr) (n c size:Nat) (hs0:0<size) (w:World) :
 Calls prog 149 #[.slice A n c,.int .i64 (size:Int)] w fun e w'=>e=.returned (.func (.func 216) #[] #[.pointer (some ⟨w.heap.size,0,none⟩),.pointer (some ⟨w.heap.size+1,0,none⟩)])/\w'=(w.alloc (.cells #[.slice A n c] 25)).alloc (.cells #[.int .i64 (size:Int)] 3):=by
 have i0:¬((size:Int)<1):=by omega
 go_enter func149,ntmps149
 go_wp2_with fail
 go_ret
 exact⟨rfl,rfl⟩
theorem parts_any (B:Nat) (u:Value) (l:Bs) (size N:Nat) (w:World) (hu:SeesB w B u l) (hB:B<=w.heap.size) (hs0:0<size) (hs1:size<=64) (hN:N<=64) (hl:l.length=size * N) :
 Calls prog 220 #[u,.int .i64 (size:Int)] w (GivesL (cutL size N l) w):=by
 obtain⟨A,c,rfl,hc1,hc2⟩:=hu.mk_;have hA:∃b o,0<N->A=some ⟨b,o,none⟩:=by
  rcases Nat.eq_zero_or_pos N with h0|h0
  ·exact⟨0,0,fun h=>by omega⟩
  obtain⟨b,o,e,-⟩:=hu.at_ (by rw[hl];exact Nat.mul_pos hs0 h0);exact⟨b,o,fun _=>e⟩
 obtain⟨b,o,hA⟩:=hA;have hck:=lhd (chunk_any A l.length c size hs0 w);have hb1:Below w.heap.size w ((w.alloc (.cells #[.slice A l.length c] 25)).alloc (.cells #[.int .i64 (size:Int)] 3)):=bgo (balloc w _) (balloc _ _);have hx1:=Box.below (Box.new w 25 [.slice A l.length c]) (balloc _ (.cells #[.int .i64 (size:Int)] 3));have hx2:=Box.new (w.alloc (.cells #[.slice A l.length c] 25)) 3 [.int .i64 (size:Int)];have hz:(w.alloc (.cells #[.slice A l.length c] 25)).heap.size=w.heap.size+1:=xsa _ _;rw[hz] at hx2;change Box ((w.alloc (.cells #[.slice A l.length c] 25)).alloc (.cells #[.int .i64 (size:Int)] 3)) _ _ _ at hx1 hx2;generalize (w.alloc (.cells #[.slice A l.length c] 25)).alloc (.cells #[.int .i64 (size:Int)] 3)=W1 at *;have hco:=lhd (collect_any w.heap.size (w.heap.size+1) b o c size N A hA hs0 hs1 hN (by omega) W1 hx1.lt hx2.lt (by rw[<-hl];exact hx1.cell 0) (hx2.cell 0));have hfin:Hid (∀W2 v,W2.ownsRow W1.heap.size 25 1 v (List.range N).length ((List.range N).map (chunkV b o size))->Below W1.heap.size W1 W2->OwnL W2 w.heap.size v (cutL size N l)):=by
  intro W2 v h1 h2;have hb2:=bgo hb1 h2;have hu2:=hu.below (hb2.mono hB);refine⟨(List.range N).map (chunkV b o size),?_,fun k hk=>?_⟩
  ·rw[cutL_len]
   rw[List.length_range] at h1;refine⟨h1.1,?_⟩;rcases h1.2 with h|⟨g,cap,cur,e1,e2,e3⟩
   ·exact .inl h
   exact .inr ⟨g,cap,cur,e1,by have:=hb1.size;omega,e3⟩
  rw[cutL_len] at hk;have hm:size * k+size<=l.length:=by
   rw[hl,<-Nat.mul_succ];exact Nat.mul_le_mul_left _ hk
  obtain rfl:=hA (by omega);refine⟨chunkV b o size k,by rw[xgm,List.getElem?_range hk];rfl,?_⟩;rw[cutL_get _ _ _ _ hk];exact Elt.of_old (chunk_sees hu2 hm hs1) (Nat.le_trans hB hb2.size) (fun j hj=>by have:=(h1.lt j hj).1;have:=hb1.size;omega)
 replace hb1:=lhd hb1;clear hx1 hx2 hu hA hl
 go_enter func220,ntmps220
 go_wp2_with fail
 refine hck.out.mono ?_;rintro e w1 ⟨rfl,rfl⟩;dsimp only
 go_wp2_with fail
 refine hco.out.mono ?_;rintro e w2 ⟨v,rfl,h1,hb2⟩;dsimp only
 go_wp2_with fail
 go_ret
 exact⟨v,rfl,hfin.out _ _ h1 hb2,bgo hb1.out hb2⟩
end Go.Proofs.YtjgepckncogdaaaGreat
namespace Go.Proofs.YtjgepckncogdaaaGreat
open Go Go.RowKit _root_.Go.Proofs.Tryz
attribute [local go_sem ↓] Go.wp_at_zero Go.wp_at_succ
def CutSome (a b:Bs) (w:World) (e:Ending) (w':World):Prop:=∃v1 v2,e=.returned (.tuple #[v1,v2,.bool true])/\OwnB w' w.heap.size v1 a/\OwnB w' w.heap.size v2 b/\Below w.heap.size w w'
theorem cut_no (B:Nat) (u:Value) (l:Bs) (n:Nat) (w:World) (hu:SeesB w B u l) (hn:l.length<n) :
 Calls prog 219 #[u,.int .i64 (n:Int)] w fun e w'=>e=.returned (.tuple #[.slice none 0 0,.slice none 0 0,.bool false])/\w'=w:=by
 obtain⟨A,c,rfl,-,-⟩:=hu.mk_;clear hu;have i0:¬((n:Int)<0):=by omega
 have i1:(l.length:Int)<(n:Int):=by omega
 go_enter func219,ntmps219
 go_wp2_with fail
 go_returns
 exact⟨rfl,rfl⟩
theorem cut_yes (B:Nat) (u:Value) (l:Bs) (n:Nat) (w:World) (hu:SeesB w B u l) (hB:B<=w.heap.size) (hn:n<=l.length) (hl:l.length<=1048576) :
 Calls prog 219 #[u,.int .i64 (n:Int)] w (CutSome (l.take n) (l.drop n) w):=by
 obtain⟨A,c,rfl,hc1,hc2⟩:=hu.mk_;have i0:¬((n:Int)<0):=by omega
 have i1:¬((l.length:Int)<(n:Int)):=by omega
 have i2:(n:Int)<=(l.length:Int):=by omega
 have i3:(n:Int)<=(c:Int):=by omega
 have i4:(0:Int)<=(n:Int):=by omega
 have r1:=run_cut_to (P:=prog) 25 underlying25 1 byte_size A l.length c .i64 (n:Int) (by omega) (by omega);have r2:=run_cut_from (P:=prog) 25 underlying25 1 byte_size A l.length c .i64 (n:Int) (by omega) (by omega);rw[xnc] at r1 r2;have c1:=SeesB.cut (a:=0) (b:=n) hu (by omega) hn;have c2:=SeesB.cut (a:=n) (b:=l.length) hu hn nlr;rw[List.drop_zero,Nat.sub_zero,Nat.sub_zero] at c1;rw[Nat.sub_zero,Nat.sub_zero] at r1;rw[xtl (by rw[xld];omega)] at c2;have h1:=fun W (hW:Below w.heap.size w W)=>clone_any B _ _ W (c1.below (hW.mono hB)) (Nat.le_trans hB hW.size) (by rw[xlt];omega)
 have h2:=fun W (hW:Below w.heap.size w W)=>clone_any B _ _ W (c2.below (hW.mono hB)) (Nat.le_trans hB hW.size) (by rw[xld];omega)
 generalize cutA A c 0 1=A1 at *;generalize cutA A c n 1=A2 at *;replace h1:=lhd h1;replace h2:=lhd h2;clear c1 c2 hu
 go_enter func219,ntmps219
 go_wp2_with fail
 go_region_held3 (fun W':World=>True) (trivial)
  (first
   | (go_at_call 140;have _h:=hb1;clear _h;refine (h2.out _ hb1).mono ?_;rintro e w2 ⟨v2,rfl,k2,hb2⟩)
   | (go_at_call 140;refine (h1.out _ (bdrew w)).mono ?_;rintro e w1 ⟨v1,rfl,k1,hb1⟩
      replace hb1:=(bdrew w).trans hb1))
 all_goals
  go_wp2_with fail
  go_returns
  exact⟨v1,v2,rfl,(k1.below hb2).mono nlr,k2.mono hb1.size,bgo hb1 hb2⟩
def ParseSome (s:Sig) (w:World) (e:Ending) (w':World):Prop:=
 ∃v1 v2,e=.returned (.tuple #[.agg #[.int .i64 (s.height:Int),.int .i64 (s.index:Int),v1,v2],.bool true])/\OwnL w' w.heap.size v1 s.elements/\OwnL w' w.heap.size v2 s.path/\Below w.heap.size w w'
def ParseNone (w:World) (e:Ending) (w':World):Prop:=
 e=.returned (.tuple #[.agg #[.int .i64 0,.int .i64 0,.slice none 0 0,.slice none 0 0],.bool false])/\Below w.heap.size w w'
theorem zero_set4 {W:World} {g:Nat} {T:TypeId} {a b c d:Value} (h:Box W g T [a,b,c,d]) (x0 x1 x2 x3:Value):Box ((((W.setCell ⟨g,0,none⟩ x0).setCell ⟨g,1,none⟩ x1).setCell ⟨g,2,none⟩ x2).setCell ⟨g,3,none⟩ x3) g T [x0,x1,x2,x3]:=by
 have:=(((h.set 0 x0).set 1 x1).set 2 x2).set 3 x3
 simpa using this
theorem below_set4 {w W:World} {g:Nat} (h:Below w.heap.size w W) (hg:w.heap.size<=g) (x0 x1 x2 x3:Value):Below w.heap.size w ((((W.setCell ⟨g,0,none⟩ x0).setCell ⟨g,1,none⟩ x1).setCell ⟨g,2,none⟩ x2).setCell ⟨g,3,none⟩ x3):=
 (((h.setCell (p:=⟨g,0,none⟩) hg _).setCell (p:=⟨g,1,none⟩) hg _).setCell (p:=⟨g,2,none⟩) hg _).setCell (p:=⟨g,3,none⟩) hg _
theorem parse_short (B:Nat) (u:Value) (l:Bs) (w:World) (hu:SeesB w B u l) (hB:B<=w.heap.size) (hl:l.length<5) :
 Calls prog 152 #[u] w (ParseNone w):=by
 have hb0:=balloc w (.cells #[.int .i64 0,.int .i64 0,.slice none 0 0,.slice none 0 0] 191);have hx:=Box.new w 191 [.int .i64 0,.int .i64 0,.slice none 0 0,.slice none 0 0];change Box (w.alloc (.cells #[.int .i64 0,.int .i64 0,.slice none 0 0,.slice none 0 0] 191)) _ _ _ at hx;have hc:=cut_no B u l 5 (w.alloc (.cells #[.int .i64 0,.int .i64 0,.slice none 0 0,.slice none 0 0] 191)) (hu.below (hb0.mono hB)) hl;obtain⟨A,c,rfl,-,-⟩:=hu.mk_;replace hc:=lhd hc;clear hu
 go_enter func152,ntmps152
 go_wp2_with fail
 refine hc.out.mono ?_;rintro e w1 ⟨rfl,rfl⟩;clear hc;generalize w.alloc (.cells #[.int .i64 0,.int .i64 0,.slice none 0 0,.slice none 0 0] 191)=W at *;have z0:W.cell? ⟨w.heap.size,0,none⟩=some (.int .i64 0):=hx.cell 0;have z1:W.cell? ⟨w.heap.size,1,none⟩=some (.int .i64 0):=hx.cell 1;have z2:W.cell? ⟨w.heap.size,2,none⟩=some (.slice none 0 0):=hx.cell 2;have z3:W.cell? ⟨w.heap.size,3,none⟩=some (.slice none 0 0):=hx.cell 3;have f0:=hx.frozen 0;have f1:=hx.frozen 1;have f2:=hx.frozen 2;have f3:=hx.frozen 3;have hlt:=hx.lt;have kz:=lhd (zero_set4 hx (.int .i64 0) (.int .i64 0) (.slice none 0 0) (.slice none 0 0));have kb:=lhd (below_set4 hb0 nlr (.int .i64 0) (.int .i64 0) (.slice none 0 0) (.slice none 0 0));clear hx hb0;dsimp only
 go_wp2_with fail
 clear z0 z1 z2 z3 f0 f1 f2 f3;generalize (((W.setCell ⟨w.heap.size,0,none⟩ (.int .i64 0)).setCell ⟨w.heap.size,1,none⟩ (.int .i64 0)).setCell ⟨w.heap.size,2,none⟩ (.slice none 0 0)).setCell ⟨w.heap.size,3,none⟩ (.slice none 0 0)=W2 at *;have z0:W2.cell? ⟨w.heap.size,0,none⟩=some (.int .i64 0):=kz.out.cell 0;have z1:W2.cell? ⟨w.heap.size,1,none⟩=some (.int .i64 0):=kz.out.cell 1;have z2:W2.cell? ⟨w.heap.size,2,none⟩=some (.slice none 0 0):=kz.out.cell 2;have z3:W2.cell? ⟨w.heap.size,3,none⟩=some (.slice none 0 0):=kz.out.cell 3;refine bodyPost_ret (v:=.tuple #[.agg #[.int .i64 0,.int .i64 0,.slice none 0 0,.slice none 0 0],.bool false]) (by simp[results,results152,go_sem,z0,z1,z2,z3]) rfl ?_;exact⟨rfl,kb.out⟩
theorem foldl_lt (l:Bs):∀v:Nat,l.foldl (fun v x=>v * 256+x.toNat) v<(v+1) * 256 ^ l.length:=by
 induction l with
 | nil=>intro v;simp
 | cons x l ih=>
   intro v;have h1:=ih (v * 256+x.toNat);have h2:=x.toNat_lt;rw[List.foldl_cons,xlc,Nat.pow_succ,Nat.mul_comm (256 ^ l.length),<-Nat.mul_assoc];exact Nat.lt_of_lt_of_le h1 (Nat.mul_le_mul_right _ (by omega))
theorem getB_lt4 (l:Bs) (h:l.length=4):getB l<4294967296:=by
 rw[getB_val]
 have:=foldl_lt l 0
 rw[h] at this;have h2:=Nat.mod_le (valB l) 18446744073709551616;unfold valB at h2 ⊢
 omega
theorem cutL_take (size n:Nat) (b:Bs):cutL size n (b.take (size * n))=cutL size n b:=by
 induction n generalizing b with
 | zero=>rfl
 | succ n ih=>
   rw[cutL,cutL,List.take_take,Nat.min_eq_left (by rw[Nat.mul_succ];omega),List.drop_take,show size * (n+1) - size=size * n from by rw[Nat.mul_succ];omega,ih]
theorem wrap_pow2 (h:Nat) (hh:h<=6):IntKind.i64.wrap ((2:Int) ^ h)=((2 ^ h:Nat):Int):=by
 rcases (by omega:h=0\/h=1\/h=2\/h=3\/h=4\/h=5\/h=6) with rfl|rfl|rfl|rfl|rfl|rfl|rfl
 all_goals decide +kernel
def NoB (a:Value):Prop:=∀n,a≠.int .u8 n
theorem NoB.i (n:Int):NoB (.int .i64 n):=fun m e=>by cases e
theorem NoB.s (A:Option Addr) (n c:Nat):NoB (.slice A n c):=fun m e=>by cases e
theorem noBL4 {a b c d:Value} (ha:NoB a) (hb:NoB b) (hc:NoB c) (hd:NoB d):NoByte [a,b,c,d]:=by
 intro x hx n e;simp only[List.mem_cons,List.not_mem_nil,or_false] at hx;rcases hx with rfl|rfl|rfl|rfl
 ·exact ha n e
 ·exact hb n e
 ·exact hc n e
 exact hd n e
theorem OwnL.poke4 {W:World} {base g:Nat} {T:TypeId} {v a b c d:Value} {ls:List Bs} (h:OwnL W base v ls) (hG:g<base) (hx:Box W g T [a,b,c,d]) (ha:NoB a) (hb:NoB b) (hc:NoB c) (hd:NoB d) (x0 x1 x2 x3:Value) (h0:NoB x0) (h1:NoB x1) (h2:NoB x2) :
 OwnL ((((W.setCell ⟨g,0,none⟩ x0).setCell ⟨g,1,none⟩ x1).setCell ⟨g,2,none⟩ x2).setCell ⟨g,3,none⟩ x3) base v ls:=by
 have k0:=h.poke (j:=0) (v':=x0) hG hx (noBL4 ha hb hc hd);have y0:=hx.set 0 x0;simp only[xsz] at y0;have k1:=k0.poke (j:=1) (v':=x1) hG y0 (noBL4 h0 hb hc hd);have y1:=y0.set 1 x1;simp only[xsz,xss] at y1;have k2:=k1.poke (j:=2) (v':=x2) hG y1 (noBL4 h0 h1 hc hd);have y2:=y1.set 2 x2;simp only[xsz,xss] at y2;exact k2.poke (j:=3) (v':=x3) hG y2 (noBL4 h0 h1 h2 hd)
def ParseP (x:Option Sig) (w:World) (e:Ending) (w':World):Prop:=
 match x with
 | none=>ParseNone w e w'
 | some s=>ParseSome s w e w'
theorem parse_long (B:Nat) (u:Value) (l:Bs) (w:World) (hu:SeesB w B u l) (hB:B<=w.heap.size) (hl5:5<=l.length) (hl:l.length<=1048576) :
 Calls prog 152 #[u] w (ParseP (partsG l) w):=by
 have hb0:=balloc w (.cells #[.int .i64 0,.int .i64 0,.slice none 0 0,.slice none 0 0] 191);have hx:=Box.new w 191 [.int .i64 0,.int .i64 0,.slice none 0 0,.slice none 0 0];change Box (w.alloc (.cells #[.int .i64 0,.int .i64 0,.slice none 0 0,.slice none 0 0] 191)) _ _ _ at hx;have hc:=cut_yes B u l 5 (w.alloc (.cells #[.int .i64 0,.int .i64 0,.slice none 0 0,.slice none 0 0] 191)) (hu.below (hb0.mono hB)) (Nat.le_trans hB hb0.size) hl5 hl;obtain⟨A,c,rfl,-,-⟩:=hu.mk_;replace hc:=lhd hc;clear hu;have hl1:(l.take 5).length=5:=by rw[xlt];omega
 have hl2:(l.drop 5).length=l.length - 5:=xld;have hh0:(l.take 5).getD 0 0=l.getD 0 0:=by rw[xgd,List.getElem?_take,if_pos (by omega),<-xgd]
 have hi0:(l.take 5).drop 1=(l.drop 1).take 4:=by rw[List.drop_take]
 have hi4:((l.drop 1).take 4).length=4:=by rw[xlt,xld];omega
 have hidx:=getB_lt4 _ hi4;have hel:Hid (cutL 16 35 ((l.drop 5).take 560)=cutL 16 35 (l.drop 5)):=cutL_take 16 35 (l.drop 5);have hP:Hid (partsG l=if l.length<565 then none
  else if 6<(l.getD 0 0).toNat\/2 ^ (l.getD 0 0).toNat<=getB ((l.drop 1).take 4)\/l.length≠565+32 * (l.getD 0 0).toNat then none
  else some ⟨(l.getD 0 0).toNat,getB ((l.drop 1).take 4),cutL 16 35 (l.drop 5),cutL 32 (l.getD 0 0).toNat (l.drop 565)⟩):=rfl
 have hx0:=(l.getD 0 0).toNat_lt
 go_enter func152,ntmps152
 go_wp2_with fail
 refine hc.out.mono ?_;rintro e w1 ⟨v1,v2,rfl,k1,k2,hb1⟩;replace hx:=hx.below hb1;replace hb1:=bgo hb0 hb1;clear hb0 hc;obtain⟨A1,c1,rfl,hc1,hc1'⟩:=k1.sees.mk_;obtain⟨A2,c2,rfl,-,-⟩:=k2.sees.mk_;obtain⟨b1,o1,rfl,hbB,hcell⟩:=k1.sees.at_ (by omega);have x0:=hcell 0 (by omega);rw[hh0,Nat.add_zero] at x0;have s1:=SeesB.cut (a:=1) (b:=5) k1.sees (by omega) (by omega);rw[hi0,xtl (by omega)] at s1;rw[hl1] at hc1 ⊢;rw[hl2] at k2 ⊢;have r1:∀W,(Instr.slice 25 (.slice (some ⟨b1,o1,none⟩) 5 c1) (some (.int .i64 1)) none none).run prog W=.ok (.slice (cutA (some ⟨b1,o1,none⟩) c1 1 1) 4 (c1 - 1)) W:=fun W=>
  run_cut_from (P:=prog) 25 underlying25 1 byte_size (some ⟨b1,o1,none⟩) 5 c1 .i64 1 (by omega) (by omega) W
 generalize cutA (some ⟨b1,o1,none⟩) c1 1 1=A3 at *;have hget:∀W:World,Below w1.heap.size w1 W->Calls prog 147 #[.slice A3 4 (c1 - 1)] W fun e w'=>e=.returned (.int .u64 (getB ((l.drop 1).take 4):Int))/\w'=W:=fun W hW=>get_any w1.heap.size _ _ W (s1.below hW)
 unfold byV at x0;generalize (l.getD 0 0).toNat=h at *;generalize getB ((l.drop 1).take 4)=ix at *;replace hget:=lhd hget;replace hb1:=lhd hb1;replace hx:=lhd hx;replace k2:=lhd k2;have m1:IntKind.i64.wrap (ix:Int)=(ix:Int):=by rw[xwi];omega
 have m0:IntKind.i64.wrap (h:Int)=(h:Int):=by rw[xwi];omega
 clear s1 hcell k1 hh0 hi0 hi4 hl1 hl2;dsimp only
 go_upto_region 4 with (fail)
 go_cut [7] (fun v W=>v=.pointer (some ⟨w1.heap.size,0,none⟩)/\Hid (Box W w1.heap.size 191 [.int .i64 (h:Int),.int .i64 (ix:Int),.slice none 0 0,.slice none 0 0])/\Hid (Below w1.heap.size w1 W))
 case first=>
  go_region_held3 (fun W':World=>W'.cell? ⟨b1,o1,none⟩=some (.int .u8 (h:Int)))
   (first | (go_keep;done))
   (first
    | (go_at_call 147;refine (hget.out _ (bdrew w1)).mono ?_;rintro e w' ⟨rfl,rfl⟩)
    | (go_at_call 147;refine (hget.out _ (by (repeat (first | exact Below.refl _ _ | (refine bgo ?_ (balloc _ _)) | (refine bgo ?_ (bdrew _)) | (refine bgo ?_ (by assumption)))))).mono ?_;rintro e w' ⟨rfl,rfl⟩))
  all_goals
   go_wp2_with fail
   go_meet
   exact⟨rfl,Box.new w1 _ _,(balloc w1 _).drew⟩
 case rest=>
  obtain⟨rfl,hx3,hb2⟩:=hcut;obtain⟨W2,rfl⟩:∃W:World,W=wc:=⟨_,rfl⟩
  have hx2:=hx.out.below hb2.out;have k22:=k2.out.below hb2.out;have hg2:=hx.out.lt;replace hb2:=lhd (bgo hb1.out hb2.out);have hGw:w.heap.size<=w1.heap.size:=hb1.out.size;generalize w1.heap.size=G at *;clear hx k2 hb1 hget x0 r1 m1 m0;have c0:W2.cell? ⟨G,0,none⟩=some (.int .i64 (h:Int)):=hx3.out.cell 0;have c1':W2.cell? ⟨G,1,none⟩=some (.int .i64 (ix:Int)):=hx3.out.cell 1;obtain⟨R,hR⟩:∃R,R=l.length - 5:=⟨_,rfl⟩
  rw[<-hR] at k22 ⊢;have hRl:R+5=l.length:=by omega
  have hR0:=lhd hR;clear hR;have m2:IntKind.i64.wrap ((h:Int) * 32)=(h:Int) * 32:=by rw[xwi];omega
  have m3:IntKind.i64.wrap (560+(h:Int) * 32)=560+(h:Int) * 32:=by rw[xwi];omega
  by_cases hh:h<=6
  ·have hp:=wrap_pow h hh
   have hp2:=wrap_pow2 h hh;have hp64:=pow_le64 h hh
   by_cases hix:ix<2 ^ h
   ·by_cases hlen:l.length=565+32 * h
    ·have hn:partsG l=some ⟨h,ix,cutL 16 35 (l.drop 5),cutL 32 h (l.drop 565)⟩:=by
      rw[hP.out,if_neg (by omega),if_neg (by omega)]
     rw[<-hel.out,show l.drop 565=(l.drop 5).drop 560 by rw[List.drop_drop]] at hn;have hRR:(l.drop 5).length=R:=by rw[xld];omega
     have hR560:R=560+32 * h:=by omega
     clear hP hel;generalize 2 ^ h=N at *;generalize l.drop 5=rs at *;have hn:=lhd hn;have i0:decide ((N:Int)<=(ix:Int))=false:=by simp;omega
     have i1:((R:Int) != 560+(h:Int) * 32)=false:=by rw[bne_eq_false_iff_eq];omega
     replace hRl:=lhd hRl;replace hlen:=lhd hlen;replace hR560:=lhd hR560;replace hRR:=lhd hRR
     go_wp2_with fail
     go_quiet ((go_at_call 180;exact Calls.quiet_of_same (tall_yes _ _ (by omega) (by omega))))
     go_wp2_with fail
     have hx2q:Box (W2.drewN nq) w.heap.size 191 _:=hx2;have hx3q:Box (W2.drewN nq) G 191 _:=hx3.out;have k22q:OwnB (W2.drewN nq) _ _ _:=k22;have hb2q:=below_drewN hb2.out nq;clear c0 c1' hx2 hb2 hx3 k22;generalize W2.drewN nq=W at *;have hc2:=cut_yes W.heap.size (.slice A2 R c2) rs 560 W k22q.sees nlr (by rw[hRR.out,hR560.out];omega) (by rw[hRR.out,hR560.out];omega);refine hc2.mono ?_;rintro e W3 ⟨v3,v4,rfl,k3,k4,hb3⟩;have hl3:(rs.take 560).length=16 * 35:=by rw[xlt,hRR.out,hR560.out];omega
     have hl4:(rs.drop 560).length=32 * h:=by rw[xld,hRR.out,hR560.out];omega
     replace hx2q:=hx2q.below hb3;replace hx3q:=hx3q.below hb3;replace hb3:=bgo hb2q hb3;have hpp:=lhd (parts_any W3.heap.size v3 (rs.take 560) 16 35 W3 k3.sees nlr (by omega) (by omega) (by omega) hl3);have hp2':Hid (∀W4,Below W3.heap.size W3 W4->Calls prog 220 #[v4,.int .i64 32] W4 (GivesL (cutL 32 h (rs.drop 560)) W4)):=fun W4 h4=>parts_any W3.heap.size v4 (rs.drop 560) 32 h W4 (k4.sees.below h4) h4.size (by omega) (by omega) (by omega) hl4
     obtain⟨A3',c3,rfl,-,-⟩:=k3.sees.mk_;obtain⟨A4,c4,rfl,-,-⟩:=k4.sees.mk_;rw[hl3] at hpp ⊢;rw[hl4] at hp2' ⊢;have hE:=cutL_len 16 35 (rs.take 560);have hPT:=cutL_len 32 h (rs.drop 560);generalize cutL 16 35 (rs.take 560)=ES at *;generalize cutL 32 h (rs.drop 560)=PS at *;replace hE:=lhd hE;replace hPT:=lhd hPT;replace hx2q:=lhd hx2q;replace hx3q:=lhd hx3q;replace hb3:=lhd hb3;clear hc2 hb2q k22q k3 k4 hl3 hl4;dsimp only
     go_wp2_with fail
     refine hpp.out.mono ?_;rintro e W4 ⟨v5,rfl,k5,hb4⟩;obtain⟨A5,c5,rfl⟩:=k5.shape;dsimp only
     go_wp2_with fail
     refine (hp2'.out W4 hb4).mono ?_;rintro e W5 ⟨v6,rfl,k6,hb5⟩;obtain⟨A6,c6,rfl⟩:=k6.shape;rw[hE.out] at k5 ⊢;rw[hPT.out] at k6 ⊢;have hG3:=hx3q.out.lt;have hb35:=bgo hb4 hb5;have y2:=hx2q.out.below hb35;have y3:=hx3q.out.below hb35;have k5':=k5.below hb5;have k6':=k6.mono hb4.size;replace hb5:=bgo hb3.out hb35;have hwb:W3.heap.size<=W5.heap.size:=hb35.size;have q5:=k5'.poke (j:=2) (v':=.slice A5 35 c5) hG3 y3 (noBL4 (NoB.i _) (NoB.i _) (NoB.s _ _ _) (NoB.s _ _ _));have q6:=k6'.poke (j:=2) (v':=.slice A5 35 c5) hG3 y3 (noBL4 (NoB.i _) (NoB.i _) (NoB.s _ _ _) (NoB.s _ _ _));have p3:=y3.set 2 (.slice A5 35 c5);have p2:=y2.other (G:=G) (j:=2) (v:=.slice A5 35 c5) (by omega);simp only[xsz,xss] at p3;replace q5:=q5.poke (j:=3) (v':=.slice A6 h c6) hG3 p3 (noBL4 (NoB.i _) (NoB.i _) (NoB.s _ _ _) (NoB.s _ _ _));replace q6:=q6.poke (j:=3) (v':=.slice A6 h c6) hG3 p3 (noBL4 (NoB.i _) (NoB.i _) (NoB.s _ _ _) (NoB.s _ _ _));replace p3:=p3.set 3 (.slice A6 h c6);replace p2:=p2.other (G:=G) (j:=3) (v:=.slice A6 h c6) (by omega);simp only[xsz,xss] at p3;have pb:=(hb5.setCell (p:=⟨G,2,none⟩) hGw (.slice A5 35 c5)).setCell (p:=⟨G,3,none⟩) hGw (.slice A6 h c6);have d2:W5.cell? ⟨G,2,none⟩=some (.slice none 0 0):=y3.cell 2;have d3:W5.cell? ⟨G,3,none⟩=some (.slice none 0 0):=y3.cell 3;have e2:=y3.frozen 2;have e3:=y3.frozen 3;replace q5:=lhd q5;replace q6:=lhd q6;replace p2:=lhd p2;replace p3:=lhd p3;replace pb:=lhd pb;have hGs:G<W5.heap.size:=Nat.lt_of_lt_of_le hG3 hwb
     clear hb4 hb35 k5 k6 k5' k6' hpp hp2' hx2q hx3q hb3 y2 y3 hb5;dsimp only
     go_upto_region 9 with (fail)
     clear d2 d3 e2 e3;generalize (W5.setCell ⟨G,2,none⟩ (.slice A5 35 c5)).setCell ⟨G,3,none⟩ (.slice A6 h c6)=W6 at *;have d0:W6.cell? ⟨G,0,none⟩=some (.int .i64 (h:Int)):=p3.out.cell 0;have d1:W6.cell? ⟨G,1,none⟩=some (.int .i64 (ix:Int)):=p3.out.cell 1;have d2:W6.cell? ⟨G,2,none⟩=some (.slice A5 35 c5):=p3.out.cell 2;have d3:W6.cell? ⟨G,3,none⟩=some (.slice A6 h c6):=p3.out.cell 3;have z0:W6.cell? ⟨w.heap.size,0,none⟩=some (.int .i64 0):=p2.out.cell 0;have z1:W6.cell? ⟨w.heap.size,1,none⟩=some (.int .i64 0):=p2.out.cell 1;have z2:W6.cell? ⟨w.heap.size,2,none⟩=some (.slice none 0 0):=p2.out.cell 2;have z3:W6.cell? ⟨w.heap.size,3,none⟩=some (.slice none 0 0):=p2.out.cell 3;have f0:=p2.out.frozen 0;have f1:=p2.out.frozen 1;have f2:=p2.out.frozen 2;have f3:=p2.out.frozen 3;have hs3:w.heap.size<W3.heap.size:=by omega
     have kz:=lhd (zero_set4 p2.out (.int .i64 (h:Int)) (.int .i64 (ix:Int)) (.slice A5 35 c5) (.slice A6 h c6));have kb:=lhd (below_set4 pb.out nlr (.int .i64 (h:Int)) (.int .i64 (ix:Int)) (.slice A5 35 c5) (.slice A6 h c6));have t5:=lhd (q5.out.poke4 hs3 p2.out (NoB.i _) (NoB.i _) (NoB.s _ _ _) (NoB.s _ _ _) (.int .i64 (h:Int)) (.int .i64 (ix:Int)) (.slice A5 35 c5) (.slice A6 h c6) (NoB.i _) (NoB.i _) (NoB.s _ _ _));have t6:=lhd (q6.out.poke4 hs3 p2.out (NoB.i _) (NoB.i _) (NoB.s _ _ _) (NoB.s _ _ _) (.int .i64 (h:Int)) (.int .i64 (ix:Int)) (.slice A5 35 c5) (.slice A6 h c6) (NoB.i _) (NoB.i _) (NoB.s _ _ _));clear q5 q6 p2 p3 pb
     go_wp2_with fail
     clear z0 z1 z2 z3 f0 f1 f2 f3 d0 d1 d2 d3;generalize (((W6.setCell ⟨w.heap.size,0,none⟩ (.int .i64 (h:Int))).setCell ⟨w.heap.size,1,none⟩ (.int .i64 (ix:Int))).setCell ⟨w.heap.size,2,none⟩ (.slice A5 35 c5)).setCell ⟨w.heap.size,3,none⟩ (.slice A6 h c6)=W7 at *;have z0:W7.cell? ⟨w.heap.size,0,none⟩=some (.int .i64 (h:Int)):=kz.out.cell 0;have z1:W7.cell? ⟨w.heap.size,1,none⟩=some (.int .i64 (ix:Int)):=kz.out.cell 1;have z2:W7.cell? ⟨w.heap.size,2,none⟩=some (.slice A5 35 c5):=kz.out.cell 2;have z3:W7.cell? ⟨w.heap.size,3,none⟩=some (.slice A6 h c6):=kz.out.cell 3;refine bodyPost_ret (v:=.tuple #[.agg #[.int .i64 (h:Int),.int .i64 (ix:Int),.slice A5 35 c5,.slice A6 h c6],.bool true]) (by simp[results,results152,go_sem,z0,z1,z2,z3]) rfl ?_;rw[hn.out];exact⟨_,_,rfl,t5.out.mono (by omega),t6.out.mono (by omega),kb.out⟩
    ·have hn:partsG l=none:=by
      rw[hP.out];split
      ·rfl
      rw[if_pos (.inr (.inr hlen))]
     clear hP hel;generalize 2 ^ h=N at *;have i0:decide ((N:Int)<=(ix:Int))=false:=by simp;omega
     have i1:((R:Int) != 560+(h:Int) * 32)=true:=by rw[bne_iff_ne];omega
     replace hRl:=lhd hRl;replace hlen:=lhd hlen;replace hn:=lhd hn
     go_wp2_with fail
     go_quiet ((go_at_call 180;exact Calls.quiet_of_same (tall_yes _ _ (by omega) (by omega))))
     have hx2q:Box (W2.drewN nq) w.heap.size 191 _:=hx2;have hb2q:=below_drewN hb2.out nq;clear c0 c1' hx2 hb2 hx3 k22;generalize W2.drewN nq=W at *;have z0:W.cell? ⟨w.heap.size,0,none⟩=some (.int .i64 0):=hx2q.cell 0;have z1:W.cell? ⟨w.heap.size,1,none⟩=some (.int .i64 0):=hx2q.cell 1;have z2:W.cell? ⟨w.heap.size,2,none⟩=some (.slice none 0 0):=hx2q.cell 2;have z3:W.cell? ⟨w.heap.size,3,none⟩=some (.slice none 0 0):=hx2q.cell 3;have f0:=hx2q.frozen 0;have f1:=hx2q.frozen 1;have f2:=hx2q.frozen 2;have f3:=hx2q.frozen 3;have kz:=lhd (zero_set4 hx2q (.int .i64 0) (.int .i64 0) (.slice none 0 0) (.slice none 0 0));have kb:=lhd (below_set4 hb2q nlr (.int .i64 0) (.int .i64 0) (.slice none 0 0) (.slice none 0 0));clear hx2q hb2q
     go_wp2_with fail
     clear z0 z1 z2 z3 f0 f1 f2 f3;generalize (((W.setCell ⟨w.heap.size,0,none⟩ (.int .i64 0)).setCell ⟨w.heap.size,1,none⟩ (.int .i64 0)).setCell ⟨w.heap.size,2,none⟩ (.slice none 0 0)).setCell ⟨w.heap.size,3,none⟩ (.slice none 0 0)=W3 at *;have z0:W3.cell? ⟨w.heap.size,0,none⟩=some (.int .i64 0):=kz.out.cell 0;have z1:W3.cell? ⟨w.heap.size,1,none⟩=some (.int .i64 0):=kz.out.cell 1;have z2:W3.cell? ⟨w.heap.size,2,none⟩=some (.slice none 0 0):=kz.out.cell 2;have z3:W3.cell? ⟨w.heap.size,3,none⟩=some (.slice none 0 0):=kz.out.cell 3;refine bodyPost_ret (v:=.tuple #[.agg #[.int .i64 0,.int .i64 0,.slice none 0 0,.slice none 0 0],.bool false]) (by simp[results,results152,go_sem,z0,z1,z2,z3]) rfl ?_;rw[hn.out];exact⟨rfl,kb.out⟩
   ·have hn:partsG l=none:=by
     rw[hP.out];split
     ·rfl
     rw[if_pos (.inr (.inl (by omega)))]
    clear hP hel;generalize 2 ^ h=N at *;have i0:decide ((N:Int)<=(ix:Int))=true:=by simp;omega
    replace hRl:=lhd hRl;replace hn:=lhd hn
    go_wp2_with fail
    go_quiet ((go_at_call 180;exact Calls.quiet_of_same (tall_yes _ _ (by omega) (by omega))))
    have hx2q:Box (W2.drewN nq) w.heap.size 191 _:=hx2;have hb2q:=below_drewN hb2.out nq;clear c0 c1' hx2 hb2 hx3 k22;generalize W2.drewN nq=W at *;have z0:W.cell? ⟨w.heap.size,0,none⟩=some (.int .i64 0):=hx2q.cell 0;have z1:W.cell? ⟨w.heap.size,1,none⟩=some (.int .i64 0):=hx2q.cell 1;have z2:W.cell? ⟨w.heap.size,2,none⟩=some (.slice none 0 0):=hx2q.cell 2;have z3:W.cell? ⟨w.heap.size,3,none⟩=some (.slice none 0 0):=hx2q.cell 3;have f0:=hx2q.frozen 0;have f1:=hx2q.frozen 1;have f2:=hx2q.frozen 2;have f3:=hx2q.frozen 3;have kz:=lhd (zero_set4 hx2q (.int .i64 0) (.int .i64 0) (.slice none 0 0) (.slice none 0 0));have kb:=lhd (below_set4 hb2q nlr (.int .i64 0) (.int .i64 0) (.slice none 0 0) (.slice none 0 0));clear hx2q hb2q
    go_wp2_with fail
    clear z0 z1 z2 z3 f0 f1 f2 f3;generalize (((W.setCell ⟨w.heap.size,0,none⟩ (.int .i64 0)).setCell ⟨w.heap.size,1,none⟩ (.int .i64 0)).setCell ⟨w.heap.size,2,none⟩ (.slice none 0 0)).setCell ⟨w.heap.size,3,none⟩ (.slice none 0 0)=W3 at *;have z0:W3.cell? ⟨w.heap.size,0,none⟩=some (.int .i64 0):=kz.out.cell 0;have z1:W3.cell? ⟨w.heap.size,1,none⟩=some (.int .i64 0):=kz.out.cell 1;have z2:W3.cell? ⟨w.heap.size,2,none⟩=some (.slice none 0 0):=kz.out.cell 2;have z3:W3.cell? ⟨w.heap.size,3,none⟩=some (.slice none 0 0):=kz.out.cell 3;refine bodyPost_ret (v:=.tuple #[.agg #[.int .i64 0,.int .i64 0,.slice none 0 0,.slice none 0 0],.bool false]) (by simp[results,results152,go_sem,z0,z1,z2,z3]) rfl ?_;rw[hn.out];exact⟨rfl,kb.out⟩
  ·have hn:partsG l=none:=by
    rw[hP.out];split
    ·rfl
    rw[if_pos (.inl (by omega))]
   clear hP hel;replace hRl:=lhd hRl;replace hn:=lhd hn
   go_wp2_with fail
   go_quiet ((go_at_call 180;exact Calls.quiet_of_same (tall_no _ _ (by omega))))
   have hx2q:Box (W2.drewN nq) w.heap.size 191 _:=hx2;have hb2q:=below_drewN hb2.out nq;clear c0 c1' hx2 hb2 hx3 k22;generalize W2.drewN nq=W at *;have z0:W.cell? ⟨w.heap.size,0,none⟩=some (.int .i64 0):=hx2q.cell 0;have z1:W.cell? ⟨w.heap.size,1,none⟩=some (.int .i64 0):=hx2q.cell 1;have z2:W.cell? ⟨w.heap.size,2,none⟩=some (.slice none 0 0):=hx2q.cell 2;have z3:W.cell? ⟨w.heap.size,3,none⟩=some (.slice none 0 0):=hx2q.cell 3;have f0:=hx2q.frozen 0;have f1:=hx2q.frozen 1;have f2:=hx2q.frozen 2;have f3:=hx2q.frozen 3;have kz:=lhd (zero_set4 hx2q (.int .i64 0) (.int .i64 0) (.slice none 0 0) (.slice none 0 0));have kb:=lhd (below_set4 hb2q nlr (.int .i64 0) (.int .i64 0) (.slice none 0 0) (.slice none 0 0));clear hx2q hb2q
   go_wp2_with fail
   clear z0 z1 z2 z3 f0 f1 f2 f3;generalize (((W.setCell ⟨w.heap.size,0,none⟩ (.int .i64 0)).setCell ⟨w.heap.size,1,none⟩ (.int .i64 0)).setCell ⟨w.heap.size,2,none⟩ (.slice none 0 0)).setCell ⟨w.heap.size,3,none⟩ (.slice none 0 0)=W3 at *;have z0:W3.cell? ⟨w.heap.size,0,none⟩=some (.int .i64 0):=kz.out.cell 0;have z1:W3.cell? ⟨w.heap.size,1,none⟩=some (.int .i64 0):=kz.out.cell 1;have z2:W3.cell? ⟨w.heap.size,2,none⟩=some (.slice none 0 0):=kz.out.cell 2;have z3:W3.cell? ⟨w.heap.size,3,none⟩=some (.slice none 0 0):=kz.out.cell 3;refine bodyPost_ret (v:=.tuple #[.agg #[.int .i64 0,.int .i64 0,.slice none 0 0,.slice none 0 0],.bool false]) (by simp[results,results152,go_sem,z0,z1,z2,z3]) rfl ?_;rw[hn.out];exact⟨rfl,kb.out⟩
end Go.Proofs.YtjgepckncogdaaaGreat
