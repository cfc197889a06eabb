/- Contracts of functions, walks, plain facts. Conditions: those of each theorem. -/
import Derived.Lib.BufferMore
import Derived.Test.YtjgepckncogdaaaGreatK2
import Derived.Test.YtjgepckncogdaaaGreatK3
set_option linter.unusedVariables false
set_option linter.unusedSimpArgs false
set_option maxRecDepth 100000
set_option maxHeartbeats 16000000
namespace Go.Proofs.YtjgepckncogdaaaGreat
open Go Go.RowKit _root_.Go.Proofs.Tryz
attribute [local go_sem ↓] Go.wp_at_zero Go.wp_at_succ
theorem ggo {a b c:World} {g:Nat} (h1:a.grownBy b (some g)) (h2:b.grownBy c (some g)):a.grownBy c (some g):=
 ⟨h2.os.trans h1.os,h2.tape.trans h1.tape,h2.output.trans h1.output,Nat.le_trans h1.size h2.size,fun k hk hne=>(h2.block k (Nat.lt_of_lt_of_le hk h1.size) hne).trans (h1.block k hk hne)⟩
theorem gbelow {a b:World} {g:Nat} (h:Below a.heap.size a b):a.grownBy b (some g):=grown_of_below h _
def WholePost (gh:Nat) (T:TypeId) (s:St) (B:Nat) (bs:Bs) (w:World) (e:Ending) (w':World):Prop:=
 ∃v,e=.returned v/\SeesB w' B v (bs.drop (64 * (bs.length / 64)))/\w'.rowIs gh T 8 (fun i=>wdV (stAt (absorb s bs (bs.length / 64)) i))/\w.grownBy w' (some gh)
theorem whole_any (gh:Nat) (T:TypeId) (s:St) (B:Nat) (u:Value) (bs:Bs) (w:World) (hs:w.rowIs gh T 8 (fun i=>wdV (stAt s i))) (hB:B<=w.heap.size) (hu:∀w',w.grownBy w' (some gh)->SeesB w' B u bs) :
 Calls prog 253 #[.pointer (some ⟨gh,0,none⟩),u] w (WholePost gh T s B bs w):=by
 have hs:=lhd hs;have hgh:=hs.out.lt;have hu:=lhd hu
 go_enter func253,ntmps253
 go_wp2_with fail
 refine (constants_any _).mono ?_;rintro e w1 ⟨rfl,hk1,hb1⟩;have hg1:Hid (w.grownBy w1 (some gh)):=gbelow hb1;have hs1:=lhd (hs.out.of_block (hb1.block _ hgh));obtain⟨kg,hkg⟩:∃kg,kg=w.heap.size:=⟨_,rfl⟩
 rw[<-hkg] at hk1 ⊢;have hne:kg≠gh:=by omega
 clear hkg;have hk1:=lhd hk1;dsimp only
 go_wp2_with fail
 go_loopw [1] (fun v wr=>∃k:Nat,64 * k<=bs.length/\Hid (∀w',w.grownBy w' (some gh)->SeesB w' B v (bs.drop (64 * k)))/\Hid (wr.rowIs kg 258 64 (fun t=>wdV (kAt t)))/\Hid (wr.rowIs gh T 8 (fun i=>wdV (stAt (absorb s bs k) i)))/\Hid (w.grownBy wr (some gh))) (fun v _=>(match v with | .slice _ n _=>n | _=>0))
 case atStart=>exact⟨0,by omega,hu,hk1,hs1,hg1⟩
 case round=>
  clear hs1 hg1 hk1;obtain⟨k,hk,hv,hkr,hsr,hgr⟩:=hrel;obtain⟨A,c,rfl,hc1,hc2⟩:=(hv.out _ hgr.out).mk_;have hdrop:Hid (bs.drop (64 * (k+1))=(bs.drop (64 * k)).drop 64):=by show _=_;rw[List.drop_drop];congr 1
  have hcomp:Hid (absorb s bs (k+1)=compress (absorb s bs k) ((bs.drop (64 * k)).take 64)):=rfl;have hlen:(bs.drop (64 * k)).length=bs.length - 64 * k:=xld;have hend:Hid (bs.drop (64 * k)=bs.drop (64 * k)):=rfl;generalize hl:bs.drop (64 * k)=l at hdrop hcomp hlen hv hc1 ⊢;have hl:=lhd hl;have HL:=lhd hlen;clear hlen;generalize hq:absorb s bs k=q at hcomp hsr ⊢;have hq:=lhd hq;clear hend
  by_cases h64:64<=l.length
  ·have i64:(64:Int)<=(l.length:Int):=by omega
   have r2:=run_cut_from (P:=prog) 25 underlying25 1 byte_size A l.length c .i64 64 (by omega) (by omega);rw[show (64:Int).toNat=64 from rfl] at r2;have hv2:Hid (∀w',w.grownBy w' (some gh)->SeesB w' B (.slice (cutA A c 64 1) (l.length - 64) (c - 64)) (l.drop 64)):=fun w' hg=>by
    have:=SeesB.cut (a:=64) (b:=l.length) (hv.out w' hg) h64 nlr
    rw[xtl (by rw[xld];omega)] at this;exact this
   generalize cutA A c 64 1=A2 at r2 hv2;have ht:(l.take 64).length=64:=by rw[xlt];omega
   obtain⟨b,o,rfl,hbB,hcell⟩:=(hv.out _ hgr.out).at_ (by omega);have hcell:Hid (∀j,j<64->wr.cell? ⟨b,o+j,none⟩=some (byV ((l.take 64).getD j 0))):=fun j hj=>by
    rw[hcell j (by omega),xgd,xgd,List.getElem?_take,if_pos hj]
   have ht:=lhd ht;have hbB:=lhd hbB;clear hv
   go_wp2_with fail
   refine (block_any gh kg b o c T 258 q (l.take 64) wr ht.out hsr.out hkr.out (Nat.lt_of_lt_of_le hbB.out (Nat.le_trans hB hgr.out.size)) hcell.out).mono ?_;rintro e w2 ⟨rfl,hs2,hg2⟩;have hgr2:=lhd (ggo hgr.out hg2);have hk2:=lhd (hkr.out.of_block (hg2.block _ hkr.out.lt (by simpa using hne)));have hs2:=lhd hs2;clear hkr hsr hgr hg2;dsimp only
   go_wp2_with fail
   go_roundw
   case rel=>
    refine⟨k+1,by have:=HL.out;omega,?_,hk2,?_,hgr2⟩
    ·rw[hdrop.out];exact hv2
    rw[hcomp.out];exact hs2
   case measure=>dsimp only;have:=HL.out;omega
  have i64:¬((64:Int)<=(l.length:Int)):=by omega
  have hk64:k=bs.length / 64:=by have:=HL.out;omega
  have hf:Hid (SeesB wr B (.slice A l.length c) (bs.drop (64 * (bs.length / 64)))/\wr.rowIs gh T 8 (fun i=>wdV (stAt (absorb s bs (bs.length / 64)) i))):=by
   rw[<-hk64,hl.out,hq.out];exact⟨hv.out _ hgr.out,hsr.out⟩
  clear hk64 hv
  go_wp2_with fail
  go_ret
  exact⟨_,rfl,hf.out.1,hf.out.2,hgr.out⟩
theorem put8_nat (n:Nat) (h:n<18446744073709551616) (w:World):Calls prog 74 #[.int .u64 (n:Int),.int .i64 8] w (Gives (putB 8 n) w):=put_any n 8 (by omega) h w
theorem sees_cells {w:World} {B:Nat} {A:Option Addr} {n c:Nat} {l:Bs} (h:SeesB w B (.slice A n c) l) (h0:0<(vb l).length):∃ad,A=some ad/\∀j v,(vb l)[j]?=some v->w.cell? (ad.add j)=some v:=by
 rw[vb_len] at h0;obtain⟨b,o,rfl,_,hc⟩:=h.at_ h0;refine⟨_,rfl,fun j v hj=>?_⟩;rw[vb_get] at hj;obtain⟨x,hx,rfl⟩:=Option.map_eq_some_iff.1 hj;rw[add_zero',hc j (List.getElem?_eq_some_iff.1 hx).1,xgd,hx]
 rfl
theorem box_sees {w:World} {g:Nat} {T:TypeId} {L:Bs} (h:Box w g T (vb L)) (n c:Nat) (hn:n<=L.length) (hc:n<=c) (hm:c<=maxLen) (B:Nat) (hB:g<B):SeesB w B (.slice (some ⟨g,0,none⟩) n c) (L.take n):=by
 have hl:(L.take n).length=n:=by rw[xlt];omega
 unfold SeesB;rw[hl];refine⟨by rw[vb_len,hl,Nat.mul_one],_,_,rfl,hc,hm,fun _=>⟨g,0,rfl,hB,fun j u hu=>?_⟩⟩;rw[vb_get,List.getElem?_take] at hu
 split at hu
 ·rw[Nat.zero_add,h.cell,vb_get];exact hu
 cases hu
theorem make_32 (W:World):(Instr.makeSlice 25 (.int .i64 0) (.int .i64 32)).run prog W=.ok (.slice (some ⟨W.heap.size,0,none⟩) 0 32) (W.alloc (.cells (vb (List.replicate 32 0)).toArray 5)):=by
 obtain⟨i,hi,hz,hs,hb⟩:=info_parts byte_info;have h:=run_make (P:=prog) W 25 5 i (.int .u8 0) underlying25 hi hz .i64 .i64 0 32 (by omega) (by omega) (by rw[hb];omega) (by omega);rw[h,hs,<-vb_rep,<-toList_madeCells_one]
 rfl
theorem words_index (q:St) (k:Nat) (hk:k<8) (W:World):(Instr.index 279 (.agg #[.int .u32 (q.a.toNat:Int),.int .u32 (q.b.toNat:Int),.int .u32 (q.c.toNat:Int),.int .u32 (q.d.toNat:Int),.int .u32 (q.e.toNat:Int),.int .u32 (q.f.toNat:Int),.int .u32 (q.g.toNat:Int),.int .u32 (q.h.toNat:Int)]) (.int .i64 (k:Int))).run prog W=.ok (.int .u32 ((stAt q k).toNat:Int)) W:=by
 rcases (by omega:k=0\/k=1\/k=2\/k=3\/k=4\/k=5\/k=6\/k=7) with rfl|rfl|rfl|rfl|rfl|rfl|rfl|rfl
 all_goals kernel_rfl
theorem out_step (q:St) (k:Nat) (hk:k<8):outOf ((stList q).take (k+1))=outOf ((stList q).take k)++putB 4 (stAt q k).toNat:=by
 rcases (by omega:k=0\/k=1\/k=2\/k=3\/k=4\/k=5\/k=6\/k=7) with rfl|rfl|rfl|rfl|rfl|rfl|rfl|rfl
 all_goals simp[outOf,stList,stAt]
theorem put4 (x:Wd):vb (putB 4 x.toNat)=[.int .u8 ((x.toNat:Int) / 16777216),.int .u8 ((x.toNat:Int) / 65536 % 256),.int .u8 ((x.toNat:Int) / 256 % 256),.int .u8 ((x.toNat:Int) % 256)]:=by
 have hx:=x.isLt;generalize x.toNat=n at hx;have e1:(n:Int) / 16777216=((n / 256 / 256 / 256:Nat):Int) % 256:=by omega
 have e2:(n:Int) / 65536=((n / 256 / 256:Nat):Int):=by omega
 have e3:(n:Int) / 256=((n / 256:Nat):Int):=by omega
 rw[e1,e2,e3,byV_nat,byV_nat,byV_nat,byV_nat]
 rfl
theorem vb_splice (L:Bs) (o:Nat) (r:Bs):splice (vb L) o (vb r)=vb (splice L o r):=by simp[splice,vb,List.map_take,List.map_drop]
theorem elem_size (W:World):(sizeOf (prog.elem 303)).run prog W=.ok 1 W:=by kernel_rfl
theorem cut_from (b l:Nat) (hl:l<=128) (h0:l≠128) (x:Int) (hx:x=(l:Int)) (W:World):(Instr.sliceAt 303 (.pointer (some ⟨b,0,none⟩)) (some (.int .i64 x)) none none).run prog W=.ok (.slice (some ⟨b,l,none⟩) (128 - l) (128 - l)) W:=by
 subst hx;have ha:prog.arrayLen 303=128:=by kernel_rfl
 have h:=run_sliceAt_array_l (P:=prog) W 303 ⟨b,0,none⟩ underlying303 .i64 (l:Int) (by omega) (by rw[ha];omega);rw[h,elem_size,ha];show Result.ok _ _=_;rw[slicedAt,xnc,if_neg (fun e=>h0 e.symm),add_zero',Nat.mul_one,Nat.zero_add]
theorem cut_upto (b l:Nat) (hl:l<=128) (x:Int) (hx:x=(l:Int)) (W:World):(Instr.sliceAt 303 (.pointer (some ⟨b,0,none⟩)) none (some (.int .i64 x)) none).run prog W=.ok (.slice (some ⟨b,0,none⟩) l 128) W:=by
 subst hx;have ha:prog.arrayLen 303=128:=by kernel_rfl
 have h:=run_sliceAt_array_h (P:=prog) W 303 ⟨b,0,none⟩ underlying303 .i64 (l:Int) (by omega) (by rw[ha];omega);rw[h,elem_size,ha];show Result.ok _ _=_;rw[slicedAt,xnc,if_neg (by decide),add_zero']
 rfl
def szOf (n:Nat):Nat:=if n+9<=64 then 64 else 128
theorem pad_len (n count:Nat) (h:n<64):n+(padding n count).length=szOf n:=by
 unfold padding szOf
 split
 ·simp[putB_len];omega
 simp[putB_len];omega
def endOf (rest:Bs) (count:Nat):Bs:=splice ((splice (List.replicate 128 0) 0 rest).set rest.length 128) (szOf rest.length - 8) (putB 8 (count * 8))
theorem end_take (rest:Bs) (count:Nat) (h:rest.length<64):(endOf rest count).take (szOf rest.length)=rest++padding rest.length count:=by
 have e1:splice (List.replicate 128 0) 0 rest=rest++List.replicate (128 - rest.length) (0:UInt8):=by
  unfold splice;rw[List.take_zero,List.nil_append,Nat.zero_add,List.drop_replicate]
 have e2:(splice (List.replicate 128 0) 0 rest).set rest.length 128=rest++128 :: List.replicate (127 - rest.length) (0:UInt8):=by
  rw[e1,show 128 - rest.length=(127 - rest.length)+1 from by omega,List.replicate_succ,List.set_append_right _ _ nlr];simp
 have e3:szOf rest.length - 8+8=szOf rest.length:=by unfold szOf;split<;>rfl
 have e4:(rest++128 :: List.replicate (127 - rest.length) (0:UInt8)).take (szOf rest.length - 8)=rest++128 :: List.replicate (if rest.length+9<=64 then 55 - rest.length else 119 - rest.length) 0:=by
  rw[List.take_append,xtl (by unfold szOf;split<;>omega)]
  congr 1
  have:szOf rest.length - 8 - rest.length=(if rest.length+9<=64 then 55 - rest.length else 119 - rest.length)+1:=by unfold szOf;split<;>omega
  rw[this,List.take_succ_cons,List.take_replicate]
  congr 2
  split<;>omega
 unfold endOf;rw[e2];unfold splice;rw[List.take_append,xlt,e4,xtl (by rw[<-e4,xlt];omega),List.take_append_of_le_length (by rw[putB_len];simp;unfold szOf;split<;>omega),xtl (by rw[putB_len];simp;unfold szOf;split<;>omega)];simp[padding]
theorem finish_any (s:St) (B:Nat) (u:Value) (rest:Bs) (count:Nat) (w:World) (hu:SeesB w B u rest) (hB:B<=w.heap.size) (hr:rest.length<64) (hcount:count<=1099511627776) :
 Calls prog 254 #[.agg #[wdV s.a,wdV s.b,wdV s.c,wdV s.d,wdV s.e,wdV s.f,wdV s.g,wdV s.h],u,.int .i64 (count:Int)] w (Gives (finish s rest count) w):=by
 obtain⟨A,c,rfl,hc1,hc2⟩:=hu.mk_;have hsz:(prog.info? 5).map (·.size)=some 1:=by kernel_rfl
 obtain⟨L0,hL0⟩:∃L0:Bs,L0=List.replicate 128 0:=⟨_,rfl⟩
 have hzero:Tryz.zeroCells303=(vb (L0)).toArray:=by rw[hL0,<-vb_rep];kernel_rfl
 have hb0:=bgo (balloc w (.cells #[wdV s.a,wdV s.b,wdV s.c,wdV s.d,wdV s.e,wdV s.f,wdV s.g,wdV s.h] 279)) (balloc _ (.cells Tryz.zeroCells303 303));have hbx:=Box.new (w.alloc (.cells #[wdV s.a,wdV s.b,wdV s.c,wdV s.d,wdV s.e,wdV s.f,wdV s.g,wdV s.h] 279)) 303 (vb (L0));have hbw:=(Box.new w 279 (stCells s)).below (balloc _ (.cells Tryz.zeroCells303 303));rw[<-hzero,xsa] at hbx;have hu1:=hu.below (hb0.mono hB);have hpos:0<(vb rest).length->∃ad,A=some ad/\∀j v,(vb rest)[j]?=some v->((w.alloc (.cells #[wdV s.a,wdV s.b,wdV s.c,wdV s.d,wdV s.e,wdV s.f,wdV s.g,wdV s.h] 279)).alloc (.cells Tryz.zeroCells303 303)).cell? (ad.add j)=some v:=fun h0=>by
  rw[vb_len] at h0;obtain⟨b,o,rfl,_,hc⟩:=hu1.at_ h0;refine⟨_,rfl,fun j v hj=>?_⟩;rw[vb_get] at hj;obtain⟨x,hx,rfl⟩:=Option.map_eq_some_iff.1 hj;rw[add_zero',hc j (List.getElem?_eq_some_iff.1 hx).1,xgd,hx]
  rfl
 have hn:(vb rest).length=Nat.min rest.length 128:=by rw[vb_len];exact (Nat.min_eq_left (by omega)).symm
 have hfit:0+(vb rest).length<=(vb (L0)).length:=by rw[vb_len,vb_len,hL0,List.length_replicate];omega
 replace hbx:=lhd hbx;replace hbw:=lhd hbw;replace hb0:=lhd hb0;replace hpos:=lhd hpos;replace hn:=lhd hn;replace hfit:=lhd hfit;replace hzero:=lhd hzero;replace hL0:=lhd hL0;clear hu hu1
 go_enter func254,ntmps254
 go_wp2_with (refine wpList_copy_splice rfl (.tmp 13) (.tmp 14) 25 25 rfl 5 underlying25 hsz (some ⟨w.heap.size+1,0,none⟩) A 128 128 rest.length c (by rfl) (by rfl) (w.heap.size+1) 0 (vb (L0)) 303 hbx.out (vb rest) hn.out (fun h=>⟨rfl,hpos.out h⟩) hfit.out (vb_one _) (w.heap.size+1) _ (Below.refl _ _) nlr ?_)
 intro w2 hx2 hb2;have hbw2:Box w2 w.heap.size 279 (stCells s):=(hb2.block w.heap.size (by omega)).trans hbw.out;have hall:=hb0.out.trans (hb2.mono (by omega));have hx2:Box w2 (w.heap.size+1) 303 (vb (splice L0 0 rest)):=by have:=hx2.out;rw[vb_splice] at this;exact this
 have hL1:(splice L0 0 rest).length=128:=by rw[length_splice _ _ _ (by rw[hL0.out,List.length_replicate];omega),hL0.out,List.length_replicate]
 have hE:Hid (endOf rest count=splice ((splice L0 0 rest).set rest.length 128) (szOf rest.length - 8) (putB 8 (count * 8))):=by rw[hL0.out];exact rfl
 have hn2:(vb rest).length=rest.length:=vb_len rest;clear hbx hbw hpos hn hfit hzero hb2 hL0;generalize splice L0 0 rest=L1 at *;have hg1:Hid (w.heap.size<w.heap.size+1):=Nat.lt_succ_self _;generalize hgg:w.heap.size+1=g at *;have hgg:=lhd hgg;have x0:∃z:UInt8,w2.cell? ⟨g,rest.length,none⟩=some (.int .u8 (z.toNat:Int)):=by
  refine⟨L1.getD rest.length 0,?_⟩;rw[hx2.cell,vb_get,xge (by omega),Option.map_some,xgd,xge (by omega)]
  rfl
 obtain⟨z,x0⟩:=x0;have f0:=hx2.frozen rest.length;have i0:(0:Int)<=(rest.length:Int):=by omega
 have i1:(rest.length:Int)<128:=by omega
 have hx3:=hx2.set rest.length (.int .u8 128);have hs3:(vb L1).set rest.length (.int .u8 128)=vb (L1.set rest.length 128):=vb_set L1 rest.length 128;rw[hs3] at hx3;have hbw3:Box (w2.setCell ⟨g,rest.length,none⟩ (.int .u8 128)) w.heap.size 279 (stCells s):=(Below.heap_setCell w2 _ _ _ (by have:=hg1.out;dsimp only;omega)).trans hbw2;have hall3:=hall.setCell (p:=⟨g,rest.length,none⟩) (by have:=hg1.out;dsimp only;omega) (.int .u8 128);have hx3:=lhd hx3;have hbw3:=lhd hbw3;have hall3:=lhd hall3;have hL2:Hid ((L1.set rest.length 128).length=128):=by show _=_;rw[List.length_set,hL1]
 clear hall hbw2 hx2 hs3
 by_cases h9:rest.length+9<=64
 ·have m0:IntKind.u64.wrap (count:Int)=(count:Int):=by rw[IntKind.wrap_u64];omega
  have m1:IntKind.u64.wrap ((count:Int) * 8)=((count * 8:Nat):Int):=by rw[IntKind.wrap_u64];omega
  have i9:¬((64:Int)<(rest.length:Int)+9):=by omega
  go_wp2_with fail
  generalize w2.setCell ⟨g,rest.length,none⟩ (.int .u8 128)=w3 at *;have e56:IntKind.i64.wrap 56=56:=by decide
  have hcf:=cut_from g 56 (by omega) (by omega) 56 rfl;have hcu:=cut_upto g 64 (by omega) 64 rfl;clear x0 f0
  go_region_held3 (fun W':World=>True) (trivial) (first
   | (go_at_call 74;refine (put8_nat (count * 8) (by omega) _).mono ?_;rintro e w4 ⟨v4,rfl,h4,hb4⟩;obtain⟨A4,c4,rfl,-,-⟩:=h4.sees.mk_;rw[putB_len] at h4 ⊢)
   | (refine step_copy_splice rfl (.tmp 23) (.tmp 27) 25 25 rfl 5 underlying25 hsz (some ⟨g,56,none⟩) A4 72 72 8 c4 (by rfl) (by rfl) g 56 (vb (L1.set rest.length 128)) 303 (Box.below (w:=w3.drew) hx3.out hb4) (vb (putB 8 (count * 8))) (by rw[vb_len,putB_len];rfl) (fun h0=>⟨rfl,sees_cells h4.sees h0⟩) (by rw[vb_len,vb_len,putB_len,hL2.out];omega) (vb_one _) (w.heap.size+1) _ (Below.refl _ _) (Nat.le_of_eq hgg.out) ?_;intro w5 hx5 hb5))
  generalize goInt ((vb (putB 8 (count * 8))).length:Int)=gi;replace hx5:Box w5 g 303 (vb (endOf rest count)):=by
   have:=hx5.out
   rw[vb_splice] at this;rw[hE.out,szOf,if_pos h9];exact this
  have hL5:(endOf rest count).length=128:=by
   rw[hE.out,length_splice _ _ _ (by rw[hL2.out,putB_len,szOf,if_pos h9];omega),hL2.out]
  have htk:=end_take rest count hr;rw[szOf,if_pos h9] at htk;have hbw4:Box w4 w.heap.size 279 (stCells s):=Box.below (w:=w3.drew) hbw3.out hb4;have hall4:=hall3.out.drew.trans (hb4.mono (Nat.le_of_lt (Nat.lt_of_lt_of_le (Box.lt hbw3.out) nlr)));have hbw5:Box w5 w.heap.size 279 (stCells s):=(hb5.block _ (by omega)).trans hbw4;have hall5:=hall4.trans (hb5.mono (by omega));have hgne:=hgg.out;have hsee:Hid (∀w',w5.grownBy w' (some w.heap.size)->SeesB w' w5.heap.size (.slice (some ⟨g,0,none⟩) 64 128) (rest++padding rest.length count)):=fun w' hg=>by
   rw[<-htk];exact box_sees ((hg.block g (Box.lt hx5) (by simp;omega)).trans hx5) 64 128 (by omega) (by omega) (by unfold maxLen;omega) _ (Box.lt hx5)
  have hrow5:=lhd (stCells_row hbw5);replace hall5:=lhd hall5;clear hall4 hbw4 hbw5 htk hL5 hx5 hb5 hb4 h4 hbw3 hall3 hx3 hcf hL2 hgne
  go_wp2_with fail
  refine (whole_any w.heap.size 279 s w5.heap.size _ _ w5 hrow5.out nlr hsee.out).mono ?_;rintro e w6 ⟨v6,rfl,-,hs6,hg6⟩;have hall6:=hall5.out.grown hg6 (hall5.out.size) (fun k hk=>by injection hk with hk;omega);clear hsee hrow5 hall5 hg6;have hfin:Hid (out (absorb s (rest++padding rest.length count) ((rest++padding rest.length count).length / 64))=finish s rest count):=rfl;generalize absorb s (rest++padding rest.length count) ((rest++padding rest.length count).length / 64)=q at hs6 hfin;have g0:w6.cell? ⟨w.heap.size,0,none⟩=some (.int .u32 (q.a.toNat:Int)):=hs6.cell (i:=0) (by omega);have g1:w6.cell? ⟨w.heap.size,1,none⟩=some (.int .u32 (q.b.toNat:Int)):=hs6.cell (i:=1) (by omega);have g2:w6.cell? ⟨w.heap.size,2,none⟩=some (.int .u32 (q.c.toNat:Int)):=hs6.cell (i:=2) (by omega);have g3:w6.cell? ⟨w.heap.size,3,none⟩=some (.int .u32 (q.d.toNat:Int)):=hs6.cell (i:=3) (by omega);have g4:w6.cell? ⟨w.heap.size,4,none⟩=some (.int .u32 (q.e.toNat:Int)):=hs6.cell (i:=4) (by omega);have g5:w6.cell? ⟨w.heap.size,5,none⟩=some (.int .u32 (q.f.toNat:Int)):=hs6.cell (i:=5) (by omega);have g6:w6.cell? ⟨w.heap.size,6,none⟩=some (.int .u32 (q.g.toNat:Int)):=hs6.cell (i:=6) (by omega);have g7:w6.cell? ⟨w.heap.size,7,none⟩=some (.int .u32 (q.h.toNat:Int)):=hs6.cell (i:=7) (by omega);have hlt6:=hs6.lt;replace hs6:=lhd hs6;replace hall6:=lhd hall6;have hmk:=make_32;dsimp only
  go_wp2_with fail
  refine wp_fresh (fun W=>OwnB W w.heap.size (.slice (some ⟨w6.heap.size,0,none⟩) 0 32) []/\Below w.heap.size w W) ⟨World.ownsRow_made w6 _ 32 hall6.out.size (by unfold maxLen;omega) (by simp[vb]),hall6.out.alloc hall6.out.size _⟩ ?_;rintro W7 ⟨ho7,hb7⟩;replace ho7:=lhd ho7;replace hb7:=lhd hb7;clear g0 g1 g2 g3 g4 g5 g6 g7 hs6 hall6 hmk hcu
  go_loopw [10,12,34] (fun r _ t wr=>∃k:Nat,k<=8/\t=.int .i64 k/\Hid (OwnB wr w.heap.size r (outOf ((stList q).take k)))/\Hid (Below w.heap.size w wr)) (fun _ _ t _=>8 - (intOf t).toNat)
  case atStart=>exact⟨0,by omega,rfl,ho7,hb7⟩
  case round=>
   clear ho7 hb7;obtain⟨k,hk,rfl,ho,hb⟩:=hrel
   by_cases hlt:k<8
   ·have hix:=words_index q k hlt
    have hst:=lhd (out_step q k hlt);have h4:=lhd (put4 (stAt q k));have hol:=lhd (show (outOf ((stList q).take k)).length<=32 by
     rcases (by omega:k=0\/k=1\/k=2\/k=3\/k=4\/k=5\/k=6\/k=7) with rfl|rfl|rfl|rfl|rfl|rfl|rfl|rfl
     all_goals simp[outOf,stList,putB_len])
    generalize stAt q k=x at hix hst h4;generalize outOf ((stList q).take k)=acc at ho hst hol;have i0:(0:Int)<=(k:Int):=by omega
    have i1:(k:Int)<8:=by omega
    have hc4:=balloc wr (.cells #[.int .u8 ((x.toNat:Int) / 16777216),.int .u8 ((x.toNat:Int) / 65536 % 256),.int .u8 ((x.toNat:Int) / 256 % 256),.int .u8 ((x.toNat:Int) % 256)] 5);have hown:=own_made wr (putB 4 x.toNat) (by rw[putB_len];unfold maxLen;omega) wr.heap.size nlr;rw[h4.out,putB_len] at hown;have hsee:=lhd hown.sees;have hb9:=lhd (hb.out.trans (hc4.mono hb.out.size));have ho9:=lhd (ho.out.below hc4);have hl9:=lhd (show acc.length+(putB 4 x.toNat).length<=140737488355328 by rw[putB_len];have:=hol.out;omega);clear hown hc4 ho hb h4 hol
    go_wp2_with (at_builtin;refine wpList_app (by rfl) _ _ rfl w.heap.size _ acc rfl ho9.out _ _ (putB 4 x.toNat) rfl hsee.out hl9.out hb9.out.size ?_)
    intro v' w' hW2 hb2;have hW2:=lhd hW2;have hb2:=lhd hb2
    go_wp2_with fail
    go_roundw
    case rel=>exact⟨k+1,by omega,by go_num,by rw[hst.out];exact hW2.out,hb9.out.trans hb2.out⟩
    case measure=>simp[intOf];omega
   ·have he:outOf ((stList q).take k)=finish s rest count:=by
     rw[xtl (by simp[stList];omega)];exact hfin.out
    rw[he] at ho
    go_wp2_with fail
    go_ret
    exact⟨_,rfl,ho.out,hb.out⟩
 have m0:IntKind.u64.wrap (count:Int)=(count:Int):=by rw[IntKind.wrap_u64];omega
 have m1:IntKind.u64.wrap ((count:Int) * 8)=((count * 8:Nat):Int):=by rw[IntKind.wrap_u64];omega
 have i9:(64:Int)<(rest.length:Int)+9:=by omega
 go_wp2_with fail
 generalize w2.setCell ⟨g,rest.length,none⟩ (.int .u8 128)=w3 at *;have e56:IntKind.i64.wrap 120=120:=by decide
 have hcf:=cut_from g 120 (by omega) (by omega) 120 rfl;have hcu:=cut_upto g 128 (by omega) 128 rfl;clear x0 f0
 go_region_held3 (fun W':World=>True) (trivial) (first
  | (go_at_call 74;refine (put8_nat (count * 8) (by omega) _).mono ?_;rintro e w4 ⟨v4,rfl,h4,hb4⟩;obtain⟨A4,c4,rfl,-,-⟩:=h4.sees.mk_;rw[putB_len] at h4 ⊢)
  | (refine step_copy_splice rfl (.tmp 23) (.tmp 27) 25 25 rfl 5 underlying25 hsz (some ⟨g,120,none⟩) A4 8 8 8 c4 (by rfl) (by rfl) g 120 (vb (L1.set rest.length 128)) 303 (Box.below (w:=w3.drew) hx3.out hb4) (vb (putB 8 (count * 8))) (by rw[vb_len,putB_len];rfl) (fun h0=>⟨rfl,sees_cells h4.sees h0⟩) (by rw[vb_len,vb_len,putB_len,hL2.out];omega) (vb_one _) (w.heap.size+1) _ (Below.refl _ _) (Nat.le_of_eq hgg.out) ?_;intro w5 hx5 hb5))
 generalize goInt ((vb (putB 8 (count * 8))).length:Int)=gi;replace hx5:Box w5 g 303 (vb (endOf rest count)):=by
  have:=hx5.out
  rw[vb_splice] at this;rw[hE.out,szOf,if_neg h9];exact this
 have hL5:(endOf rest count).length=128:=by
  rw[hE.out,length_splice _ _ _ (by rw[hL2.out,putB_len,szOf,if_neg h9];omega),hL2.out]
 have htk:=end_take rest count hr;rw[szOf,if_neg h9] at htk;have hbw4:Box w4 w.heap.size 279 (stCells s):=Box.below (w:=w3.drew) hbw3.out hb4;have hall4:=hall3.out.drew.trans (hb4.mono (Nat.le_of_lt (Nat.lt_of_lt_of_le (Box.lt hbw3.out) nlr)));have hbw5:Box w5 w.heap.size 279 (stCells s):=(hb5.block _ (by omega)).trans hbw4;have hall5:=hall4.trans (hb5.mono (by omega));have hgne:=hgg.out;have hsee:Hid (∀w',w5.grownBy w' (some w.heap.size)->SeesB w' w5.heap.size (.slice (some ⟨g,0,none⟩) 128 128) (rest++padding rest.length count)):=fun w' hg=>by
  rw[<-htk];exact box_sees ((hg.block g (Box.lt hx5) (by simp;omega)).trans hx5) 128 128 (by omega) (by omega) (by unfold maxLen;omega) _ (Box.lt hx5)
 have hrow5:=lhd (stCells_row hbw5);replace hall5:=lhd hall5;clear hall4 hbw4 hbw5 htk hL5 hx5 hb5 hb4 h4 hbw3 hall3 hx3 hcf hL2 hgne
 go_wp2_with fail
 refine (whole_any w.heap.size 279 s w5.heap.size _ _ w5 hrow5.out nlr hsee.out).mono ?_;rintro e w6 ⟨v6,rfl,-,hs6,hg6⟩;have hall6:=hall5.out.grown hg6 (hall5.out.size) (fun k hk=>by injection hk with hk;omega);clear hsee hrow5 hall5 hg6;have hfin:Hid (out (absorb s (rest++padding rest.length count) ((rest++padding rest.length count).length / 64))=finish s rest count):=rfl;generalize absorb s (rest++padding rest.length count) ((rest++padding rest.length count).length / 64)=q at hs6 hfin;have g0:w6.cell? ⟨w.heap.size,0,none⟩=some (.int .u32 (q.a.toNat:Int)):=hs6.cell (i:=0) (by omega);have g1:w6.cell? ⟨w.heap.size,1,none⟩=some (.int .u32 (q.b.toNat:Int)):=hs6.cell (i:=1) (by omega);have g2:w6.cell? ⟨w.heap.size,2,none⟩=some (.int .u32 (q.c.toNat:Int)):=hs6.cell (i:=2) (by omega);have g3:w6.cell? ⟨w.heap.size,3,none⟩=some (.int .u32 (q.d.toNat:Int)):=hs6.cell (i:=3) (by omega);have g4:w6.cell? ⟨w.heap.size,4,none⟩=some (.int .u32 (q.e.toNat:Int)):=hs6.cell (i:=4) (by omega);have g5:w6.cell? ⟨w.heap.size,5,none⟩=some (.int .u32 (q.f.toNat:Int)):=hs6.cell (i:=5) (by omega);have g6:w6.cell? ⟨w.heap.size,6,none⟩=some (.int .u32 (q.g.toNat:Int)):=hs6.cell (i:=6) (by omega);have g7:w6.cell? ⟨w.heap.size,7,none⟩=some (.int .u32 (q.h.toNat:Int)):=hs6.cell (i:=7) (by omega);have hlt6:=hs6.lt;replace hs6:=lhd hs6;replace hall6:=lhd hall6;have hmk:=make_32;dsimp only
 go_wp2_with fail
 refine wp_fresh (fun W=>OwnB W w.heap.size (.slice (some ⟨w6.heap.size,0,none⟩) 0 32) []/\Below w.heap.size w W) ⟨World.ownsRow_made w6 _ 32 hall6.out.size (by unfold maxLen;omega) (by simp[vb]),hall6.out.alloc hall6.out.size _⟩ ?_;rintro W7 ⟨ho7,hb7⟩;replace ho7:=lhd ho7;replace hb7:=lhd hb7;clear g0 g1 g2 g3 g4 g5 g6 g7 hs6 hall6 hmk hcu
 go_loopw [10,12,34] (fun r _ t wr=>∃k:Nat,k<=8/\t=.int .i64 k/\Hid (OwnB wr w.heap.size r (outOf ((stList q).take k)))/\Hid (Below w.heap.size w wr)) (fun _ _ t _=>8 - (intOf t).toNat)
 case atStart=>exact⟨0,by omega,rfl,ho7,hb7⟩
 case round=>
  clear ho7 hb7;obtain⟨k,hk,rfl,ho,hb⟩:=hrel
  by_cases hlt:k<8
  ·have hix:=words_index q k hlt
   have hst:=lhd (out_step q k hlt);have h4:=lhd (put4 (stAt q k));have hol:=lhd (show (outOf ((stList q).take k)).length<=32 by
    rcases (by omega:k=0\/k=1\/k=2\/k=3\/k=4\/k=5\/k=6\/k=7) with rfl|rfl|rfl|rfl|rfl|rfl|rfl|rfl
    all_goals simp[outOf,stList,putB_len])
   generalize stAt q k=x at hix hst h4;generalize outOf ((stList q).take k)=acc at ho hst hol;have i0:(0:Int)<=(k:Int):=by omega
   have i1:(k:Int)<8:=by omega
   have hc4:=balloc wr (.cells #[.int .u8 ((x.toNat:Int) / 16777216),.int .u8 ((x.toNat:Int) / 65536 % 256),.int .u8 ((x.toNat:Int) / 256 % 256),.int .u8 ((x.toNat:Int) % 256)] 5);have hown:=own_made wr (putB 4 x.toNat) (by rw[putB_len];unfold maxLen;omega) wr.heap.size nlr;rw[h4.out,putB_len] at hown;have hsee:=lhd hown.sees;have hb9:=lhd (hb.out.trans (hc4.mono hb.out.size));have ho9:=lhd (ho.out.below hc4);have hl9:=lhd (show acc.length+(putB 4 x.toNat).length<=140737488355328 by rw[putB_len];have:=hol.out;omega);clear hown hc4 ho hb h4 hol
   go_wp2_with (at_builtin;refine wpList_app (by rfl) _ _ rfl w.heap.size _ acc rfl ho9.out _ _ (putB 4 x.toNat) rfl hsee.out hl9.out hb9.out.size ?_)
   intro v' w' hW2 hb2;have hW2:=lhd hW2;have hb2:=lhd hb2
   go_wp2_with fail
   go_roundw
   case rel=>exact⟨k+1,by omega,by go_num,by rw[hst.out];exact hW2.out,hb9.out.trans hb2.out⟩
   case measure=>simp[intOf];omega
  ·have he:outOf ((stList q).take k)=finish s rest count:=by
    rw[xtl (by simp[stList];omega)];exact hfin.out
   rw[he] at ho
   go_wp2_with fail
   go_ret
   exact⟨_,rfl,ho.out,hb.out⟩
theorem sum_any (B:Nat) (u:Value) (bs:Bs) (w:World) (hu:SeesB w B u bs) (hB:B<=w.heap.size) (hlen:bs.length<=1099511627776) :
 Calls prog 193 #[u] w (Gives (sha bs) w):=by
 obtain⟨A,c,rfl,hc1,hc2⟩:=hu.mk_;have hu:=lhd hu
 go_enter func193,ntmps193
 go_wp2_with fail
 refine (first_any _).mono ?_;rintro e w1 ⟨rfl,hb1⟩;have hu1:=hu.out.below (hb1.mono hB);obtain⟨q,hq⟩:∃q:St,q=st0:=⟨_,rfl⟩
 rw[<-hq];replace hq:=lhd hq;unfold wdV;dsimp only
 go_wp2_with fail
 have hc2':=balloc w1 (.cells (stCells q).toArray 279);have hbx:=Box.new w1 279 (stCells q);have hall:=bgo hb1 hc2';have hsz1:=hb1.size;have hu2:=hu1.below (hc2'.mono (Nat.le_trans hB hsz1));change Calls _ _ _ (w1.alloc (.cells (stCells q).toArray 279)) _;generalize w1.alloc (.cells (stCells q).toArray 279)=w2 at hc2' hbx hall hu2 ⊢;have hview:∀w',w2.grownBy w' (some w1.heap.size)->SeesB w' B (.slice A bs.length c) bs:=fun w' hg=>Sees.grown hu2 hg (by have:=hall.size;omega) (fun g hg=>by injection hg with hg;omega)
 refine (whole_any w1.heap.size 279 q B _ bs w2 (stCells_row hbx) (by have:=hall.size;omega) hview).mono ?_;rintro e w3 ⟨v3,rfl,hs3,hr3,hg3⟩;have hall3:=hall.grown hg3 hall.size (fun k hk=>by injection hk with hk;omega);have hq2:Hid (finish (absorb q bs (bs.length / 64)) (bs.drop (64 * (bs.length / 64))) bs.length=sha bs):=by rw[hq.out];exact rfl
 have hl3:(bs.drop (64 * (bs.length / 64))).length<64:=by rw[xld];omega
 generalize absorb q bs (bs.length / 64)=q3 at hr3 hq2;generalize bs.drop (64 * (bs.length / 64))=r3 at hs3 hq2 hl3;have g0:w3.cell? ⟨w1.heap.size,0,none⟩=some (.int .u32 (q3.a.toNat:Int)):=hr3.cell (i:=0) (by omega);have g1:w3.cell? ⟨w1.heap.size,1,none⟩=some (.int .u32 (q3.b.toNat:Int)):=hr3.cell (i:=1) (by omega);have g2:w3.cell? ⟨w1.heap.size,2,none⟩=some (.int .u32 (q3.c.toNat:Int)):=hr3.cell (i:=2) (by omega);have g3:w3.cell? ⟨w1.heap.size,3,none⟩=some (.int .u32 (q3.d.toNat:Int)):=hr3.cell (i:=3) (by omega);have g4:w3.cell? ⟨w1.heap.size,4,none⟩=some (.int .u32 (q3.e.toNat:Int)):=hr3.cell (i:=4) (by omega);have g5:w3.cell? ⟨w1.heap.size,5,none⟩=some (.int .u32 (q3.f.toNat:Int)):=hr3.cell (i:=5) (by omega);have g6:w3.cell? ⟨w1.heap.size,6,none⟩=some (.int .u32 (q3.g.toNat:Int)):=hr3.cell (i:=6) (by omega);have g7:w3.cell? ⟨w1.heap.size,7,none⟩=some (.int .u32 (q3.h.toNat:Int)):=hr3.cell (i:=7) (by omega);have hf:=finish_any q3 B v3 r3 bs.length w3 hs3 (by have:=hall3.size;omega) hl3 hlen;unfold wdV at hf;replace hf:=lhd hf;dsimp only
 go_wp2_with fail
 refine hf.out.mono ?_;rintro e w4 ⟨v4,rfl,h4,hb4⟩;dsimp only
 go_wp2_with fail
 go_ret
 exact⟨v4,rfl,by rw[<-hq2.out];exact h4.mono hall3.size,bgo hall3 hb4⟩
theorem SeesB.take {w:World} {B n c m c':Nat} {A:Option Addr} {l:Bs} (h:SeesB w B (.slice A n c) l) (hm:m<=l.length) (hc:m<=c') (hx:c'<=maxLen):SeesB w B (.slice A m c') (l.take m):=by
 have hl:(l.take m).length=m:=by rw[xlt];omega
 unfold SeesB;rw[hl];refine⟨by rw[vb_len,hl,Nat.mul_one],A,c',rfl,hc,hx,fun h0=>?_⟩;obtain⟨b,o,e,hb,hcell⟩:=h.at_ (by omega);refine⟨b,o,e,hb,fun j x hj=>?_⟩;rw[vb_get,List.getElem?_take] at hj
 split at hj
 ·obtain⟨y,hy,rfl⟩:=Option.map_eq_some_iff.1 hj
  rw[hcell j (List.getElem?_eq_some_iff.1 hy).1,xgd,hy]
  rfl
 cases hj
def From (base:Nat) (v:Value):Prop:=∀(a:Addr) (n c:Nat),v=.slice (some a) n c->base<=a.block
theorem From.mono {a b:Nat} {v:Value} (h:From b v) (hab:a<=b):From a v:=fun x n c e=>Nat.le_trans hab (h x n c e)
theorem OwnB.from {w:World} {base:Nat} {v:Value} {l:Bs} (h:OwnB w base v l):From base v:=by
 intro a n c e;rcases h.2 with ⟨rfl,_⟩|⟨g,cap,cur,rfl,hb,_⟩
 ·cases e
 injection e with e1;injection e1 with e1;subst e1;exact hb
theorem From.cut {base n c m d:Nat} {A:Option Addr} (h:From base (.slice A n c)):From base (.slice A m d):=by
 intro a n' c' e;injection e with e1;subst e1;exact h a n c rfl
def Shows (l:Bs) (w:World) (e:Ending) (w':World):Prop:=∃v,e=.returned v/\SeesB w' w'.heap.size v l/\Below w.heap.size w w'/\From w.heap.size v
theorem Gives.shows {l:Bs} {w w':World} {e:Ending} (h:Gives l w e w'):Shows l w e w':=by
 obtain⟨v,h1,h2,h3⟩:=h;exact⟨v,h1,h2.sees,h3,h2.from⟩
theorem short_any (B:Nat) (u:Value) (bs:Bs) (w:World) (hu:SeesB w B u bs) (hB:B<=w.heap.size) (hlen:bs.length<=1099511627776) :
 Calls prog 208 #[u] w (Shows (short bs) w):=by
 have hs:=sum_any B u bs w hu hB hlen;have hl:=sha_len bs
 go_enter func208,ntmps208
 go_wp2_with (go_at_call 193;refine hs.mono ?_;rintro e w' ⟨v,rfl,h1,hb⟩;obtain⟨A,c,rfl,hc1,hc2⟩:=h1.sees.mk_)
 go_ret
 have h2:=h1.sees.take (m:=16) (c':=16) (by omega) (by omega) (by unfold maxLen;omega);exact⟨.slice A 16 16,rfl,h2,hb,h1.from.cut⟩
theorem clone_any (B:Nat) (u:Value) (bs:Bs) (w:World) (hu:SeesB w B u bs) (hB:B<=w.heap.size) (hlen:bs.length<=1099511627776) :
 Calls prog 140 #[u] w (Gives bs w):=by
 obtain⟨A,c,rfl,hc1,hc2⟩:=hu.mk_;cases A with
 | none=>
   have h0:bs=[]:=by
    rcases Nat.eq_zero_or_pos bs.length with h0|h0
    ·exact List.eq_nil_of_length_eq_zero h0
    obtain⟨b,o,e,_⟩:=hu.at_ h0;cases e
   subst h0;have hnil:∀W,(binOp .eql 25 (.slice none 0 c) (.slice none 0 0)).run prog W=.ok (.bool true) W:=fun W=>Lib.run_eql_slice_nil_nil W _ _ underlying25
   go_enter func140,ntmps140
   go_wp2_with fail
   go_ret
   exact⟨_,rfl,World.ownsRow_nil _ _ _ _,Below.refl _ _⟩
 | some a=>
   have hnil:∀W,(binOp .eql 25 (.slice (some a) bs.length c) (.slice none 0 0)).run prog W=.ok (.bool false) W:=fun W=>Lib.run_eql_slice_some_nil W _ _ _ underlying25
   have hl:=balloc w (.cells #[] 5);have ho:=own_made w [] (Nat.zero_le _) w.heap.size nlr;have hs:=hu.below (hl.mono hB);clear hu
   go_enter func140,ntmps140
   go_wp2_with (at_builtin;refine wpList_app (by rfl) _ _ rfl w.heap.size _ [] rfl ho B _ bs rfl hs (by simp;omega) hl.size ?_)
   intro v' w' h2 hb2
   go_wp2_with fail
   go_ret
   exact⟨v',rfl,h2,hl.trans hb2⟩
def chainN (n:Int):Nat:=(min (max n 0) 65536).toNat
theorem chain_any (B:Nat) (u:Value) (bs:Bs) (n:Int) (w:World) (hu:SeesB w B u bs) (hB:B<=w.heap.size) (hlen:bs.length<=1099511627776) :
 Calls prog 206 #[u,.int .i64 n] w (Shows (chainH (chainN n) bs) w):=by
 have hcl:=clone_any B u bs w hu hB hlen
 go_enter func206,ntmps206
 go_wp2_with (go_at_call 140;refine hcl.mono ?_;rintro e w1 ⟨v,rfl,h1,hb1⟩)
 have hlim:min (max n 0) 65536=(chainN n:Int):=by unfold chainN;omega
 have hcN:chainN n<=65536:=by unfold chainN;omega
 rw[hlim];replace hlim:=lhd hlim;generalize chainN n=N at *;have hf1:=lhd h1.from
 have h1:=lhd h1.sees;have hb1:=lhd hb1
 go_loopw [5,11] (fun v t wr=>∃k:Nat,k<=N/\t=.int .i64 k/\Hid (SeesB wr wr.heap.size v (chainH k bs))/\Hid (Below w.heap.size w wr)/\Hid (From w.heap.size v)) (fun _ t _=>N - (intOf t).toNat)
 case atStart=>exact⟨0,by omega,rfl,h1,hb1,hf1⟩
 case round=>
  clear h1 hb1 hcl hf1;obtain⟨k,hk,rfl,h1,hb1,hf1⟩:=hrel
  by_cases hlt:k<N
  ·have i1:(k:Int)<(N:Int):=by omega
   have hl:(chainH k bs).length<=1099511627776:=by
    cases k with
    | zero=>exact hlen
    | succ k=>rw[chainH,short_len];omega
   have hs:=short_any _ _ _ _ h1.out nlr hl;replace hs:=lhd hs;clear hl
   go_wp2_with (go_at_call 208;refine hs.out.mono ?_;rintro e w2 ⟨v2,rfl,h2,hb2,hf2⟩)
   replace hf2:=lhd (hf2.mono hb1.out.size);replace h2:=lhd h2;replace hb2:=lhd hb2
   go_roundw
   case rel=>exact⟨k+1,by omega,by go_num,h2,bgo hb1.out hb2.out,hf2⟩
   case measure=>simp[intOf];omega
  obtain rfl:k=N:=by omega
  go_wp2_with fail
  go_ret
  exact⟨_,rfl,h1.out,hb1.out,hf1.out⟩
def SeesW (w:World) (B:Nat) (v:Value) (l:List Wd):Prop:=Sees w B v 1 l.length (l.map wdV)
theorem rfirst_any (w:World):Calls prog 156 #[] w fun e w'=>∃v,e=.returned v/\SeesW w' w'.heap.size v (stList st0)/\Below w.heap.size w w':=by
 go_enter func156,ntmps156
 go_wp2
 go_ret
 refine⟨.slice (some ⟨w.heap.size,0,none⟩) 8 8,rfl,?_,(Below.refl _ _).alloc nlr _⟩;have h:=(World.ownsRow_lit (base:=w.heap.size) (e:=22) (size:=1) w ((stList st0).map wdV).toArray 8 nlr (by unfold maxLen;omega) rfl)
 exact Sees.of_own h
theorem rconst_any (w:World):Calls prog 157 #[] w fun e w'=>∃v,e=.returned v/\SeesW w' w'.heap.size v kTab/\Below w.heap.size w w':=by
 go_enter func157,ntmps157
 go_wp2
 go_ret
 refine⟨.slice (some ⟨w.heap.size,0,none⟩) 64 64,rfl,?_,(Below.refl _ _).alloc nlr _⟩;have h:=(World.ownsRow_lit (base:=w.heap.size) (e:=22) (size:=1) w (kTab.map wdV).toArray 64 nlr (by unfold maxLen;omega) rfl)
 exact Sees.of_own h
theorem SeesW.at_ {w:World} {B:Nat} {v:Value} {l:List Wd} (h:SeesW w B v l) (h0:0<l.length):∃g o c,v=.slice (some ⟨g,o,none⟩) l.length c/\g<B/\∀j,j<l.length->w.cell? ⟨g,o+j,none⟩=some (wdV (l.getD j 0)):=by
 obtain⟨_,A,c,rfl,h1,h2,h3⟩:=h;obtain⟨b,o,rfl,hb,hc⟩:=h3 h0;refine⟨b,o,c,rfl,hb,fun j hj=>hc j _ ?_⟩;rw[xgm,xge hj,Option.map_some,xgd,xge hj]
 rfl
theorem stAt_get (s:St) (j:Nat) (hj:j<8):(stList s).getD j 0=stAt s j:=by
 rcases (by omega:j=0\/j=1\/j=2\/j=3\/j=4\/j=5\/j=6\/j=7) with rfl|rfl|rfl|rfl|rfl|rfl|rfl|rfl
 all_goals rfl
theorem kTab_len:kTab.length=64:=rfl
def WPost (s:St) (w:World) (e:Ending) (w':World):Prop:=∃v,e=.returned v/\SeesW w' w'.heap.size v (stList s)/\Below w.heap.size w w'
theorem rblock_sees (s:St) (bs:Bs) (uh uk u:Value) (B:Nat) (w:World) (hs:SeesW w B uh (stList s)) (hk:SeesW w B uk kTab) (hb:SeesB w B u bs) (hl:bs.length=64) (hB:B<=w.heap.size) :
 Calls prog 158 #[uh,uk,u] w (WPost (compress s bs) w):=by
 obtain⟨gh,oh,ch,rfl,lh,c1⟩:=hs.at_ (by simp[stList]);obtain⟨gk,ok,ck,rfl,lk,c2⟩:=hk.at_ (by rw[kTab_len];omega);obtain⟨A,c,rfl,_,_⟩:=hb.mk_;obtain⟨gb,ob,rfl,lb,c3⟩:=hb.at_ (by omega);rw[hl];refine (rblock_any gh oh ch gk ok ck gb ob c s bs w (by omega) (by omega) (by omega) (fun j hj=>by rw[<-stAt_get s j hj];exact c1 j hj) (fun j hj=>c2 j (by rw[kTab_len];exact hj)) (fun j hj=>c3 j (by omega))).mono ?_;rintro e w' ⟨v,rfl,h1,h2⟩;exact⟨v,rfl,Sees.of_own h1,h2⟩
theorem rput8c (count:Nat) (h:count<=1099511627776) (w:World):Calls prog 121 #[.int .u64 ((count:Int) * 8),.int .i64 8] w (Gives (putB 8 (count * 8)) w):=by
 have h:=rput_any (count * 8) 8 (by omega) (by omega) w;rw[Int.natCast_mul] at h;exact h
def padK (n:Nat):Nat:=if n+9<=64 then 55 - n else 119 - n
theorem padK_end (n k:Nat) (h:n<64) (hk:k<=padK n) (he:(n+1+k) % 64=56):k=padK n:=by
 unfold padK at *
 by_cases h9:n+9<=64
 ·simp only[if_pos h9] at *;omega
 simp only[if_neg h9] at *;omega
theorem padK_more (n k:Nat) (h:n<64) (hk:k<=padK n) (he:(n+1+k) % 64≠56):k<padK n:=by
 unfold padK at *
 by_cases h9:n+9<=64
 ·simp only[if_pos h9] at *;omega
 simp only[if_neg h9] at *;omega
theorem one_byte (w:World) (x:UInt8) (n:Int) (hx:(x.toNat:Int)=n):OwnB (w.alloc (.cells #[.int .u8 n] 5)) w.heap.size (.slice (some ⟨w.heap.size,0,none⟩) 1 1) [x]:=by
 subst hx;exact own_made w [x] (by simp[maxLen]) _ nlr
theorem rfinish_any (s:St) (B:Nat) (uh u:Value) (rest:Bs) (count:Nat) (w:World) (hh:SeesW w B uh (stList s)) (hu:SeesB w B u rest) (hB:B<=w.heap.size) (hr:rest.length<64) (hcount:count<=1099511627776) :
 Calls prog 159 #[uh,u,.int .i64 (count:Int)] w (Gives (finish s rest count) w):=by
 obtain⟨A,c,rfl,hc1,hc2⟩:=hu.mk_;obtain⟨gh,oh,ch,rfl,-,-⟩:=id (hh.at_ (by simp[stList]));replace hu:=lhd hu;replace hh:=lhd hh;have m0:IntKind.u64.wrap (count:Int)=(count:Int):=by rw[IntKind.wrap_u64];omega
 have m1:IntKind.u64.wrap ((count:Int) * 8)=((count * 8:Nat):Int):=by rw[IntKind.wrap_u64];omega
 go_enter func159,ntmps159
 go_wp2_with fail
 refine (rconst_any _).mono ?_;rintro e w1 ⟨vk,rfl,hk1,hb1⟩;replace hu:=lhd (hu.out.below (hb1.mono hB));replace hk1:=lhd hk1;dsimp only
 go_wp2_with fail
 have hall:=seesL_lit w1 25 (show SeesAll w1 w1.heap.size [.slice A rest.length c] [rest] from⟨hu.out.more (Nat.le_trans hB hb1.size),trivial⟩) (by simp[maxLen]);refine (rjoin_any _ _ _ _ hall nlr (by simp;omega)).mono ?_;rintro e w2 ⟨v2,rfl,ho2,hb2⟩;have hb2':=bgo (balloc w1 (.cells #[.slice A rest.length c] 25)) hb2;replace ho2:OwnB w2 w1.heap.size v2 rest:=by simpa using ho2.mono (balloc w1 (.cells #[.slice A rest.length c] 25)).size
 dsimp only;have hb3:=balloc w2 (.cells #[.int .u8 128] 5);have hs3:=(one_byte w2 128 128 rfl).sees;have ho3:=ho2.below hb3;have hl3:rest.length+[(128:UInt8)].length<=140737488355328:=by simp;omega
 have hz3:w1.heap.size<=(w2.alloc (.cells #[.int .u8 128] 5)).heap.size:=Nat.le_trans hb2'.size hb3.size;replace hs3:=lhd hs3;replace ho3:=lhd ho3;replace hl3:=lhd hl3;replace hz3:=lhd hz3
 go_wp2_with (at_builtin;refine wpList_app (by rfl) _ _ rfl w1.heap.size _ rest rfl ho3.out _ _ [128] rfl hs3.out hl3.out hz3.out ?_)
 intro v4 w4 ho4 hb4;have hall4:=(hb2'.trans (hb3.mono hb2'.size)).trans hb4;replace ho4:=lhd ho4;replace hall4:=lhd hall4;clear hb2 hb2' ho2 hb3 hs3 ho3 hl3 hz3 hb4 hall
 go_wp2_with fail
 go_loopw [8] (fun v wr=>∃k:Nat,k<=padK rest.length/\Hid (OwnB wr w1.heap.size v (rest++[128]++List.replicate k 0))/\Hid (Below w1.heap.size w1 wr)) (fun v _=>(match v with | .slice _ n _=>rest.length+1+padK rest.length - n | _=>0))
 case atStart=>exact⟨0,by omega,by show OwnB _ _ _ _;simpa using ho4.out,hall4⟩
 case round=>
  clear ho4 hall4;obtain⟨k,hk,ho,hall⟩:=hrel;obtain⟨A5,c5,rfl,-,-⟩:=ho.out.sees.mk_;have hlen:(rest++[128]++List.replicate k (0:UInt8)).length=rest.length+1+k:=by simp;omega
  have hsnoc:Hid (rest++[128]++List.replicate k (0:UInt8)++[0]=rest++[128]++List.replicate (k+1) 0):=by show _=_;rw[List.replicate_succ',xaa _ _ [0]]
  have hmore:=padK_more rest.length k hr hk;have hend:=padK_end rest.length k hr hk;have hfin:Hid (k=padK rest.length->rest++[128]++List.replicate k (0:UInt8)++putB 8 (count * 8)=rest++padding rest.length count):=fun e=>by subst e;simp[padding,padK]
  rw[hlen] at ho ⊢;generalize hacc:rest++[128]++List.replicate k (0:UInt8)=acc at *;replace hacc:=lhd hacc;have HL:=lhd hlen;replace hmore:=lhd hmore;replace hend:=lhd hend;replace hk:=lhd hk;clear hlen
  by_cases h56:(rest.length+1+k) % 64=56
  ·have i56:((rest.length+1+k:Nat):Int) % 64=56:=by omega
   have hE:=lhd (hfin (hend.out h56));have hEl:=lhd (show (rest++padding rest.length count).length=szOf rest.length by rw[xla,pad_len _ _ hr]);clear hfin hsnoc hmore hend
   go_wp2_with fail
   refine (rput8c count hcount _).mono ?_;rintro e w6 ⟨v6,rfl,h6,hb6⟩;have hall6:=lhd (hall.out.trans (hb6.mono hall.out.size));have ho6:=lhd (OwnB.below (v:=.slice A5 (rest.length+1+k) c5) ho.out hb6);have hs6:=lhd h6.sees;have hl6:=lhd (show acc.length+(putB 8 (count * 8)).length<=140737488355328 by have:=HL.out;have:=hk.out;have h1:padK rest.length<=119:=(by unfold padK;split<;>omega);rw[putB_len];omega);clear h6 hb6 ho hall;dsimp only
   go_wp2_with (at_builtin;refine wpList_app (by rfl) _ _ rfl w1.heap.size _ acc rfl ho6.out _ _ _ rfl hs6.out hl6.out hall6.out.size ?_)
   intro v7 w7 ho7 hb7;rw[hE.out] at ho7;have hall7:=lhd (hall6.out.trans hb7);have hsb:=lhd ho7.sees;have hk7:=lhd (Sees.below hk1.out hall7.out);have hh7:=lhd (Sees.below (Sees.below hh.out (hb1.mono hB)) (hall7.out.mono (Nat.le_trans hB hb1.size)));have hB1:=hb1.size;have hw7:Hid (Below w.heap.size w w7):=bgo hb1 hall7.out;obtain⟨A8,c8,rfl,hc8,hc9⟩:=hsb.out.mk_;have hfin:Hid (out (absorb s (rest++padding rest.length count) ((rest++padding rest.length count).length / 64))=finish s rest count):=rfl;clear ho7 hs6 hl6 ho6 hall6 hk1 hh hu hE;generalize rest++padding rest.length count=E at *;have hEm:Hid (E.length % 64=0):=by show _=_;rw[hEl.out];unfold szOf;split<;>rfl
   have hE2:E.length<=128:=by rw[hEl.out];unfold szOf;split<;>omega
   go_wp2_with fail
   go_loopw [0,9] (fun hv t wr=>∃j i:Nat,Hid (i=64 * j)/\i<=E.length/\t=.int .i64 (i:Int)/\Hid (SeesW wr wr.heap.size hv (stList (absorb s E j)))/\Hid (Below w7.heap.size w7 wr)) (fun _ t _=>E.length - (intOf t).toNat)
   case atStart=>exact⟨0,0,rfl,by omega,rfl,Sees.more hh7.out (Nat.le_trans hB (Nat.le_trans hB1 hall7.out.size)),Below.refl _ _⟩
   case round=>
    clear hh7;obtain⟨j,i,hij,hi,rfl,hh,hbw⟩:=hrel
    by_cases hlt:i<E.length
    ·have hi64:i+64<=E.length:=by have h1:=hij.out;have h2:=hEm.out;omega
     have hr:=run_cut (P:=prog) 25 underlying25 1 byte_size A8 E.length c8 .i64 .i64 (i:Int) ((i:Int)+64) (by omega) (by omega) (by omega);rw[show ((i:Int)+64).toNat=i+64 from by omega,xnc,Nat.add_sub_cancel_left] at hr;have hcut:=SeesB.cut (a:=i) (b:=i+64) (hsb.out.below (hbw.out.mono hall7.out.size |> fun h=>by exact Below.mono hbw.out nlr)) (by omega) hi64;rw[Nat.add_sub_cancel_left] at hcut;have hck:Hid (compress (absorb s E j) ((E.drop i).take 64)=absorb s E (j+1)):=by rw[hij.out];exact rfl
     have hkr:SeesW wr wr.heap.size vk kTab:=Sees.more (Sees.below hk7.out (hbw.out.mono hall7.out.size)) (Nat.le_trans hall7.out.size hbw.out.size);have hblk:=rblock_sees (absorb s E j) ((E.drop i).take 64) _ vk _ wr.heap.size wr hh.out hkr (hcut.more hbw.out.size) (by rw[xlt,xld];omega) nlr;generalize cutA A8 c8 i 1=A9 at hr hblk;replace hblk:=lhd hblk;have i0:(0:Int)<=(i:Int):=by omega
     have i1:(i:Int)<(E.length:Int):=by omega
     have i2:IntKind.i64.wrap ((i:Int)+64)=(i:Int)+64:=by rw[xwi];omega
     clear hcut hkr
     go_wp2_with fail
     refine hblk.out.mono ?_;rintro e w9 ⟨v9,rfl,h9,hb9⟩;have hb9':=lhd (bgo hbw.out hb9);rw[hck.out] at h9;replace h9:=lhd h9;clear hblk hh hbw hb9 hck hr;dsimp only
     go_wp2_with fail
     go_roundw
     case rel=>exact⟨j+1,i+64,by have:=hij.out;show _=_;omega,hi64,by go_num,h9,hb9'⟩
     case measure=>simp[intOf];omega
    ·have hjl:Hid (absorb s E j=absorb s E (E.length / 64)):=by
      have h1:=hij.out
      have:j=E.length / 64:=by omega
      rw[<-this];exact rfl
     rw[hjl.out] at hh;generalize absorb s E (E.length / 64)=q at hh hfin;obtain⟨g8,o8,c9,rfl,lg,hcell⟩:=hh.out.at_ (by simp[stList]);replace hcell:Hid (∀j,j<8->wr.cell? ⟨g8,o8+j,none⟩=some (wdV (stAt q j))):=fun j hj=>by rw[<-stAt_get q j hj];exact hcell j hj
     have hwr:Hid (Below w.heap.size w wr):=bgo hw7.out hbw.out;clear hh
     go_wp2_with fail
     obtain⟨wl,rfl⟩:∃wl:World,wl=wr:=⟨_,rfl⟩
     refine wp_fresh (fun W=>OwnB W wl.heap.size (.slice (some ⟨wl.heap.size,0,none⟩) 0 0) []/\Below wl.heap.size wl W) ⟨own_made wl [] (Nat.zero_le _) _ nlr,(Below.refl _ _).alloc nlr _⟩ ?_;rintro W9 ⟨ho9,hb9⟩;replace ho9:=lhd ho9;replace hb9:=lhd hb9
     go_loopw [10,11] (fun r t wr=>∃k:Nat,k<=8/\t=.int .i64 k/\Hid (OwnB wr wl.heap.size r (outOf ((stList q).take k)))/\Hid (Below wl.heap.size wl wr)) (fun _ t _=>8 - (intOf t).toNat)
     case atStart=>exact⟨0,by omega,rfl,ho9,hb9⟩
     case round=>
      clear ho9 hb9;obtain⟨k,hk,rfl,ho,hb⟩:=hrel
      by_cases hlt:k<8
      ·have hst:=lhd (out_step q k hlt)
       have hol:=lhd (show (outOf ((stList q).take k)).length<=32 by
        rcases (by omega:k=0\/k=1\/k=2\/k=3\/k=4\/k=5\/k=6\/k=7) with rfl|rfl|rfl|rfl|rfl|rfl|rfl|rfl
        all_goals simp[outOf,stList,putB_len])
       have x0:=(hb.out.cell (p:=⟨g8,o8+k,none⟩) lg).trans (hcell.out k hlt);unfold wdV at x0;generalize stAt q k=x at x0 hst;generalize outOf ((stList q).take k)=acc at ho hst hol;have hx:=x.isLt;have mx:IntKind.u64.wrap (x.toNat:Int)=(x.toNat:Int):=by rw[IntKind.wrap_u64];omega
       have hput:=lhd (rput_any x.toNat 4 (by omega) (by omega));have i0:(0:Int)<=(k:Int):=by omega
       have i1:(k:Int)<8:=by omega
       have hlen8:(stList q).length=8:=rfl;rw[hlen8];clear hx
       go_wp2_with fail
       refine (hput.out _).mono ?_;rintro e w10 ⟨v10,rfl,h10,hb10⟩;have hs10:=lhd h10.sees;obtain⟨Ar,cr,rfl,-,-⟩:=ho.out.sees.mk_;have ho10:=lhd (ho.out.below hb10);have hbb10:=lhd (hb.out.trans (hb10.mono hb.out.size));have hl10:=lhd (show acc.length+(putB 4 x.toNat).length<=140737488355328 by rw[putB_len];have:=hol.out;omega);clear h10 hb10 ho hb hol hput;dsimp only
       go_wp2_with (at_builtin;refine wpList_app (by rfl) _ _ rfl wl.heap.size _ acc rfl ho10.out _ _ (putB 4 x.toNat) rfl hs10.out hl10.out hbb10.out.size ?_)
       intro v' w' hW2 hb2;have hW2:=lhd hW2;have hb2:=lhd hb2
       go_wp2_with fail
       go_roundw
       case rel=>exact⟨k+1,by omega,by go_num,by rw[hst.out];exact hW2.out,hbb10.out.trans hb2.out⟩
       case measure=>simp[intOf];omega
      ·have he:outOf ((stList q).take k)=finish s rest count:=by
        rw[xtl (by simp[stList];omega)];exact hfin.out
       rw[he] at ho
       go_wp2_with fail
       go_ret
       exact⟨_,rfl,ho.out.mono hwr.out.size,bgo hwr.out hb.out⟩
  have i56:¬(((rest.length+1+k:Nat):Int) % 64=56):=by omega
  have hb6:=balloc wr (.cells #[.int .u8 0] 5);have hs6:=lhd (one_byte wr 0 0 rfl).sees;have ho6:=lhd (OwnB.below (v:=.slice A5 (rest.length+1+k) c5) ho.out hb6);have hl6:=lhd (show acc.length+[(0:UInt8)].length<=140737488355328 by have:=HL.out;have:=hk.out;have h1:padK rest.length<=119:=(by unfold padK;split<;>omega);simp;omega);have hall6:=lhd (hall.out.trans (hb6.mono hall.out.size));clear hb6 ho hall
  go_wp2_with (at_builtin;refine wpList_app (by rfl) _ _ rfl w1.heap.size _ acc rfl ho6.out _ _ [0] rfl hs6.out hl6.out hall6.out.size ?_)
  intro v7 w7 ho7 hb7;replace ho7:=lhd ho7;replace hb7:=lhd hb7
  go_wp2_with fail
  go_roundw
  case rel=>exact⟨k+1,hmore.out h56,by rw[<-hsnoc.out];exact ho7.out,hall6.out.trans hb7.out⟩
  case measure=>
   obtain⟨A8,c8,rfl,-,-⟩:=ho7.out.sees.mk_
   have:=HL.out;have:=hmore.out h56
   simp;omega
theorem rsum_any (B:Nat) (u:Value) (bs:Bs) (w:World) (hu:SeesB w B u bs) (hB:B<=w.heap.size) (hlen:bs.length<=1099511627776) :
 Calls prog 81 #[u] w (Gives (sha bs) w):=by
 obtain⟨A,c,rfl,hc1,hc2⟩:=hu.mk_;have hu:=lhd hu
 go_enter func81,ntmps81
 go_wp2_with fail
 refine (rfirst_any _).mono ?_;rintro e w1 ⟨vh,rfl,hh1,hb1⟩;dsimp only
 go_wp2_with fail
 refine (rconst_any _).mono ?_;rintro e w2 ⟨vk,rfl,hk2,hb2⟩;have hw2:=lhd (bgo hb1 hb2);have hh2:=lhd (Sees.more (Sees.below hh1 hb2) hb2.size);have hu2:=lhd (hu.out.below (hw2.out.mono hB));replace hk2:=lhd hk2;clear hb1 hb2 hh1 hu;dsimp only
 go_wp2_with fail
 go_loopw [3,6] (fun hv t wr=>∃j i:Nat,Hid (i=64 * j)/\i<=bs.length/\t=.int .i64 (i:Int)/\Hid (SeesW wr wr.heap.size hv (stList (absorb st0 bs j)))/\Hid (Below w2.heap.size w2 wr)) (fun _ t _=>bs.length - (intOf t).toNat)
 case atStart=>exact⟨0,0,rfl,by omega,rfl,hh2,Below.refl _ _⟩
 case round=>
  clear hh2;obtain⟨j,i,hij,hi,rfl,hh,hbw⟩:=hrel
  by_cases hlt:i<bs.length / 64 * 64
  ·have hi64:i+64<=bs.length:=by have h1:=hij.out;omega
   have hr:=run_cut (P:=prog) 25 underlying25 1 byte_size A bs.length c .i64 .i64 (i:Int) ((i:Int)+64) (by omega) (by omega) (by omega);rw[show ((i:Int)+64).toNat=i+64 from by omega,xnc,Nat.add_sub_cancel_left] at hr;have hcut:=SeesB.cut (a:=i) (b:=i+64) (hu2.out.below (hbw.out.mono (Nat.le_trans hB hw2.out.size))) (by omega) hi64;rw[Nat.add_sub_cancel_left] at hcut;have hck:Hid (compress (absorb st0 bs j) ((bs.drop i).take 64)=absorb st0 bs (j+1)):=by rw[hij.out];exact rfl
   have hkr:SeesW wr wr.heap.size vk kTab:=Sees.more (Sees.below hk2.out hbw.out) hbw.out.size;have hblk:=rblock_sees (absorb st0 bs j) ((bs.drop i).take 64) _ vk _ wr.heap.size wr hh.out hkr (hcut.more (Nat.le_trans hB (Nat.le_trans hw2.out.size hbw.out.size))) (by rw[xlt,xld];omega) nlr;generalize cutA A c i 1=A9 at hr hblk;replace hblk:=lhd hblk;have i0:(0:Int)<=(i:Int):=by omega
   have i1:(i:Int)<(bs.length:Int) / 64 * 64:=by omega
   have i2:IntKind.i64.wrap ((i:Int)+64)=(i:Int)+64:=by rw[xwi];omega
   clear hcut hkr
   go_wp2_with fail
   refine hblk.out.mono ?_;rintro e w9 ⟨v9,rfl,h9,hb9⟩;have hb9':=lhd (bgo hbw.out hb9);rw[hck.out] at h9;replace h9:=lhd h9;clear hblk hh hbw hb9 hck hr;dsimp only
   go_wp2_with fail
   go_roundw
   case rel=>exact⟨j+1,i+64,by have:=hij.out;show _=_;omega,hi64,by go_num,h9,hb9'⟩
   case measure=>simp[intOf];omega
  have hjl:j=bs.length / 64:=by have h1:=hij.out;omega
  have hil:i=64 * (bs.length / 64):=by have h1:=hij.out;omega
  have hsha:Hid (finish (absorb st0 bs j) (bs.drop i) bs.length=sha bs):=by rw[hjl,hil];exact rfl
  have hr:=run_cut_from (P:=prog) 25 underlying25 1 byte_size A bs.length c .i64 ((bs.length:Int) / 64 * 64) (by omega) (by omega);rw[show ((bs.length:Int) / 64 * 64).toNat=i from by omega] at hr;have hcut:=SeesB.cut (a:=i) (b:=bs.length) (hu2.out.below (hbw.out.mono (Nat.le_trans hB hw2.out.size))) hi nlr;rw[xtl (by rw[xld];omega)] at hcut;have hfin:=rfinish_any (absorb st0 bs j) wr.heap.size _ _ (bs.drop i) bs.length wr hh.out (hcut.more (Nat.le_trans hB (Nat.le_trans hw2.out.size hbw.out.size))) nlr (by rw[xld];omega) hlen;generalize cutA A c i 1=A9 at hr hfin;replace hfin:=lhd hfin;have i1:¬((i:Int)<(bs.length:Int) / 64 * 64):=by omega
  replace hjl:=lhd hjl;replace hil:=lhd hil;clear hcut
  go_wp2_with fail
  refine hfin.out.mono ?_;rintro e w9 ⟨v9,rfl,h9,hb9⟩;rw[hsha.out] at h9;dsimp only
  go_wp2_with fail
  go_ret
  exact⟨_,rfl,h9.mono (Nat.le_trans hw2.out.size hbw.out.size),bgo (bgo hw2.out hbw.out) hb9⟩
theorem rshort_any (B:Nat) (u:Value) (bs:Bs) (w:World) (hu:SeesB w B u bs) (hB:B<=w.heap.size) (hlen:bs.length<=1099511627776) :
 Calls prog 246 #[u] w (Shows (short bs) w):=by
 have hs:=rsum_any B u bs w hu hB hlen;have hl:=sha_len bs
 go_enter func246,ntmps246
 go_wp2_with (go_at_call 81;refine hs.mono ?_;rintro e w' ⟨v,rfl,h1,hb⟩;obtain⟨A,c,rfl,hc1,hc2⟩:=h1.sees.mk_)
 go_ret
 have h2:=h1.sees.take (m:=16) (c':=c) (by omega) (by omega) hc2;exact⟨.slice A 16 c,rfl,h2,hb,h1.from.cut⟩
theorem rchain_any (B:Nat) (u:Value) (bs:Bs) (n:Int) (w:World) (hu:SeesB w B u bs) (hB:B<=w.heap.size) (hlen:bs.length<=1099511627776) :
 Calls prog 245 #[u,.int .i64 n] w (Shows (chainH (chainN n) bs) w):=by
 obtain⟨A,c,rfl,hc1,hc2⟩:=hu.mk_;have hl1:=seesL_lit w 25 (show SeesAll w w.heap.size [.slice A bs.length c] [bs] from⟨hu.more hB,trivial⟩) (by simp[maxLen]);have hj:=rjoin_any _ _ _ _ hl1 nlr (by simpa using hlen);replace hj:=lhd hj;clear hl1 hu
 go_enter func245,ntmps245
 go_wp2_with fail
 refine hj.out.mono ?_;rintro e w1 ⟨v,rfl,h1,hb1⟩;have hb1:Hid (Below w.heap.size w w1):=bgo (balloc w (.cells #[.slice A bs.length c] 25)) hb1;have hf1:Hid (From w.heap.size v):=h1.from.mono (balloc w (.cells #[.slice A bs.length c] 25)).size
 have h1:Hid (SeesB w1 w1.heap.size v bs):=by show SeesB _ _ _ _;have:=h1.sees;simpa using this
 have hN:Hid (∀k:Nat,k<chainN n↔((k:Int)<n/\(k:Int)<65536)):=fun k=>by unfold chainN;omega
 have hcN:chainN n<=65536:=by unfold chainN;omega
 generalize chainN n=N at *;dsimp only
 go_wp2_with fail
 go_loopw [5,6] (fun v t wr=>∃k:Nat,k<=N/\t=.int .i64 k/\Hid (SeesB wr wr.heap.size v (chainH k bs))/\Hid (Below w.heap.size w wr)/\Hid (From w.heap.size v)) (fun _ t _=>N - (intOf t).toNat)
 case atStart=>exact⟨0,by omega,rfl,h1,hb1,hf1⟩
 case round=>
  clear h1 hb1 hj hf1;obtain⟨k,hk,rfl,h1,hb1,hf1⟩:=hrel
  by_cases hlt:k<N
  ·obtain⟨i1,i2⟩:=(hN.out k).1 hlt
   have hl:(chainH k bs).length<=1099511627776:=by
    cases k with
    | zero=>exact hlen
    | succ k=>rw[chainH,short_len];omega
   have hs:=rshort_any _ _ _ _ h1.out nlr hl;replace hs:=lhd hs;clear hl
   go_wp2_with (go_at_call 246;refine hs.out.mono ?_;rintro e w2 ⟨v2,rfl,h2,hb2,hf2⟩)
   replace hf2:=lhd (hf2.mono hb1.out.size);replace h2:=lhd h2;replace hb2:=lhd hb2
   go_roundw
   case rel=>exact⟨k+1,by omega,by go_num,h2,bgo hb1.out hb2.out,hf2⟩
   case measure=>simp[intOf];omega
  have hkN:k=N:=by omega
  rw[hkN] at h1
  by_cases i1:(k:Int)<n
  ·have i2:¬((k:Int)<65536):=fun h=>hlt ((hN.out k).2 ⟨i1,h⟩)
   replace hkN:=lhd hkN
   go_wp2_with fail
   go_ret
   exact⟨_,rfl,h1.out,hb1.out,hf1.out⟩
  replace hkN:=lhd hkN
  go_wp2_with fail
  go_ret
  exact⟨_,rfl,h1.out,hb1.out,hf1.out⟩
end Go.Proofs.YtjgepckncogdaaaGreat
