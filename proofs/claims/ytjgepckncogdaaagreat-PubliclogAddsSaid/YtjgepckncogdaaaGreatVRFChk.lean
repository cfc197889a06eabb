/- Contracts of functions, walks, plain facts. Conditions: those of each theorem. -/
import Derived.Test.YtjgepckncogdaaaGreatVBLawP
import Derived.Test.YtjgepckncogdaaaGreatVRWrite
set_option linter.unusedVariables false
set_option linter.unusedSimpArgs false
set_option maxRecDepth 100000
set_option maxHeartbeats 16000000
namespace Go.Proofs.YtjgepckncogdaaaGreat
open Go Go.RowKit _root_.Go.Proofs.Tryz
attribute [local go_sem ↓] Go.wp_at_zero Go.wp_at_succ
theorem rfcheck_any (B:Nat) (u:Value) (ls:List LinkG) (f s:Int) (w:World) (hu:SeesR w B u 3 ls.length (linkS ls)) (hB:B<=w.heap.size) (hn:ls.length<=1000) (hl:∀t∈ls,t.1.length<=1048576/\t.2.1.length<=1048576/\t.2.2.length<=1048576) :
 Calls prog 94 #[.agg #[u,.int .i64 f,.int .i64 s]] w (FChkP ls f s w):=by
 obtain⟨A,c,rfl,hc0,-⟩:=hu.mk_;have hal:=balloc w (.cells #[.slice A ls.length c,.int .i64 f,.int .i64 s] 133);have x1:=Box.new w 133 [.slice A ls.length c,.int .i64 f,.int .i64 s];change Box (w.alloc (.cells #[.slice A ls.length c,.int .i64 f,.int .i64 s] 133)) _ _ _ at x1;replace hu:=lhd ((hu.more hB).below hal);replace hal:=lhd hal;have hg1:Hid (w.heap.size<(w.alloc (.cells #[.slice A ls.length c,.int .i64 f,.int .i64 s] 133)).heap.size):=x1.lt
 go_enter func94,ntmps94
 go_upto_region 1 with (fail)
 generalize w.alloc (.cells #[.slice A ls.length c,.int .i64 f,.int .i64 s] 133)=W0 at *;have hver:=lhd (rcverify_any w.heap.size _ ls W0 hu.out (Nat.le_of_lt hg1.out) (by omega) (fun t ht=>(hl t ht).2.2));have hcv:Hid (cverC ls=0->(cverV ls).length=ls.length):=cverV_len;unfold CVerP at hver;replace hl:=lhd hl;have hD:Hid (fchkC ls f s=if cverC ls=0 then (if namesB ls f s then 0 else 24) else cverC ls):=rfl;have hNB:Hid (namesB ls f s=(decide (0<=f/\f<s/\s=(ls.length:Int) - 1)&&agB ls (cverV ls) f.toNat s.toNat)):=rfl;obtain⟨k0,k1,k2,-,-,-⟩:=box3_cells x1
 go_wp2_with fail
 refine hver.out.mono ?_;rintro e w1 ⟨v1,rfl,p1,hb1⟩;generalize hC:cverC ls=C at *;replace hC:=lhd hC;have xb:=x1.below hb1;have hb:=lhd (bgo hal.out hb1);clear k0 k1 k2 hver;obtain⟨k0,k1,k2,-,-,-⟩:=box3_cells xb;dsimp only
 by_cases h0:C=0
 rotate_left
 ·have hE:(C == 0)=false:=by simp[h0]
  obtain⟨A1,c1,rfl,hc1,-⟩:=p1.mk_;have hD2:Hid (fchkC ls f s=C):=by show _=_;rw[hD.out,if_neg h0]
  replace h0:=lhd h0
  go_wp2_with fail
  go_returns
  exact fchk_bad hD2.out h0.out hb.out
 subst h0;have hVl:=hcv.out rfl;generalize hV:cverV ls=V at *;rw[hVl] at p1;have hsp:=lhd (spanC2_sees p1);obtain⟨A1,c1,rfl,hc1,-⟩:=p1.mk_;have hln:(ls.length:Int) - 1<1000:=by omega
 replace hD:Hid (fchkC ls f s=if namesB ls f s then 0 else 24):=by show _=_;rw[hD.out,if_pos rfl]
 replace hVl:=lhd hVl;replace hV:=lhd hV;have hbad:Hid (∀W,Below w.heap.size w W->namesB ls f s=false->FChkP ls f s w (.returned (.tuple #[.slice none 0 0,.int .i64 24])) W):=fun W hW hq=>fchk_bad (by rw[hD.out,hq];rfl) (by decide) hW
 clear p1 hcv
 by_cases h1:f<0
 ·have hq:Hid (namesB ls f s=false):=by show _=_;rw[hNB.out,decide_eq_false (by omega)];rfl
  have hd:decide (f<0)=true:=by simpa using h1
  go_wp2_with fail
  go_returns
  exact hbad.out _ hb.out hq.out
 have hd:decide (f<0)=false:=by simpa using h1
 by_cases h2:s<=f
 ·have hq:Hid (namesB ls f s=false):=by show _=_;rw[hNB.out,decide_eq_false (by omega)];rfl
  have hd2:decide (s<=f)=true:=by simpa using h2
  go_wp2_with fail
  go_returns
  exact hbad.out _ hb.out hq.out
 have hd2:decide (s<=f)=false:=by simpa using h2
 by_cases h3:s=(ls.length:Int) - 1
 rotate_left
 ·have hq:Hid (namesB ls f s=false):=by show _=_;rw[hNB.out,decide_eq_false (by omega)];rfl
  have hd3:(s != (ls.length:Int) - 1)=true:=by simpa using h3
  go_wp2_with fail
  go_returns
  exact hbad.out _ hb.out hq.out
 obtain⟨i,rfl⟩:∃i:Nat,f=(i:Int):=⟨f.toNat,by omega⟩
 obtain⟨j,rfl⟩:∃j:Nat,s=(j:Int):=⟨s.toNat,by omega⟩
 have hij:i<j:=by omega
 have hjn:j<ls.length:=by omega
 have hq:Hid (namesB ls (i:Int) (j:Int)=agB ls V i j):=by show _=_;rw[hNB.out,decide_eq_true (by omega),Bool.true_and,xnc,xnc]
 have hjm:(ls.length:Int) - 1=(j:Int):=by omega
 have i1:(i:Int)<(ls.length:Int):=by omega
 have i2:(j:Int)<(ls.length:Int):=by omega
 have hu1:=lhd (hu.out.below (Below.mono hb1 (Nat.le_of_lt hg1.out)));have hgw:w.heap.size<w1.heap.size:=Nat.lt_of_lt_of_le hg1.out hb1.size;have hga:=lhd (against_any _ _ _ _ ls V w1 i j hu1.out hsp.out hVl.out (by omega) hjn);obtain⟨cv,b2,o2,hc2,hA2,hcell,hsl,hcs2⟩:=row_cells hu1.out rfl;obtain⟨rfl,hbA⟩:=hA2 (by omega);obtain⟨b1,o1,rfl,hb1l,hcs⟩:=hsp.out.at_ (by omega);obtain⟨P0,n0,r0,y0⟩:=hsl (i * 3) (by omega);have p0:=hcell (i * 3) (by omega);have s0:=(hcs2 i (by omega)).1;rw[y0] at p0 s0;have hln0:Hid ((linkT ls i).1.length<=1048576):=(hl.out _ (link_mem (by omega))).1;have hn0:n0=(linkT ls i).1.length:=by obtain⟨_,_,e,-,-⟩:=s0.mk_;injection e
 subst hn0;have hcl:=lhd (fun W (hW:Below w1.heap.size w1 W)=>rjoin_lit (vs:=[.slice P0 (linkT ls i).1.length r0]) [(linkT ls i).1] W W W.heap.size rfl (Below.refl _ _) ⟨seesB_of s0 (Nat.le_of_lt hgw) hW,trivial⟩ (by simp) (by have:=hln0.out;simp;omega));have hfl:[(linkT ls i).1].flatten=(linkT ls i).1:=by simp
 rw[hfl] at hcl;replace hcl:=lhd hcl.out;have hgood:Hid (∀W v,Below w.heap.size w W->namesB ls (i:Int) (j:Int)=true->SeesB W W.heap.size v (linkT ls i).1->FChkP ls (i:Int) (j:Int) w (.returned (.tuple #[v,.int .i64 0])) W):=fun W v hW hq hs=>fchk_ok (by rw[hD.out,hq];rfl) hs hW
 replace hgw:=lhd hgw;clear hu hsl hcell hcs2 hcs y0 s0 hA2 h1 h2 h3 hu1 hD hsp x1 xb hl hc2 hc1 hfl;cases hE:agB ls V i j with
 | false=>
   rw[hE] at hga;have hq2:Hid (namesB ls (i:Int) (j:Int)=false):=by show _=_;rw[hq.out,hE]
   replace hE:=lhd hE
   go_wp2_with fail
   refine hga.out.mono ?_;rintro e w2 ⟨rfl,m,rfl⟩;dsimp only
   go_wp2_with fail
   go_returns
   exact hbad.out _ (below_drewN hb.out m) hq2.out
 | true=>
   rw[hE] at hga;have hq2:Hid (namesB ls (i:Int) (j:Int)=true):=by show _=_;rw[hq.out,hE]
   replace hE:=lhd hE
   go_wp2_with fail
   refine hga.out.mono ?_;rintro e w2 ⟨rfl,m,rfl⟩;dsimp only;clear hga hbad
   go_wp2_with fail
   refine (hcl.out _ (below_drewN (Below.refl _ _) m)).mono ?_;rintro e w3 ⟨v3,rfl,o3,hb3⟩;have hb4:=lhd (bgo (below_drewN hb.out m) hb3);clear hcl k0 k1 k2 p0;dsimp only
   go_wp2_with fail
   go_returns
   exact hgood.out _ _ hb4.out hq2.out o3.sees
theorem rfields_any (B:Nat) (u:Value) (b:Bs) (w:World) (hu:SeesB w B u b) (hB:B<=w.heap.size) (hn:b.length<=65535) :
 Calls prog 169 #[u] w (FieldsP b w):=by
 obtain⟨A,c,rfl,hbc,hcm⟩:=hu.mk_;unfold maxLen at hcm;obtain⟨ti,hti,htz,hts,htb⟩:=info_parts field_info;replace hti:=lhd hti;replace htz:=lhd htz;replace hts:=lhd hts;replace htb:=lhd htb;have i0:¬(65535:Int)<(b.length:Int):=by omega
 replace hu:=lhd hu
 go_enter func169,ntmps169
 go_wp2_with fail
 go_loopw [4,5] (fun o r wr=>∃(i:Nat) (out:List Fd),i<=b.length/\r=.int .i64 i/\Hid (wrF out=b.take i)/\Hid (∀f∈out,okF f)/\Hid (OwnRF wr w.heap.size 219 o 2 out.length (fdS out))/\Hid (Below w.heap.size w wr)) (fun _ r _=>b.length - (intOf r).toNat)
 case atStart=>exact⟨0,[],by omega,rfl,rfl,fun f hf=>(by cases hf),OwnRF.nil _ _ _ _,Below.refl _ _⟩
 case round=>
  clear i0;obtain⟨i,out,hi,rfl,hw,hok,ho,hb⟩:=hrel;have hno:=lhd (fun (h0:i<b.length) h=>fields_no hok.out hw.out h0 h);have hst:=lhd (fun h1 h2=>fields_step hok.out hw.out h1 h2);have hend:=lhd (fun h0=>fields_end hok.out hw.out h0);obtain⟨Ao,co,rfl,-,-⟩:=ho.out.own.sees.mk_
  by_cases h0:b.length<=i
  ·have i1:¬(i:Int)<(b.length:Int):=by omega
   have hr:=lhd (hend.out (by omega));clear hno hst hend
   go_wp2_with fail
   go_returns
   exact⟨some out,hr.out,⟨_,rfl,ho.out⟩,hb.out⟩
  have i1:(i:Int)<(b.length:Int):=by omega
  have hib:(b.length:Int)<=65535:=by omega
  by_cases h4:b.length - i<4
  ·have i2:(b.length:Int) - (i:Int)<4:=by omega
   have hr:=lhd (hno.out (by omega) (.inl (by omega)));clear hno hst hend
   go_wp2_with fail
   go_returns
   exact⟨none,hr.out,rfl,hb.out⟩
  have i2:¬(b.length:Int) - (i:Int)<4:=by omega
  have hql:(b.drop i).length=b.length - i:=xld;obtain⟨n,hnd⟩:∃n,ndF (b.drop i)=n:=⟨_,rfl⟩
  obtain⟨ty,hty⟩:∃t,tyF (b.drop i)=t:=⟨_,rfl⟩
  have hn2:=ndF_lt (r:=b.drop i) (by omega);have ht2:=tyF_lt (r:=b.drop i) (by omega);rw[hnd] at hn2 hno hst;rw[hty] at ht2 hst;replace hql:=lhd hql;obtain⟨A2,hA2⟩:∃x,cutA A c (i+2) 1=x:=⟨_,rfl⟩
  have r24:∀W,(Instr.slice 25 (.slice A b.length c) (some (.int .i64 ((i:Int)+2))) (some (.int .i64 ((i:Int)+4))) none).run prog W=.ok (.slice A2 2 (c - (i+2))) W:=fun W=>by
   have:=run_cut (P:=prog) 25 underlying25 1 byte_size A b.length c .i64 .i64 ((i:Int)+2) ((i:Int)+4) (by omega) (by omega) (by omega) W
   rw[show ((i:Int)+2).toNat=i+2 from by omega,show ((i:Int)+4).toNat - (i+2)=2 from by omega] at this;rw[<-hA2];exact this
  have hg1:Hid (∀W,Below wr.heap.size wr W->Calls prog 230 #[.slice A2 2 (c - (i+2))] W fun e w'=>e=.returned (.int .u64 (n:Int))/\w'=W):=fun W hW=>by
   have hc:=SeesB.cut (a:=i+2) (b:=i+4) hu.out (by omega) (by omega);rw[show i+4 - (i+2)=2 from by omega] at hc;rw[<-hnd,<-hA2];unfold ndF;rw[List.drop_drop];exact rget_any B _ _ W (SeesB.below hc (hb.out.mono hB |>.trans (hW.mono (Nat.le_trans hB hb.out.size))))
  replace hA2:=lhd hA2
  by_cases hlt:b.length - i - 4<n
  ·have i3:(b.length:Int) - (i:Int) - 4<(n:Int):=by omega
   have hr:=lhd (hno.out (by omega) (.inr (by omega)));clear hno hst hend hnd hty
   go_wp2_with fail
   refine (hg1.out wr (Below.refl _ _)).mono ?_;rintro e w1 ⟨rfl,hw1⟩;obtain rfl:=hw1.symm;dsimp only
   go_wp2_with fail
   go_returns
   exact⟨none,hr.out,rfl,hb.out⟩
  have i3:¬(b.length:Int) - (i:Int) - 4<(n:Int):=by omega
  obtain⟨A0,hA0⟩:∃x,cutA A c i 1=x:=⟨_,rfl⟩
  obtain⟨A4,hA4⟩:∃x,cutA A c (i+4) 1=x:=⟨_,rfl⟩
  obtain⟨d,hd⟩:∃x,((b.drop i).drop 4).take n=x:=⟨_,rfl⟩
  have hdl:Hid (d.length=n):=by show _=_;rw[<-hd,xlt,xld,xld];omega
  have r02:∀W,(Instr.slice 25 (.slice A b.length c) (some (.int .i64 (i:Int))) (some (.int .i64 ((i:Int)+2))) none).run prog W=.ok (.slice A0 2 (c - i)) W:=fun W=>by
   have:=run_cut (P:=prog) 25 underlying25 1 byte_size A b.length c .i64 .i64 (i:Int) ((i:Int)+2) (by omega) (by omega) (by omega) W
   rw[show (i:Int).toNat=i from by omega,show ((i:Int)+2).toNat - i=2 from by omega] at this;rw[<-hA0];exact this
  have r4n:∀W,(Instr.slice 25 (.slice A b.length c) (some (.int .i64 ((i:Int)+4))) (some (.int .i64 ((i:Int)+4+(n:Int)))) none).run prog W=.ok (.slice A4 n (c - (i+4))) W:=fun W=>by
   have:=run_cut (P:=prog) 25 underlying25 1 byte_size A b.length c .i64 .i64 ((i:Int)+4) ((i:Int)+4+(n:Int)) (by omega) (by omega) (by omega) W
   rw[show ((i:Int)+4).toNat=i+4 from by omega,show ((i:Int)+4+(n:Int)).toNat - (i+4)=n from by omega] at this;rw[<-hA4];exact this
  have hg2:Hid (∀W,Below wr.heap.size wr W->Calls prog 230 #[.slice A0 2 (c - i)] W fun e w'=>e=.returned (.int .u64 (ty:Int))/\w'=W):=fun W hW=>by
   have hc:=SeesB.cut (a:=i) (b:=i+2) hu.out (by omega) (by omega);rw[show i+2 - i=2 from by omega] at hc;rw[<-hty,<-hA0];exact rget_any B _ _ W (SeesB.below hc (hb.out.mono hB |>.trans (hW.mono (Nat.le_trans hB hb.out.size))))
  have hj:Hid (∀W X,Below wr.heap.size wr W->Below (W.alloc (.cells #[.slice A4 n (c - (i+4))] 25)).heap.size (W.alloc (.cells #[.slice A4 n (c - (i+4))] 25)) X->Calls prog 85 #[.slice (some ⟨W.heap.size,0,none⟩) 1 1] X (Gives d X)):=fun W X hW hX=>by
   have hc:=SeesB.cut (a:=i+4) (b:=i+4+n) hu.out (by omega) (by omega);rw[show i+4+n - (i+4)=n from by omega,hA4,<-List.drop_drop,hd] at hc;have hc2:=SeesB.more (SeesB.below hc (hb.out.mono hB |>.trans (hW.mono (Nat.le_trans hB hb.out.size)))) (Nat.le_trans hB (Nat.le_trans hb.out.size hW.size));have hl:=seesL_lit W 25 (vs:=[.slice A4 n (c - (i+4))]) (ls:=[d]) ⟨hc2,trivial⟩ (by simp[maxLen]);have hf:[d].flatten=d:=by simp
   have:=rjoin_any _ _ [d] X (hl.below hX) hX.size (by rw[hf];have:=hdl.out;omega)
   rw[hf] at this;exact this
  rw[hd] at hst;obtain⟨k1,k2⟩:=hst.out (by omega) (by omega);replace k1:=lhd k1;replace k2:=lhd k2;have hin:Hid (i+4+n<=b.length):=by show _<=_;omega
  have hol:Hid (out.length+1<=1048576):=by
   show _<=_;have h1:∀l:List Fd,4 * l.length<=(wrF l).length:=fun l=>by
    induction l with
    | nil=>exact Nat.le_refl _
    | cons x l ih=>rw[wrF_cons,xla,fdB_len,xlc];omega
   have h2:=h1 out;rw[hw.out,xlt] at h2
   omega
  have hlo:Hid (∀j,(Value.slice Ao out.length co).ownBlock=some j->j<wr.heap.size):=fun j hj=>(ho.out.own.lt j hj).2
  have n1:IntKind.i64.wrap (ty:Int)=(ty:Int):=by rw[xwi];omega
  have n2:IntKind.i64.wrap ((i:Int)+2)=(i:Int)+2:=by rw[xwi];omega
  have n3:IntKind.i64.wrap ((i:Int)+4)=(i:Int)+4:=by rw[xwi];omega
  have n4:IntKind.i64.wrap ((i:Int)+4+(n:Int))=(i:Int)+4+(n:Int):=by rw[xwi];omega
  replace hd:=lhd hd;replace hA0:=lhd hA0;replace hA4:=lhd hA4;replace hnd:=lhd hnd;replace hty:=lhd hty;clear hno hst hend
  go_upto_region 8 with (fail)
  go_wp2_with fail
  refine (hg1.out wr (Below.refl _ _)).mono ?_;rintro e w1 ⟨rfl,hw1⟩;obtain rfl:=hw1.symm;dsimp only
  go_upto_region 11 with (fail)
  go_region_held3 (fun W':World=>True) (trivial)
   (first
    | (refine step_appRF (by rfl) (.tmp 34) (.tmp 53) 217 219 underlying217 (by rfl) ti (.agg #[.int .i64 0,.slice none 0 0]) 2 32 hti.out htz.out hts.out htb.out (by rfl) (by omega) (by omega) w.heap.size (.slice Ao out.length co) out.length (fdS out) (by rfl) ho2.out (w8.heap.size+1) (.slice (some ⟨w8.heap.size,0,none⟩) 1 1) 1 [.int .i64 (ty:Int),.slice B2 d.length d2] [.val (.int .i64 (ty:Int)),.byt d] (by rfl) hrec.out (by rfl) hel.out hol.out hb3.out.size ?_;intro v' w' hW2 hb4 hg4)
    | (go_at_call 85;(with_reducible refine (hj.out wr _ (Below.refl _ _) (bdrew _)).mono ?_);rintro e w8 ⟨v8,rfl,o8,hb8⟩
       obtain⟨B2,d2,rfl,-,-⟩:=o8.sees.mk_;have hb00:=bgo (balloc wr (.cells #[.slice A4 n (c - (i+4))] 25)) (bdrew _);have hb08:=bgo hb00 hb8;have hal:=balloc w8 (.cells #[.int .i64 (ty:Int),.slice B2 d.length d2] 219);have hrec:Hid (Sees (w8.alloc (.cells #[.int .i64 (ty:Int),.slice B2 d.length d2] 219)) (w8.heap.size+1) (.slice (some ⟨w8.heap.size,0,none⟩) 1 1) 2 1 [.int .i64 (ty:Int),.slice B2 d.length d2]):=rec_lit w8 219 [.int .i64 (ty:Int),.slice B2 d.length d2];have ho2:=lhd (ho.out.below (bgo hb08 hal));have hel:=lhd (field_eltsF (base:=w.heap.size) (t:=ty) (EltS.of_from (v:=.slice Ao out.length co) (seesB_of o8.sees nlr hal) (o8.from.mono hb00.size) hlo.out) (o8.from.mono (Nat.le_trans hb.out.size hb00.size)));have hb3:=lhd (bgo (bgo hb.out hb08) hal);clear hal hb00)
    | (go_at_call 85;(with_reducible refine (hj.out wr.drew _ (bdrew wr) (Below.refl _ _)).mono ?_);rintro e w8 ⟨v8,rfl,o8,hb8⟩
       obtain⟨B2,d2,rfl,-,-⟩:=o8.sees.mk_;have hb00:=bgo (bdrew wr) (balloc wr.drew (.cells #[.slice A4 n (c - (i+4))] 25));have hb08:=bgo hb00 hb8;have hal:=balloc w8 (.cells #[.int .i64 (ty:Int),.slice B2 d.length d2] 219);have hrec:Hid (Sees (w8.alloc (.cells #[.int .i64 (ty:Int),.slice B2 d.length d2] 219)) (w8.heap.size+1) (.slice (some ⟨w8.heap.size,0,none⟩) 1 1) 2 1 [.int .i64 (ty:Int),.slice B2 d.length d2]):=rec_lit w8 219 [.int .i64 (ty:Int),.slice B2 d.length d2];have ho2:=lhd (ho.out.below (bgo hb08 hal));have hel:=lhd (field_eltsF (base:=w.heap.size) (t:=ty) (EltS.of_from (v:=.slice Ao out.length co) (seesB_of o8.sees nlr hal) (o8.from.mono hb00.size) hlo.out) (o8.from.mono (Nat.le_trans hb.out.size hb00.size)));have hb3:=lhd (bgo (bgo hb.out hb08) hal);clear hal hb00)
    | (go_at_call 85;(with_reducible refine (hj.out wr _ (Below.refl _ _) (Below.refl _ _)).mono ?_);rintro e w8 ⟨v8,rfl,o8,hb8⟩
       obtain⟨B2,d2,rfl,-,-⟩:=o8.sees.mk_;have hb00:=bgo (Below.refl _ _) (balloc wr (.cells #[.slice A4 n (c - (i+4))] 25));have hb08:=bgo hb00 hb8;have hal:=balloc w8 (.cells #[.int .i64 (ty:Int),.slice B2 d.length d2] 219);have hrec:Hid (Sees (w8.alloc (.cells #[.int .i64 (ty:Int),.slice B2 d.length d2] 219)) (w8.heap.size+1) (.slice (some ⟨w8.heap.size,0,none⟩) 1 1) 2 1 [.int .i64 (ty:Int),.slice B2 d.length d2]):=rec_lit w8 219 [.int .i64 (ty:Int),.slice B2 d.length d2];have ho2:=lhd (ho.out.below (bgo hb08 hal));have hel:=lhd (field_eltsF (base:=w.heap.size) (t:=ty) (EltS.of_from (v:=.slice Ao out.length co) (seesB_of o8.sees nlr hal) (o8.from.mono hb00.size) hlo.out) (o8.from.mono (Nat.le_trans hb.out.size hb00.size)));have hb3:=lhd (bgo (bgo hb.out hb08) hal);clear hal hb00)
    | (go_at_call 230;(with_reducible refine (hg2.out _ (by (repeat (first | exact Below.refl _ _ | (refine bgo ?_ (balloc _ _)) | (refine bgo ?_ (bdrew _)) | (refine bgo ?_ (by assumption)))))).mono ?_);rintro e w7 ⟨rfl,hw7⟩
       obtain rfl:=hw7.symm))
  all_goals
   replace hW2:Hid (OwnRF w' w.heap.size 219 v' 2 (out++[(ty,d)]).length (fdS (out++[(ty,d)]))):=by
    show OwnRF _ _ _ _ _ _ _;rw[xla,fdS_append];exact hW2
   have hb5:=lhd (hb3.out.trans hb4);clear hb4 hg4
   go_wp2_with fail
   go_roundw
   case rel=>exact⟨i+4+n,out++[(ty,d)],hin.out,by go_num,k2,k1,hW2,hb5⟩
   case measure=>simp[intOf];omega
end Go.Proofs.YtjgepckncogdaaaGreat
