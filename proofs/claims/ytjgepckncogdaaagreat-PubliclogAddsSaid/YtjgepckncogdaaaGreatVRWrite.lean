/- Contracts of functions, walks, plain facts. Conditions: those of each theorem. -/
import Derived.Test.YtjgepckncogdaaaGreatVFB
import Derived.Test.YtjgepckncogdaaaGreatK24
set_option linter.unusedVariables false
set_option linter.unusedSimpArgs false
set_option maxRecDepth 100000
set_option maxHeartbeats 16000000
namespace Go.Proofs.YtjgepckncogdaaaGreat
open Go Go.RowKit _root_.Go.Proofs.Tryz
attribute [local go_sem ↓] Go.wp_at_zero Go.wp_at_succ
theorem rwrite_any (B:Nat) (u:Value) (ls:List Fd) (w:World) (hu:SeesR w B u 2 ls.length (fdS ls)) (hB:B<=w.heap.size) (hok:∀f∈ls,okF f) (hn:(wrF ls).length<=65535) :
 Calls prog 165 #[u] w (WriteP (wrF ls) w):=by
 obtain⟨A,c,rfl,-,-⟩:=hu.mk_;have hll:=wrF_count ls;replace hu:=lhd hu;replace hok:=lhd hok
 go_enter func165,ntmps165
 go_wp2_with fail
 refine wp_fresh (fun W=>OwnB W w.heap.size (.slice (some ⟨w.heap.size,0,none⟩) 0 0) []/\Below w.heap.size w W) ⟨own_made w [] (Nat.zero_le _) _ nlr,(Below.refl _ _).alloc nlr _⟩ ?_;rintro W0 ⟨hW,hbw⟩;replace hW:=lhd hW;replace hbw:=lhd hbw
 go_wp2_with fail
 go_loopw [4,5] (fun r t wr=>∃k:Nat,k<=ls.length/\t=.int .i64 k/\Hid (OwnB wr w.heap.size r (wrF (ls.take k)))/\Hid (Below w.heap.size w wr)) (fun _ t _=>ls.length - (intOf t).toNat)
 case atStart=>exact⟨0,by omega,rfl,hW,hbw⟩
 case round=>
  clear hW hbw;obtain⟨k,hk,rfl,ho,hb⟩:=hrel;obtain⟨Ar,cr,rfl,-,-⟩:=ho.out.sees.mk_;have hle:=wrF_le ls k
  by_cases hlt:k<ls.length
  ·have hk1:Hid (k+1<=ls.length):=hlt
   have i1:(k:Int)<(ls.length:Int):=by omega
   have i2:(0:Int)<=(k:Int):=by omega
   obtain⟨t,ht⟩:∃t,ls[k]?=some t:=⟨_,xge hlt⟩
   have hst:=lhd (wrF_take ht);obtain⟨b,o,A1,c1,e,hbB,z0,z1,s1⟩:=fd_at (hu.out.below (hb.out.mono hB)) k t ht;subst e;obtain⟨q1,q2⟩:=hok.out t (List.mem_of_getElem? ht);obtain⟨ty,d⟩:=t;dsimp only at z0 z1 s1 q1 q2;have j0:¬(ty:Int)<0:=by omega
   have j1:¬(65535:Int)<(ty:Int):=by omega
   have j2:¬(65535:Int)<(d.length:Int):=by omega
   have j3:((wrF (ls.take k)).length:Int)<=65535:=by omega
   clear ht;have hs0:=lhd (s1.more (Nat.le_trans hB hb.out.size));have hle2:=lhd hle;have hn2:=lhd hn;have hp1:Hid (∀W,Calls prog 121 #[.int .u64 (ty:Int),.int .i64 2] W (Gives (putB 2 ty) W)):=fun W=>rput_any ty 2 (by omega) (by omega) W
   have hp2:Hid (∀W,Calls prog 121 #[.int .u64 (d.length:Int),.int .i64 2] W (Gives (putB 2 d.length) W)):=fun W=>rput_any d.length 2 (by omega) (by omega) W
   have K:Hid (∀W,Below wr.heap.size wr W->W.cell? ⟨b,o+k * 2,none⟩=some (.int .i64 (ty:Int))/\W.cell? ⟨b,o+k * 2+1,none⟩=some (.slice A1 d.length c1)):=fun W hW=>by
    have hbl:b<wr.heap.size:=Nat.lt_of_lt_of_le hbB (Nat.le_trans hB hb.out.size);exact⟨(hW.cell (p:=⟨b,o+k * 2,none⟩) hbl).trans z0,(hW.cell (p:=⟨b,o+k * 2+1,none⟩) hbl).trans z1⟩
   have K2:Hid (∀W,Below w.heap.size w W->W.cell? ⟨b,o+k * 2,none⟩=some (.int .i64 (ty:Int))/\W.cell? ⟨b,o+k * 2+1,none⟩=some (.slice A1 d.length c1)):=fun W hW=>by
    have hbl:b<w.heap.size:=Nat.lt_of_lt_of_le hbB hB;exact⟨(hW.cell (p:=⟨b,o+k * 2,none⟩) hbl).trans ((hb.out.cell (p:=⟨b,o+k * 2,none⟩) hbl).symm.trans z0),(hW.cell (p:=⟨b,o+k * 2+1,none⟩) hbl).trans ((hb.out.cell (p:=⟨b,o+k * 2+1,none⟩) hbl).symm.trans z1)⟩
   have hbX:True:=trivial;have hj:Hid (∀(W:World) (u1 u2:Value),Below wr.heap.size wr W->SeesB W W.heap.size u1 (putB 2 ty)->SeesB W W.heap.size u2 (putB 2 d.length)->Calls prog 85 #[.slice (some ⟨W.heap.size,0,none⟩) 3 3] (W.alloc (.cells #[u1,u2,.slice A1 d.length c1] 25)) (Gives (fdB (ty,d)) (W.alloc (.cells #[u1,u2,.slice A1 d.length c1] 25)))):=fun W u1 u2 hW h1 h2=>by
    have hl:=seesL_lit W 25 (vs:=[u1,u2,.slice A1 d.length c1]) (ls:=[putB 2 ty,putB 2 d.length,d]) ⟨h1,h2,seesB_of hs0.out nlr hW,trivial⟩ (by simp[maxLen]);have hf:[putB 2 ty,putB 2 d.length,d].flatten=fdB (ty,d):=by simp[fdB]
    have:=rjoin_any _ _ _ _ hl nlr (by rw[hf,fdB_len];show 4+d.length<=_;omega)
    rw[hf] at this;exact this
   have hlen:Hid ((wrF (ls.take k)).length+(fdB (ty,d)).length<=140737488355328):=by
    show _<=_;rw[fdB_len];show _+(4+d.length)<=_
    omega
   have n1:IntKind.u64.wrap (ty:Int)=(ty:Int):=by rw[IntKind.wrap_u64];omega
   have n2:IntKind.u64.wrap (d.length:Int)=(d.length:Int):=by rw[IntKind.wrap_u64];omega
   go_upto_region 10 with (fail)
   go_region_held3 (fun W':World=>W'.cell? ⟨b,o+k * 2,none⟩=some (.int .i64 (ty:Int))/\W'.cell? ⟨b,o+k * 2+1,none⟩=some (.slice A1 d.length c1))
    (first | (with_reducible exact K2.out _ hbX) | exact K.out _ (by (repeat (first | exact Below.refl _ _ | (refine bgo ?_ (balloc _ _)) | (refine bgo ?_ (bdrew _)) | (refine bgo ?_ (by assumption))))) | (go_keep;done))
    (first
     | (refine step_app (by rfl) (.tmp 37) (.tmp 59) (by rfl) w.heap.size (.slice Ar (wrF (ls.take k)).length cr) (wrF (ls.take k)) (by rfl) ho9.out _ _ (fdB (ty,d)) (by rfl) o9.sees hlen.out hb9w.out.size ?_;intro v' w' hW2 hb4;have hbX:=hb9w.out.trans hb4)
     | (go_at_call 121;(with_reducible refine (hp1.out _).mono ?_);rintro e w1 ⟨v1,rfl,o1,hb1⟩;obtain⟨B1,d1,rfl,-,-⟩:=o1.sees.mk_)
     | (go_at_call 121;(with_reducible refine (hp2.out _).mono ?_);rintro e w2 ⟨v2,rfl,o2,hb2⟩;obtain⟨B2,d2,rfl,-,-⟩:=o2.sees.mk_)
     | (go_at_call 85;have hc:Below wr.heap.size wr w2:=(by (repeat (first | exact Below.refl _ _ | (refine bgo ?_ (balloc _ _)) | (refine bgo ?_ (bdrew _)) | (refine bgo ?_ (by assumption)))));(with_reducible refine (hj.out w2 _ _ hc (seesB_of o1.sees nlr hb2) o2.sees).mono ?_);rintro e w9 ⟨v9,rfl,o9,hb9⟩
        obtain⟨B9,d9,rfl,-,-⟩:=o9.sees.mk_;have hbF:=lhd (bgo (bgo hc (balloc w2 _)) hb9);have ho9:=lhd (ho.out.below hbF.out);have hb9w:=lhd (bgo hb.out hbF.out);have hbX:=hb9w.out)
     | (go_at_call 85;have hc:Below wr.heap.size wr w1:=(by (repeat (first | exact Below.refl _ _ | (refine bgo ?_ (balloc _ _)) | (refine bgo ?_ (bdrew _)) | (refine bgo ?_ (by assumption)))));(with_reducible refine (hj.out w1 _ _ hc o1.sees (seesB_of o2.sees nlr hb1)).mono ?_);rintro e w9 ⟨v9,rfl,o9,hb9⟩
        obtain⟨B9,d9,rfl,-,-⟩:=o9.sees.mk_;have hbF:=lhd (bgo (bgo hc (balloc w1 _)) hb9);have ho9:=lhd (ho.out.below hbF.out);have hb9w:=lhd (bgo hb.out hbF.out);have hbX:=hb9w.out))
   all_goals
    replace hW2:Hid (OwnB w' w.heap.size v' (wrF (ls.take (k+1)))):=by show OwnB _ _ _ _;rw[hst.out];exact hW2
    have hb5:Hid (Below w.heap.size w w'):=hbX;clear hb4 hbX
    go_wp2_with fail
    go_roundw
    case rel=>exact⟨k+1,hk1.out,by go_num,hW2,hb5⟩
    case measure=>have:=hk1.out;simp[intOf];omega
  obtain rfl:k=ls.length:=by omega
  have i1:¬(ls.length:Int)<(ls.length:Int):=by omega
  rw[xtl nlr] at *;have j3:¬(65535:Int)<((wrF ls).length:Int):=by omega
  go_wp2_with fail
  go_returns
  exact⟨_,rfl,ho.out,hb.out⟩
theorem rbencode_any (u:Value) (ls:List Lk) (f s:Int) (w:World) (hu:SeesR w w.heap.size u 3 ls.length (linkS ls)) (hl:ls.length<=8->(wrF (encF ls 0 0)).length<=65535) :
 Calls prog 84 #[.agg #[u,.int .i64 f,.int .i64 s]] w (FEncP ls f s w):=by
 obtain⟨A,c,rfl,hc1,hc2⟩:=hu.mk_;unfold maxLen at hc2;obtain⟨ti,hti,htz,hts,htb⟩:=info_parts field_info;replace hti:=lhd hti;replace htz:=lhd htz;replace hts:=lhd hts;replace htb:=lhd htb;have hal:=balloc w (.cells #[.slice A ls.length c,.int .i64 f,.int .i64 s] 133);have x1:=Box.new w 133 [.slice A ls.length c,.int .i64 f,.int .i64 s];change Box (w.alloc (.cells #[.slice A ls.length c,.int .i64 f,.int .i64 s] 133)) _ _ _ at x1;have hu0:=lhd ((hu.below hal).more hal.size);replace hl:=lhd hl;clear hu
 go_enter func84,ntmps84
 go_upto_region 1 with (fail)
 generalize w.alloc (.cells #[.slice A ls.length c,.int .i64 f,.int .i64 s] 133)=W0 at *;generalize hgg:w.heap.size=g at x1 ⊢;have hgl:=lhd (hal.size);obtain⟨z0,z1,z2,-,-,-⟩:=box3_cells x1
 by_cases h8:8<ls.length
 ·have i0:(8:Int)<(ls.length:Int):=by omega
  have hr:=lhd (fenc_bad (w:=w) (w':=W0) (c:=8) (by unfold fencC;rw[if_pos h8]) (by omega) hal:FEncP ls f s w _ W0)
  go_wp2_with fail
  go_returns
  exact hr.out
 have i0:¬(8:Int)<(ls.length:Int):=by omega
 by_cases hm0:f<0
 ·have hr:=lhd (fenc_bad (w:=w) (w':=W0) (c:=4) (by unfold fencC;rw[if_neg h8,if_neg (by omega)]) (by omega) hal:FEncP ls f s w _ W0)
  go_wp2_with fail
  go_returns
  exact hr.out
 by_cases hm1:255<f
 ·have hr:=lhd (fenc_bad (w:=w) (w':=W0) (c:=4) (by unfold fencC;rw[if_neg h8,if_neg (by omega)]) (by omega) hal:FEncP ls f s w _ W0)
  go_wp2_with fail
  go_returns
  exact hr.out
 by_cases hm2:s<0
 ·have hr:=lhd (fenc_bad (w:=w) (w':=W0) (c:=4) (by unfold fencC;rw[if_neg h8,if_neg (by omega)]) (by omega) hal:FEncP ls f s w _ W0)
  go_wp2_with fail
  go_returns
  exact hr.out
 by_cases hm3:255<s
 ·have hr:=lhd (fenc_bad (w:=w) (w':=W0) (c:=4) (by unfold fencC;rw[if_neg h8,if_neg (by omega)]) (by omega) hal:FEncP ls f s w _ W0)
  go_wp2_with fail
  go_returns
  exact hr.out
 obtain⟨a,rfl⟩:=byte_ofB (f:=f) (by omega) (by omega);obtain⟨b,rfl⟩:=byte_ofB (f:=s) (by omega) (by omega);have ha:=a.toNat_lt;have hb':=b.toNat_lt;have hC:Hid (fencC ls (a.toNat:Int) (b.toNat:Int)=0):=by show _=_;unfold fencC;rw[if_neg h8,if_pos (by omega)]
 have m0:¬(a.toNat:Int)<0:=by omega
 have m1:¬(255:Int)<(a.toNat:Int):=by omega
 have m2:¬(b.toNat:Int)<0:=by omega
 have m3:¬(255:Int)<(b.toNat:Int):=by omega
 have n1:IntKind.u8.wrap (a.toNat:Int)=(a.toNat:Int):=by rw[IntKind.wrap_u8];omega
 have n2:IntKind.u8.wrap (b.toNat:Int)=(b.toNat:Int):=by rw[IntKind.wrap_u8];omega
 clear ha hb'
 go_wp2_with fail
 go_loopw [4,5] (fun r t wr=>∃k:Nat,k<=ls.length/\t=.int .i64 k/\Hid (OwnR wr W0.heap.size 219 r 2 (3 * k) (fdS ((ls.take k).flatMap lkF)))/\Hid (Below W0.heap.size W0 wr)) (fun _ t _=>ls.length - (intOf t).toNat)
 case atStart=>exact⟨0,by omega,rfl,OwnR.nil _ _ _ _,Below.refl _ _⟩
 case round=>
  clear z0 z1 z2;obtain⟨k,hk,rfl,ho,hb⟩:=hrel;obtain⟨z0,z1,z2,-,-,-⟩:=box3_cells (x1.below hb.out);obtain⟨Ar,cr,rfl,-,-⟩:=ho.out.sees.mk_
  by_cases hlt:k<ls.length
  ·have hk1:Hid (k+1<=ls.length):=hlt
   have i1:(k:Int)<(ls.length:Int):=by omega
   have i2:(0:Int)<=(k:Int):=by omega
   obtain⟨t,ht⟩:∃t,ls[k]?=some t:=⟨_,xge hlt⟩
   have hst:=lhd (lkF_take ht);obtain⟨bb,o,A1,c1,A2,c2,A3,c3,e,hbB,y0,s1,y1,s2,y2,s3⟩:=link_at (hu0.out.below hb.out) k t ht;subst e;obtain⟨d1,d2,d3⟩:=t;dsimp only at y0 y1 y2 s1 s2 s3;have hal2:=bgo (balloc wr (.cells #[.slice A1 d1.length c1,.slice A2 d2.length c2,.slice A3 d3.length c3] 108)) (balloc _ (.cells #[.int .i64 1,.slice A1 d1.length c1,.int .i64 2,.slice A2 d2.length c2,.int .i64 3,.slice A3 d3.length c3] 219));have hrec:=recs_lit (wr.alloc (.cells #[.slice A1 d1.length c1,.slice A2 d2.length c2,.slice A3 d3.length c3] 108)) 219 2 3 [.int .i64 1,.slice A1 d1.length c1,.int .i64 2,.slice A2 d2.length c2,.int .i64 3,.slice A3 d3.length c3] rfl (by unfold maxLen;omega);rw[xsa] at hrec;change Sees ((wr.alloc (.cells #[.slice A1 d1.length c1,.slice A2 d2.length c2,.slice A3 d3.length c3] 108)).alloc (.cells #[.int .i64 1,.slice A1 d1.length c1,.int .i64 2,.slice A2 d2.length c2,.int .i64 3,.slice A3 d3.length c3] 219)) _ _ _ _ _ at hrec;have hsz:W0.heap.size<=((wr.alloc (.cells #[.slice A1 d1.length c1,.slice A2 d2.length c2,.slice A3 d3.length c3] 108)).alloc (.cells #[.int .i64 1,.slice A1 d1.length c1,.int .i64 2,.slice A2 d2.length c2,.int .i64 3,.slice A3 d3.length c3] 219)).heap.size:=Nat.le_trans hb.out.size hal2.size;have hv:∀j,(Value.slice Ar (3 * k) cr).ownBlock=some j->W0.heap.size<=j:=fun j hj=>(ho.out.lt j hj).1
   have hel:=lhd (trip_elts (old_elt s1 nlr (hal2.mono hb.out.size) hsz hv) (old_elt s2 nlr (hal2.mono hb.out.size) hsz hv) (old_elt s3 nlr (hal2.mono hb.out.size) hsz hv));have ho2:=lhd (ho.out.below hal2);have hb3:=lhd (bgo hb.out hal2);replace hrec:=lhd hrec;have hcnt:Hid (3 * k+3<=1048576):=by show _<=_;omega
   clear hal2 hsz hv s1 s2 s3 ho hb ht z1 z2
   go_wp2_with (at_builtin;refine wpList_appR (by rfl) _ _ 217 219 underlying217 rfl ti _ 2 32 hti.out htz.out hts.out htb.out rfl (by omega) (by omega) W0.heap.size _ (3 * k) _ rfl ho2.out _ _ 3 _ (fdS (lkF (d1,d2,d3))) rfl hrec.out rfl hel.out hcnt.out hb3.out.size ?_)
   intro v' w' hW2 hb4;replace hW2:Hid (OwnR w' W0.heap.size 219 v' 2 (3 * (k+1)) (fdS ((ls.take (k+1)).flatMap lkF))):=by show OwnR _ _ _ _ _ _ _;rw[hst.out,fdS_append];exact hW2
   replace hb4:=lhd (hb3.out.trans hb4)
   go_wp2_with fail
   go_roundw
   case rel=>exact⟨k+1,hk1.out,by go_num,hW2,hb4⟩
   case measure=>have:=hk1.out;simp[intOf];omega
  obtain rfl:k=ls.length:=by omega
  have i1:¬(ls.length:Int)<(ls.length:Int):=by omega
  rw[xtl nlr] at *;have hal2:=bgo (balloc wr (.cells #[.int .u8 (a.toNat:Int),.int .u8 (b.toNat:Int)] 5)) (balloc _ (.cells #[.int .i64 4,.slice (some ⟨wr.heap.size,0,none⟩) 2 2] 219));have hby:OwnB (wr.alloc (.cells #[.int .u8 (a.toNat:Int),.int .u8 (b.toNat:Int)] 5)) wr.heap.size (.slice (some ⟨wr.heap.size,0,none⟩) 2 2) [a,b]:=own_made wr [a,b] (by unfold maxLen;simp) _ nlr;have hrec:=recs_lit (wr.alloc (.cells #[.int .u8 (a.toNat:Int),.int .u8 (b.toNat:Int)] 5)) 219 2 1 [.int .i64 4,.slice (some ⟨wr.heap.size,0,none⟩) 2 2] rfl (by unfold maxLen;omega);rw[xsa] at hrec;change Sees ((wr.alloc (.cells #[.int .u8 (a.toNat:Int),.int .u8 (b.toNat:Int)] 5)).alloc (.cells #[.int .i64 4,.slice (some ⟨wr.heap.size,0,none⟩) 2 2] 219)) _ _ _ _ _ at hrec;have hby2:=seesB_of hby.sees nlr (balloc (wr.alloc (.cells #[.int .u8 (a.toNat:Int),.int .u8 (b.toNat:Int)] 5)) (.cells #[.int .i64 4,.slice (some ⟨wr.heap.size,0,none⟩) 2 2] 219));have hel:=lhd (last_elts (EltS.of_from (v:=.slice Ar (3 * ls.length) cr) hby2 hby.from (fun j hj=>(ho.out.lt j hj).2)));have ho2:=lhd (ho.out.below hal2);have hb3:=lhd (bgo hb.out hal2);replace hrec:=lhd hrec;have hcnt:Hid (3 * ls.length+1<=1048576):=by show _<=_;omega
  have htot:(wrF (encF ls a.toNat b.toNat)).length<=65535:=by rw[encF_total ls a.toNat b.toNat 0 0];exact hl.out (by omega)
  have hwr:Hid (∀(v:Value) (W:World),SeesR W W.heap.size v 2 (encF ls a.toNat b.toNat).length (fdS (encF ls a.toNat b.toNat))->Calls prog 165 #[v] W (WriteP (wrF (encF ls a.toNat b.toNat)) W)):=fun v W hv=>
   rwrite_any W.heap.size v (encF ls a.toNat b.toNat) W hv nlr (enc_okF htot) htot
  have hel1:=lhd (encF_len ls a.toNat b.toNat);have hel2:=lhd (encF_bytes ls a b);clear hal2 ho hb hby hby2 htot
  go_wp2_with (at_builtin;refine wpList_appR (by rfl) _ _ 217 219 underlying217 rfl ti _ 2 32 hti.out htz.out hts.out htb.out rfl (by omega) (by omega) W0.heap.size _ (3 * ls.length) _ rfl ho2.out _ _ 1 _ (fdS [(4,[a,b])]) rfl hrec.out rfl hel.out hcnt.out hb3.out.size ?_)
  intro v' w' hW2 hb4;replace hW2:Hid (SeesR w' w'.heap.size v' 2 (encF ls a.toNat b.toNat).length (fdS (encF ls a.toNat b.toNat))):=by
   show SeesR _ _ _ _ _ _;rw[hel1.out,hel2.out,fdS_append];exact hW2.sees
  replace hb4:=lhd (bgo hal (hb3.out.trans hb4));have hww:=lhd (hwr.out v' w' hW2.out);clear hwr hel1 hel2 hel hrec ho2 hb3
  go_wp2_with fail
  refine hww.out.mono ?_;rintro e w9 ⟨v9,rfl,o9,hb9⟩;have hb10:=lhd (bgo hb4.out hb9);have o10:=lhd (o9.mono (hb4.out.size));clear hww;dsimp only
  go_wp2_with fail
  go_returns
  exact fenc_good hC.out o10.out hb10.out
theorem rcverify_any (B:Nat) (u:Value) (ls:List LinkG) (w:World) (hu:SeesR w B u 3 ls.length (linkS ls)) (hB:B<=w.heap.size) (hn:ls.length<=1048576) (hl:∀t∈ls,t.2.2.length<=1048576) :
 Calls prog 162 #[u] w (CVerP ls w):=by
 obtain⟨A,c,rfl,-,-⟩:=hu.mk_
 by_cases h8:8<ls.length
 ·have i0:(8:Int)<(ls.length:Int):=by omega
  have hC:Hid (cverC ls=8):=by show _=_;rw[cverC,if_pos h8]
  clear hu hl
  go_enter func162,ntmps162
  go_wp2_with fail
  go_returns
  exact cver_bad hC.out (by decide) (Below.refl _ _)
 have i0:¬(8:Int)<(ls.length:Int):=by omega
 have hCC:Hid (cverC ls=firstC ls ls.length):=by show _=_;rw[cverC,if_neg h8]
 replace hu:=lhd (hu.more hB);replace hl:=lhd hl
 go_enter func162,ntmps162
 go_wp2_with fail
 go_loopw [4,5] (fun r t wr=>∃k:Nat,k<=ls.length/\t=.int .i64 k/\Hid (OwnR wr w.heap.size 24 r 2 k (spanS (cverK ls k)))/\Hid (Below w.heap.size w wr)/\Hid (firstC ls k=0)) (fun _ t _=>ls.length - (intOf t).toNat)
 case atStart=>exact⟨0,by omega,rfl,OwnR.nil _ _ _ _,Below.refl _ _,rfl⟩
 case round=>
  obtain⟨k,hk,rfl,ho,hb,hf⟩:=hrel;obtain⟨Ar,cr,rfl,-,-⟩:=ho.out.sees.mk_
  by_cases hlt:k<ls.length
  ·have i1:(k:Int)<(ls.length:Int):=by omega
   have i2:(0:Int)<=(k:Int):=by omega
   have hdk:ls[k]?=some (linkT ls k):=by rw[linkT,xgd,xge hlt];rfl
   have hs:=(hu.out.below hb.out).more hb.out.size;obtain⟨b,o,A1,c1,A2,c2,A3,c3,eA,hbB,z1,s1,z2,s2,z3,s3⟩:=link_at hs k (linkT ls k) hdk;subst eA;have hat:=rat_any wr.heap.size wr.heap.size _ _ ls (linkT ls k).2.1 wr hs nlr s2 nlr (by omega) k hk;have hal:=hl.out _ (List.mem_of_getElem? hdk);have hLC:Hid (linkC ls k=if nonceC (lastA (ls.take k)) (linkT ls k).2.1=0 then dverC (linkT ls k).1 (linkN ls k) (linkT ls k).2.2 else nonceC (lastA (ls.take k)) (linkT ls k).2.1):=rfl;have hNN:Hid (linkN ls k=nonceG (lastA (ls.take k)) (linkT ls k).2.1):=rfl;have hLV:Hid (linkV ls k=(dverLo (linkT ls k).1 (linkN ls k) (linkT ls k).2.2,dverHi (linkT ls k).1 (linkN ls k) (linkT ls k).2.2)):=rfl;unfold NonP at hat;rw[<-hNN.out] at hat;generalize linkT ls k=t at *;generalize linkN ls k=N at *;generalize nonceC (lastA (ls.take k)) t.2.1=C1 at *;obtain⟨t1,t2,t3⟩:=t;dsimp only at *;replace hat:=lhd hat;replace hdk:=lhd hdk;have K:Hid (∀W,Below wr.heap.size wr W->W.cell? ⟨b,o+k * 3,none⟩=some (.slice A1 t1.length c1)/\W.cell? ⟨b,o+k * 3+2,none⟩=some (.slice A3 t3.length c3)):=fun W hW=>⟨(hW.cell (p:=⟨b,o+k * 3,none⟩) hbB).trans z1,(hW.cell (p:=⟨b,o+k * 3+2,none⟩) hbB).trans z3⟩
   replace s1:=lhd s1;replace s3:=lhd s3;clear z1 z3 s2 hs
   go_wp2_with fail
   refine hat.out.mono ?_;rintro e w1 ⟨v1,rfl,o1,hb1⟩;obtain⟨A4,c4,rfl,-,-⟩:=o1.sees.mk_;clear hat z2;dsimp only
   by_cases E1:C1=0
   rotate_left
   ·have hE:(C1 == 0)=false:=by simp[E1]
    have hbad:Hid (cverC ls=C1):=by
     show _=_;have e9:linkC ls k=C1:=by rw[hLC.out,if_neg E1]
     rw[hCC.out,first_bad ls k ls.length hf.out (by rw[e9];exact E1) hlt,e9]
    replace E1:=lhd E1
    go_wp2_with fail
    go_returns
    exact cver_bad hbad.out E1.out (bgo hb.out hb1)
   subst E1;replace hLC:Hid (linkC ls k=dverC t1 N t3):=by show _=_;rw[hLC.out,if_pos rfl]
   have hvA:=fun (W:World) (hW:Below w1.heap.size w1 W)=>rdverify_any W.heap.size _ _ _ t1 N t3 W (seesB_of s1.out nlr (bgo hb1 hW)) (seesB_of o1.sees nlr hW) (seesB_of s3.out nlr (bgo hb1 hW)) nlr hal
   unfold DVerP at hvA;generalize dverLo t1 N t3=lo at *;generalize dverHi t1 N t3=hi at *;generalize dverC t1 N t3=E2 at *;have hv1:=lhd (hvA w1.drew (bdrew w1));have hv2:=lhd (hvA (w1.alloc (.cells #[.int .i64 0,.int .i64 0] 24)).drew (bgo (balloc w1 _) (bdrew _)));have hv3:=lhd (hvA w1 (Below.refl _ _));have hv4:=lhd (hvA (w1.alloc (.cells #[.int .i64 0,.int .i64 0] 24)) (balloc w1 _));have K1:Hid (∀W,Below w1.heap.size w1 W->W.cell? ⟨b,o+k * 3,none⟩=some (.slice A1 t1.length c1)/\W.cell? ⟨b,o+k * 3+2,none⟩=some (.slice A3 t3.length c3)):=fun W hW=>K.out W (bgo hb1 hW)
   obtain⟨k0,k1⟩:=K1.out w1 (Below.refl _ _);have ho1:=lhd (ho.out.below hb1);replace hb:=lhd (bgo hb.out hb1);clear hvA K s1 s3 o1 hal hb1 ho hbB
   go_wp2_with fail
   go_cut [8,7] (fun v8 v7 W=>V16 w1 lo hi E2 v8 v7 W)
   case first=>
    go_region_held3 (fun W':World=>W'.cell? ⟨b,o+k * 3,none⟩=some (.slice A1 t1.length c1)/\W'.cell? ⟨b,o+k * 3+2,none⟩=some (.slice A3 t3.length c3))
     (first | (with_reducible exact K1.out _ hb7) | (with_reducible exact K1.out _ (below_set2 hb7 nlr _ _)) | exact K1.out _ (by (repeat (first | exact Below.refl _ _ | (refine bgo ?_ (balloc _ _)) | (refine bgo ?_ (bdrew _)) | (refine bgo ?_ (by assumption))))) | (go_keep;done))
     (first
      | (go_at_call 228;(with_reducible refine hv1.out.mono ?_);rintro e w7 ⟨rfl,hb7⟩
         replace hb7:=bgo (bdrew w1) hb7)
      | (go_at_call 228;(with_reducible refine hv2.out.mono ?_);rintro e w7 ⟨rfl,hb7⟩
         have bz:=((Box.new w1 24 [.int .i64 0,.int .i64 0]).below (bdrew _)).below hb7;replace hb7:=bgo (bgo (balloc w1 _) (bdrew _)) hb7;obtain⟨e0,e1,j0,j1⟩:=box2_cells bz)
      | (go_at_call 228;(with_reducible refine hv3.out.mono ?_);rintro e w7 ⟨rfl,hb7⟩)
      | (go_at_call 228;(with_reducible refine hv4.out.mono ?_);rintro e w7 ⟨rfl,hb7⟩
         have bz:=(Box.new w1 24 [.int .i64 0,.int .i64 0]).below hb7;replace hb7:=bgo (balloc w1 _) hb7;obtain⟨e0,e1,j0,j1⟩:=box2_cells bz))
    all_goals
     go_wp2_with fail
     go_meet
     first
      | (with_reducible exact v16_new w1 w7 _ _ _ hb7)
      | (with_reducible exact v16_set w1 w7 _ _ _ _ bz nlr hb7)
   case rest=>
   obtain⟨g8,rfl,rfl,x8,hg8,hb7⟩:=hcut;obtain⟨w7,rfl⟩:∃w7:World,w7=wc:=⟨_,rfl⟩
   replace ho1:=lhd (ho1.out.below hb7);replace hb:=lhd (bgo hb.out hb7);clear k0 k1 K1 hv1 hv2 hv3 hv4 hb7 hg8
   by_cases E3:E2=0
   rotate_left
   ·have hE:(E2 == 0)=false:=by simp[E3]
    have hbad:Hid (cverC ls=E2):=by
     show _=_;rw[hCC.out,first_bad ls k ls.length hf.out (by rw[hLC.out];exact E3) hlt,hLC.out]
    replace E3:=lhd E3;clear x8
    go_wp2_with fail
    go_returns
    exact cver_bad hbad.out E3.out hb.out
   subst E3;have hf2:Hid (firstC ls (k+1)=0):=by show _=_;rw[first_ok ls k hf.out,hLC.out]
   have hst:Hid (spanS (cverK ls (k+1))=spanS (cverK ls k)++[.val (.int .i64 lo),.val (.int .i64 hi)]):=by show _=_;rw[cverK_next,spanS_append,hLV.out];rfl
   generalize spanS (cverK ls k)=acc at *;obtain⟨m0,m1⟩:=boxT2 x8;have hal8:=balloc w7 (.cells #[.int .i64 lo,.int .i64 hi] 24);have hrec:Hid (Sees (w7.alloc (.cells #[.int .i64 lo,.int .i64 hi] 24)) (w7.heap.size+1) (.slice (some ⟨w7.heap.size,0,none⟩) 1 1) 2 1 [.int .i64 lo,.int .i64 hi]):=rec_lit w7 24 [.int .i64 lo,.int .i64 hi];have ho2:=lhd (ho1.out.below hal8);have hb3:=lhd (bgo hb.out hal8);have hel:=lhd (val_elts (w7.alloc (.cells #[.int .i64 lo,.int .i64 hi] 24)) (.slice Ar k cr) lo hi);obtain⟨ti,hti,htz,hts',htby⟩:=info_parts span_info;replace hti:=lhd hti;replace htz:=lhd htz;replace hts':=lhd hts';replace htby:=lhd htby;clear hal8 ho1 hb hLC hLV hNN
   go_wp2_with (at_builtin;refine wpList_appR (by rfl) _ _ 67 24 underlying67 rfl ti _ 2 16 hti.out htz.out hts'.out htby.out rfl (by omega) (by omega) w.heap.size _ k _ rfl ho2.out _ _ 1 _ [.val (.int .i64 lo),.val (.int .i64 hi)] rfl hrec.out rfl hel.out (by omega) hb3.out.size ?_)
   intro v' w' hW2 hb4;replace hW2:Hid (OwnR w' w.heap.size 24 v' 2 (k+1) (spanS (cverK ls (k+1)))):=by show OwnR _ _ _ _ _ _ _;rw[hst.out];exact hW2
   have hb4:=lhd (hb3.out.trans hb4)
   go_wp2_with fail
   go_roundw
   case rel=>first | exact⟨k+1,by omega,by go_num,hW2,hb4,hf2⟩ | ((repeat apply Exists.intro);exact⟨⟨k+1,by omega,by go_num,hW2,hb4,hf2⟩,rfl⟩)
   case measure=>simp[intOf];omega
  obtain rfl:k=ls.length:=by omega
  have i1:¬(ls.length:Int)<(ls.length:Int):=by omega
  have hok:Hid (cverC ls=0):=by show _=_;rw[hCC.out,hf.out]
  go_wp2_with fail
  go_returns
  exact cver_ok hok.out ho.out.sees hb.out
end Go.Proofs.YtjgepckncogdaaaGreat
