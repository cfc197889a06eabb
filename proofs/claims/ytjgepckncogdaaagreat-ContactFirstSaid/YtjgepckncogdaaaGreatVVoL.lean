/- Contracts of functions, walks, plain facts. Conditions: those of each theorem. -/
import Derived.Test.YtjgepckncogdaaaGreatVVoF
import Derived.Test.YtjgepckncogdaaaGreatVVoV
import Derived.Test.YtjgepckncogdaaaGreatTCtZ
set_option linter.unusedVariables false
set_option linter.unusedSimpArgs false
set_option maxRecDepth 100000
set_option maxHeartbeats 16000000
namespace Go.Proofs.YtjgepckncogdaaaGreat
open Go Go.RowKit _root_.Go.Proofs.Tryz
attribute [local go_sem ↓] Go.wp_at_zero Go.wp_at_succ
theorem same36_true (u v:Value) (xs:List Int) (w:World) (hu:SeesT w w.heap.size u xs) (hv:SeesT w w.heap.size v xs) :
 Calls prog 47 #[u,v] w (BoolPost true w):=by
 obtain⟨A,c,rfl,hc1,hc2⟩:=hu.mk_;obtain⟨A',c',rfl,hc1',hc2'⟩:=hv.mk_;have hm:xs.length<=9223372036854775807:=by unfold maxLen at hc2;omega
 replace hu:=lhd hu;replace hv:=lhd hv
 go_enter func47,ntmps47
 go_wp2_with fail
 go_loopw [5] (fun i wr=>∃k m:Nat,k<=xs.length/\i=.int .i64 k/\wr=w.drewN m) (fun i _=>xs.length - (intOf i).toNat)
 case atStart=>exact⟨0,0,Nat.zero_le _,rfl,rfl⟩
 case round=>
  obtain⟨k,m,hk,rfl,rfl⟩:=hrel
  by_cases hlt:k<xs.length
  ·obtain⟨b,o,rfl,hb,hcell⟩:=SeesT.at_ hu.out (by omega)
   obtain⟨b',o',rfl,hb',hcell'⟩:=SeesT.at_ hv.out (by omega);have x0:=hcell k hlt;have y0:=hcell' k hlt;clear hcell hcell';generalize xs.getD k 0=x at *;have i0:(0:Int)<=(k:Int):=by omega
   have i1:(k:Int)<(xs.length:Int):=by omega
   go_wp2
   go_quiet (fail)
   go_wp2
   go_roundw
   case rel=>exact⟨k+1,_,by omega,by go_num,rfl⟩
   case measure=>simp[intOf];omega
  have i0:¬(k:Int)<(xs.length:Int):=by omega
  go_wp2
  go_ret
  exact⟨rfl,below_drewN (Below.refl _ _) _⟩
theorem voi_lens {v f truth:Int} {ts:List VoiT} (h:VoiOk v f truth ts):∀t∈ts,t.2.1.length<=1048576/\∀c∈t.2.1,c.2.1.length<=1048576/\c.2.2.2.2.length<=1048576:=by
 intro t ht;obtain⟨j,hj⟩:=List.mem_iff_getElem?.1 ht;have hjl:=(List.getElem?_eq_some_iff.1 hj).1;have e:voiT ts j=t:=by have:=voiT_get ts j hjl;rw[hj] at this;exact (Option.some.inj this).symm
 obtain⟨h1,h2,-⟩:=h j hjl;rw[e] at h1 h2;exact⟨by omega,h2⟩
theorem cfirst_law (v:Int) (wf0:(Lit.int .i64 v).wf=true) (B:Nat) (u:Value) (l:List Int) (w:World) (s:SeesT w B u l) (hB:B<=w.heap.size) (f:Int) (wf1:(Lit.int .i64 f).wf=true) :
 Calls prog 8 #[.int .i64 v,u,.int .i64 f] w fun e w'=>e=.returned (.bool true)/\Below w.heap.size w w':=by
 obtain⟨Ar,cr,rfl,-,-⟩:=s.mk_;clear wf0 wf1;have hkn:=lhd (fun W=>ckn_any W);have hnew:=lhd (tnew_any _ l w (Sees.more s hB));have hin:=lhd (fun g (n:Int) (hn:1<=n) (hn2:n<=1048576) W k (h:TapeAt W g (.slice Ar l.length cr) l k)=>tint_any g _ l k n W h hn hn2);have hwi:=lhd (fun W=>kwithin_any f 5 (by omega) (by omega) W);clear s hB
 go_enter func8,ntmps8
 go_wp2_with fail
 refine hnew.out.mono ?_;rintro e w1 ⟨rfl,t1,hb1,hgl1⟩;have hi1:=lhd (hin.out _ 5 (by omega) (by omega) w1 0 t1);have a1:=Int.emod_nonneg (l.getD 0 0) (show (5:Int)≠0 by omega);have a2:=Int.emod_lt_of_pos (l.getD 0 0) (show (0:Int)<5 by omega);obtain⟨n,hn⟩:∃n:Nat,l.getD 0 0 % 5=(n:Int):=⟨(l.getD 0 0 % 5).toNat,by omega⟩
 rw[hn] at a1 a2 hi1;obtain⟨g,hg⟩:∃g,g=w.heap.size:=⟨_,rfl⟩
 rw[<-hg] at t1 hi1 hgl1 ⊢;replace hg:=lhd hg;replace hb1:=lhd hb1;clear hnew t1 hn;dsimp only
 go_wp2_with fail
 refine hi1.out.mono ?_;rintro e w2 ⟨rfl,t2,g2⟩;have hi2:=lhd (hin.out g ((n:Int)+1) (by omega) (by omega) w2 _ t2);have b1:=Int.emod_nonneg (l.getD (stepK l 0) 0) (show (n:Int)+1≠0 by omega);have b2:=Int.emod_lt_of_pos (l.getD (stepK l 0) 0) (show (0:Int)<(n:Int)+1 by omega);generalize l.getD (stepK l 0) 0 % ((n:Int)+1)=F at *;replace g2:=lhd g2;clear hi1 t2;dsimp only
 go_wp2_with fail
 refine hi2.out.mono ?_;rintro e w3 ⟨rfl,t3,g3⟩;have hvo:=lhd (voices_any g _ l _ v n F 100 w3 t3 (by omega) (by omega) (by omega) (by omega));have g4:=lhd (ggo g2.out g3);clear hi2 t3 g3 g2;dsimp only
 go_wp2_with fail
 refine hvo.out.mono ?_;rintro e w4 ⟨v1,v2,ts,k4,R,rfl,o4,rfl,r4,-,hok,t4,gr4⟩;have s4:=o4.sees;obtain⟨Av,cv,rfl,-,-⟩:=s4.1.mk_;obtain⟨Aw,cw,rfl,-,-⟩:=r4.mk_;have hb4:=lhd (below_tape hb1.out (ggo g4.out gr4) (Nat.le_of_eq hg.out.symm) hb1.out.size);have hle:=voi_lens hok;have f1:=f % 5;have c1:=Int.emod_nonneg f (show (5:Int)≠0 by omega);have c2:=Int.emod_lt_of_pos f (show (0:Int)<5 by omega);have hfA:=fun k W (hW:Below w4.heap.size w4 W)=>cvfirst_any W.heap.size (.slice Aw R.length cw) (.slice Av ts.length cv) R ts k W (seesB_of r4 nlr hW) ((s4.below hW).more hW.size) nlr hle
 have hfR:=fun k W (hW:Below w4.heap.size w4 W)=>crvfirst_any W.heap.size (.slice Aw R.length cw) (.slice Av ts.length cv) R ts k W (seesB_of r4 nlr hW) ((s4.below hW).more hW.size) nlr hle
 replace hfA:=lhd hfA;replace hfR:=lhd hfR;clear hvo o4 r4 hok t4 gr4 s4 hle g4 hb1 hgl1 b1 b2 a1 a2;dsimp only
 go_wp2_with fail
 refine (hwi.out w4).mono ?_;rintro e w5 ⟨rfl,hw⟩;obtain rfl:=hw.symm;generalize f % 5=k at *;have hA1:=lhd (hfA.out (k - 1) w4 (Below.refl _ _));clear hw f1;dsimp only
 go_wp2_with fail
 refine hA1.out.mono ?_;rintro e w6 ⟨vA,cA,loA,hiA,isA,rfl,sA,fA,hb6⟩;obtain⟨A6,c6,rfl,-,-⟩:=sA.mk_;have hal:=balloc w6 (.cells #[.int .i64 loA,.int .i64 hiA] 24);have x12:=Box.new w6 24 [.int .i64 loA,.int .i64 hiA];change Box (w6.alloc (.cells #[.int .i64 loA,.int .i64 hiA] 24)) _ _ _ at x12;have hb7:=bgo hb6 hal;replace sA:SeesT (w6.alloc (.cells #[.int .i64 loA,.int .i64 hiA] 24)) (w6.alloc (.cells #[.int .i64 loA,.int .i64 hiA] 24)).heap.size (.slice A6 isA.length c6) isA:=(Sees.below sA hal).more hal.size;clear hA1 hb6 hal;dsimp only
 go_upto_region 6 with (fail)
 generalize w6.alloc (.cells #[.int .i64 loA,.int .i64 hiA] 24)=W7 at *;generalize w6.heap.size=g12 at *;have hR1:=lhd (hfR.out (k - 1) W7 hb7);replace hb7:=lhd hb7;replace x12:=lhd x12;replace sA:=lhd sA;clear hfA hfR
 go_wp2_with fail
 refine hR1.out.mono ?_;rintro e w8 ⟨vB,cB,loB,hiB,isB,rfl,sB,fB,hb8⟩;obtain⟨rfl,rfl,rfl,rfl⟩:=fA.uniq fB;obtain⟨A8,c8,rfl,-,-⟩:=sB.mk_;have hal:=balloc w8 (.cells #[.int .i64 loA,.int .i64 hiA] 24);have x15:=Box.new w8 24 [.int .i64 loA,.int .i64 hiA];change Box (w8.alloc (.cells #[.int .i64 loA,.int .i64 hiA] 24)) _ _ _ at x15;have hb9:=bgo hb8 hal;have sB':SeesT (w8.alloc (.cells #[.int .i64 loA,.int .i64 hiA] 24)) (w8.alloc (.cells #[.int .i64 loA,.int .i64 hiA] 24)).heap.size (.slice A8 isA.length c8) isA:=(Sees.below sB hal).more hal.size;have sA':=(Sees.below sA.out hb9).more hb9.size;have x12':=x12.out.below hb9;have hbz:=lhd (bgo hb4.out (bgo hb7.out hb9));clear hR1 hb8 hal hb9 fA fB sB sA x12 hb7 hb4;dsimp only
 go_upto_region 7 with (fail)
 generalize w8.alloc (.cells #[.int .i64 loA,.int .i64 hiA] 24)=W9 at *;generalize w8.heap.size=g15 at *;replace x12':=lhd x12';replace x15:=lhd x15;replace sA':=lhd sA';replace sB':=lhd sB'
 go_wp2_with fail
 refine (hkn.out _).mono ?_;rintro e w10 ⟨rfl,hb10⟩;obtain⟨k0,k1⟩:=boxT2 (x12'.out.below hb10);obtain⟨k2,k3⟩:=boxT2 (x15.out.below hb10);have hsm:=lhd (same36_true (.slice A6 isA.length c6) (.slice A8 isA.length c8) isA w10 ((Sees.below sA'.out hb10).more hb10.size) ((Sees.below sB'.out hb10).more hb10.size));replace hbz:=lhd (bgo hbz.out hb10);clear x12' x15 sA' sB' hb10;dsimp only
 go_wp2_with fail
 refine hsm.out.mono ?_;rintro e w11 ⟨rfl,hb11⟩;dsimp only
 go_wp2_with fail
 go_ret
 exact⟨by simp,bgo hbz.out hb11⟩
end Go.Proofs.YtjgepckncogdaaaGreat
