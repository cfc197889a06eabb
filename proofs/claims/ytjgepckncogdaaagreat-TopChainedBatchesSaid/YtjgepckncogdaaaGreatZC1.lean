/- Contracts of functions, walks, plain facts. Conditions: those of each theorem. -/
import Derived.Test.YtjgepckncogdaaaGreatVC1
import Derived.Test.YtjgepckncogdaaaGreatK26
set_option linter.unusedVariables false
set_option linter.unusedSimpArgs false
set_option maxRecDepth 100000
set_option maxHeartbeats 16000000
namespace Go.Proofs.YtjgepckncogdaaaGreat
open Go Go.RowKit _root_.Go.Proofs.Tryz
attribute [local go_sem ↓] Go.wp_at_zero Go.wp_at_succ
def KeyPost (seed:Bs) (h:Int) (w:World) (e:Ending) (w':World):Prop:=
 ∃v,e=.returned (.tuple #[v,.int .i64 (pubC seed h)])/\SeesB w' w'.heap.size v (pubG seed h)/\Below w.heap.size w w'
theorem nilB (w:World) (B:Nat):SeesB w B (.slice none 0 0) []:=by
 exact SeesB.nil w B
theorem rpublic_any (B:Nat) (u:Value) (seed:Bs) (h:Int) (w:World) (hu:SeesB w B u seed) (hB:B<=w.heap.size) :
 Calls prog 66 #[u,.int .i64 h] w (KeyPost seed h w):=by
 by_cases hl:seed.length=32
 ·by_cases hh:0<=h/\h<=6
  ·obtain⟨h0,h1⟩:=hh
   obtain⟨k,rfl⟩:=Int.eq_ofNat_of_zero_le h0;have hc:=rleaves_any B u seed k w hu hB hl (by omega);have hv:Hid (pubC seed k=0):=by show _=_;simp[pubC,hl];omega
   have hv2:Hid (pubG seed k=keyG seed k):=by show _=_;simp[pubG,hl];omega
   have j0:decide ((k:Int)<0)=false:=by simp
   have j1:¬((6:Int)<(k:Int)):=by omega
   replace hc:Hid (Calls _ _ _ _ (GivesL (leavesL seed (2 ^ k)) w)):=hc;have hlen:=leavesL_len seed (2 ^ k);have hp:=pow_le64 k (by omega);have hel:=lhd (leavesL_el seed (2 ^ k));obtain⟨A,c,rfl,-,-⟩:=hu.mk_;rw[hl] at hc ⊢;clear hu hl;rw[<-key_root] at hv2;generalize leavesL seed (2 ^ k)=ls at *
   go_enter func66,ntmps66
   go_wp2_with fail
   refine hc.out.mono ?_;rintro e w1 ⟨v,rfl,k1,hb1⟩;dsimp only
   go_wp2_with fail
   refine (rroot_top ls _ _ _ k1.sees nlr (by omega) (fun l hx=>by have:=hel.out l hx;omega)).mono ?_;rintro e w2 ⟨v2,rfl,h2,hb2⟩;dsimp only
   go_wp2_with fail
   go_returns
   exact⟨v2,by rw[hv.out];rfl,by rw[hv2.out];exact h2.sees,bgo hb1 hb2⟩
  have hv:Hid (pubC seed h=4):=by show _=_;simp[pubC,hl,hh]
  have hv2:Hid (pubG seed h=[]):=by show _=_;simp[pubG,hl,hh]
  obtain⟨A,c,rfl,-,-⟩:=hu.mk_;rw[hl];clear hu hl
  by_cases h0:h<0
  ·go_enter func66,ntmps66
   go_wp2_with fail
   go_returns
   exact⟨.slice none 0 0,by rw[hv.out];rfl,by rw[hv2.out];exact nilB _ _,Below.refl _ _⟩
  have h1:(6:Int)<h:=by omega
  have h2:decide (h<0)=false:=by simpa using h0
  go_enter func66,ntmps66
  go_wp2_with fail
  go_returns
  exact⟨.slice none 0 0,by rw[hv.out];rfl,by rw[hv2.out];exact nilB _ _,Below.refl _ _⟩
 have hv:Hid (pubC seed h=5):=by show _=_;simp[pubC,hl]
 have hv2:Hid (pubG seed h=[]):=by show _=_;simp[pubG,hl]
 have i0:((seed.length:Int) != 32)=true:=by rw[bne_iff_ne];omega
 obtain⟨A,c,rfl,-,-⟩:=hu.mk_;clear hu hl
 go_enter func66,ntmps66
 go_wp2_with fail
 go_returns
 exact⟨.slice none 0 0,by rw[hv.out];rfl,by rw[hv2.out];exact nilB _ _,Below.refl _ _⟩
def randsK (v:Int) (n:Nat) (k:Nat):List Bs:=(List.range k).map fun (i:Nat)=>randK (wrap64 (wrap64 (v * 1000)+(i:Int))) n
theorem randsK_next (v:Int) (n k:Nat):randsK v n (k+1)=randsK v n k++[randK (wrap64 (wrap64 (v * 1000)+(k:Int))) n]:=by
 rw[randsK,randsK,List.range_succ,List.map_append];rfl
theorem randsK_len (v:Int) (n k:Nat):(randsK v n k).length=k:=by simp[randsK]
theorem randsK_each (v:Int) (n k:Nat) (hn:n<=32):∀l∈randsK v n k,l.length=n:=by
 intro l hl;simp only[randsK,List.mem_map] at hl;obtain⟨i,-,rfl⟩:=hl;exact randK_len _ _ hn
theorem krandoms_any (v:Int) (n k:Nat) (w:World) (hn:n<=32) (hk:k<=1000) :
 Calls prog 14 #[.int .i64 v,.int .i64 (n:Int),.int .i64 (k:Int)] w (GivesL (randsK v n k) w):=by
 have hR:=lhd (fun x W=>krandom_any x n hn W)
 go_enter func14,ntmps14
 go_wp2_with fail
 go_loopw [7,8] (fun r t wr=>∃j:Nat,j<=k/\t=.int .i64 j/\Hid (OwnL wr w.heap.size r (randsK v n j))/\Hid (Below w.heap.size w wr)) (fun _ t _=>k - (intOf t).toNat)
 case atStart=>exact⟨0,by omega,rfl,OwnL.nil _ _,Below.refl _ _⟩
 case round=>
  obtain⟨j,hj,rfl,ho,hb⟩:=hrel;obtain⟨Ar,cr,rfl⟩:=ho.out.shape;have hkl:=randsK_len v n j;rw[hkl] at ho ⊢
  by_cases hlt:j<k
  ·have i0:(j:Int)<(k:Int):=by omega
   have hst:=lhd (randsK_next v n j);have hrl:=lhd (randK_len (wrap64 (wrap64 (v * 1000)+(j:Int))) n hn)
   go_wp2_with fail
   refine (hR.out _ wr).mono ?_;rintro e w1 ⟨v1,rfl,s1,hb1,f1⟩;generalize randK (wrap64 (wrap64 (v * 1000)+(j:Int))) n=da at *;generalize randsK v n j=acc at *;obtain⟨A1,c1,rfl,-,-⟩:=s1.mk_;have ho1:=ho.out.below hb1;have hel:=Elt.of_from (v:=.slice Ar j cr) s1 f1 (fun q hq=>(ho.out.lt q hq).2);have hal:=balloc w1 (.cells #[.slice A1 da.length c1] 25);have hbox:=lhd (one_cell w1 (.slice A1 da.length c1) 25);have ho4:=lhd (ho1.below hal);have hel4:=lhd (hel.below hal);have hb4:=lhd (bgo (bgo hb.out hb1) hal);replace hkl:=lhd hkl;replace hrl:=lhd hrl;clear hal hel ho1 s1 f1 hb1;dsimp only
   go_wp2_with (at_builtin;refine wpList_appL (by rfl) _ _ 30 underlying30 rfl w.heap.size _ acc rfl ho4.out _ _ _ da rfl hbox.out hel4.out (by have:=hkl.out;omega) hb4.out.size ?_)
   intro v' w' hW2 hb5;have hW2:=lhd hW2;have hb5:=lhd (hb4.out.trans hb5)
   go_wp2_with fail
   go_roundw
   case rel=>exact⟨j+1,by omega,by go_num,by show OwnL _ _ _ _;rw[hst.out];exact hW2.out,hb5⟩
   case measure=>simp[intOf];omega
  obtain rfl:j=k:=by omega
  have i0:¬(j:Int)<(j:Int):=by omega
  go_wp2_with fail
  go_returns
  exact⟨_,rfl,ho.out,hb.out⟩
def KSignP (ht:Int) (w:World) (e:Ending) (w':World):Prop:=
 ∃v1 v2 sd pk,e=.returned (.tuple #[.agg #[v1,.int .i64 (ht % 2),.int .i64 0],v2])/\SeesB w' w'.heap.size v1 sd/\sd.length=32/\SeesB w' w'.heap.size v2 pk/\pk=pubG sd (ht % 2)/\pk.length=32/\Below w.heap.size w w'
theorem ksigner_any (v ht:Int) (w:World):Calls prog 13 #[.int .i64 v,.int .i64 ht] w (KSignP ht w):=by
 have hkr:=fun x W=>(show Calls prog 59 #[.int .i64 x,.int .i64 32] W (Shows (randK x 32) W) from krandom_any x 32 (by omega) W)
 have hwi:=fun W=>kwithin_any ht 2 (by omega) (by omega) W
 have b1:=balloc w (.cells #[.slice none 0 0,.int .i64 0,.int .i64 0] 27);have h4:=Box.new w 27 [.slice none 0 0,.int .i64 0,.int .i64 0];have hm0:=Int.emod_nonneg ht (show (2:Int)≠0 by omega);have hm1:=Int.emod_lt_of_pos ht (show (0:Int)<2 by omega);replace hkr:=lhd hkr;replace hwi:=lhd hwi;replace b1:=lhd b1;have hm0':=lhd hm0;have hm1':=lhd hm1;clear hm0 hm1
 go_enter func13,ntmps13
 go_wp2_with fail
 change Box (w.alloc (.cells #[.slice none 0 0,.int .i64 0,.int .i64 0] 27)) _ _ _ at h4;generalize w.alloc (.cells #[.slice none 0 0,.int .i64 0,.int .i64 0] 27)=W1 at *;generalize hg:w.heap.size=g4 at h4 ⊢;replace hg:=lhd hg;refine (hkr.out _ _).mono ?_;rintro e w2 ⟨v2,rfl,t2,hb2,-⟩;have hl:=randK_len (wrap64 (v+100)) 32 (by omega);obtain⟨A2,c2,rfl,-,-⟩:=t2.mk_;replace h4:=lhd (h4.below hb2);replace b1:=lhd (bgo b1.out hb2);replace hl:=lhd hl;generalize randK _ 32=sd at *;dsimp only
 go_wp2_with fail
 refine (hwi.out _).mono ?_;rintro e w3 ⟨rfl,rfl⟩;generalize hH:ht % 2=H at *;replace hH:=lhd hH;dsimp only;have hal:=balloc w3 (.cells #[.slice A2 sd.length c2,.int .i64 H,.int .i64 0] 27);have h6:=Box.new w3 27 [.slice A2 sd.length c2,.int .i64 H,.int .i64 0];change Box (w3.alloc (.cells #[.slice A2 sd.length c2,.int .i64 H,.int .i64 0] 27)) _ _ _ at h6
 go_upto_region 2 with (fail)
 have t6:=seesB_of t2 nlr hal;replace h4:=lhd (h4.out.below hal);replace b1:=lhd (bgo b1.out hal);generalize w3.alloc (.cells #[.slice A2 sd.length c2,.int .i64 H,.int .i64 0] 27)=W6 at *;generalize w3.heap.size=g6 at *;have c0:=h6.cell 0;have c1:=h6.cell 1;simp only[xqz,xqs] at c0 c1;have hpu:=lhd (rpublic_any W6.heap.size _ sd H W6 t6 nlr);clear t2 hal hkr hwi
 go_wp2_with fail
 refine hpu.out.mono ?_;rintro e w7 ⟨vp,rfl,tp,hb7⟩;obtain⟨Ap,cp,rfl,-,-⟩:=tp.mk_;have h67:=h6.below hb7;have h47:=h4.out.below hb7;have t7:=seesB_of t6 nlr hb7;have b7:=lhd (bgo b1.out hb7);have hlp:Hid ((pubG sd H).length=32):=by
  show _=_;have hl':sd.length=32:=hl.out;rw[pubG,if_pos (by have:=hm0'.out;have:=hm1'.out;omega)];exact keyG_len _ _
 have hl':Hid (sd.length=32):=hl.out;have hpg:Hid (pubG sd H=pubG sd H):=rfl;generalize hpk:pubG sd H=pk at tp hlp ⊢;replace hpk:=lhd hpk;have d0:=h67.cell 0;have d1:=h67.cell 1;have d2:=h67.cell 2;have y0:=h47.cell 0;have y1:=h47.cell 1;have y2:=h47.cell 2;simp only[xqz,xqs] at d0 d1 d2 y0 y1 y2;have f0:=h47.frozen 0;have f1:=h47.frozen 1;have f2:=h47.frozen 2;have n47:=noBL3' (NoB.s none 0 0) (NoB.i 0) (NoB.i 0);have hgr:=ggo (ggo (setCell_grown w7 g4 0 (.slice A2 sd.length c2)) (setCell_grown _ g4 1 (.int .i64 H))) (setCell_grown _ g4 2 (.int .i64 0));have hz:(((w7.setCell ⟨g4,0,none⟩ (.slice A2 sd.length c2)).setCell ⟨g4,1,none⟩ (.int .i64 H)).setCell ⟨g4,2,none⟩ (.int .i64 0)).heap.size=w7.heap.size:=by simp[World.setCell]
 have kt:=t7.over nlr h47 n47 hgr;have kp:=tp.over nlr h47 n47 hgr;have k4:=((h47.set 0 (.slice A2 sd.length c2)).set 1 (.int .i64 H)).set 2 (.int .i64 0);simp only[xsz,xss] at k4;rw[<-hz] at kt kp;replace kt:=lhd kt;replace kp:=lhd kp;replace k4:=lhd k4;have kb:=lhd (below_set3 b7.out (Nat.le_of_eq hg.out) (.slice A2 sd.length c2) (.int .i64 H) (.int .i64 0));clear hl hgr hz h47 h67 h6 h4 tp t7 t6 c0 c1 b1 hpu;dsimp only
 go_wp2_with fail
 clear d0 d1 d2 y0 y1 y2 f0 f1 f2;generalize ((w7.setCell ⟨g4,0,none⟩ (.slice A2 sd.length c2)).setCell ⟨g4,1,none⟩ (.int .i64 H)).setCell ⟨g4,2,none⟩ (.int .i64 0)=W9 at *;have z0:W9.cell? ⟨g4,0,none⟩=some (.slice A2 sd.length c2):=k4.out.cell 0;have z1:W9.cell? ⟨g4,1,none⟩=some (.int .i64 H):=k4.out.cell 1;have z2:W9.cell? ⟨g4,2,none⟩=some (.int .i64 0):=k4.out.cell 2;refine bodyPost_ret (v:=.tuple #[.agg #[.slice A2 sd.length c2,.int .i64 H,.int .i64 0],.slice Ap pk.length cp]) (by simp[results,results13,go_sem,z0,z1,z2]) rfl ?_;exact⟨_,_,sd,pk,by rw[hH.out],kt.out,hl'.out,kp.out,by rw[hH.out];exact hpk.out.symm,hlp.out,kb.out⟩
def GrantedP (ht f t:Int) (w:World) (e:Ending) (w':World):Prop:=
 ∃v1 v2 v3 v4 sd2 pk2 sd1 pk1,e=.returned (.tuple #[.agg #[v1,.int .i64 (ht % 2),.int .i64 0,v2,.int .i64 f,.int .i64 t,v3],v4])/\SeesB w' w'.heap.size v1 sd2/\sd2.length=32/\pk2=pubG sd2 (ht % 2)/\pk2.length=32/\SeesB w' w'.heap.size v2 pk2/\SeesB w' w'.heap.size v3 (sigG sd1 0 0 (tGrant++pk2++spanB f t))/\sd1.length=32/\pk1=pubG sd1 0/\pk1.length=32/\SeesB w' w'.heap.size v4 pk1/\Below w.heap.size w w'
theorem grant_first {sd p:Bs} {f t:Int} (h1:sd.length=32) (h2:p.length=32) (h3:vS f t=true):grantR sd 0 0 p f t=((sd,0,1),(p,f,t,sigG sd 0 0 (tGrant++p++spanB f t)),0):=by
 have hv:validI sd 0 0=true:=by unfold validI;simp[h1]
 have hs:∀m,signAll sd 0 0 m=(sd,0,1,sigG sd 0 0 m,0):=fun m=>by
  unfold signAll;rw[if_pos hv,if_neg (by decide)]
  rfl
 unfold grantR;rw[if_pos hv,if_pos h2,if_pos h3,hs]
 rfl
theorem kgranted_any (v ht f t:Int) (w:World) (hv:vS f t=true):Calls prog 58 #[.int .i64 v,.int .i64 ht,.int .i64 f,.int .i64 t] w (GrantedP ht f t w):=by
 have hks:=lhd (fun x y W=>ksigner_any x y W);have hal:=balloc w (.cells #[.slice none 0 0,.int .i64 0,.int .i64 0,.slice none 0 0,.int .i64 0,.int .i64 0,.slice none 0 0] 96);have h8:=Box.new w 96 [.slice none 0 0,.int .i64 0,.int .i64 0,.slice none 0 0,.int .i64 0,.int .i64 0,.slice none 0 0];change Box (w.alloc (.cells #[.slice none 0 0,.int .i64 0,.int .i64 0,.slice none 0 0,.int .i64 0,.int .i64 0,.slice none 0 0] 96)) _ _ _ at h8;replace hal:=lhd hal
 go_enter func58,ntmps58
 go_upto_region 1 with (fail)
 generalize w.alloc (.cells #[.slice none 0 0,.int .i64 0,.int .i64 0,.slice none 0 0,.int .i64 0,.int .i64 0,.slice none 0 0] 96)=W0 at *;generalize hgg:w.heap.size=g8 at h8 ⊢;have hg8:Hid (w.heap.size<=g8):=by show _<=_;omega
 replace hgg:=lhd hgg
 go_wp2_with fail
 refine (hks.out _ _ _).mono ?_;rintro e w1 ⟨u1,u4,sd1,pk1,rfl,r1,hsd1,r4,hpk1,hpl1,hb1⟩;obtain⟨A1,c1,rfl,-,-⟩:=r1.mk_;obtain⟨A4,c4,rfl,-,-⟩:=r4.mk_;rw[show (0:Int) % 2=0 from rfl] at *;have hal1:=balloc w1 (.cells #[.slice A1 sd1.length c1,.int .i64 0,.int .i64 0] 27);have x10:=Box.new w1 27 [.slice A1 sd1.length c1,.int .i64 0,.int .i64 0];change Box (w1.alloc (.cells #[.slice A1 sd1.length c1,.int .i64 0,.int .i64 0] 27)) _ _ _ at x10;have hb01:=bgo hb1 hal1;replace h8:=h8.below hb01;have hbw:=lhd (bgo hal.out hb01);have s1:=seesB_of r1 nlr hal1;have s4:=seesB_of r4 nlr hal1;replace hsd1:=lhd hsd1;replace hpk1:=lhd hpk1;replace hpl1:=lhd hpl1;dsimp only
 go_upto_region 2 with (fail)
 generalize w1.alloc (.cells #[.slice A1 sd1.length c1,.int .i64 0,.int .i64 0] 27)=W1 at *;generalize w1.heap.size=g10 at *;clear hal hb1 hal1 hb01 r1 r4
 go_wp2_with fail
 refine (hks.out _ _ _).mono ?_;rintro e w2 ⟨u2,u5,sd2,pk2,rfl,r2,hsd2,r5,hpk2,hpl2,hb2⟩;obtain⟨A2,c2,rfl,-,-⟩:=r2.mk_;obtain⟨A5,c5,rfl,-,-⟩:=r5.mk_;generalize hH:ht % 2=H at *;replace hH:=lhd hH;have hal2:=balloc w2 (.cells #[.slice A2 sd2.length c2,.int .i64 H,.int .i64 0] 27);have x12:=Box.new w2 27 [.slice A2 sd2.length c2,.int .i64 H,.int .i64 0];change Box (w2.alloc (.cells #[.slice A2 sd2.length c2,.int .i64 H,.int .i64 0] 27)) _ _ _ at x12;have hb02:=bgo hb2 hal2;replace h8:=h8.below hb02;replace x10:=x10.below hb02;replace hbw:=lhd (bgo hbw.out hb02);replace s1:=seesB_of s1 nlr hb02;replace s4:=seesB_of s4 nlr hb02;have s2:=seesB_of r2 nlr hal2;have s5:=seesB_of r5 nlr hal2;replace hsd2:=lhd hsd2;replace hpk2:=lhd hpk2;replace hpl2:=lhd hpl2;dsimp only
 go_upto_region 3 with (fail)
 generalize w2.alloc (.cells #[.slice A2 sd2.length c2,.int .i64 H,.int .i64 0] 27)=W2 at *;generalize w2.heap.size=g12 at *;clear hb2 hal2 hb02 r2 r5 hks;have hgr:=rgrant_any _ _ _ sd1 pk2 0 0 f t W2 s1 s5 nlr (by have:=hpl2.out;omega);rw[grant_first hsd1.out hpl2.out hv] at hgr;unfold GrantP at hgr;dsimp only at hgr;replace hgr:=lhd hgr;obtain⟨p0,p1,p2,-,-,-⟩:=box3_cells x10
 go_wp2_with fail
 refine hgr.out.mono ?_;rintro e w3 ⟨q1,q2,q3,rfl,a1,a2,a3,hb3⟩;generalize hM:sigG sd1 0 0 (tGrant++pk2++spanB f t)=M at *;replace hM:=lhd hM;obtain⟨B1,d1,rfl,-,-⟩:=a1.mk_;obtain⟨B2,d2,rfl,-,-⟩:=a2.mk_;obtain⟨B3,d3,rfl,-,-⟩:=a3.mk_;have halA:=balloc w3 (.cells #[.slice B1 sd1.length d1,.int .i64 0,.int .i64 1] 27);have halB:=balloc (w3.alloc (.cells #[.slice B1 sd1.length d1,.int .i64 0,.int .i64 1] 27)) (.cells #[.slice B2 pk2.length d2,.int .i64 f,.int .i64 t,.slice B3 M.length d3] 94);have hb33:=bgo halA halB;have x15:=Box.new (w3.alloc (.cells #[.slice B1 sd1.length d1,.int .i64 0,.int .i64 1] 27)) 94 [.slice B2 pk2.length d2,.int .i64 f,.int .i64 t,.slice B3 M.length d3];rw[xsa] at x15;change Box ((w3.alloc (.cells #[.slice B1 sd1.length d1,.int .i64 0,.int .i64 1] 27)).alloc (.cells #[.slice B2 pk2.length d2,.int .i64 f,.int .i64 t,.slice B3 M.length d3] 94)) _ _ _ at x15;have hb03:=bgo hb3 hb33;replace h8:=h8.below hb03;replace x12:=x12.below hb03;replace hbw:=lhd (bgo hbw.out hb03);replace s2:=seesB_of s2 nlr hb03;replace s4:=seesB_of s4 nlr hb03;have t2:=seesB_of a2 nlr hb33;have t3:=seesB_of a3 nlr hb33;dsimp only
 go_upto_region 4 with (fail)
 generalize (w3.alloc (.cells #[.slice B1 sd1.length d1,.int .i64 0,.int .i64 1] 27)).alloc (.cells #[.slice B2 pk2.length d2,.int .i64 f,.int .i64 t,.slice B3 M.length d3] 94)=W3 at *;clear hb3 hb33 hb03 halA halB a1 a2 a3 x10 s1 s5 hgr p0 p1 p2;obtain⟨p0,p1,p2,-,-,-⟩:=box3_cells x12;obtain⟨z0,z1,z2,z3,-,-,-,-⟩:=box4_cells x15;obtain⟨y0,y1,y2,y3,y4,y5,y6⟩:=box7_cells h8;obtain⟨f0,f1,f2,f3,f4,f5,f6⟩:=box7_soft h8
 go_wp2_with fail
 have k:=box_set7 h8 (.slice A2 sd2.length c2) (.int .i64 H) (.int .i64 0) (.slice B2 pk2.length d2) (.int .i64 f) (.int .i64 t) (.slice B3 M.length d3);have kb:=lhd (below_set7 hbw.out hg8.out (.slice A2 sd2.length c2) (.int .i64 H) (.int .i64 0) (.slice B2 pk2.length d2) (.int .i64 f) (.int .i64 t) (.slice B3 M.length d3));have k2:=lhd (sees_set7 h8 noZ7 (.slice A2 sd2.length c2) (.int .i64 H) (.int .i64 0) (.slice B2 pk2.length d2) (.int .i64 f) (.int .i64 t) (.slice B3 M.length d3) s2);have k4:=lhd (sees_set7 h8 noZ7 (.slice A2 sd2.length c2) (.int .i64 H) (.int .i64 0) (.slice B2 pk2.length d2) (.int .i64 f) (.int .i64 t) (.slice B3 M.length d3) s4);have j2:=lhd (sees_set7 h8 noZ7 (.slice A2 sd2.length c2) (.int .i64 H) (.int .i64 0) (.slice B2 pk2.length d2) (.int .i64 f) (.int .i64 t) (.slice B3 M.length d3) t2);have j3:=lhd (sees_set7 h8 noZ7 (.slice A2 sd2.length c2) (.int .i64 H) (.int .i64 0) (.slice B2 pk2.length d2) (.int .i64 f) (.int .i64 t) (.slice B3 M.length d3) t3);clear y0 y1 y2 y3 y4 y5 y6 f0 f1 f2 f3 f4 f5 f6 h8 p0 p1 p2 z0 z1 z2 z3 x12 x15 s2 s4 t2 t3;generalize ((((((W3.setCell ⟨g8,0,none⟩ (.slice A2 sd2.length c2)).setCell ⟨g8,1,none⟩ (.int .i64 H)).setCell ⟨g8,2,none⟩ (.int .i64 0)).setCell ⟨g8,3,none⟩ (.slice B2 pk2.length d2)).setCell ⟨g8,4,none⟩ (.int .i64 f)).setCell ⟨g8,5,none⟩ (.int .i64 t)).setCell ⟨g8,6,none⟩ (.slice B3 M.length d3)=W9 at *;obtain⟨y0,y1,y2,y3,y4,y5,y6⟩:=box7_cells k
 refine bodyPost_ret (v:=.tuple #[.agg #[.slice A2 sd2.length c2,.int .i64 H,.int .i64 0,.slice B2 pk2.length d2,.int .i64 f,.int .i64 t,.slice B3 M.length d3],.slice A4 pk1.length c4]) (by simp[results,results58,go_sem,y0,y1,y2,y3,y4,y5,y6]) rfl ?_;exact⟨_,_,_,_,sd2,pk2,sd1,pk1,by rw[hH.out],k2.out,hsd2.out,by rw[hH.out];exact hpk2.out,hpl2.out,j2.out,by rw[hM.out];exact j3.out,hsd1.out,hpk1.out,hpl1.out,k4.out,kb.out⟩
theorem make_lists (T:TypeId) (hT:prog.underlying T=some (.slice 25)) (n:Nat) (hn:n<=1048576) (w:World):(Instr.makeSlice T (.int .i64 (n:Int)) (.int .i64 (n:Int))).run prog w=.ok (.slice (some ⟨w.heap.size,0,none⟩) n n) (w.alloc (.cells (List.replicate n (Value.slice none 0 0)).toArray 25)):=by
 obtain⟨i,hi,hz,hs,hb⟩:=info_parts slice_info;have h:=run_make (P:=prog) w T 25 i (.slice none 0 0) hT hi hz .i64 .i64 n n (by omega) (by omega) (by rw[hb];omega) (by omega);rw[h,hs];simp only[xnc,Nat.mul_one];rw[<-toList_madeCells_one]
 rfl
theorem otvalid_any (B:Nat) (u:Value) (seed:Bs) (i:Int) (w:World) (hu:SeesB w B u seed) :
 Calls prog 204 #[u,.int .i64 i] w fun e w'=>e=.returned (.int .i64 (otC seed i))/\w'=w:=by
 obtain⟨A,c,rfl,hc1,hc2⟩:=hu.mk_;clear hu
 by_cases hl:seed.length=32
 ·rw[hl]
  by_cases h0:i<0
  ·go_enter func204,ntmps204
   go_wp2
   go_ret
   exact⟨ret_int (by simp[otC,hl,h0]),rfl⟩
  by_cases h1:2147483647<i
  ·go_enter func204,ntmps204
   go_wp2
   go_ret
   exact⟨ret_int (by simp[otC,hl,h1]),rfl⟩
  go_enter func204,ntmps204
  go_wp2
  go_ret
  exact⟨ret_int (by simp[otC,hl];omega),rfl⟩
 have hl2:¬((seed.length:Int)=32):=by omega
 go_enter func204,ntmps204
 go_wp2
 go_ret
 exact⟨ret_int (by simp[otC,hl]),rfl⟩
theorem begin_any (B:Nat) (u:Value) (seed:Bs) (i k:Nat) (w:World) (hu:SeesB w B u seed) (hB:B<=w.heap.size) (hl:seed.length<=100000) (hi:i<=2147483647) (hk:k<256) :
 Calls prog 207 #[u,.int .i64 (i:Int),.int .i64 (k:Int)] w (Shows (otBegin seed i k) w):=by
 obtain⟨A,c,rfl,hc1,hc2⟩:=hu.mk_;have m0:IntKind.u64.wrap (i:Int)=(i:Int):=by rw[IntKind.wrap_u64];omega
 have m1:IntKind.u8.wrap (k:Int)=(k:Int):=by rw[IntKind.wrap_u8];omega
 have hx:((UInt8.ofNat k).toNat:Int)=(k:Int):=by simp;omega
 have hp:=lhd (put4_any i (by omega) w);replace hu:=lhd hu;replace hx:=lhd hx
 go_enter func207,ntmps207
 go_wp2_with fail
 refine hp.out.mono ?_;rintro e w1 ⟨v1,rfl,h1,hb1⟩;obtain⟨A1,c1,rfl,-,-⟩:=h1.sees.mk_;dsimp only
 go_wp2_with fail
 have hb2:=balloc w1 (.cells #[.int .u8 (k:Int)] 5);have h2:=one_byte w1 (UInt8.ofNat k) k hx.out;have hw2:=bgo hb1 hb2;have hu2:=hu.out.below (hw2.mono hB);have h12:=h1.below hb2;have hsz1:(w1.alloc (.cells #[.int .u8 (k:Int)] 5)).heap.size=w1.heap.size+1:=xsa _ _;rw[<-hsz1];generalize w1.alloc (.cells #[.int .u8 (k:Int)] 5)=w2 at *;generalize w1.heap.size=g1 at *;have hl3:=seesL_lit w2 25 (show SeesAll w2 w2.heap.size [.slice A seed.length c,.slice A1 (putB 4 i).length c1,.slice (some ⟨g1,0,none⟩) 1 1] [seed,putB 4 i,[UInt8.ofNat k]] from⟨hu2.more (Nat.le_trans hB hw2.size),h12.sees,h2.sees,trivial⟩) (by simp[maxLen]);have hp4:=putB_len 4 i;have hfl:[seed,putB 4 i,[UInt8.ofNat k]].flatten=seed++putB 4 i++[UInt8.ofNat k]:=by simp
 refine (join_any _ _ _ _ hl3 nlr (by rw[hfl];simp[hp4];omega)).mono ?_;rintro e w3 ⟨v3,rfl,h3,hb3⟩;rw[hfl] at h3;have hw3:=bgo (bgo hw2 (balloc w2 _)) hb3;dsimp only
 go_wp2_with fail
 refine (short_any _ _ _ _ h3.sees nlr (by simp[hp4];omega)).mono ?_;rintro e w4 ⟨v4,rfl,h4,hb4,hf4⟩;dsimp only
 go_wp2_with fail
 go_ret
 exact⟨v4,rfl,h4,bgo hw3 hb4,hf4.mono hw3.size⟩
theorem otpublic_any (B:Nat) (u:Value) (seed:Bs) (i:Int) (w:World) (hu:SeesB w B u seed) (hB:B<=w.heap.size) :
 Calls prog 203 #[u,.int .i64 i] w (PubPost seed i w):=by
 obtain⟨A,c,rfl,hc1,hc2⟩:=hu.mk_;have hv:=otvalid_any B _ seed i w hu
 by_cases h0:otC seed i=0
 ·have hpl:Hid (pubL seed i=otPublic seed i.toNat):=by show _=_;rw[pubL,if_pos h0]
  obtain⟨hl,i0,i1⟩:=otC_ok h0;have hoc:=lhd h0;rw[h0] at hv;obtain⟨n,rfl⟩:=Int.eq_ofNat_of_zero_le i0;rw[xnc] at hpl;rw[hl] at hc1 hu hv ⊢;replace hu:=lhd hu;replace hv:=lhd hv;have hl':=lhd hl;clear h0 i0 hl;have hmk:=make_560
  go_enter func203,ntmps203
  go_wp2_with fail
  refine hv.out.mono ?_;rintro e w0 ⟨rfl,rfl⟩;dsimp only
  go_wp2_with fail
  refine wp_fresh (fun W=>OwnB W w0.heap.size (.slice (some ⟨w0.heap.size,0,none⟩) 0 560) []/\Below w0.heap.size w0 W) ⟨World.ownsRow_made w0 _ 560 nlr (by unfold maxLen;omega) (size_madeCells _ _),(Below.refl _ _).alloc nlr _⟩ ?_;rintro W1 ⟨ho,hb⟩;replace ho:=lhd ho;replace hb:=lhd hb;clear hmk hv
  go_loopw [7,8,16] (fun r _ t wr=>∃k:Nat,k<=35/\t=.int .i64 k/\Hid (OwnB wr w0.heap.size r (otEnds seed n k))/\Hid (Below w0.heap.size w0 wr)) (fun _ _ t _=>35 - (intOf t).toNat)
  case atStart=>exact⟨0,by omega,rfl,ho,hb⟩
  case round=>
   clear ho hb;obtain⟨k,hk,rfl,ho,hb⟩:=hrel
   by_cases hlt:k<35
   ·have i0:(k:Int)<35:=by omega
    have hst:Hid (otEnds seed n (k+1)=otEnds seed n k++chainH 15 (otBegin seed n k)):=rfl;have hlen:=otEnds_len seed n k;have hlc:=chainH_len 15 (otBegin seed n k) (short_len _);have hlb:(otBegin seed n k).length=16:=short_len _;have hbg:=lhd (begin_any B _ seed n k wr (hu.out.below (hb.out.mono hB)) (Nat.le_trans hB hb.out.size) (by rw[hl'.out];omega) (by omega) (by omega));generalize otEnds seed n k=acc at *;generalize otBegin seed n k=bg at *;replace hlen:=lhd hlen;replace hlc:=lhd hlc;replace hlb:=lhd hlb;obtain⟨Ar,cr,rfl,-,-⟩:=ho.out.sees.mk_
    go_wp2_with fail
    refine hbg.out.mono ?_;rintro e w2 ⟨v2,rfl,h2,hb2,hf2⟩;have hch:=chain_any _ _ _ 15 w2 h2 nlr (by rw[hlb.out];omega);rw[show chainN 15=15 by decide] at hch;have ho2:=ho.out.below hb2;have hw2:=lhd (bgo hb.out hb2);replace hch:=lhd hch;dsimp only
    go_wp2_with fail
    refine hch.out.mono ?_;rintro e w3 ⟨v3,rfl,h3,hb3,hf3⟩;have ho3:=lhd (ho2.below hb3);have hw3:=lhd (bgo hw2.out hb3);have hl3:=lhd (show acc.length+(chainH 15 bg).length<=140737488355328 by rw[hlen.out,hlc.out];omega);replace h3:=lhd h3;clear ho2 hb2 hb3 hbg hch h2 hw2 hb ho;dsimp only
    go_wp2_with (at_builtin;refine wpList_app (by rfl) _ _ rfl w0.heap.size _ acc rfl ho3.out _ _ (chainH 15 bg) rfl h3.out hl3.out hw3.out.size ?_)
    intro v' w' hW2 hb2;have hW2:=lhd hW2;have hb2:=lhd hb2
    go_wp2_with fail
    go_roundw
    case rel=>exact⟨k+1,by omega,by go_num,by rw[hst.out];exact hW2.out,hw3.out.trans hb2.out⟩
    case measure=>simp[intOf];omega
   have hk35:k=35:=by omega
   rw[hk35] at ho;have hsh:=short_any _ _ _ _ ho.out.sees nlr (by rw[otEnds_len];omega);replace hsh:=lhd hsh;replace hk35:=lhd hk35
   go_wp2_with fail
   refine hsh.out.mono ?_;rintro e w2 ⟨v2,rfl,h2,hb2,hf2⟩;dsimp only
   go_wp2_with fail
   go_returns
   exact⟨v2,by rw[hoc.out];rfl,by rw[hpl.out];exact h2,bgo hb.out hb2,hf2.mono hb.out.size⟩
 have hpl:Hid (pubL seed i=[]):=by show _=_;rw[pubL,if_neg h0]
 have hoc:=lhd (Eq.refl (otC seed i));generalize hz:otC seed i=z at hv h0;replace hv:=lhd hv;replace hz:=lhd hz;clear hu
 go_enter func203,ntmps203
 go_wp2_with fail
 refine hv.out.mono ?_;rintro e w0 ⟨rfl,rfl⟩;dsimp only
 go_wp2_with fail
 go_returns
 exact⟨.slice none 0 0,by rw[hz.out];rfl,by rw[hpl.out];exact SeesB.nil _ _,Below.refl _ _,From.nil _⟩
theorem set_rep (ls:List Bs) (k n:Nat) (x:Bs) (hk:ls.length=k) (hn:k<n):(ls++List.replicate (n - k) []).set k x=(ls++[x])++List.replicate (n - (k+1)) []:=by
 subst hk;rw[List.set_append_right _ _ nlr,Nat.sub_self,show n - ls.length=(n - (ls.length+1))+1 from by omega,List.replicate_succ,xsz,xaa]
 rfl
theorem leaves_any (B:Nat) (u:Value) (seed:Bs) (h:Nat) (w:World) (hu:SeesB w B u seed) (hB:B<=w.heap.size) (hl:seed.length=32) (hh:h<=6) :
 Calls prog 137 #[u,.int .i64 (h:Int)] w (GivesL (leavesL seed (2 ^ h)) w):=by
 obtain⟨A,c,rfl,hc1,hc2⟩:=hu.mk_;rw[hl] at hc1 hu ⊢;replace hl:=lhd hl;have hsh:=wrap_pow h hh;obtain⟨n1,n2⟩:=pow_le64 h hh;generalize 2 ^ h=n at *;have hmk:=make_lists 30 underlying30 n (by omega);have hlen0:=leavesL_len seed;replace hlen0:=lhd hlen0;replace hu:=lhd hu
 go_enter func137,ntmps137
 go_wp2_with fail
 refine wp_fresh (fun W=>OwnL W w.heap.size (.slice (some ⟨w.heap.size,0,none⟩) n n) (leavesL seed 0++List.replicate (n - 0) [])/\Below w.heap.size w W/\w.heap.size<W.heap.size) ⟨show OwnL _ _ _ (List.replicate n []) from OwnL.made w n (by unfold maxLen;omega),balloc w _,by simp⟩ ?_;rintro W0 ⟨ho,hb,hlt0⟩;replace ho:=lhd ho;replace hb:=lhd hb;obtain⟨g,hg⟩:∃g,g=w.heap.size:=⟨_,rfl⟩
 rw[<-hg] at ho hlt0 ⊢;replace hg:=lhd hg;clear hmk hsh
 go_loopw [6,12] (fun _ t wr=>∃k:Nat,k<=n/\t=.int .i64 k/\Hid (OwnL wr g (.slice (some ⟨g,0,none⟩) n n) (leavesL seed k++List.replicate (n - k) []))/\Hid (Below w.heap.size w wr)/\Hid (g<wr.heap.size)) (fun _ t _=>n - (intOf t).toNat)
 case atStart=>exact⟨0,by omega,rfl,ho,hb,hlt0⟩
 case round=>
  clear ho hb hlt0;obtain⟨k,hk,rfl,ho,hb,hgl⟩:=hrel
  by_cases hlt:k<n
  ·have hpb:=otpublic_any B _ seed (k:Int) wr (hu.out.below (hb.out.mono hB)) (Nat.le_trans hB hb.out.size)
   have hoc:otC seed (k:Int)=0:=by simp[otC,hl.out];omega
   unfold PubPost pubL at hpb;rw[hoc,if_pos rfl,xnc] at hpb;replace hpb:=lhd hpb;have hst:Hid (leavesL seed (k+1)++List.replicate (n - (k+1)) []=(leavesL seed k++List.replicate (n - k) []).set k (otPublic seed k)):=by
    show _=_;rw[set_rep _ _ _ _ (leavesL_len seed k) hlt,leavesL_succ]
   have hrow:Hid (k<(leavesL seed k++List.replicate (n - k) []).length):=by show _<_;rw[xla,leavesL_len,List.length_replicate];omega
   generalize leavesL seed k++List.replicate (n - k) []=row at *;generalize otPublic seed k=l at *;clear hoc;have i0:(0:Int)<=(k:Int):=by omega
   have i1:(k:Int)<(n:Int):=by omega
   go_wp2_with fail
   refine hpb.out.mono ?_;rintro e w2 ⟨v2,rfl,h2,hb2,hf2⟩;have ho2:=ho.out.below hb2;obtain⟨⟨z,y0⟩,f0⟩:=ho2.cell hrow.out;obtain⟨o1,o2⟩:=ho2.set hrow.out (Elt.of_from h2 hf2 (fun k hk=>by cases hk;exact hgl.out));obtain⟨A2,c2,rfl,-,-⟩:=h2.mk_;replace hb:=lhd ((bgo hb.out hb2).trans (o2.mono (by have:=hg.out;omega)));replace hgl:Hid (g<(w2.setCell ⟨g,k,none⟩ (.slice A2 l.length c2)).heap.size):=Nat.lt_of_lt_of_le (Nat.lt_of_lt_of_le hgl.out hb2.size) o2.size;replace o1:=lhd o1;clear hb2 hpb ho ho2 o2 h2 hf2;dsimp only
   go_wp2_with fail
   go_roundw
   case rel=>exact⟨k+1,by omega,by go_num,by rw[hst.out];exact o1.out,hb,hgl⟩
   case measure=>simp[intOf];omega
  have hkn:k=n:=by omega
  have hfin:Hid (OwnL wr w.heap.size (.slice (some ⟨g,0,none⟩) n n) (leavesL seed n)):=by
   have:=ho.out
   rw[hkn,Nat.sub_self,List.replicate_zero,List.append_nil] at this;exact this.mono (by have:=hg.out;omega)
  replace hkn:=lhd hkn;clear ho
  go_wp2_with fail
  go_ret
  exact⟨_,rfl,hfin.out,hb.out⟩
theorem otsign_any (B:Nat) (u u2:Value) (seed d:Bs) (i:Nat) (w:World) (hu:SeesB w B u seed) (hu2:SeesB w B u2 d) (hB:B<=w.heap.size) (hl:seed.length=32) (hd:d.length=16) (hi:i<=2147483647) :
 Calls prog 138 #[u,.int .i64 (i:Int),u2] w (OtSignPost (signL seed i d) w):=by
 obtain⟨A,c,rfl,hc1,hc2⟩:=hu.mk_;obtain⟨AA,cc,rfl,hc3,hc4⟩:=hu2.mk_;have hv:=otvalid_any B _ seed (i:Int) w hu;rw[show otC seed (i:Int)=0 by simp[otC,hl];omega] at hv;have hdg:=digits_any B _ d w hu2 hB hd;unfold DigPost at hdg;have hfin:Hid (signL seed i d=signF seed i (digs d) 35):=rfl;have hlen:=digs_len d;have hlt16:=digs_get d hd;rw[hd] at hlen hu2 hc3 hdg ⊢;rw[hl] at hu hc1 hv ⊢;generalize digs d=ds at *;replace hlen:Hid (ds.length=35):=hlen;replace hlt16:=lhd hlt16;replace hl:=lhd hl;replace hd:=lhd hd;replace hu:=lhd hu;replace hv:=lhd hv;replace hdg:=lhd hdg;clear hu2;have hmk:∀W:World,(Instr.makeSlice 30 (.int .i64 35) (.int .i64 35)).run prog W=.ok (.slice (some ⟨W.heap.size,0,none⟩) 35 35) (W.alloc (.cells (Array.replicate 35 (Value.slice none 0 0)) 25)):=fun W=>by
  rw[<-List.toArray_replicate];exact make_lists 30 underlying30 35 (by omega) W
 go_enter func138,ntmps138
 go_wp2_with fail
 refine hv.out.mono ?_;rintro e w0 ⟨rfl,rfl⟩;dsimp only
 go_wp2_with fail
 refine hdg.out.mono ?_;rintro e w1 ⟨v1,rfl,h1,hb1⟩;obtain⟨A1,c1,rfl,g1,g2⟩:=h1.sees.mk_;rw[hlen.out] at g1 ⊢;have h1':=h1.sees;rw[hlen.out] at h1';obtain⟨b,o,rfl,hbB,hcell⟩:=h1'.at_ (by rw[hlen.out];omega);rw[hlen.out] at hcell;replace hcell:=lhd hcell;clear h1 h1';dsimp only
 go_wp2_with fail
 obtain⟨wo,rfl⟩:∃wo:World,wo=w1:=⟨_,rfl⟩
 refine wp_fresh (fun W=>OwnL W wo.heap.size (.slice (some ⟨wo.heap.size,0,none⟩) 35 35) (signF seed i ds 0++List.replicate (35 - 0) [])/\Below wo.heap.size wo W/\wo.heap.size<W.heap.size) ⟨show OwnL _ _ _ (List.replicate 35 []) from OwnL.made wo 35 (by unfold maxLen;omega),balloc wo _,by simp⟩ ?_;rintro W0 ⟨ho,hb,hlt0⟩;replace ho:=lhd ho;replace hb:=lhd hb;replace hb1:=lhd hb1;obtain⟨g,hg⟩:∃g,g=wo.heap.size:=⟨_,rfl⟩
 rw[<-hg] at ho hlt0 ⊢;replace hg:=lhd hg;clear hmk hdg hv
 go_loopw [12,13,33] (fun _ _ t wr=>∃k:Nat,k<=35/\t=.int .i64 k/\Hid (OwnL wr g (.slice (some ⟨g,0,none⟩) 35 35) (signF seed i ds k++List.replicate (35 - k) []))/\Hid (Below wo.heap.size wo wr)/\Hid (g<wr.heap.size)) (fun _ _ t _=>35 - (intOf t).toNat)
 case atStart=>exact⟨0,by omega,rfl,ho,hb,hlt0⟩
 case round=>
  clear ho hb hlt0;obtain⟨k,hk,rfl,ho,hb,hgl⟩:=hrel
  by_cases hlt:k<35
  ·have x0:=(hb.out.cell (p:=⟨b,o+k,none⟩) hbB).trans (hcell.out k hlt)
   have hdk:=hlt16.out k hlt;have hst:Hid (signF seed i ds (k+1)++List.replicate (35 - (k+1)) []=(signF seed i ds k++List.replicate (35 - k) []).set k (chainH (ds.getD k 0) (otBegin seed i k))):=by
    show _=_;rw[set_rep _ _ _ _ (signF_len seed i ds k) hlt,signF_succ]
   have hrow:Hid (k<(signF seed i ds k++List.replicate (35 - k) []).length):=by show _<_;rw[xla,signF_len,List.length_replicate];omega
   have hbg:=lhd (begin_any B _ seed i k wr (hu.out.below ((bgo hb1.out hb.out).mono hB)) (Nat.le_trans hB (bgo hb1.out hb.out).size) (by rw[hl.out];omega) hi (by omega));have hlb:Hid ((otBegin seed i k).length=16):=short_len _;generalize signF seed i ds k++List.replicate (35 - k) []=row at *;generalize otBegin seed i k=bg at *;generalize ds.getD k 0=dk at *;have i0:(0:Int)<=(k:Int):=by omega
   have i1:(k:Int)<35:=by omega
   go_wp2_with fail
   refine hbg.out.mono ?_;rintro e w2 ⟨v2,rfl,h2,hb2,hf2⟩;have hch:=chain_any _ _ _ (dk:Int) w2 h2 nlr (by rw[hlb.out];omega);rw[chainN_nat dk hdk] at hch;replace hch:=lhd hch;generalize chainH dk bg=l at *;clear h2 hf2;dsimp only
   go_wp2_with fail
   refine hch.out.mono ?_;rintro e w3 ⟨v3,rfl,h3,hb3,hf3⟩;have hb23:=bgo hb2 hb3;have ho2:=ho.out.below hb23;obtain⟨⟨z,y0⟩,f0⟩:=ho2.cell hrow.out;obtain⟨o1,o2⟩:=ho2.set hrow.out (Elt.of_from h3 hf3 (fun k hk=>by cases hk;exact Nat.lt_of_lt_of_le hgl.out hb2.size));obtain⟨A2,c2,rfl,-,-⟩:=h3.mk_;replace hb:=lhd ((bgo hb.out hb23).trans (o2.mono (by have:=hg.out;omega)));replace hgl:Hid (g<(w3.setCell ⟨g,k,none⟩ (.slice A2 l.length c2)).heap.size):=Nat.lt_of_lt_of_le (Nat.lt_of_lt_of_le hgl.out hb23.size) o2.size;replace o1:=lhd o1;clear hb2 hb3 hb23 hbg hch ho ho2 o2 h3 hf3;dsimp only
   go_wp2_with fail
   go_roundw
   case rel=>exact⟨k+1,by omega,by go_num,by rw[hst.out];exact o1.out,hb,hgl⟩
   case measure=>simp[intOf];omega
  have hkn:k=35:=by omega
  have hf:Hid (OwnL wr w0.heap.size (.slice (some ⟨g,0,none⟩) 35 35) (signF seed i ds 35)):=by
   have:=ho.out
   rw[hkn,Nat.sub_self,List.replicate_zero,List.append_nil] at this;exact this.mono (by have:=hg.out;have:=hb1.out.size;omega)
  replace hkn:=lhd hkn;clear ho
  go_wp2_with fail
  go_returns
  exact⟨_,rfl,by rw[hfin.out];exact hf.out,bgo hb1.out hb.out⟩
theorem slice_sizeMap:(prog.info? 25).map (·.size)=some 1:=by kernel_rfl
theorem wp_copyG {o:Oper} {a:Act} {w:World} {K:Act->World->Prop} {Q:Exit->Act->World->Prop} (d s:Operand) (T:TypeId)
 (ho:o.op=.call { callee:=.builtin .copy,args:=#[d,s],argTypes:=#[T,T] }) (E:TypeId) (hu:prog.underlying T=some (.slice E)) (hsz:(prog.info? E).map (·.size)=some 1)
 (g off dLen dCap:Nat) (ad:Addr) (sLen sCap:Nat) (hd:a.eval d=.slice (some ⟨g,off,none⟩) dLen dCap) (hs:a.eval s=.slice (some ad) sLen sCap)
 (cur:List Value) (t:TypeId) (hg:w.heap[g]?=some (.cells cur.toArray t (0,0))) (cs:List Value) (hn:cs.length=Nat.min sLen dLen)
 (hsrc:∀j v,cs[j]?=some v->w.cell? (ad.add j)=some v) (hfit:off+cs.length<=cur.length) (h1:∀v∈cs,v.oneCell'=true)
 (h:∀w',Hid (w'.heap[g]?=some (.cells (splice cur off cs).toArray t (0,0)))->w.grownBy w' (some g)->K (a.put o.dst (goInt cs.length)) w'):o.wp prog a w K Q:=by
 have hrun:=run_copy_row (P:=prog) w T T o.type E g off dLen dCap ad sLen sCap cur.toArray t cs hu hsz hg hn hsrc (by simpa using hfit) h1;unfold Oper.wp;simp[execOp,ho,resolve,invoke,builtin,hd,hs,hrun,Result.andThen];refine h _ (show _=_ by simpa [splice] using setRow_heap w g _ _ t _ hg) ⟨rfl,rfl,rfl,by simp[World.setRow],fun k hk hne=>setRow_other w g k _ (fun e=>hne (by rw[e]))⟩
theorem wpList_copyG {ops:Array Oper} {rest:List Oper} {o:Oper} {a:Act} {w:World} {Q:Exit->Act->World->Prop} (hgd:o.guard=none) (d s:Operand) (T:TypeId)
 (ho:o.op=.call { callee:=.builtin .copy,args:=#[d,s],argTypes:=#[T,T] }) (E:TypeId) (hu:prog.underlying T=some (.slice E)) (hsz:(prog.info? E).map (·.size)=some 1)
 (g off dLen dCap:Nat) (ad:Addr) (sLen sCap:Nat) (hd:a.eval d=.slice (some ⟨g,off,none⟩) dLen dCap) (hs:a.eval s=.slice (some ad) sLen sCap)
 (cur:List Value) (t:TypeId) (hg:w.heap[g]?=some (.cells cur.toArray t (0,0))) (cs:List Value) (hn:cs.length=Nat.min sLen dLen)
 (hsrc:∀j v,cs[j]?=some v->w.cell? (ad.add j)=some v) (hfit:off+cs.length<=cur.length) (h1:∀v∈cs,v.oneCell'=true)
 (h:∀w',Hid (w'.heap[g]?=some (.cells (splice cur off cs).toArray t (0,0)))->w.grownBy w' (some g)->wpList prog ops Q rest (a.put o.dst (goInt cs.length)) w'):wpList prog ops Q (o :: rest) a w:=
 wpList_plain hgd fun _ hK=>wp_copyG d s T ho E hu hsz g off dLen dCap ad sLen sCap hd hs cur t hg cs hn hsrc hfit h1 fun w' h2 h3=>hK _ _ (h w' h2 h3)
theorem step_copyG {ops:Array Oper} {o:Oper} {a:Act} {w:World} {K:Act->World->Prop} {Q:Exit->Act->World->Prop} {F:Prop} (hgd:o.guard=none) (d s:Operand) (T:TypeId)
 (ho:o.op=.call { callee:=.builtin .copy,args:=#[d,s],argTypes:=#[T,T] }) (E:TypeId) (hu:prog.underlying T=some (.slice E)) (hsz:(prog.info? E).map (·.size)=some 1)
 (g off dLen dCap:Nat) (ad:Addr) (sLen sCap:Nat) (hd:a.eval d=.slice (some ⟨g,off,none⟩) dLen dCap) (hs:a.eval s=.slice (some ad) sLen sCap)
 (cur:List Value) (t:TypeId) (hg:w.heap[g]?=some (.cells cur.toArray t (0,0))) (cs:List Value) (hn:cs.length=Nat.min sLen dLen)
 (hsrc:∀j v,cs[j]?=some v->w.cell? (ad.add j)=some v) (hfit:off+cs.length<=cur.length) (h1:∀v∈cs,v.oneCell'=true)
 (h:∀w',Hid (w'.heap[g]?=some (.cells (splice cur off cs).toArray t (0,0)))->w.grownBy w' (some g)->K (a.put o.dst (goInt cs.length)) w') :
 if Region.wanted o (yielded ops a.tmps)=true then Oper.wp prog o a w K Q else F:=by
 have hw:Region.wanted o (yielded ops a.tmps)=true:=by simp[Region.wanted,hgd]
 rw[if_pos hw];exact wp_copyG d s T ho E hu hsz g off dLen dCap ad sLen sCap hd hs cur t hg cs hn hsrc hfit h1 h
theorem zeroL_size (n:Nat):(Builtin.zeroCells (Value.slice none 0 0).cells n).size=n:=by simp[Builtin.zeroCells,Value.cells]
theorem growL_any (n:Nat) (hn:n<=1099511627776) (w:World) :
 Calls prog 259 #[.slice none 0 0,.int .i64 (n:Int)] w (GivesL [] w):=by
 obtain⟨i,hi,hz,hs,hb⟩:=info_parts slice_info;have n0:¬((n:Int)<0):=by omega
 go_enter func259,ntmps259
 by_cases h0:n=0
 ·subst h0
  go_wp2_with fail
  go_ret
  exact⟨_,rfl,OwnL.nil _ _,Below.refl _ _⟩
 have h1:(0:Int)<(n:Int):=by omega
 have hr:=Lib.run_append_nil_zeros (P:=prog) w 30 3 30 25 i (.slice none 0 0) .i64 .i64 underlying30 underlying3 hi hz n (by omega) (by omega) (by omega) (by rw[hb];omega)
 go_wp2_with (at_builtin;refine Lib.wpList_append_run _ rfl _ _ _ _ rfl _ _ rfl rfl _ _ hr ?_)
 go_ret
 refine⟨.slice (some ⟨w.heap.size,0,none⟩) 0 (grownCap w n 0 25),rfl,?_,((Below.refl _ _).alloc nlr _).drew⟩;have hg:=grownCap_ge w n 0 25;refine⟨[],(World.ownsRow_made (base:=w.heap.size) (e:=25) (size:=1) w _ (grownCap w n 0 25) nlr (grownCap_le_maxLen w n 0 25 (by unfold maxLen;omega)) (by
  have h1:=zeroL_size n;have h2:=zeroL_size (grownCap w n 0 25 - n);rw[Array.size_append];simp only[Value.cells] at h1 h2 ⊢
  omega)).drew,fun k hk=>absurd hk (by simp)⟩
theorem flatL_step (ls:List (List Bs)) (k:Nat) (h:k<ls.length):(ls.take (k+1)).flatten=(ls.take k).flatten++ls.getD k []:=by
 rw[List.take_succ_eq_append_getElem h,List.flatten_append,xgd,xge h];simp
theorem flatL_le (ls:List (List Bs)) (k:Nat):(ls.take k).flatten.length<=ls.flatten.length:=by
 conv=>rhs;rw[<-List.take_append_drop k ls,List.flatten_append,xla]
 omega
def sumLL (ls:List (List Bs)) (k:Nat):Nat:=(ls.take k).flatten.length
theorem sumLL_step (ls:List (List Bs)) (k:Nat) (h:k<ls.length):sumLL ls (k+1)=sumLL ls k+(ls.getD k []).length:=by
 rw[sumLL,flatL_step ls k h,xla];rfl
theorem elts_of_sees {w:World} {B:Nat} {u v:Value} {ls:List Bs} (h:SeesL w B u ls) (hB:B<=w.heap.size) (hv:∀k,v.ownBlock=some k->B<=k) :
 ∃vs:List Value,Sees w B u 1 ls.length vs/\∀k,k<ls.length->∃y,vs[k]?=some y/\Elt w v y (ls.getD k []):=by
 obtain⟨vs,h1,h2⟩:=h;exact⟨vs,h1,fun k hk=>by obtain⟨y,e1,e2⟩:=h2 k hk;exact⟨y,e1,Elt.of_old e2 hB hv⟩⟩
theorem concatL_any (B:Nat) (u:Value) (ls:List (List Bs)) (w:World) (hu:SeesLL w B u ls) (hu2:∀W,Below B w W->SeesLL W B u ls) (hB:B<=w.heap.size) (hlen:ls.flatten.length<=1048576) :
 Calls prog 210 #[u] w (GivesL ls.flatten w):=by
 obtain⟨A,c,rfl,hc1,hc2⟩:=hu.mk_;have hm:ls.length<=9223372036854775807:=by unfold maxLen at hc2;omega
 replace hu2:=lhd hu2
 go_enter func210,ntmps210
 go_wp2_with fail
 go_loopw [3,5,11] (fun s _ t wr=>∃k:Nat,k<=ls.length/\s=.int .i64 (sumLL ls k:Int)/\t=.int .i64 k/\wr=w) (fun _ _ t _=>ls.length - (intOf t).toNat)
 case atStart=>exact⟨0,by omega,rfl,rfl,rfl⟩
 case round=>
  obtain⟨k,hk,rfl,rfl,rfl⟩:=hrel
  by_cases hlt:k<ls.length
  ·obtain⟨b,o,rfl,hb,hcell⟩:=hu.at_ (by omega)
   obtain⟨A',c',hc,g1,g2,hsee⟩:=hcell k hlt;have hst:=lhd (sumLL_step ls k hlt);have hle:=flatL_le ls (k+1);have hd:(ls.take (k+1)).flatten.length=sumLL ls (k+1):=rfl;rw[hd,hst.out] at hle;generalize sumLL ls k=s at *;generalize ls.getD k []=m at *;clear hcell hu hsee hd;have i0:(0:Int)<=(k:Int):=by omega
   have i1:(k:Int)<(ls.length:Int):=by omega
   have i2:¬((s:Int)+(m.length:Int)<0):=by omega
   go_wp2_with fail
   go_roundw
   case rel=>exact⟨k+1,by omega,by rw[hst.out];rfl,by go_num,trivial⟩
   case measure=>simp[intOf];omega
  obtain⟨s,hs⟩:∃s,sumLL ls k=s:=⟨_,rfl⟩
  have hs2:s<=1048576:=by rw[<-hs];exact Nat.le_trans (flatL_le ls k) hlen
  rw[hs];have hB':=lhd hB;clear hu hB
  go_wp2_with (go_at_call 259;refine (growL_any s (by omega) _).mono ?_;rintro e w' ⟨v,rfl,hW,hbw⟩)
  have hW:=lhd hW;have hbw:=lhd hbw
  rename_i kk _ _
  obtain⟨w,rfl⟩:∃w0:World,w0=wr:=⟨_,rfl⟩
  go_loopw [6,8,27] (fun r _ t wr=>∃k:Nat,k<=ls.length/\t=.int .i64 k/\Hid (OwnL wr w.heap.size r (ls.take k).flatten)/\Hid (Below w.heap.size w wr)) (fun _ _ t _=>ls.length - (intOf t).toNat)
  case atStart=>exact⟨0,by omega,rfl,hW,hbw⟩
  case round=>
   clear hW hbw;obtain⟨k,hk,rfl,hW,hbw⟩:=hrel
   by_cases hlt:k<ls.length
   ·obtain⟨b,o,rfl,hb,hcell⟩:=(hu2.out _ (hbw.out.mono hB'.out)).at_ (by omega)
    obtain⟨A',c',x0,g1,g2,hsee⟩:=hcell k hlt;obtain⟨vs,hs1,hs2'⟩:=elts_of_sees (v:=_) hsee (Nat.le_trans hB'.out hbw.out.size) (fun k hk=>Nat.le_trans hB'.out (hW.out.lt k hk).1);replace hs1:=lhd hs1;replace hs2':=lhd hs2';have hst:=lhd (flatL_step ls k hlt);have hle:=flatL_le ls (k+1);rw[hst.out,xla] at hle;generalize ls.getD k []=m at *;clear hcell hsee;have i0:(0:Int)<=(k:Int):=by omega
    have i1:(k:Int)<(ls.length:Int):=by omega
    go_wp2_with (at_builtin;refine wpList_appE (by rfl) _ _ 30 underlying30 rfl w.heap.size _ _ rfl hW.out B _ m vs rfl hs1.out hs2'.out (by omega) hbw.out.size ?_)
    intro v' w' hW2 hb2;have hW2:=lhd hW2;have hb2:=lhd hb2
    go_wp2_with fail
    go_roundw
    case rel=>exact⟨k+1,by omega,by go_num,by rw[hst.out];exact hW2.out,hbw.out.trans hb2.out⟩
    case measure=>simp[intOf];omega
   have he:(ls.take k).flatten=ls.flatten:=by rw[xtl (by omega)]
   rw[he] at hW
   go_wp2_with fail
   go_ret
   exact⟨_,rfl,hW.out,hbw.out⟩
theorem own_cons {w w':World} {base g n c:Nat} {y:Value} {x:Bs} {ls:List Bs} {vs rest:List Value} (hg:w.grownBy w' (some g)) (hh:w'.heap[g]?=some (.cells (y :: vs++rest).toArray 25 (0,0)))
 (hn:n=ls.length+1) (hc:(y :: vs++rest).length=c) (hcm:c<=maxLen) (hv:vs.length=ls.length) (hb:base<=g) (A:Value) (hA:A.ownBlock=some g)
 (hx:Elt w A y x) (hel:∀k,k<ls.length->∃u,vs[k]?=some u/\Elt w A u (ls.getD k [])) :
 OwnL w' base (.slice (some ⟨g,0,none⟩) n c) (x :: ls):=by
 subst hn;have hst:∀{u:Value} {m:Bs},Elt w A u m->Elt w' (.slice (some ⟨g,0,none⟩) (ls.length+1) c) u m:=fun {u m} hu=>⟨hu.grown (by rw[hA];exact hg),fun hm k hk=>by
  have:=hu.2 hm k hk
  rw[hA] at this;exact this⟩
 refine⟨y :: vs,⟨by simp[hv],.inr ⟨g,c,(y :: vs++rest).toArray,rfl,hb,hh,?_,hcm,by rw[List.size_toArray,hc,Nat.mul_one],?_⟩⟩,fun k hk=>?_⟩
 ·rw[<-hc];simp only[List.cons_append,xlc,xla];omega
 ·rw[Nat.mul_one,List.take_append_of_le_length (by simp[hv]),xtl (by simp[hv])]
 ·cases k with
  | zero=>exact⟨y,rfl,hst hx⟩
  | succ k=>
    obtain⟨u,e1,e2⟩:=hel k (by simpa using hk);exact⟨u,by simpa using e1,by simpa using hst e2⟩
theorem run_append_cut_zeros {P:Program} (w:World) (t tn ty e:TypeId) (i:TypeInfo) (z:Value) (k kn:IntKind) (ht:P.underlying t=some (.slice e)) (htn:P.underlying tn=some (.int kn)) (hi:P.info? e=some i) (hz:i.zero=some z)
 (a:Addr) (c n:Nat) (h0:c<n) (hs:i.size=1) (hn:n<=1000) (hb:i.bytes<=1000) (hc:n<=2 * c) (hc2:c<256) :
 (Builtin.append_ #[t,tn] ty #[.slice (some a) 0 c,.int k n]).run P w =
  .ok (.slice (some ⟨w.heap.size,0,none⟩) n (grownCap w n c e)) (w.drew.alloc (.cells (Builtin.zeroCells z.cells n++Builtin.zeroCells z.cells (grownCap w n c e - n)) e)):=by
 have hn0:n≠0:=by omega
 have hw:IntKind.i64.wrap (n:Int)=n:=by rw[xwi];omega
 have h63':¬(9223372036854775807<(n:Int)):=by omega
 have hcap:Builtin.nextslicecap n c=2 * c:=by unfold Builtin.nextslicecap;rw[if_neg (by omega),if_pos hc2]
 have h48':¬(281474976710656<2 * c * i.bytes):=by
  have:2 * c * i.bytes<=512 * 1000:=Nat.mul_le_mul (by omega) hb
  omega
 have h48i:¬(281474976710656<(n:Int) * (i.bytes:Int)):=by
  have:n * i.bytes<=1000 * 1000:=Nat.mul_le_mul hn hb
  have:((n * i.bytes:Nat):Int)<=1000000:=by omega
  rw[Int.natCast_mul] at this
  omega
 have hneg:¬((n:Int)<0):=by omega
 have hnc:¬(n<=c):=by omega
 have hf:=run_firstCells_some (P:=P) w.drew 1 0 a 0 c [] rfl (by simp);simp[Builtin.append_,run_underlying ht,run_underlying htn,sizeOf,typeInfo,zeroValue,hi,hz,hs,asInt,asIntOf,hw,hn0,hneg,h63',hcap,h48',h48i,hnc,Question.forced,hf,newRow,grownCap]
theorem call_overlaps (args:Array Value) (w:World):(callFunc 257 args).run prog w=((Extern.SlicesOverlaps.overlaps #[30,30] #[4] args).run prog w).andThen fun v w'=>.ok (.value v) w':=
 run_callFunc_extern func257 (by kernel_rfl) (by kernel_rfl) (by kernel_rfl) (by kernel_rfl) args w
def InsPost (base:Nat) (ls:List Bs) (w:World) (e:Ending) (w':World):Prop:=∃v,e=.returned v/\OwnL w' base v ls/\Below base w w'
theorem splice_head (cur vs:List Value) (y:Value) (n:Nat) (h:cur.take n=vs) (hn:n+1<=cur.length):splice (splice cur 1 vs) 0 [y]=y :: vs++cur.drop (n+1):=by
 subst h;have hl:(cur.take n).length=n:=by rw[xlt];omega
 match cur,hn with
 | a :: cur,hn=>
   simp[splice,hl,Nat.add_comm]
theorem splice_head2 (Z vs:List Value) (y:Value) (n:Nat) (h:vs.length=n) (hn:n+1<=Z.length):splice (splice Z 0 [y]) 1 vs=y :: vs++Z.drop (n+1):=by
 subst h
 match Z,hn with
 | a :: Z,hn=>simp[splice,Nat.add_comm]
theorem insert_any (base g gb n c:Nat) (y:Value) (x:Bs) (ls:List Bs) (w:World) (hown:OwnL w base (.slice (some ⟨g,0,none⟩) n c) ls) (hn1:1<=ls.length) (hn2:ls.length<=200) (hbx:Box w gb 25 [y]) (hne:gb≠g) (hx:Elt w (.slice (some ⟨g,0,none⟩) n c) y x) (hbase:base<=w.heap.size) :
 Calls prog 209 #[.slice (some ⟨g,0,none⟩) n c,.int .i64 0,.slice (some ⟨gb,0,none⟩) 1 1] w (InsPost base (x :: ls) w):=by
 have hlt:=hown.lt g rfl;obtain⟨vs,hrow,hel⟩:=hown;have hvl:vs.length=ls.length:=by rw[hrow.1,Nat.mul_one]
 have hroom:∃cur:List Value,w.heap[g]?=some (.cells cur.toArray 25 (0,0))/\n=ls.length/\n<=c/\c<=maxLen/\cur.length=c/\cur.take n=vs:=by
  rcases hrow.2 with ⟨e,_⟩|⟨g',c',cur,e,_,h1,h2,h3,h4,h5⟩
  ·cases e
  injection e with e1 e2 e3;injection e1 with e1;injection e1 with e1;subst e1 e3 e2;exact⟨cur.toList,by simpa using h1,rfl,h2,h3,by simpa using h4,by simpa using h5⟩
 obtain⟨cur,hg,rfl,hnc,hcm,hcl,htk⟩:=hroom;have hvs1:∀v∈vs,v.oneCell'=true:=by
  intro v hv;obtain⟨k,hk⟩:=List.mem_iff_getElem?.1 hv;obtain⟨u,e1,e2⟩:=hel k (by have:=(List.getElem?_eq_some_iff.1 hk).1;omega);rw[hk] at e1;cases e1;obtain⟨A,c',rfl,-,-⟩:=e2.1.mk_
  rfl
 have hy1:y.oneCell'=true:=by
  obtain⟨A,c',rfl,-,-⟩:=hx.1.mk_
  rfl
 have r0:∀W,(Instr.slice 30 (.slice (some ⟨g,0,none⟩) ls.length c) (some (.int .i64 0)) none none).run prog W=.ok (.slice (some ⟨g,0,none⟩) ls.length c) W:=fun W=>by
  have:=run_cut_from (P:=prog) 30 underlying30 1 slice_size (some ⟨g,0,none⟩) ls.length c .i64 0 (by omega) (by omega) W
  rw[show (0:Int).toNat=0 from rfl,cutA_zero] at this;exact this
 have j0:((0:Int) == (ls.length:Int))=false:=by rw[beq_eq_false_iff_ne];omega
 have hm:(ls.length:Int)<=200:=by omega
 replace hrow:=lhd hrow;replace hel:=lhd hel
 by_cases hfit:ls.length+1<=c
 ·have j1:¬((c:Int)<(ls.length:Int)+1):=by omega
  have r1:∀W,(Instr.slice 30 (.slice (some ⟨g,0,none⟩) ls.length c) none (some (.int .i64 ((ls.length:Int)+1))) none).run prog W=.ok (.slice (some ⟨g,0,none⟩) (ls.length+1) c) W:=fun W=>by
   have:=run_cut_to (P:=prog) 30 underlying30 1 slice_size (some ⟨g,0,none⟩) ls.length c .i64 ((ls.length:Int)+1) (by omega) (by omega) W
   rw[cutA_zero,show ((ls.length:Int)+1).toNat=ls.length+1 from by omega] at this;exact this
  have r2:∀W,(Instr.slice 30 (.slice (some ⟨g,0,none⟩) (ls.length+1) c) (some (.int .i64 1)) none none).run prog W=.ok (.slice (some ⟨g,1,none⟩) ls.length (c - 1)) W:=fun W=>by
   have:=run_cut_from (P:=prog) 30 underlying30 1 slice_size (some ⟨g,0,none⟩) (ls.length+1) c .i64 1 (by omega) (by omega) W
   rw[show (1:Int).toNat=1 from rfl,cutA,if_neg (by omega),Option.map_some,add_zero'] at this;exact this
  have r3:∀W,(Instr.slice 30 (.slice (some ⟨g,0,none⟩) (ls.length+1) c) (some (.int .i64 0)) none none).run prog W=.ok (.slice (some ⟨g,0,none⟩) (ls.length+1) c) W:=fun W=>by
   have:=run_cut_from (P:=prog) 30 underlying30 1 slice_size (some ⟨g,0,none⟩) (ls.length+1) c .i64 0 (by omega) (by omega) W
   rw[show (0:Int).toNat=0 from rfl,cutA_zero] at this;exact this
  have hov:(callFunc 257 #[.slice (some ⟨gb,0,none⟩) 1 1,.slice (some ⟨g,1,none⟩) ls.length (c - 1)]).run prog w=.ok (.value (.bool false)) w:=by
   rw[call_overlaps,Lib.run_overlaps_apart w 30 4 25 underlying30 1 slice_size ⟨gb,0,none⟩ ⟨g,1,none⟩ 1 1 ls.length (c - 1) hne 25 25 1 c
    (by have:w.heap[gb]?=_:=hbx;simp[World.shape?,this]) (by simp[World.shape?,hg,hcl]) (by omega) (hbx.frozen 0) (hbx.frozen 1)]
   rfl
  replace hov:=hov;have hsz:(splice cur 1 vs).length=c:=by rw[length_splice _ _ _ (by omega),hcl]
  have hspl:=lhd (splice_head cur vs y ls.length htk (by omega));have hy0:w.cell? ⟨gb,0,none⟩=some y:=hbx.cell 0;have hvc:∀j v,vs[j]?=some v->w.cell? ((⟨g,0,none⟩:Addr).add j)=some v:=fun j v hj=>by
   rw[add_zero',Nat.zero_add,block_cell hg,<-hj,<-htk,List.getElem?_take,if_pos (by have:=(List.getElem?_eq_some_iff.1 hj).1;omega)]
  replace hg:=lhd hg;replace hvl:=lhd hvl;replace hvc:=lhd hvc;replace htk:=lhd htk;replace hy0:=lhd hy0;replace hcl:=lhd hcl;replace hsz:=lhd hsz;clear hbx
  go_enter func209,ntmps209
  have m1:IntKind.i64.wrap 1=1:=by decide +kernel
  have m2:(1:Int)<=(ls.length:Int)+1:=by omega
  have hmin:Hid (vs.length=Nat.min (ls.length+1) ls.length):=by show _=_;rw[hvl.out];exact (Nat.min_eq_right (by omega)).symm
  have hmin2:Hid ([y].length=Nat.min 1 (ls.length+1)):=by show _=_;simp
  go_wp2_with fail
  go_region_held3 (fun W':World=>True) (trivial)
   ((refine step_copyG (by rfl) (.tmp 73) (.tmp 76) 30 (by rfl) 25 underlying30 slice_sizeMap g 1 ls.length (c - 1) ⟨g,0,none⟩ (ls.length+1) c (by rfl) (by rfl) cur 25 hg.out vs hmin.out hvc.out (by rw[hvl.out,hcl.out];omega) hvs1 ?_;intro w3 hg3 hb3))
  all_goals
   replace hb3:Hid (w.grownBy w3 (some g)):=⟨hb3.os,hb3.tape,hb3.output,hb3.size,hb3.block⟩
   have hy3:Hid (∀j v,[y][j]?=some v->w3.cell? ((⟨gb,0,none⟩:Addr).add j)=some v):=fun j v hj=>by
    have hj0:j=0:=by
     have:=(List.getElem?_eq_some_iff.1 hj).1
     simp at this;omega
    subst hj0;cases hj;rw[add_zero'];exact hb3.out.cell hy0.out (by intro e;injection e with e;exact hne e)
   go_wp2_with (refine wpList_copyG rfl (.tmp 80) (.tmp 81) 30 rfl 25 underlying30 slice_sizeMap g 0 (ls.length+1) c ⟨gb,0,none⟩ 1 1 rfl rfl (splice cur 1 vs) 25 hg3.out [y] hmin2.out hy3.out (by rw[hsz.out];simp;omega) (by simpa using hy1) ?_;intro w4 hg4 hb4)
   rw[hspl.out] at hg4
   go_ret
   have hb34:w.grownBy w4 (some g):=ggo hb3.out hb4;refine⟨_,rfl,own_cons hb34 hg4.out rfl (by rw[<-hspl.out,length_splice _ _ _ (by rw[hsz.out];simp;omega),hsz.out]) hcm hvl.out hlt.1 (.slice (some ⟨g,0,none⟩) ls.length c) rfl hx hel.out,?_⟩;exact⟨hb34.os,hb34.tape,hb34.output,hb34.size,fun k hk=>hb34.block k (by omega) (by intro e;injection e with e;omega)⟩
 obtain rfl:c=ls.length:=by omega
 obtain⟨i,hi,hz,hs,hby⟩:=info_parts slice_info;have j1:(ls.length:Int)<(ls.length:Int)+1:=by omega
 have hr:=run_append_cut_zeros (P:=prog) w 30 3 30 25 i (.slice none 0 0) .i64 .i64 underlying30 underlying3 hi hz ⟨g,0,none⟩ ls.length (ls.length+1) (by omega) hs (by omega) (by rw[hby];omega) (by omega) (by omega);have hN:=grownCap_ge w (ls.length+1) ls.length 25;have hNm:=grownCap_le_maxLen w (ls.length+1) ls.length 25 (by unfold maxLen;omega);have hZ:(Builtin.zeroCells (Value.slice none 0 0).cells (ls.length+1)++Builtin.zeroCells (Value.slice none 0 0).cells (grownCap w (ls.length+1) ls.length 25 - (ls.length+1))).size=grownCap w (ls.length+1) ls.length 25:=by
  rw[Array.size_append,zeroL_size,zeroL_size];omega
 generalize grownCap w (ls.length+1) ls.length 25=N at *;generalize Builtin.zeroCells (Value.slice none 0 0).cells (ls.length+1)++Builtin.zeroCells (Value.slice none 0 0).cells (N - (ls.length+1))=Z at *;have r1:∀W,(Instr.slice 30 (.slice (some ⟨g,0,none⟩) ls.length ls.length) none (some (.int .i64 0)) none).run prog W=.ok (.slice (some ⟨g,0,none⟩) 0 ls.length) W:=fun W=>by
  have:=run_cut_to (P:=prog) 30 underlying30 1 slice_size (some ⟨g,0,none⟩) ls.length ls.length .i64 0 (by omega) (by omega) W
  rw[cutA_zero,show (0:Int).toNat=0 from rfl] at this;exact this
 have r2:∀W,(Instr.slice 30 (.slice (some ⟨w.heap.size,0,none⟩) (ls.length+1) N) (some (.int .i64 1)) none none).run prog W=.ok (.slice (some ⟨w.heap.size,1,none⟩) ls.length (N - 1)) W:=fun W=>by
  have:=run_cut_from (P:=prog) 30 underlying30 1 slice_size (some ⟨w.heap.size,0,none⟩) (ls.length+1) N .i64 1 (by omega) (by omega) W
  rw[show (1:Int).toNat=1 from rfl,cutA,if_neg (by omega),Option.map_some,add_zero'] at this;exact this
 have r3:∀W,(Instr.slice 30 (.slice (some ⟨w.heap.size,0,none⟩) (ls.length+1) N) (some (.int .i64 0)) none none).run prog W=.ok (.slice (some ⟨w.heap.size,0,none⟩) (ls.length+1) N) W:=fun W=>by
  have:=run_cut_from (P:=prog) 30 underlying30 1 slice_size (some ⟨w.heap.size,0,none⟩) (ls.length+1) N .i64 0 (by omega) (by omega) W
  rw[show (0:Int).toNat=0 from rfl,cutA_zero] at this;exact this
 have hg1:(w.drew.alloc (.cells Z 25)).heap[w.heap.size]?=some (.cells Z.toList.toArray 25 (0,0)):=by
  rw[Array.toArray_toList];exact heap_alloc_new w.drew _
 have hb1:Below w.heap.size w (w.drew.alloc (.cells Z 25)):=(bdrew w).trans (balloc w.drew _);have hgb:=hbx.lt;have hy0:∀j v,[y][j]?=some v->(w.drew.alloc (.cells Z 25)).cell? ((⟨gb,0,none⟩:Addr).add j)=some v:=fun j v hj=>by
  have hj0:j=0:=by
   have:=(List.getElem?_eq_some_iff.1 hj).1
   simp at this;omega
  subst hj0;cases hj;rw[add_zero'];exact (hb1.cell (p:=⟨gb,0,none⟩) hgb).trans (hbx.cell 0)
 have hvc:∀j v,vs[j]?=some v->(w.drew.alloc (.cells Z 25)).cell? ((⟨g,0,none⟩:Addr).add j)=some v:=fun j v hj=>by
  rw[add_zero',Nat.zero_add];refine (hb1.cell (p:=⟨g,j,none⟩) hlt.2).trans ?_;rw[block_cell hg,<-hj,<-htk,List.getElem?_take,if_pos (by have:=(List.getElem?_eq_some_iff.1 hj).1;omega)]
 have hsz:(splice Z.toList 0 [y]).length=N:=by rw[length_splice _ _ _ (by simp;omega)];simpa using hZ
 have hspl:=lhd (splice_head2 Z.toList vs y ls.length hvl (by simp;omega));have hmin:Hid (vs.length=Nat.min ls.length ls.length):=by show _=_;rw[hvl];exact (Nat.min_self _).symm
 have hmin2:Hid ([y].length=Nat.min 1 (ls.length+1)):=by show _=_;simp
 have hxA:Elt w (.slice (some ⟨w.heap.size,0,none⟩) 0 0) y x:=⟨hx.1,fun hl k hk e=>by cases e;exact absurd (hx.1.blk hl _ hk) (by dsimp only;omega)⟩
 have helA:∀k,k<ls.length->∃u,vs[k]?=some u/\Elt w (.slice (some ⟨w.heap.size,0,none⟩) 0 0) u (ls.getD k []):=fun k hk=>by
  obtain⟨u,e1,e2⟩:=hel.out k hk;exact⟨u,e1,e2.1,fun hl k hk e=>by cases e;exact absurd (e2.1.blk hl _ hk) (by dsimp only;omega)⟩
 replace hg1:=lhd hg1;replace hb1:=lhd hb1;replace hvl:=lhd hvl;replace hvc:=lhd hvc;replace hy0:=lhd hy0;replace hsz:=lhd hsz;replace hZ:=lhd hZ;replace hxA:=lhd hxA;replace helA:=lhd helA;replace hr:=lhd hr;have m1:IntKind.i64.wrap 1=1:=by decide +kernel
 have m2:(1:Int)<=(ls.length:Int)+1:=by omega
 clear hbx hg htk hcl hel hrow hx hi hz hs hby hfit hgb
 go_enter func209,ntmps209
 go_wp2_with (first
  | (at_builtin;refine Lib.wpList_append_run _ rfl _ _ _ _ rfl _ _ rfl rfl _ _ hr.out ?_)
  | (refine wpList_copyG rfl (.tmp 43) (.tmp 44) 30 rfl 25 underlying30 slice_sizeMap w.heap.size 0 (ls.length+1) N ⟨gb,0,none⟩ 1 1 rfl rfl Z.toList 25 hg1.out [y] hmin2.out hy0.out (by have:=hZ.out;simp;omega) (by simpa using hy1) ?_;intro w3 hg3 hb3))
 replace hb3:Hid (w.grownBy w3 (some w.heap.size)):=ggo (gbelow hb1.out) ⟨hb3.os,hb3.tape,hb3.output,hb3.size,hb3.block⟩;have hvc3:Hid (∀j v,vs[j]?=some v->w3.cell? ((⟨g,0,none⟩:Addr).add j)=some v):=fun j v hj=>by
  have h1:=hvc.out j v hj;rw[add_zero'] at h1 ⊢;have h2:=hb1.out.cell (p:=⟨g,0+j,none⟩) hlt.2;exact (World.cell?_of_block (hb3.out.block g hlt.2 (by intro e;injection e with e;omega))).trans (h2.symm.trans h1)
 go_region_held3 (fun W':World=>True) (trivial)
  ((refine step_copyG (by rfl) (.tmp 50) (.tmp 53) 30 (by rfl) 25 underlying30 slice_sizeMap w.heap.size 1 ls.length (N - 1) ⟨g,0,none⟩ ls.length ls.length (by rfl) (by rfl) (splice Z.toList 0 [y]) 25 hg3.out vs hmin.out hvc3.out (by rw[hvl.out,hsz.out];omega) hvs1 ?_;intro w4 hg4 hb4))
 all_goals
  replace hb4:Hid (w3.grownBy w4 (some w.heap.size)):=⟨hb4.os,hb4.tape,hb4.output,hb4.size,hb4.block⟩
  go_wp2_with fail
  rw[hspl.out] at hg4
  go_ret
  have hb34:w.grownBy w4 (some w.heap.size):=ggo hb3.out hb4.out;refine⟨_,rfl,own_cons hb34 hg4.out rfl (by rw[<-hspl.out,length_splice _ _ _ (by rw[hsz.out,hvl.out];omega),hsz.out]) hNm hvl.out hbase (.slice (some ⟨w.heap.size,0,none⟩) 0 0) rfl hxA.out helA.out,?_⟩;exact⟨hb34.os,hb34.tape,hb34.output,hb34.size,fun k hk=>hb34.block k (by omega) (by intro e;injection e with e;omega)⟩
theorem sbegin_any (h i:Nat) (w:World) (hh:h<256) (hi:i<4294967296) :
 Calls prog 211 #[.agg #[.int .i64 (h:Int),.int .i64 (i:Int)]] w (Gives ([UInt8.ofNat h]++putB 4 i) w):=by
 have m0:IntKind.u8.wrap (h:Int)=(h:Int):=by rw[IntKind.wrap_u8];omega
 have m1:IntKind.u64.wrap (i:Int)=(i:Int):=by rw[IntKind.wrap_u64];omega
 have hx:((UInt8.ofNat h).toNat:Int)=(h:Int):=by simp;omega
 have hp:=lhd (put4_any i (by omega));have hfl:Hid ([[UInt8.ofNat h],putB 4 i].flatten=[UInt8.ofNat h]++putB 4 i):=by show _=_;simp
 have hl4:=lhd (putB_len 4 i);replace hx:=lhd hx
 go_enter func211,ntmps211
 go_wp2_with fail
 have hb0:=balloc w (.cells #[.int .i64 (h:Int),.int .i64 (i:Int)] 189);have hbx:=Box.new w 189 [.int .i64 (h:Int),.int .i64 (i:Int)];change Code.wp _ _ _ _ (w.alloc (.cells #[.int .i64 (h:Int),.int .i64 (i:Int)] 189));have hlt:w.heap.size<(w.alloc (.cells #[.int .i64 (h:Int),.int .i64 (i:Int)] 189)).heap.size:=hbx.lt;generalize w.alloc (.cells #[.int .i64 (h:Int),.int .i64 (i:Int)] 189)=w0 at *;have c0:w0.cell? ⟨w.heap.size,0,none⟩=some (.int .i64 (h:Int)):=hbx.cell 0;have c1:w0.cell? ⟨w.heap.size,1,none⟩=some (.int .i64 (i:Int)):=hbx.cell 1;have hg0:=lhd (Eq.refl w.heap.size);obtain⟨g0,hg⟩:∃g0,g0=w.heap.size:=⟨_,rfl⟩
 rw[<-hg] at c0 c1 hlt ⊢;replace hg:=lhd hg;replace hb0:=lhd hb0;clear hbx hg0;have K:Hid (∀W:World,Below w0.heap.size w0 W->W.cell? ⟨g0,0,none⟩=some (.int .i64 (h:Int))/\W.cell? ⟨g0,1,none⟩=some (.int .i64 (i:Int))):=
  fun W hW=>⟨(hW.cell (p:=⟨g0,0,none⟩) hlt).trans c0,(hW.cell (p:=⟨g0,1,none⟩) hlt).trans c1⟩
 go_region_held3 (fun W':World=>W'.cell? ⟨g0,0,none⟩=some (.int .i64 (h:Int))/\W'.cell? ⟨g0,1,none⟩=some (.int .i64 (i:Int)))
  (first | exact K.out _ hb3 | (refine K.out _ ?_;(repeat (first | exact Below.refl _ _ | (refine bgo ?_ (balloc _ _)) | (refine bgo ?_ (bdrew _)) | (refine bgo ?_ (by assumption))));done) | (go_keep;done))
  (first
   | (go_at_call 70;refine (join_lit (vs:=[_,_]) [[UInt8.ofNat h],putB 4 i] w0 _ _ ?_ ?_ ⟨?_,?_,trivial⟩ (by simp) (by rw[hfl.out];simp[hl4.out])).mono ?_
      focus (first | rfl | (simp;done))
      focus ((repeat (first | exact Below.refl _ _ | (refine bgo ?_ (balloc _ _)) | (refine bgo ?_ (bdrew _)) | (refine bgo ?_ (by assumption))));done)
      focus (first | (refine seesB_of (one_byte w0 _ _ hx.out).sees nlr ?_;(repeat (first | exact Below.refl _ _ | (refine bgo ?_ (balloc _ _)) | (refine bgo ?_ (bdrew _)) | (refine bgo ?_ (by assumption))));done) | (refine seesB_of (one_byte w1 _ _ hx.out).sees nlr ?_;(repeat (first | exact Below.refl _ _ | (refine bgo ?_ (balloc _ _)) | (refine bgo ?_ (bdrew _)) | (refine bgo ?_ (by assumption))));done))
      focus (refine seesB_of h1.sees nlr ?_;(repeat (first | exact Below.refl _ _ | (refine bgo ?_ (balloc _ _)) | (refine bgo ?_ (bdrew _)) | (refine bgo ?_ (by assumption))));done)
      rintro e w3 ⟨v3,rfl,h3,hb3⟩)
   | (go_at_call 74;refine (hp.out _).mono ?_;rintro e w1 ⟨v1,rfl,h1,hb1⟩;obtain⟨A1,c1',rfl,-,-⟩:=h1.sees.mk_))
 all_goals
  go_wp2_with fail
  go_ret
  rw[hfl.out] at h3;exact⟨v3,rfl,h3.mono hb0.out.size,bgo hb0.out hb3⟩
theorem seesLL_two (W:World) (v1 v2:Value) (l1 l2:List Bs) (h1:SeesL W W.heap.size v1 l1) (h2:SeesL W W.heap.size v2 l2) (W2:World) (hb:Below (W.alloc (.cells #[v1,v2] 30)).heap.size (W.alloc (.cells #[v1,v2] 30)) W2) :
 SeesLL W2 (W.alloc (.cells #[v1,v2] 30)).heap.size (.slice (some ⟨W.heap.size,0,none⟩) 2 2) [l1,l2]:=by
 have hbx:=Box.below (Box.new W 30 [v1,v2]) hb;have hal:=balloc W (.cells #[v1,v2] 30);refine⟨[v1,v2],⟨rfl,_,2,rfl,Nat.le_refl _,by unfold maxLen;omega,fun _=>⟨W.heap.size,0,rfl,by simp,fun j u hj=>?_⟩⟩,fun k hk=>?_⟩
 ·rw[Nat.zero_add,hbx.cell j];exact hj
 have hh:∀{v:Value} {l:List Bs},SeesL W W.heap.size v l->SeesL W2 (W.alloc (.cells #[v1,v2] 30)).heap.size v l:=fun h=>((h.below hal).below (hb.mono hal.size)).more hal.size
 rcases (by simp at hk;omega:k=0\/k=1) with rfl|rfl
 ·exact⟨v1,rfl,hh h1⟩
 exact⟨v2,rfl,hh h2⟩
theorem concat_lit (W:World) (v1 v2:Value) (l1 l2:List Bs) (h1:SeesL W W.heap.size v1 l1) (h2:SeesL W W.heap.size v2 l2) (hl:(l1++l2).length<=1048576) :
 Calls prog 210 #[.slice (some ⟨W.heap.size,0,none⟩) 2 2] (W.alloc (.cells #[v1,v2] 30)).drew fun e w'=>∃v,e=.returned v/\OwnL w' W.heap.size v (l1++l2)/\Below W.heap.size W w':=by
 have hfl:[l1,l2].flatten=l1++l2:=by simp
 have h:=concatL_any (W.alloc (.cells #[v1,v2] 30)).heap.size (.slice (some ⟨W.heap.size,0,none⟩) 2 2) [l1,l2] (W.alloc (.cells #[v1,v2] 30)).drew
  (seesLL_two W v1 v2 l1 l2 h1 h2 _ (bdrew _)) (fun W3 h3=>seesLL_two W v1 v2 l1 l2 h1 h2 W3 ((bdrew _).trans h3)) nlr (by rw[hfl];exact hl)
 rw[hfl] at h;exact h.mono fun _ _ ⟨v,e,g1,g2⟩=>⟨v,e,g1.mono (balloc W _).size,bgo (balloc W _) ((bdrew _).trans g2)⟩
theorem sigbytes_any (B:Nat) (u u2:Value) (es ps:List Bs) (h i:Nat) (w:World) (hu:SeesL w B u es) (hu2:SeesL w B u2 ps) (hB:B<=w.heap.size) (hh:h<256) (hi:i<4294967296) (he:1<=es.length) (hlen:es.length+ps.length<=200) (hfl:(es++ps).flatten.length<=1048576) :
 Calls prog 141 #[.agg #[.int .i64 (h:Int),.int .i64 (i:Int),u,u2]] w (Gives ([UInt8.ofNat h]++putB 4 i++es.flatten++ps.flatten) w):=by
 obtain⟨A,c,rfl,-,-⟩:=hu.mk_;obtain⟨AA,cc,rfl,-,-⟩:=hu2.mk_;replace hu:=lhd hu;replace hu2:=lhd hu2;have hl4:=lhd (putB_len 4 i);have hsb:=lhd (fun W=>sbegin_any h i W hh hi)
 go_enter func141,ntmps141
 go_wp2_with fail
 have hb0:=balloc w (.cells #[.int .i64 (h:Int),.int .i64 (i:Int),.slice A es.length c,.slice AA ps.length cc] 191);have hbx:=Box.new w 191 [.int .i64 (h:Int),.int .i64 (i:Int),.slice A es.length c,.slice AA ps.length cc];change Code.wp _ _ _ _ (w.alloc (.cells #[.int .i64 (h:Int),.int .i64 (i:Int),.slice A es.length c,.slice AA ps.length cc] 191));have hlt:w.heap.size<(w.alloc (.cells #[.int .i64 (h:Int),.int .i64 (i:Int),.slice A es.length c,.slice AA ps.length cc] 191)).heap.size:=hbx.lt;generalize w.alloc (.cells #[.int .i64 (h:Int),.int .i64 (i:Int),.slice A es.length c,.slice AA ps.length cc] 191)=w0 at *;have c0:w0.cell? ⟨w.heap.size,0,none⟩=some (.int .i64 (h:Int)):=hbx.cell 0;have c1:w0.cell? ⟨w.heap.size,1,none⟩=some (.int .i64 (i:Int)):=hbx.cell 1;have c2:w0.cell? ⟨w.heap.size,2,none⟩=some (.slice A es.length c):=hbx.cell 2;have c3:w0.cell? ⟨w.heap.size,3,none⟩=some (.slice AA ps.length cc):=hbx.cell 3;obtain⟨g0,hg⟩:∃g0,g0=w.heap.size:=⟨_,rfl⟩
 rw[<-hg] at c0 c1 c2 c3 hlt ⊢;replace hg:=lhd hg;have hcc:=lhd (concat_lit w0 _ _ _ _ (seesL_of hu.out hB hb0) (seesL_of hu2.out hB hb0) (by rw[xla];omega));replace hb0:=lhd hb0;clear hbx;have hlen1:1<=(es++ps).length/\(es++ps).length<=200:=by rw[xla];omega
 have hfin:Hid (([[UInt8.ofNat h]++putB 4 i]++(es++ps)).flatten=[UInt8.ofNat h]++putB 4 i++es.flatten++ps.flatten):=by show _=_;simp
 have hfl2:Hid ((([UInt8.ofNat h]++putB 4 i) :: (es++ps)).flatten.length<=1099511627776):=by show _<=_;rw[xfc,xla];simp[hl4.out] at hfl ⊢;omega
 generalize es++ps=ls at *;generalize hhd:[UInt8.ofNat h]++putB 4 i=hd at *;replace hhd:=lhd hhd;have K:Hid (∀W:World,Below w0.heap.size w0 W->W.cell? ⟨g0,0,none⟩=some (.int .i64 (h:Int))/\W.cell? ⟨g0,1,none⟩=some (.int .i64 (i:Int))/\W.cell? ⟨g0,2,none⟩=some (.slice A es.length c)/\W.cell? ⟨g0,3,none⟩=some (.slice AA ps.length cc)):=
  fun W hW=>⟨(hW.cell (p:=⟨g0,0,none⟩) hlt).trans c0,(hW.cell (p:=⟨g0,1,none⟩) hlt).trans c1,(hW.cell (p:=⟨g0,2,none⟩) hlt).trans c2,(hW.cell (p:=⟨g0,3,none⟩) hlt).trans c3⟩
 go_region_held3 (fun W':World=>W'.cell? ⟨g0,0,none⟩=some (.int .i64 (h:Int))/\W'.cell? ⟨g0,1,none⟩=some (.int .i64 (i:Int))/\W'.cell? ⟨g0,2,none⟩=some (.slice A es.length c)/\W'.cell? ⟨g0,3,none⟩=some (.slice AA ps.length cc))
  (first | exact K.out _ hb4 | exact K.out _ hb3 | (refine K.out _ ?_;(repeat (first | exact Below.refl _ _ | (refine bgo ?_ (balloc _ _)) | (refine bgo ?_ (bdrew _)) | (refine bgo ?_ (by assumption))));done) | (go_keep;done))
  (first
   | (go_at_call 142;refine (concat_any _ _ _ _ h3.sees nlr hfl2.out).mono ?_;rintro e w4 ⟨v4,rfl,h4,hb4⟩
      replace h4:=h4.mono hb3.size;replace hb4:=bgo hb3 hb4)
   | (go_at_call 209
      refine (insert_any w0.heap.size g1 w2.heap.size ls.length c1' (.slice A2 hd.length c2') hd ls _ hrow hlen1.1 hlen1.2 (Box.new w2 25 [.slice A2 hd.length c2']) hgne hel (Nat.le_trans hb2'.size (balloc w2 _).size)).mono ?_;rintro e w3 ⟨v3,rfl,h3,hb3'⟩;have hb3:=(bgo hb2' (balloc w2 (.cells #[.slice A2 hd.length c2'] 25))).trans hb3';clear hb3')
   | (go_at_call 211;refine (hsb.out _).mono ?_;rintro e w2 ⟨v2,rfl,h2,hb2⟩
      have hb2':=bgo hb1 hb2;have hrow:=(h1.below hb2).below (balloc w2 (.cells #[v2] 25));have hel:=(Elt.of_from (v:=.slice (some ⟨g1,0,none⟩) ls.length c1') h2.sees h2.from (fun k hk=>(h1.lt k hk).2)).below (balloc w2 (.cells #[v2] 25));have hgne:w2.heap.size≠g1:=by have:=(h1.lt g1 rfl).2;have:=hb2.size;omega
      obtain⟨A2,c2',rfl,-,-⟩:=h2.sees.mk_)
   | (go_at_call 210;refine hcc.out.mono ?_;rintro e w1 ⟨v1,rfl,h1,hb1⟩
      obtain⟨A1,c1',rfl⟩:=h1.shape;obtain⟨g1,rfl⟩:=h1.at_ hlen1.1))
 all_goals
  go_wp2_with fail
  go_ret
  rw[show hd :: ls=[hd]++ls from rfl,hfin.out] at h4;replace h4:=h4.mono hb0.out.size;rw[<-hhd.out] at h4;exact⟨v4,rfl,by simpa using h4,bgo hb0.out hb4⟩
theorem svalid_any (B:Nat) (u:Value) (seed:Bs) (h n:Int) (w:World) (hu:SeesB w B u seed) :
 Calls prog 109 #[.agg #[u,.int .i64 h,.int .i64 n]] w (BoolPost (validI seed h n) w):=by
 obtain⟨A,c,rfl,-,-⟩:=hu.mk_;clear hu;have hbb:∀k,Below w.heap.size w ((w.alloc (.cells #[.slice A seed.length c,.int .i64 h,.int .i64 n] 27)).drewN k):=fun k=>below_drewN (balloc w _) k
 replace hbb:=lhd hbb
 by_cases hl:seed.length=32
 ·by_cases hh:0<=h/\h<=6
  ·by_cases hn:0<=n
   ·have hv:Hid (validI seed h n=decide (n<=2 ^ h.toNat)):=by show _=_;simp[validI,hl,hh,hn]
    obtain⟨h0,h1⟩:=hh;obtain⟨k,rfl⟩:=Int.eq_ofNat_of_zero_le h0;rw[xnc] at hv;have hp:=wrap_pow k (by omega);have hpc:((2 ^ k:Nat):Int)=(2:Int) ^ k:=by simp
    rw[<-hpc] at hv;replace hpc:=lhd hpc;have hp64:=pow_le64 k (by omega);generalize 2 ^ k=N at *;rw[hl] at hbb ⊢
    by_cases hN:n<=(N:Int)
    ·go_enter func109,ntmps109
     go_wp2_with fail
     go_quiet ((go_at_call 180;exact Calls.quiet_of_same (tall_yes _ _ (by omega) (by omega))))
     go_wp2_with fail
     go_ret
     exact⟨ret_bool (by rw[hv.out];simp[hN]),hbb.out _⟩
    go_enter func109,ntmps109
    go_wp2_with fail
    go_quiet ((go_at_call 180;exact Calls.quiet_of_same (tall_yes _ _ (by omega) (by omega))))
    go_wp2_with fail
    go_ret
    exact⟨ret_bool (by rw[hv.out]),hbb.out _⟩
   have hv:Hid (validI seed h n=false):=by show _=_;simp[validI,hn]
   obtain⟨h0,h1⟩:=hh;rw[hl] at hbb ⊢;have hn0:decide (0<=n)=false:=by simpa using hn
   go_enter func109,ntmps109
   go_wp2_with fail
   go_quiet ((go_at_call 180;exact Calls.quiet_of_same (tall_yes _ _ (by omega) (by omega))))
   go_wp2_with fail
   go_ret
   exact⟨ret_bool (by rw[hv.out]),hbb.out _⟩
  have hv:Hid (validI seed h n=false):=by show _=_;simp[validI];omega
  rw[hl] at hbb ⊢
  go_enter func109,ntmps109
  go_wp2_with fail
  go_quiet ((go_at_call 180;exact Calls.quiet_of_same (tall_no _ _ (by omega))))
  go_wp2_with fail
  go_ret
  exact⟨ret_bool (by rw[hv.out]),hbb.out _⟩
 have hv:Hid (validI seed h n=false):=by show _=_;simp[validI,hl]
 have hl2:((seed.length:Int) == 32)=false:=by rw[beq_eq_false_iff_ne];omega
 go_enter func109,ntmps109
 go_wp2_with fail
 go_quiet ((go_at_call 180;exact Calls.quiet_of_same (tall_no _ _ (by omega))))
 go_wp2_with fail
 go_ret
 exact⟨ret_bool (by rw[hv.out]),hbb.out _⟩
theorem noByte4 (h i:Int) (a b:Value) (ha:∀n,a≠.int .u8 n) (hb:∀n,b≠.int .u8 n):NoByte [.int .i64 h,.int .i64 i,a,b]:=by
 intro x hx n e;simp only[List.mem_cons,List.not_mem_nil,or_false] at hx;rcases hx with rfl|rfl|rfl|rfl
 ·cases e
 ·cases e
 ·exact ha n e
 exact hb n e
theorem sign_ok (B:Nat) (u u2:Value) (seed m:Bs) (h i:Nat) (w:World) (hu:SeesB w B u seed) (hu2:SeesB w B u2 m) (hB:B<=w.heap.size) (hl:seed.length=32) (hh:h<=6) (hi:i<2 ^ h) (hm:m.length<=65535) :
 Calls prog 69 #[.agg #[u,.int .i64 (h:Int),.int .i64 (i:Int)],u2] w (SignOk seed h i m w):=by
 obtain⟨A,c,rfl,-,-⟩:=hu.mk_;obtain⟨AA,cc,rfl,-,-⟩:=hu2.mk_;have hvI:=validI_mk seed h i hl hh (Nat.le_of_lt hi);have hp:=wrap_pow h hh;have hp64:=pow_le64 h hh;have hval:=fun W (hW:SeesB W B (.slice A seed.length c) seed)=>svalid_any B _ seed h i W hW
 rw[hvI] at hval;have hlv:=fun W (hW:SeesB W W.heap.size (.slice A seed.length c) seed)=>leaves_any W.heap.size _ seed h W hW nlr hl hh
 have hclone:=fun W (hW:SeesB W W.heap.size (.slice A seed.length c) seed)=>clone_any W.heap.size _ seed W hW nlr (by omega)
 have hsg:=fun W (v2:Value) (d:Bs) (hd:d.length=16) (hW:SeesB W W.heap.size (.slice A seed.length c) seed) (h2:SeesB W W.heap.size v2 d)=>otsign_any W.heap.size _ v2 seed d i W hW h2 nlr hl hd (by omega)
 have hdg:=fun W (v2:Value) (p:Bs) (hp:p.length=32) (hW:SeesB W W.heap.size v2 p) (h2:SeesB W W.heap.size (.slice AA m.length cc) m)=>digest_any W.heap.size v2 _ p m i W hW h2 nlr (by omega) (by omega) (by omega)
 have hbytes:=fun W (v1 v2:Value) (es ps:List Bs) (h1:SeesL W W.heap.size v1 es) (h2:SeesL W W.heap.size v2 ps)=>sigbytes_any W.heap.size v1 v2 es ps h i W h1 h2 nlr (by omega) (by omega)
 rw[hl] at hu hval hlv hclone hsg ⊢;replace hu:=lhd hu;replace hu2:=lhd hu2;replace hvI:=lhd hvI;replace hval:=lhd hval;replace hlv:=lhd hlv;replace hclone:=lhd hclone;replace hsg:=lhd hsg;replace hdg:=lhd hdg;replace hbytes:=lhd hbytes;replace hl:=lhd hl;have hkl:=lhd (keyG_len seed h);have hleaves:=lhd (leavesL_len seed (2 ^ h));have hsig:Hid ([UInt8.ofNat h]++putB 4 i++(signL seed i (digG (keyG seed h) i m)).flatten++(pathG (hashesG seed h) i).flatten=sigG seed h i m):=rfl;have hkey:Hid (rootG ((leavesL seed (2 ^ h)).map leafH)=keyG seed h):=rfl;have hpath:Hid (pathG ((leavesL seed (2 ^ h)).map leafH) i=pathG (hashesG seed h) i):=rfl;have hel:Hid (∀x∈leavesL seed (2 ^ h),x.length=16):=leavesL_el seed _;have hpl:=lhd (pathG_len h _ i (hashesG_len seed h));have hpe:Hid (∀x∈pathG (hashesG seed h) i,x.length=32):=pathG_el _ _ _ nlr (hashesG_el seed h);generalize leavesL seed (2 ^ h)=LV at *;generalize hN:2 ^ h=N at *;have hi2:((i:Int) == (N:Int))=false:=by rw[beq_eq_false_iff_ne];omega
 replace hN:=lhd hN
 go_enter func69,ntmps69
 go_wp2_with fail
 have hb0:Below w.heap.size w ((w.alloc (.cells #[.slice A 32 c,.int .i64 (h:Int),.int .i64 (i:Int)] 27)).alloc (.cells #[.slice none 0 0,.int .i64 0,.int .i64 0] 27)):=bgo (balloc w _) (balloc _ _);have hx1:=Box.below (Box.new w 27 [.slice A 32 c,.int .i64 (h:Int),.int .i64 (i:Int)]) (balloc _ (.cells #[.slice none 0 0,.int .i64 0,.int .i64 0] 27));have hx2:=Box.new (w.alloc (.cells #[.slice A 32 c,.int .i64 (h:Int),.int .i64 (i:Int)] 27)) 27 [.slice none 0 0,.int .i64 0,.int .i64 0];have hz:(w.alloc (.cells #[.slice A 32 c,.int .i64 (h:Int),.int .i64 (i:Int)] 27)).heap.size=w.heap.size+1:=xsa _ _;rw[hz] at hx2;change Box ((w.alloc (.cells #[.slice A 32 c,.int .i64 (h:Int),.int .i64 (i:Int)] 27)).alloc (.cells #[.slice none 0 0,.int .i64 0,.int .i64 0] 27)) _ _ _ at hx1 hx2;generalize (w.alloc (.cells #[.slice A 32 c,.int .i64 (h:Int),.int .i64 (i:Int)] 27)).alloc (.cells #[.slice none 0 0,.int .i64 0,.int .i64 0] 27)=W0 at *;clear hz;obtain⟨g,hg⟩:∃g,g=w.heap.size:=⟨_,rfl⟩
 rw[<-hg] at hx1 hx2 ⊢;replace hg:=lhd hg;replace hb0:=lhd hb0;refine (hval.out W0 (hu.out.below (hb0.out.mono hB))).mono ?_;rintro e W1 ⟨rfl,hb1⟩;replace hx1:=hx1.below hb1;replace hx2:=hx2.below hb1;replace hb1:=lhd (bgo hb0.out hb1);have c0:W1.cell? ⟨g,0,none⟩=some (.slice A 32 c):=hx1.cell 0;have c1:W1.cell? ⟨g,1,none⟩=some (.int .i64 (h:Int)):=hx1.cell 1;have c2:W1.cell? ⟨g,2,none⟩=some (.int .i64 (i:Int)):=hx1.cell 2;clear hval hb0;replace hx1:=lhd hx1;replace hx2:=lhd hx2;dsimp only
 go_wp2_with fail
 go_quiet (fail)
 go_wp2_with fail
 have hx1q:Box (W1.drewN nq) g 27 _:=hx1.out;have hx2q:Box (W1.drewN nq) (g+1) 27 _:=hx2.out;have hb1q:=below_drewN hb1.out nq;clear hx1 hx2 hb1 c0 c1 c2;generalize W1.drewN nq=W1 at *;refine (hlv.out W1 (seesB_of (hu.out.more hB) nlr hb1q)).mono ?_;rintro e W2 ⟨v2,rfl,h2,hb2⟩;have hrt:=root_top LV W2.heap.size v2 W2 h2.sees nlr (by rw[hleaves.out];omega) (fun x hx=>by rw[hel.out x hx];omega);unfold RootPost at hrt;rw[hkey.out] at hrt;obtain⟨A2,c2',rfl⟩:=h2.shape;rw[hleaves.out] at hrt h2 ⊢;replace hx1:=hx1q.below hb2;replace hx2:=hx2q.below hb2;replace hb2:=bgo hb1q hb2;replace h2:=lhd h2;replace hrt:=lhd hrt;clear hlv hx1q hx2q hb1q;dsimp only
 go_wp2_with fail
 refine hrt.out.mono ?_;rintro e W3 ⟨v3,rfl,h3,hb3⟩;replace h2:=h2.out.below hb3;replace hx1:=hx1.below hb3;replace hx2:=hx2.below hb3;replace hb3:=bgo hb2 hb3;clear hb2 hrt;have c0:W3.cell? ⟨g,0,none⟩=some (.slice A 32 c):=hx1.cell 0;have c1:W3.cell? ⟨g,1,none⟩=some (.int .i64 (h:Int)):=hx1.cell 1;have c2:W3.cell? ⟨g,2,none⟩=some (.int .i64 (i:Int)):=hx1.cell 2;obtain⟨A3,c3,rfl,-,-⟩:=h3.sees.mk_;rw[hkl.out] at h3 ⊢;have hgl:=hx1.lt;have hgl2:=hx2.lt;replace hx1:=lhd hx1;replace hx2:=lhd hx2;replace hb3:=lhd hb3;replace h3:=lhd h3;replace h2:=lhd h2;dsimp only
 go_wp2_with fail
 have hb4:=balloc W3 (.cells #[.int .i64 (h:Int),.int .i64 (i:Int),.slice none 0 0,.slice none 0 0] 191);have hx3:=Box.new W3 191 [.int .i64 (h:Int),.int .i64 (i:Int),.slice none 0 0,.slice none 0 0];have h24:=h2.out.below hb4;have h34:=h3.out.below hb4;have hx14:=hx1.out.below hb4;have hx24:=hx2.out.below hb4;have hb34:=bgo hb3.out hb4;clear c0 c1 c2 h2 h3 hx1 hx2;change Calls _ _ _ (W3.alloc (.cells #[.int .i64 (h:Int),.int .i64 (i:Int),.slice none 0 0,.slice none 0 0] 191)) _;generalize W3.alloc (.cells #[.int .i64 (h:Int),.int .i64 (i:Int),.slice none 0 0,.slice none 0 0] 191)=W4 at *;obtain⟨G,hG⟩:∃G,G=W3.heap.size:=⟨_,rfl⟩
 rw[<-hG] at hx3 hgl hgl2 ⊢;have hwG:w.heap.size<=G:=by have:=hb3.out.size;omega
 replace hG:=lhd hG;have hpt:=path_top LV i W4.heap.size (.slice A2 N c2') W4 h24.sees (by rw[hleaves.out];exact hi) nlr (by rw[hleaves.out];omega) (fun x hx=>by rw[hel.out x hx];omega);unfold PathPost at hpt;rw[hpath.out] at hpt;generalize pathG (hashesG seed h) i=PT at *;refine hpt.mono ?_;rintro e W5 ⟨v5,rfl,h5,hb5⟩;obtain⟨A5,c5,rfl⟩:=h5.shape;rw[hpl.out] at h5 ⊢;have hG4:=hx3.lt;replace hx1:=hx14.below hb5;replace hx2:=hx24.below hb5;replace hx3:=hx3.below hb5;replace h3:=h34.below hb5;replace hb5:=bgo hb34 hb5;have y3:W5.cell? ⟨G,3,none⟩=some (.slice none 0 0):=hx3.cell 3;have f3:=hx3.frozen 3;clear hpt h24 hb4 h34 hx14 hx24 hb34 hb3;replace hx1:=lhd hx1;replace hx2:=lhd hx2;replace hx3:=lhd hx3;replace hb5:=lhd hb5;replace h3:=lhd h3;replace h5:=lhd h5;dsimp only
 go_wp2_with fail
 have hno:=noByte4 (h:Int) (i:Int) (.slice none 0 0) (.slice none 0 0) (fun n e=>by cases e) (fun n e=>by cases e);have h56:=h5.out.poke (j:=3) (v':=.slice A5 h c5) hG4 hx3.out hno;have h36:=(SeesB.poke (j:=3) (v':=.slice A5 h c5) h3.out.sees hx3.out hno).more (B':=(W5.setCell ⟨G,3,none⟩ (.slice A5 h c5)).heap.size) (by simp[World.setCell]);have hx16:=hx1.out.other (j:=3) (v:=.slice A5 h c5) (show g≠G by omega);have hx26:=hx2.out.other (j:=3) (v:=.slice A5 h c5) (show g+1≠G by omega);have hx36:=hx3.out.set 3 (.slice A5 h c5);have hb6:Below w.heap.size w (W5.setCell ⟨G,3,none⟩ (.slice A5 h c5)):=hb5.out.setCell (p:=⟨G,3,none⟩) hwG _;simp only[xss,xsz] at hx36;clear h5 h3 hx1 hx2 hx3 hb5 y3 f3 hno;generalize W5.setCell ⟨G,3,none⟩ (.slice A5 h c5)=W6 at *;have hg0:=lhd (hdg.out W6.drew (.slice A3 32 c3) (keyG seed h) hkl.out h36 (seesB_of (hu2.out.more hB) nlr (hb6.drew)));have hd16:Hid ((digG (keyG seed h) i m).length=16):=short_len _;generalize digG (keyG seed h) i m=DG at *;have hsg2:Hid (∀W v2,Below W6.heap.size W6 W->SeesB W W.heap.size v2 DG->Calls prog 138 #[.slice A 32 c,.int .i64 (i:Int),v2] W (OtSignPost (signL seed i DG) W)):=
  fun W v2 hbW h2=>hsg.out W v2 DG hd16.out (seesB_of (hu.out.more hB) nlr (bgo hb6 hbW)) h2
 have K:Hid (∀W:World,Below W6.heap.size W6 W->W.cell? ⟨g,0,none⟩=some (.slice A 32 c)/\W.cell? ⟨g,2,none⟩=some (.int .i64 (i:Int))):=
  fun W hW=>⟨(hW.cell (p:=⟨g,0,none⟩) hx16.lt).trans (hx16.cell 0),(hW.cell (p:=⟨g,2,none⟩) hx16.lt).trans (hx16.cell 2)⟩
 have y0:W6.cell? ⟨g,0,none⟩=some (.slice A 32 c):=hx16.cell 0;have y2:W6.cell? ⟨g,2,none⟩=some (.int .i64 (i:Int)):=hx16.cell 2;have hgG:g≠G:=by omega
 have hG6:=hx36.lt;have z2:Hid (∀W:World,Below W6.heap.size W6 W->W.cell? ⟨G,2,none⟩=some (.slice none 0 0)/\W.frozen? ⟨G,2,none⟩=false):=fun W hW=>⟨(hx36.below hW).cell 2,(hx36.below hW).frozen 2⟩
 have K2:Hid (∀(W:World) (v:Value),Below W6.heap.size W6 W->(W.setCell ⟨G,2,none⟩ v).cell? ⟨g,0,none⟩=some (.slice A 32 c)/\(W.setCell ⟨G,2,none⟩ v).cell? ⟨g,2,none⟩=some (.int .i64 (i:Int))):=
  fun W v hW=>⟨(World.cell?_setCell_other W _ _ v (fun e=>by cases e)).trans (K.out W hW).1,(World.cell?_setCell_other W _ _ v (fun e=>hgG (by cases e;rfl))).trans (K.out W hW).2⟩
 replace hx16:=lhd hx16;replace hx26:=lhd hx26;replace hx36:=lhd hx36;replace h56:=lhd h56;replace hb6:=lhd hb6;clear hdg hsg h36
 go_region_held3 (fun W':World=>W'.cell? ⟨g,0,none⟩=some (.slice A 32 c)/\W'.cell? ⟨g,2,none⟩=some (.int .i64 (i:Int)))
  (first | exact K.out _ hb8 | exact K2.out _ _ hb8 | exact K.out _ hb7 | (go_keep;done))
  (first
   | (go_at_call 138;refine (hsg2.out _ _ hb7 h7).mono ?_;rintro e W8 ⟨v8,rfl,h8,hb8⟩
      obtain⟨A8,c8,rfl⟩:=h8.shape;replace hb8:=bgo hb7 hb8;obtain⟨q2,q3⟩:=z2.out W8 hb8)
   | (go_at_call 139;refine hg0.out.mono ?_;rintro e W7 ⟨v7,rfl,h7,hb7,-⟩
      obtain⟨A7,c7,rfl,-,-⟩:=h7.mk_;replace hb7:=(bdrew W6).trans hb7))
 all_goals
  have hno:=noByte4 (h:Int) (i:Int) (.slice none 0 0) (.slice A5 h c5) (fun n e=>by cases e) (fun n e=>by cases e);have hx1:=(hx16.out.below hb8).other (j:=2) (v:=.slice A8 (signL seed i DG).length c8) hgG;have hx2:=(hx26.out.below hb8).other (j:=2) (v:=.slice A8 (signL seed i DG).length c8) (show g+1≠G by omega);have hx38:=hx36.out.below hb8;have hx3:=hx38.set 2 (.slice A8 (signL seed i DG).length c8);simp only[xss,xsz] at hx3;have h89:=h8.poke (j:=2) (v':=.slice A8 (signL seed i DG).length c8) (Nat.lt_of_lt_of_le hG6 hb7.size) hx38 hno;have h59:=(h56.out.below hb8).poke (j:=2) (v':=.slice A8 (signL seed i DG).length c8) hG4 hx38 hno;have hb9:Below w.heap.size w (W8.setCell ⟨G,2,none⟩ (.slice A8 (signL seed i DG).length c8)):=(bgo hb6.out hb8).setCell (p:=⟨G,2,none⟩) hwG _;have hsl:=signL_len seed i DG;have hse:=signL_el seed i DG;clear hx16 hx26 hx36 hx38 h8 h56 hb8 hb7 h7 hno K K2 z2 q2 q3 hsg2 hg0 hb6;generalize hSL:signL seed i DG=SL at *;replace hSL:=lhd hSL;rw[hsl] at hx1 hx2 hx3 h89 h59 hb9 ⊢;replace hsl:=lhd hsl;replace hse:=lhd hse;generalize W8.setCell ⟨G,2,none⟩ (.slice A8 35 c8)=W9 at *;have K:Hid (∀W:World,Below W9.heap.size W9 W->W.cell? ⟨g,0,none⟩=some (.slice A 32 c)/\W.cell? ⟨g,1,none⟩=some (.int .i64 (h:Int))/\W.cell? ⟨g,2,none⟩=some (.int .i64 (i:Int)) /\
   W.cell? ⟨G,0,none⟩=some (.int .i64 (h:Int))/\W.cell? ⟨G,1,none⟩=some (.int .i64 (i:Int))/\W.cell? ⟨G,2,none⟩=some (.slice A8 35 c8)/\W.cell? ⟨G,3,none⟩=some (.slice A5 h c5)):=
   fun W hW=>⟨(hx1.below hW).cell 0,(hx1.below hW).cell 1,(hx1.below hW).cell 2,(hx3.below hW).cell 0,(hx3.below hW).cell 1,(hx3.below hW).cell 2,(hx3.below hW).cell 3⟩
  have K3:Hid (∀(W:World) (a b d:Value),Below W9.heap.size W9 W->(((W.setCell ⟨g+1,0,none⟩ a).setCell ⟨g+1,1,none⟩ b).setCell ⟨g+1,2,none⟩ d).cell? ⟨g,0,none⟩=some (.slice A 32 c)/\(((W.setCell ⟨g+1,0,none⟩ a).setCell ⟨g+1,1,none⟩ b).setCell ⟨g+1,2,none⟩ d).cell? ⟨g,1,none⟩=some (.int .i64 (h:Int))/\(((W.setCell ⟨g+1,0,none⟩ a).setCell ⟨g+1,1,none⟩ b).setCell ⟨g+1,2,none⟩ d).cell? ⟨g,2,none⟩=some (.int .i64 (i:Int)) /\
   (((W.setCell ⟨g+1,0,none⟩ a).setCell ⟨g+1,1,none⟩ b).setCell ⟨g+1,2,none⟩ d).cell? ⟨G,0,none⟩=some (.int .i64 (h:Int))/\(((W.setCell ⟨g+1,0,none⟩ a).setCell ⟨g+1,1,none⟩ b).setCell ⟨g+1,2,none⟩ d).cell? ⟨G,1,none⟩=some (.int .i64 (i:Int))/\(((W.setCell ⟨g+1,0,none⟩ a).setCell ⟨g+1,1,none⟩ b).setCell ⟨g+1,2,none⟩ d).cell? ⟨G,2,none⟩=some (.slice A8 35 c8)/\(((W.setCell ⟨g+1,0,none⟩ a).setCell ⟨g+1,1,none⟩ b).setCell ⟨g+1,2,none⟩ d).cell? ⟨G,3,none⟩=some (.slice A5 h c5)):=
   fun W a b d hW=>by
    obtain⟨k0,k1,k2,k3,k4,k5,k6⟩:=K.out W hW;have e1:∀o,(⟨g,o,none⟩:Addr).block≠g+1:=fun o=>by dsimp only;omega
    have e2:∀o,(⟨G,o,none⟩:Addr).block≠g+1:=fun o=>by dsimp only;omega
    exact⟨(cell_set3 W _ _ (e1 0) a b d).trans k0,(cell_set3 W _ _ (e1 1) a b d).trans k1,(cell_set3 W _ _ (e1 2) a b d).trans k2,(cell_set3 W _ _ (e2 0) a b d).trans k3,(cell_set3 W _ _ (e2 1) a b d).trans k4,(cell_set3 W _ _ (e2 2) a b d).trans k5,(cell_set3 W _ _ (e2 3) a b d).trans k6⟩
  obtain⟨y0,y1,y2,y3,y4,y5,y6⟩:=K.out W9 (Below.refl _ _);have Z:Hid (∀W:World,Below W9.heap.size W9 W->Box W (g+1) 27 [.slice none 0 0,.int .i64 0,.int .i64 0]):=fun W hW=>hx2.below hW
  have hlt1:=hx2.lt;have hcl:=lhd (hclone.out W9.drew (seesB_of (hu.out.more hB) nlr hb9.drew));have hby:Hid (∀W,Below W9.heap.size W9 W->Calls prog 141 #[.agg #[.int .i64 (h:Int),.int .i64 (i:Int),.slice A8 35 c8,.slice A5 h c5]] W (Gives (sigG seed h i m) W)):=fun W hW=>by
   have:=hbytes.out W (.slice A8 35 c8) (.slice A5 h c5) SL PT (h89.below hW).sees (h59.below hW).sees (by rw[hsl.out];omega) (by rw[hsl.out,hpl.out];omega) (by
    rw[List.flatten_append,xla,flat_len 16 SL hse.out,flat_len 32 PT hpe.out,hsl.out,hpl.out];omega)
   rw[hsig.out] at this;exact this
  have m5:IntKind.i64.wrap ((i:Int)+1)=(i:Int)+1:=by rw[xwi];omega
  replace hb9:=lhd hb9;clear hx1 hx2 hx3 h89 h59 hclone hbytes hsig hpl hpe hsl hse hSL;generalize hSG:sigG seed h i m=SG at *;replace hSG:=lhd hSG
  go_wp2_with fail
  go_region_held3 (fun W':World=>W'.cell? ⟨g,0,none⟩=some (.slice A 32 c)/\W'.cell? ⟨g,1,none⟩=some (.int .i64 (h:Int))/\W'.cell? ⟨g,2,none⟩=some (.int .i64 (i:Int)) /\
   W'.cell? ⟨G,0,none⟩=some (.int .i64 (h:Int))/\W'.cell? ⟨G,1,none⟩=some (.int .i64 (i:Int))/\W'.cell? ⟨G,2,none⟩=some (.slice A8 35 c8)/\W'.cell? ⟨G,3,none⟩=some (.slice A5 h c5))
   (first | exact K.out _ hb11 | exact K3.out _ _ _ _ hb11 | exact K.out _ hb10 | (go_keep;done))
   (first
    | (go_at_call 141;refine (hby.out _ hb10).mono ?_;rintro e W11 ⟨v11,rfl,h11,hb11⟩
       obtain⟨A11,c11,rfl,-,-⟩:=h11.sees.mk_;replace h10:=h10.below hb11;have hbs:=hb10.size;replace hb11:=bgo hb10 hb11;have hz:=Z.out W11 hb11;have z0:W11.cell? ⟨g+1,0,none⟩=some (.slice none 0 0):=hz.cell 0;have z1:W11.cell? ⟨g+1,1,none⟩=some (.int .i64 0):=hz.cell 1;have z2:W11.cell? ⟨g+1,2,none⟩=some (.int .i64 0):=hz.cell 2;have f0:=hz.frozen 0;have f1:=hz.frozen 1;have f2:=hz.frozen 2)
    | (go_at_call 140;refine hcl.out.mono ?_;rintro e W10 ⟨v10,rfl,h10,hb10⟩
       obtain⟨A10,c10,rfl,-,-⟩:=h10.sees.mk_;replace hb10:=(bdrew W9).trans hb10))
  all_goals
   have k10:OwnB (((W11.setCell ⟨g+1,0,none⟩ (.slice A10 seed.length c10)).setCell ⟨g+1,1,none⟩ (.int .i64 (h:Int))).setCell ⟨g+1,2,none⟩ (.int .i64 ((i:Int)+1))) W9.heap.size (.slice A10 seed.length c10) seed:=
    ownsRow_setCell_below (ownsRow_setCell_below (ownsRow_setCell_below h10 (by dsimp only;exact hlt1) _) (by dsimp only;exact hlt1) _) (by dsimp only;exact hlt1) _
   have k11:OwnB (((W11.setCell ⟨g+1,0,none⟩ (.slice A10 seed.length c10)).setCell ⟨g+1,1,none⟩ (.int .i64 (h:Int))).setCell ⟨g+1,2,none⟩ (.int .i64 ((i:Int)+1))) W10.heap.size (.slice A11 SG.length c11) SG:=
    ownsRow_setCell_below (ownsRow_setCell_below (ownsRow_setCell_below h11 (by dsimp only;omega) _) (by dsimp only;omega) _) (by dsimp only;omega) _
   have kz:=((hz.set 0 (.slice A10 seed.length c10)).set 1 (.int .i64 (h:Int))).set 2 (.int .i64 ((i:Int)+1));simp only[xss,xsz] at kz;have hgw:w.heap.size<=g+1:=by have:=hg.out;omega
   have hend:Below w.heap.size w (((W11.setCell ⟨g+1,0,none⟩ (.slice A10 seed.length c10)).setCell ⟨g+1,1,none⟩ (.int .i64 (h:Int))).setCell ⟨g+1,2,none⟩ (.int .i64 ((i:Int)+1))):=
    (((bgo hb9.out hb11).setCell (p:=⟨g+1,0,none⟩) hgw _).setCell (p:=⟨g+1,1,none⟩) hgw _).setCell (p:=⟨g+1,2,none⟩) hgw _
   clear h10 h11 hz z0 z1 z2 f0 f1 f2 hb11 K K3 Z;generalize ((W11.setCell ⟨g+1,0,none⟩ (.slice A10 seed.length c10)).setCell ⟨g+1,1,none⟩ (.int .i64 (h:Int))).setCell ⟨g+1,2,none⟩ (.int .i64 ((i:Int)+1))=W12 at *;have z0:W12.cell? ⟨g+1,0,none⟩=some (.slice A10 seed.length c10):=kz.cell 0;have z1:W12.cell? ⟨g+1,1,none⟩=some (.int .i64 (h:Int)):=kz.cell 1;have z2:W12.cell? ⟨g+1,2,none⟩=some (.int .i64 ((i:Int)+1)):=kz.cell 2
   go_wp2_with fail
   refine bodyPost_ret (v:=.tuple #[.agg #[.slice A10 seed.length c10,.int .i64 (h:Int),.int .i64 ((i:Int)+1)],.slice A11 SG.length c11,.int .i64 0]) (by simp[results,results69,go_sem,z0,z1,z2]) rfl ?_;exact⟨_,_,rfl,k10.sees,by rw[hSG.out];exact k11.sees,hend⟩
theorem sign_bad3 (B:Nat) (u u2:Value) (seed:Bs) (h n:Int) (w:World) (hu:SeesB w B u seed) (hB:B<=w.heap.size) (hv:validI seed h n=false) :
 Calls prog 69 #[.agg #[u,.int .i64 h,.int .i64 n],u2] w (SignBad 3 w):=by
 obtain⟨A,c,rfl,-,-⟩:=hu.mk_;have hval:=fun W (hW:SeesB W B (.slice A seed.length c) seed)=>svalid_any B _ seed h n W hW
 rw[hv] at hval;replace hval:=lhd hval;replace hv:=lhd hv;replace hu:=lhd hu
 go_enter func69,ntmps69
 go_wp2_with fail
 have hb0:Below w.heap.size w ((w.alloc (.cells #[.slice A seed.length c,.int .i64 h,.int .i64 n] 27)).alloc (.cells #[.slice none 0 0,.int .i64 0,.int .i64 0] 27)):=bgo (balloc w _) (balloc _ _);have hx1:=Box.below (Box.new w 27 [.slice A seed.length c,.int .i64 h,.int .i64 n]) (balloc _ (.cells #[.slice none 0 0,.int .i64 0,.int .i64 0] 27));have hx2:=Box.new (w.alloc (.cells #[.slice A seed.length c,.int .i64 h,.int .i64 n] 27)) 27 [.slice none 0 0,.int .i64 0,.int .i64 0];have hz:(w.alloc (.cells #[.slice A seed.length c,.int .i64 h,.int .i64 n] 27)).heap.size=w.heap.size+1:=xsa _ _;rw[hz] at hx2;change Box ((w.alloc (.cells #[.slice A seed.length c,.int .i64 h,.int .i64 n] 27)).alloc (.cells #[.slice none 0 0,.int .i64 0,.int .i64 0] 27)) _ _ _ at hx1 hx2;generalize (w.alloc (.cells #[.slice A seed.length c,.int .i64 h,.int .i64 n] 27)).alloc (.cells #[.slice none 0 0,.int .i64 0,.int .i64 0] 27)=W0 at *;clear hz;obtain⟨g,hg⟩:∃g,g=w.heap.size:=⟨_,rfl⟩
 rw[<-hg] at hx1 hx2 ⊢;replace hg:=lhd hg;replace hb0:=lhd hb0;refine (hval.out W0 (hu.out.below (hb0.out.mono hB))).mono ?_;rintro e W1 ⟨rfl,hb1⟩;replace hx1:=hx1.below hb1;replace hx2:=hx2.below hb1;replace hb1:=bgo hb0.out hb1;have z0:W1.cell? ⟨g+1,0,none⟩=some (.slice none 0 0):=hx2.cell 0;have z1:W1.cell? ⟨g+1,1,none⟩=some (.int .i64 0):=hx2.cell 1;have z2:W1.cell? ⟨g+1,2,none⟩=some (.int .i64 0):=hx2.cell 2;have f0:=hx2.frozen 0;have f1:=hx2.frozen 1;have f2:=hx2.frozen 2;have kz:=((hx2.set 0 (.slice none 0 0)).set 1 (.int .i64 0)).set 2 (.int .i64 0);simp only[xss,xsz] at kz;have hgw:w.heap.size<=g+1:=by have:=hg.out;omega
 have hlt:=hx2.lt;have hend:Below w.heap.size w (((W1.setCell ⟨g+1,0,none⟩ (.slice none 0 0)).setCell ⟨g+1,1,none⟩ (.int .i64 0)).setCell ⟨g+1,2,none⟩ (.int .i64 0)):=
  ((hb1.setCell (p:=⟨g+1,0,none⟩) hgw _).setCell (p:=⟨g+1,1,none⟩) hgw _).setCell (p:=⟨g+1,2,none⟩) hgw _
 replace kz:=lhd kz;replace hend:=lhd hend;clear hx1 hx2 hb1 hval hb0;dsimp only
 go_wp2_with fail
 have kz2:=kz.out;have hend2:=hend.out;clear kz hend z0 z1 z2 f0 f1 f2;generalize ((W1.setCell ⟨g+1,0,none⟩ (.slice none 0 0)).setCell ⟨g+1,1,none⟩ (.int .i64 0)).setCell ⟨g+1,2,none⟩ (.int .i64 0)=W2 at *;have z0:W2.cell? ⟨g+1,0,none⟩=some (.slice none 0 0):=kz2.cell 0;have z1:W2.cell? ⟨g+1,1,none⟩=some (.int .i64 0):=kz2.cell 1;have z2:W2.cell? ⟨g+1,2,none⟩=some (.int .i64 0):=kz2.cell 2;refine bodyPost_ret (v:=.tuple #[.agg #[.slice none 0 0,.int .i64 0,.int .i64 0],.slice none 0 0,.int .i64 3]) (by simp[results,results69,go_sem,z0,z1,z2]) rfl ?_;exact⟨rfl,hend2⟩
theorem sign_bad7 (B:Nat) (u u2:Value) (seed:Bs) (k:Nat) (w:World) (hu:SeesB w B u seed) (hB:B<=w.heap.size) (hl:seed.length=32) (hk:k<=6) :
 Calls prog 69 #[.agg #[u,.int .i64 (k:Int),.int .i64 ((2 ^ k:Nat):Int)],u2] w (SignBad 7 w):=by
 have hv:=validI_mk seed k (2 ^ k) hl hk nlr;clear hl;have hp:=wrap_pow k hk;have hp64:=pow_le64 k hk;have m0:IntKind.u64.wrap (k:Int)=(k:Int):=by rw[IntKind.wrap_u64];omega
 generalize 2 ^ k=N at *;obtain⟨A,c,rfl,-,-⟩:=hu.mk_;have hval:=fun W (hW:SeesB W B (.slice A seed.length c) seed)=>svalid_any B _ seed k N W hW
 rw[hv] at hval;replace hval:=lhd hval;replace hv:=lhd hv;replace hu:=lhd hu
 go_enter func69,ntmps69
 go_wp2_with fail
 have hb0:Below w.heap.size w ((w.alloc (.cells #[.slice A seed.length c,.int .i64 (k:Int),.int .i64 (N:Int)] 27)).alloc (.cells #[.slice none 0 0,.int .i64 0,.int .i64 0] 27)):=bgo (balloc w _) (balloc _ _);have hx1:=Box.below (Box.new w 27 [.slice A seed.length c,.int .i64 (k:Int),.int .i64 (N:Int)]) (balloc _ (.cells #[.slice none 0 0,.int .i64 0,.int .i64 0] 27));have hx2:=Box.new (w.alloc (.cells #[.slice A seed.length c,.int .i64 (k:Int),.int .i64 (N:Int)] 27)) 27 [.slice none 0 0,.int .i64 0,.int .i64 0];have hz:(w.alloc (.cells #[.slice A seed.length c,.int .i64 (k:Int),.int .i64 (N:Int)] 27)).heap.size=w.heap.size+1:=xsa _ _;rw[hz] at hx2;change Box ((w.alloc (.cells #[.slice A seed.length c,.int .i64 (k:Int),.int .i64 (N:Int)] 27)).alloc (.cells #[.slice none 0 0,.int .i64 0,.int .i64 0] 27)) _ _ _ at hx1 hx2;generalize (w.alloc (.cells #[.slice A seed.length c,.int .i64 (k:Int),.int .i64 (N:Int)] 27)).alloc (.cells #[.slice none 0 0,.int .i64 0,.int .i64 0] 27)=W0 at *;clear hz;obtain⟨g,hg⟩:∃g,g=w.heap.size:=⟨_,rfl⟩
 rw[<-hg] at hx1 hx2 ⊢;replace hg:=lhd hg;replace hb0:=lhd hb0;refine (hval.out W0 (hu.out.below (hb0.out.mono hB))).mono ?_;rintro e W1 ⟨rfl,hb1⟩;replace hx1:=hx1.below hb1;replace hx2:=hx2.below hb1;replace hb1:=bgo hb0.out hb1;have c1:W1.cell? ⟨g,1,none⟩=some (.int .i64 (k:Int)):=hx1.cell 1;have c2:W1.cell? ⟨g,2,none⟩=some (.int .i64 (N:Int)):=hx1.cell 2;clear hb0 hval;replace hx1:=lhd hx1;replace hx2:=lhd hx2;replace hb1:=lhd hb1;dsimp only
 go_wp2_with fail
 go_quiet (fail)
 have hx2q:Box (W1.drewN nq) (g+1) 27 _:=hx2.out;have hb1q:=below_drewN hb1.out nq;clear c1 c2 hx1 hx2 hb1;generalize W1.drewN nq=W1 at *;have hx2:=hx2q;have hb1:=hb1q;clear hx2q hb1q;have z0:W1.cell? ⟨g+1,0,none⟩=some (.slice none 0 0):=hx2.cell 0;have z1:W1.cell? ⟨g+1,1,none⟩=some (.int .i64 0):=hx2.cell 1;have z2:W1.cell? ⟨g+1,2,none⟩=some (.int .i64 0):=hx2.cell 2;have f0:=hx2.frozen 0;have f1:=hx2.frozen 1;have f2:=hx2.frozen 2;have kz:=((hx2.set 0 (.slice none 0 0)).set 1 (.int .i64 0)).set 2 (.int .i64 0);simp only[xss,xsz] at kz;have hgw:w.heap.size<=g+1:=by have:=hg.out;omega
 have hlt:=hx2.lt;have hend:Below w.heap.size w (((W1.setCell ⟨g+1,0,none⟩ (.slice none 0 0)).setCell ⟨g+1,1,none⟩ (.int .i64 0)).setCell ⟨g+1,2,none⟩ (.int .i64 0)):=
  ((hb1.setCell (p:=⟨g+1,0,none⟩) hgw _).setCell (p:=⟨g+1,1,none⟩) hgw _).setCell (p:=⟨g+1,2,none⟩) hgw _
 replace kz:=lhd kz;replace hend:=lhd hend;clear hx2 hb1
 go_wp2_with fail
 have kz2:=kz.out;have hend2:=hend.out;clear kz hend z0 z1 z2 f0 f1 f2;generalize ((W1.setCell ⟨g+1,0,none⟩ (.slice none 0 0)).setCell ⟨g+1,1,none⟩ (.int .i64 0)).setCell ⟨g+1,2,none⟩ (.int .i64 0)=W2 at *;have z0:W2.cell? ⟨g+1,0,none⟩=some (.slice none 0 0):=kz2.cell 0;have z1:W2.cell? ⟨g+1,1,none⟩=some (.int .i64 0):=kz2.cell 1;have z2:W2.cell? ⟨g+1,2,none⟩=some (.int .i64 0):=kz2.cell 2;refine bodyPost_ret (v:=.tuple #[.agg #[.slice none 0 0,.int .i64 0,.int .i64 0],.slice none 0 0,.int .i64 7]) (by simp[results,results69,go_sem,z0,z1,z2]) rfl ?_;exact⟨rfl,hend2⟩
theorem sign_all (B:Nat) (u u2:Value) (seed m:Bs) (h n:Int) (w:World) (hu:SeesB w B u seed) (hu2:SeesB w B u2 m) (hB:B<=w.heap.size) (hm:m.length<=65535) :
 Calls prog 69 #[.agg #[u,.int .i64 h,.int .i64 n],u2] w (SignPost (signAll seed h n m) w):=by
 by_cases hv:validI seed h n=true
 ·have hh:seed.length=32/\0<=h/\h<=6/\0<=n/\n<=2 ^ h.toNat:=by simp[validI] at hv;omega
  obtain⟨hl,h0,h1,h2,h3⟩:=hh;obtain⟨k,rfl⟩:=Int.eq_ofNat_of_zero_le h0;obtain⟨i,rfl⟩:=Int.eq_ofNat_of_zero_le h2;rw[xnc] at h3;have hpc:((2 ^ k:Nat):Int)=(2:Int) ^ k:=by simp
  by_cases hn:(i:Int)=2 ^ k
  ·have:signAll seed k i m=([],0,0,[],7):=by
    rw[signAll,if_pos hv,if_pos (by rw[xnc];exact hn)]
   rw[this,hn,<-hpc];exact (sign_bad7 B u u2 seed k w hu hB hl (by omega)).mono fun _ _ h=>signBad_post h
  have:signAll seed k i m=(seed,(k:Int),(i:Int)+1,sigG seed k i m,0):=by simp[signAll,hv,hn]
  rw[this];exact (sign_ok B u u2 seed m k i w hu hu2 hB hl (by omega) (by omega) hm).mono fun _ _ h=>signOk_post h
 have:signAll seed h n m=([],0,0,[],3):=by simp[signAll,hv]
 rw[this];exact (sign_bad3 B u u2 seed h n w hu hB (by simpa using hv)).mono fun _ _ h=>signBad_post h
theorem chk1_any (A:Option Addr) (n c:Nat) (w:World):Calls prog 136 #[.slice A n c] w fun e w'=>e=.returned (.bool (!decide ((n:Int)=32)))/\w'=w:=by
 go_enter func136,ntmps136
 go_wp2_with fail
 go_ret
 exact⟨by by_cases h:(n:Int)=32<;>simp[h],rfl⟩
theorem idx_any (B:Nat) (u:Value) (ls:List Bs) (w:World) (hu:SeesL w B u ls) (hB:B<=w.heap.size) (hn:ls.length<=1048576) :
 Calls prog 166 #[u,.func (.func 136) #[] #[]] w fun e w'=>(∃i:Int,e=.returned (.int .i64 i)/\decide (0<=i)=!(all32 ls))/\Below w.heap.size w w':=by
 obtain⟨A,c,rfl,-,-⟩:=hu.mk_;replace hu:=lhd hu
 go_enter func166,ntmps166
 go_wp2_with fail
 go_loopw [8] (fun t wr=>∃k:Nat,k<=ls.length/\t=.int .i64 k/\Hid (all32 (ls.take k)=true)/\Hid (Below w.heap.size w wr)) (fun t _=>ls.length - (intOf t).toNat)
 case atStart=>exact⟨0,by omega,rfl,rfl,Below.refl _ _⟩
 case round=>
  obtain⟨k,hk,rfl,ha,hb⟩:=hrel
  by_cases hlt:k<ls.length
  ·obtain⟨b,o,rfl,hbB,hds⟩:=(hu.out.below (hb.out.mono hB)).at_ (by omega)
   obtain⟨A',c',y1,-,-,sd⟩:=hds k hlt;have hdk:ls[k]?=some (ls.getD k []):=by rw[xgd,xge hlt];rfl
   have hst:=lhd (all32_take ls k _ hdk);generalize hda:ls.getD k []=da at *;have i0:(k:Int)<(ls.length:Int):=by omega
   have hmem:Hid (da∈ls):=by show _∈_;exact List.mem_of_getElem? hdk
   have hc1:=lhd (fun W=>chk1_any A' da.length c' W);replace hda:=lhd hda;replace hdk:=lhd hdk;clear hds sd
   go_wp2_with fail
   refine (hc1.out wr).mono ?_;rintro e w1 ⟨rfl,hw⟩;obtain rfl:=hw.symm;dsimp only
   by_cases h32:da.length=32
   ·have hd:(!decide ((da.length:Int)=32))=false:=by simp;omega
    rw[hd];have hst2:Hid (all32 (ls.take (k+1))=true):=by show _=_;rw[hst.out,ha.out];simp[h32]
    clear hd;replace h32:=lhd h32
    go_wp2_with fail
    go_roundw
    case rel=>exact⟨k+1,by omega,by go_num,hst2,hb⟩
    case measure=>simp[intOf];omega
   have hd:(!decide ((da.length:Int)=32))=true:=by simp;omega
   rw[hd];have hno:Hid (all32 ls=false):=by
    show _=_;cases h:all32 ls with
    | false=>rfl
    | true=>exact absurd (all32_each h da hmem.out) h32
   clear hd;replace h32:=lhd h32
   go_wp2_with fail
   go_returns
   exact⟨⟨_,rfl,by rw[hno.out];simp⟩,hb.out⟩
  have i0:¬(k:Int)<(ls.length:Int):=by omega
  rw[xtl (by omega)] at ha
  go_wp2_with fail
  go_returns
  exact⟨⟨_,rfl,by rw[ha.out];rfl⟩,hb.out⟩
theorem cont_any (B:Nat) (u:Value) (ls:List Bs) (w:World) (hu:SeesL w B u ls) (hB:B<=w.heap.size) (hn:ls.length<=1048576) :
 Calls prog 86 #[u,.func (.func 136) #[] #[]] w (BoolPost (!(all32 ls)) w):=by
 have hi:=lhd (idx_any B u ls w hu hB hn);obtain⟨A,c,rfl,-,-⟩:=hu.mk_;clear hu
 go_enter func86,ntmps86
 go_wp2_with fail
 refine hi.out.mono ?_;rintro e w1 ⟨⟨i,rfl,hd⟩,hb⟩;replace hd:=lhd hd;dsimp only
 go_wp2_with fail
 go_ret
 exact⟨by rw[<-hd.out];rfl,hb⟩
theorem bcheck_any (B:Nat) (u u2:Value) (sd:Bs) (h n:Int) (ns:List Bs) (lo hi:Int) (w:World) (hu:SeesB w B u sd) (hu2:SeesL w B u2 ns) (hB:B<=w.heap.size) :
 Calls prog 67 #[.agg #[u,.int .i64 h,.int .i64 n],u2,.agg #[.int .i64 lo,.int .i64 hi]] w fun e w'=>e=.returned (.int .i64 (bchkC sd h n ns lo hi))/\Below w.heap.size w w':=by
 obtain⟨A,c,rfl,-,-⟩:=hu.mk_;obtain⟨A2,c2,rfl,-,-⟩:=hu2.mk_;have hC:Hid (∀x:Int,bchkC sd h n ns lo hi=x->bchkC sd h n ns lo hi=x):=fun _ h=>h
 have hal:=bgo (balloc w (.cells #[.slice A sd.length c,.int .i64 h,.int .i64 n] 27)) (balloc _ (.cells #[.int .i64 lo,.int .i64 hi] 24));have hva:=lhd (svalid_any _ (.slice A sd.length c) sd h n _ (seesB_of hu hB hal));have hls:=lhd (fun W (hW:Below w.heap.size w W) (hn:ns.length<=1048576)=>cont_any B _ ns W (hu2.below (hW.mono hB)) (Nat.le_trans hB hW.size) hn);have hvs:=lhd (fun W=>valid_any lo hi W);have x3:=(Box.new w 27 [.slice A sd.length c,.int .i64 h,.int .i64 n]).below (balloc _ (.cells #[.int .i64 lo,.int .i64 hi] 24));have x5:=Box.new (w.alloc (.cells #[.slice A sd.length c,.int .i64 h,.int .i64 n] 27)) 24 [.int .i64 lo,.int .i64 hi];rw[xsa] at x5;have c0:=x3.cell 0;have c1:=x3.cell 1;have c2':=x3.cell 2;simp only[xqz,xqs] at c0 c1 c2';have x5':=lhd x5;replace hal:=lhd hal;clear hu hu2 x3 x5
 go_enter func67,ntmps67
 go_upto_region 1 with (fail)
 generalize (w.alloc (.cells #[.slice A sd.length c,.int .i64 h,.int .i64 n] 27)).alloc (.cells #[.int .i64 lo,.int .i64 hi] 24)=W at *;generalize w.heap.size+1=g5 at *
 go_wp2_with fail
 refine hva.out.mono ?_;rintro e w1 ⟨rfl,hb1⟩;have hbw:=lhd (bgo hal.out hb1);have x5:=x5'.out.below hb1;clear c0 c1 c2' hva x5';dsimp only;cases hV:validI sd h n with
 | false=>
   have hr:Hid (bchkC sd h n ns lo hi=3):=by show _=_;rw[bchkC,hV];rfl
   clear x5
   go_wp2_with fail
   go_returns
   exact⟨by rw[hr.out];rfl,hbw.out⟩
 | true=>
   by_cases h8:ns.length<1\/16<ns.length
   ·have hr:Hid (bchkC sd h n ns lo hi=8):=by show _=_;rw[bchkC,if_pos hV,if_pos h8]
    clear x5;rcases h8 with h8|h8
    ·have i0:(ns.length:Int)<1:=by omega
     go_wp2_with fail
     go_returns
     exact⟨by rw[hr.out];rfl,hbw.out⟩
    have i0:¬(ns.length:Int)<1:=by omega
    have i1:(16:Int)<(ns.length:Int):=by omega
    go_wp2_with fail
    go_returns
    exact⟨by rw[hr.out];rfl,hbw.out⟩
   have i0:¬(ns.length:Int)<1:=by omega
   have i1:¬(16:Int)<(ns.length:Int):=by omega
   have hr:Hid (bchkC sd h n ns lo hi=if (vS lo hi&&all32 ns)=true then 0 else 3):=by show _=_;rw[bchkC,if_pos hV,if_neg h8]
   have y0:=x5.cell 0;have y1:=x5.cell 1;simp only[xqz,xqs] at y0 y1;replace h8:=lhd h8;replace hV:=lhd hV;clear x5
   go_wp2_with fail
   refine (hvs.out _).mono ?_;rintro e w2 ⟨rfl,hb2⟩;replace hbw:=lhd (bgo hbw.out hb2);clear y0 y1;dsimp only;cases hv:vS lo hi with
   | false=>
     rw[hv] at hr;replace hv:=lhd hv
     go_wp2_with fail
     go_returns
     exact⟨by rw[hr.out];rfl,hbw.out⟩
   | true=>
     rw[hv] at hr;replace hv:=lhd hv;have hcn:=lhd (hls.out w2 hbw.out (by have:=h8.out;omega))
     go_wp2_with fail
     refine hcn.out.mono ?_;rintro e w3 ⟨rfl,hb3⟩;replace hbw:=lhd (bgo hbw.out hb3);dsimp only;cases ha:all32 ns with
     | false=>
       rw[ha] at hr
       go_wp2_with fail
       go_returns
       exact⟨by rw[hr.out];rfl,hbw.out⟩
     | true=>
       rw[ha] at hr
       go_wp2_with fail
       go_returns
       exact⟨by rw[hr.out];rfl,hbw.out⟩
theorem names2_litR (w:World):SeesR (w.alloc (.cells #[.string ⟨#[82,79,79,84]⟩,.string ⟨#[83,80,65,78]⟩] 9)) (w.heap.size+1) (.slice (some ⟨w.heap.size,0,none⟩) 2 2) 1 2 (nameS names2):=names2_lit w
theorem bsigned_any (B:Nat) (u:Value) (ns:List Bs) (lo hi:Int) (w:World) (hu:SeesL w B u ns) (hB:B<=w.heap.size) (hv:vS lo hi=true) (hn:ns.length<=16) (hl:∀l∈ns,l.length=32) :
 Calls prog 68 #[u,.agg #[.int .i64 lo,.int .i64 hi]] w (Gives (partG ns lo hi) w):=by
 obtain⟨A,c,rfl,-,-⟩:=hu.mk_;have hal:=balloc w (.cells #[.int .i64 lo,.int .i64 hi] 24);have x3:=Box.new w 24 [.int .i64 lo,.int .i64 hi];change Box (w.alloc (.cells #[.int .i64 lo,.int .i64 hi] 24)) _ _ _ at x3;have hrt:=lhd (root_top ns B _ _ (hu.below (hal.mono hB)) (Nat.le_trans hB hal.size) (by omega) (fun l h=>by rw[hl l h];omega));have hsp:=lhd (fun W=>span_any lo hi W);have hR:Hid ((rootG (ns.map leafH)).length=32):=rootG_len _ (leafs_len ns);have hS:=lhd (pb16 lo hi);have hsl:spanL lo hi=spanB lo hi:=by rw[spanL,if_pos hv]
 replace hal:=lhd hal;replace hv:=lhd hv;clear hu hl
 go_enter func68,ntmps68
 go_upto_region 1 with (fail)
 generalize w.alloc (.cells #[.int .i64 lo,.int .i64 hi] 24)=W at *;generalize hgg:w.heap.size=g3 at x3 ⊢;replace hgg:=lhd hgg
 go_wp2_with fail
 refine hrt.out.mono ?_;rintro e w1 ⟨v1,rfl,o1,hb1⟩;obtain⟨A1,c1,rfl,-,-⟩:=o1.sees.mk_;replace x3:=x3.below hb1;have hbw:=lhd (bgo hal.out hb1);have y0:=x3.cell 0;have y1:=x3.cell 1;simp only[xqz,xqs] at y0 y1;clear hrt hb1;dsimp only
 go_wp2_with fail
 refine (hsp.out _).mono ?_;rintro e w2 ⟨v2,rfl,o2,hb2⟩;rw[hsl] at o2;obtain⟨A2,c2,rfl,-,-⟩:=o2.sees.mk_;have s1:=seesB_of o1.sees nlr hb2;have s2:=o2.sees;replace hbw:=lhd (bgo hbw.out hb2);have hn2:=names2_litR w2;have hal2:=balloc w2 (.cells #[.string ⟨#[82,79,79,84]⟩,.string ⟨#[83,80,65,78]⟩] 9);replace s1:=seesB_of s1 nlr hal2;replace s2:=seesB_of s2 nlr hal2;rw[<-xsa w2 (.cells #[.string ⟨#[82,79,79,84]⟩,.string ⟨#[83,80,65,78]⟩] 9)] at hn2;replace hbw:=lhd (bgo hbw.out hal2);have hpg:Hid (partG ns lo hi=encT [(nROOT,rootG (ns.map leafH)),(nSPAN,spanB lo hi)]):=rfl;generalize rootG (ns.map leafH)=R at *;generalize spanB lo hi=S at *;have hms:=message_any ((w2.alloc (.cells #[.string ⟨#[82,79,79,84]⟩,.string ⟨#[83,80,65,78]⟩] 9)).alloc (.cells #[.slice A1 R.length c1,.slice A2 S.length c2] 25)).heap.size (.slice (some ⟨w2.heap.size,0,none⟩) 2 2) (.slice (some ⟨(w2.alloc (.cells #[.string ⟨#[82,79,79,84]⟩,.string ⟨#[83,80,65,78]⟩] 9)).heap.size,0,none⟩) 2 2) names2 [R,S] ((w2.alloc (.cells #[.string ⟨#[82,79,79,84]⟩,.string ⟨#[83,80,65,78]⟩] 9)).alloc (.cells #[.slice A1 R.length c1,.slice A2 S.length c2] 25))
  ((hn2.below (balloc _ _)).more (balloc _ _).size)
  (seesL_lit _ 25 (vs:=[.slice A1 R.length c1,.slice A2 S.length c2]) ⟨s1,s2,trivial⟩ (by simp[maxLen]))
  nlr rfl (by simp[names2]) (by
   have h1:=hR.out;have h2:=hS.out;simp only[names2,List.zip_cons_cons,List.zip_nil_right,dataT,xmp,List.map_nil,xfc,List.flatten_nil,xla,List.length_nil]
   omega)
 rw[show names2.zip [R,S]=[(nROOT,R),(nSPAN,S)] from rfl] at hms;replace hbw:=lhd (bgo hbw.out (balloc (w2.alloc (.cells #[.string ⟨#[82,79,79,84]⟩,.string ⟨#[83,80,65,78]⟩] 9)) (.cells #[.slice A1 R.length c1,.slice A2 S.length c2] 25)));rw[xsa] at hms;replace hms:=lhd hms;clear y0 y1 x3 hsp o1 o2 s1 s2 hn2 hal2 hb2;dsimp only
 go_wp2_with fail
 refine hms.out.mono ?_;rintro e w3 ⟨v3,rfl,o3,hb3⟩;have hsz:=hbw.out.size;replace hbw:=lhd (bgo hbw.out hb3);obtain⟨A3,c3,rfl,-,-⟩:=o3.sees.mk_;dsimp only
 go_wp2_with fail
 go_returns
 exact⟨_,rfl,by rw[hpg.out];exact o3.mono hsz,hbw.out⟩
theorem ansTags_zip (i n:Nat) (P S part:Bs):names5.zip [putB 4 i,putB 4 n,P,pad4 S,part]=ansTags i n P S part:=rfl
theorem jtwo {Y X:World} {v1 v2:Value} {a b:Bs} (s1:SeesB Y Y.heap.size v1 a) (s2:SeesB Y Y.heap.size v2 b) (G:Nat) (hG:G=Y.heap.size) (hX:Below (Y.alloc (.cells #[v1,v2] 25)).heap.size (Y.alloc (.cells #[v1,v2] 25)) X) (hl:(a++b).length<=1099511627776) :
 Calls prog 70 #[.slice (some ⟨G,0,none⟩) 2 2] X (Gives (a++b) X):=by
 subst hG;have h:=seesL_lit Y 25 (vs:=[v1,v2]) (ls:=[a,b]) ⟨s1,s2,trivial⟩ (by simp[maxLen]);have hf:[a,b].flatten=a++b:=by simp
 have:=join_any _ _ [a,b] X (h.below hX) hX.size (by rw[hf];exact hl)
 rw[hf] at this;exact this
theorem answer_any (B:Nat) (u u2:Value) (sd:Bs) (h n:Int) (ns:List Bs) (lo hi:Int) (w:World) (hu:SeesB w B u sd) (hu2:SeesL w B u2 ns) (hB:B<=w.heap.size) (hn:ns.length<=1048576) :
 Calls prog 16 #[.agg #[u,.int .i64 h,.int .i64 n],u2,.agg #[.int .i64 lo,.int .i64 hi]] w (AnswerP (answerR sd h n ns lo hi) w):=by
 obtain⟨A,c,rfl,-,-⟩:=hu.mk_;obtain⟨A2,c2,rfl,-,-⟩:=hu2.mk_;have b3:=bgo (bgo (balloc w (.cells #[.slice A sd.length c,.int .i64 h,.int .i64 n] 27)) (balloc _ (.cells #[.int .i64 lo,.int .i64 hi] 24))) (balloc _ (.cells #[.slice none 0 0,.int .i64 0,.int .i64 0] 27));have x3:=((Box.new w 27 [.slice A sd.length c,.int .i64 h,.int .i64 n]).below (balloc _ (.cells #[.int .i64 lo,.int .i64 hi] 24))).below (balloc _ (.cells #[.slice none 0 0,.int .i64 0,.int .i64 0] 27));have x5:=(Box.new (w.alloc (.cells #[.slice A sd.length c,.int .i64 h,.int .i64 n] 27)) 24 [.int .i64 lo,.int .i64 hi]).below (balloc _ (.cells #[.slice none 0 0,.int .i64 0,.int .i64 0] 27));have x6:=Box.new ((w.alloc (.cells #[.slice A sd.length c,.int .i64 h,.int .i64 n] 27)).alloc (.cells #[.int .i64 lo,.int .i64 hi] 24)) 27 [.slice none 0 0,.int .i64 0,.int .i64 0];rw[xsa] at x5;rw[xsa,xsa] at x6;have su:=lhd (seesB_of hu hB b3);have sn:=lhd (seesL_of hu2 hB b3);have hg6:w.heap.size<=w.heap.size+1+1:=by omega
 replace hg6:=lhd hg6;have hn9:=lhd hn;have hbw:=lhd b3;clear hu hu2 b3 hn;change Box (((w.alloc (.cells #[.slice A sd.length c,.int .i64 h,.int .i64 n] 27)).alloc (.cells #[.int .i64 lo,.int .i64 hi] 24)).alloc (.cells #[.slice none 0 0,.int .i64 0,.int .i64 0] 27)) _ _ _ at x3 x5 x6
 go_enter func16,ntmps16
 go_upto_region 1 with (fail)
 generalize ((w.alloc (.cells #[.slice A sd.length c,.int .i64 h,.int .i64 n] 27)).alloc (.cells #[.int .i64 lo,.int .i64 hi] 24)).alloc (.cells #[.slice none 0 0,.int .i64 0,.int .i64 0] 27)=W0 at *;generalize hG6:w.heap.size+1+1=g6 at *;generalize hG5:w.heap.size+1=g5 at *;generalize hG3:w.heap.size=g3 at x3 ⊢;replace hG6:=lhd hG6;replace hG5:=lhd hG5;replace hG3:=lhd hG3;obtain⟨a0,a1,a2,-,-,-⟩:=box3_cells x3;obtain⟨a3,a4⟩:=boxT2 x5;have hck:=lhd (bcheck_any W0.heap.size _ _ sd h n ns lo hi W0 su.out sn.out nlr)
 go_wp2_with fail
 refine hck.out.mono ?_;rintro e w1 ⟨rfl,hb1⟩;replace x3:=x3.below hb1;replace x5:=x5.below hb1;replace x6:=x6.below hb1;replace su:=lhd (seesB_of su.out nlr hb1);replace sn:=lhd (seesL_of sn.out nlr hb1);replace hbw:=lhd (bgo hbw.out hb1);clear a0 a1 a2 a3 a4 hck hb1;dsimp only
 by_cases E1:bchkC sd h n ns lo hi=0
 rotate_left
 ·have hr:Hid (answerR sd h n ns lo hi=(([],0,0),[],bchkC sd h n ns lo hi)):=by show _=_;rw[answerR,if_neg E1]
  have hE:(bchkC sd h n ns lo hi == 0)=false:=by simp[E1]
  generalize bchkC sd h n ns lo hi=E at *;replace E1:=lhd E1;clear x3 x5;obtain⟨y0,y1,y2,f0,f1,f2⟩:=box3_cells x6
  go_wp2_with fail
  have k:=box_set3 x6 (.slice none 0 0) (.int .i64 0) (.int .i64 0);have kb:=lhd (below_set3 hbw.out hg6.out (.slice none 0 0) (.int .i64 0) (.int .i64 0));clear y0 y1 y2 f0 f1 f2 x6;generalize ((w1.setCell ⟨g6,0,none⟩ (.slice none 0 0)).setCell ⟨g6,1,none⟩ (.int .i64 0)).setCell ⟨g6,2,none⟩ (.int .i64 0)=W9 at *;obtain⟨z0,z1,z2,-,-,-⟩:=box3_cells k;refine bodyPost_ret (v:=.tuple #[.agg #[.slice none 0 0,.int .i64 0,.int .i64 0],.slice none 0 0,.int .i64 E]) (by simp[results,results16,go_sem,z0,z1,z2]) rfl ?_;exact answer_bad hr.out kb.out
 obtain⟨hvI,hn1,hn2,hvs,h32⟩:=bchk_zero E1;have hr:Hid (answerR sd h n ns lo hi=if (signAll sd h n (tBatch++partG ns lo hi)).2.2.2.2=0 then
  (((signAll sd h n (tBatch++partG ns lo hi)).1,(signAll sd h n (tBatch++partG ns lo hi)).2.1,(signAll sd h n (tBatch++partG ns lo hi)).2.2.1),ansL ns (signAll sd h n (tBatch++partG ns lo hi)).2.2.2.1 (partG ns lo hi) ns.length,0)
  else (([],0,0),[],(signAll sd h n (tBatch++partG ns lo hi)).2.2.2.2)):=by show _=_;rw[answerR,if_pos E1]
 rw[E1];have hsg:=lhd (bsigned_any w1.heap.size _ ns lo hi w1 sn.out nlr hvs hn2 h32);have hTl2:=partG_len ns lo hi;generalize partG ns lo hi=T at *;obtain⟨a3,a4⟩:=boxT2 x5;replace E1:=lhd E1;replace hvI:=lhd hvI;replace hvs:=lhd hvs;replace h32:=lhd h32
 go_wp2_with fail
 refine hsg.out.mono ?_;rintro e W2 ⟨v7,rfl,o7,hb2⟩;have sp2:=o7.sees;obtain⟨A7,c7,rfl,-,-⟩:=o7.sees.mk_;replace sp2:=lhd sp2;replace x3:=x3.below hb2;replace x6:=x6.below hb2;replace su:=lhd (seesB_of su.out nlr hb2);replace sn:=lhd (seesL_of sn.out nlr hb2);replace hbw:=lhd (bgo hbw.out hb2);clear a3 a4 x5 hsg hb2 o7;dsimp only;have hm:(tBatch++T).length<=65535:=by rw[xla];simp[tBatch];omega
 have hTl:Hid ((tBatch++T).length<=1099511627776):=by show _<=_;omega
 have hsn:=fun (W:World) (v:Value) (hW:Below W2.heap.size W2 W) (hv:SeesB W W.heap.size v (tBatch++T))=>sign_all W.heap.size (.slice A sd.length c) v sd (tBatch++T) h n W (seesB_of su.out nlr hW) hv nlr hm
 have hrg:=fun h0=>sign_sig (m:=tBatch++T) hvI.out h0
 generalize hsa:signAll sd h n (tBatch++T)=r at *;replace hsa:=lhd hsa;obtain⟨rs,rh,rn,rg,rc⟩:=r;dsimp only at hr hrg;have hrl:Hid (rc=0->rg.length<=757):=fun h0=>by
  obtain⟨k',i',-,-,hk6,-,-,e9⟩:=hrg h0;cases e9;rw[sigG_len]
  omega
 unfold SignPost at hsn;dsimp only at hsn;replace hsn:=lhd hsn;replace hm:=lhd hm;have K:Hid (∀W:World,Below W2.heap.size W2 W->W.cell? ⟨g3,0,none⟩=some (.slice A sd.length c)/\W.cell? ⟨g3,1,none⟩=some (.int .i64 h)/\W.cell? ⟨g3,2,none⟩=some (.int .i64 n)):=fun W hW=>⟨(x3.below hW).cell 0,(x3.below hW).cell 1,(x3.below hW).cell 2⟩
 obtain⟨c0,c1,c2'⟩:=K.out W2 (Below.refl _ _);clear hrg x3
 go_wp2_with fail
 go_cut [11,12,13] (fun v11 v12 v13 W=>SgnR W2 rs rh rn rg rc v11 v12 v13 W)
 case first=>
  have sT:=sp2.out;have q1:SeesB (W2.alloc (.cells #[.int .u8 115,.int .u8 101,.int .u8 99,.int .u8 116,.int .u8 105,.int .u8 109,.int .u8 101,.int .u8 32,.int .u8 98,.int .u8 97,.int .u8 116,.int .u8 99,.int .u8 104] 5 (13,14))) (W2.alloc (.cells #[.int .u8 115,.int .u8 101,.int .u8 99,.int .u8 116,.int .u8 105,.int .u8 109,.int .u8 101,.int .u8 32,.int .u8 98,.int .u8 97,.int .u8 116,.int .u8 99,.int .u8 104] 5 (13,14))).heap.size (.slice (some ⟨W2.heap.size,0,none⟩) 13 13) tBatch:=(lit13_sees W2).more (by rw[xsa];exact Nat.le_refl _);have p1:SeesB (W2.alloc (.cells #[.int .u8 115,.int .u8 101,.int .u8 99,.int .u8 116,.int .u8 105,.int .u8 109,.int .u8 101,.int .u8 32,.int .u8 98,.int .u8 97,.int .u8 116,.int .u8 99,.int .u8 104] 5 (13,14))) (W2.alloc (.cells #[.int .u8 115,.int .u8 101,.int .u8 99,.int .u8 116,.int .u8 105,.int .u8 109,.int .u8 101,.int .u8 32,.int .u8 98,.int .u8 97,.int .u8 116,.int .u8 99,.int .u8 104] 5 (13,14))).heap.size (.slice A7 T.length c7) T:=seesB_of sT nlr (balloc W2 _)
  have q2:SeesB ((W2.alloc (.cells #[.slice none 0 0,.int .i64 0,.int .i64 0] 27)).alloc (.cells #[.int .u8 115,.int .u8 101,.int .u8 99,.int .u8 116,.int .u8 105,.int .u8 109,.int .u8 101,.int .u8 32,.int .u8 98,.int .u8 97,.int .u8 116,.int .u8 99,.int .u8 104] 5 (13,14))) ((W2.alloc (.cells #[.slice none 0 0,.int .i64 0,.int .i64 0] 27)).alloc (.cells #[.int .u8 115,.int .u8 101,.int .u8 99,.int .u8 116,.int .u8 105,.int .u8 109,.int .u8 101,.int .u8 32,.int .u8 98,.int .u8 97,.int .u8 116,.int .u8 99,.int .u8 104] 5 (13,14))).heap.size (.slice (some ⟨W2.heap.size+1,0,none⟩) 13 13) tBatch:=by have h:=lit13_sees (W2.alloc (.cells #[.slice none 0 0,.int .i64 0,.int .i64 0] 27));rw[xsa] at h;exact h.more (by rw[xsa,xsa];exact Nat.le_refl _)
  have p2:SeesB ((W2.alloc (.cells #[.slice none 0 0,.int .i64 0,.int .i64 0] 27)).alloc (.cells #[.int .u8 115,.int .u8 101,.int .u8 99,.int .u8 116,.int .u8 105,.int .u8 109,.int .u8 101,.int .u8 32,.int .u8 98,.int .u8 97,.int .u8 116,.int .u8 99,.int .u8 104] 5 (13,14))) ((W2.alloc (.cells #[.slice none 0 0,.int .i64 0,.int .i64 0] 27)).alloc (.cells #[.int .u8 115,.int .u8 101,.int .u8 99,.int .u8 116,.int .u8 105,.int .u8 109,.int .u8 101,.int .u8 32,.int .u8 98,.int .u8 97,.int .u8 116,.int .u8 99,.int .u8 104] 5 (13,14))).heap.size (.slice A7 T.length c7) T:=seesB_of sT nlr (bgo (balloc W2 _) (balloc _ _));have q3:SeesB ((W2.alloc (.cells #[.int .u8 115,.int .u8 101,.int .u8 99,.int .u8 116,.int .u8 105,.int .u8 109,.int .u8 101,.int .u8 32,.int .u8 98,.int .u8 97,.int .u8 116,.int .u8 99,.int .u8 104] 5 (13,14))).alloc (.cells #[.slice none 0 0,.int .i64 0,.int .i64 0] 27)) ((W2.alloc (.cells #[.int .u8 115,.int .u8 101,.int .u8 99,.int .u8 116,.int .u8 105,.int .u8 109,.int .u8 101,.int .u8 32,.int .u8 98,.int .u8 97,.int .u8 116,.int .u8 99,.int .u8 104] 5 (13,14))).alloc (.cells #[.slice none 0 0,.int .i64 0,.int .i64 0] 27)).heap.size (.slice (some ⟨W2.heap.size,0,none⟩) 13 13) tBatch:=seesB_of q1 nlr (balloc _ _)
  have p3:SeesB ((W2.alloc (.cells #[.int .u8 115,.int .u8 101,.int .u8 99,.int .u8 116,.int .u8 105,.int .u8 109,.int .u8 101,.int .u8 32,.int .u8 98,.int .u8 97,.int .u8 116,.int .u8 99,.int .u8 104] 5 (13,14))).alloc (.cells #[.slice none 0 0,.int .i64 0,.int .i64 0] 27)) ((W2.alloc (.cells #[.int .u8 115,.int .u8 101,.int .u8 99,.int .u8 116,.int .u8 105,.int .u8 109,.int .u8 101,.int .u8 32,.int .u8 98,.int .u8 97,.int .u8 116,.int .u8 99,.int .u8 104] 5 (13,14))).alloc (.cells #[.slice none 0 0,.int .i64 0,.int .i64 0] 27)).heap.size (.slice A7 T.length c7) T:=seesB_of p1 nlr (balloc _ _);have hja:=lhd (jtwo (X:=((W2.alloc (.cells #[.int .u8 115,.int .u8 101,.int .u8 99,.int .u8 116,.int .u8 105,.int .u8 109,.int .u8 101,.int .u8 32,.int .u8 98,.int .u8 97,.int .u8 116,.int .u8 99,.int .u8 104] 5 (13,14))).alloc (.cells #[.slice (some ⟨W2.heap.size,0,none⟩) 13 13,.slice A7 T.length c7] 25))) q1 p1 (W2.heap.size+1) (by simp only[xsa]) (Below.refl _ _) hTl.out);have hda:=lhd (jtwo (X:=((W2.alloc (.cells #[.int .u8 115,.int .u8 101,.int .u8 99,.int .u8 116,.int .u8 105,.int .u8 109,.int .u8 101,.int .u8 32,.int .u8 98,.int .u8 97,.int .u8 116,.int .u8 99,.int .u8 104] 5 (13,14))).alloc (.cells #[.slice (some ⟨W2.heap.size,0,none⟩) 13 13,.slice A7 T.length c7] 25)).drew) q1 p1 (W2.heap.size+1) (by simp only[xsa]) (bgo (Below.refl _ _) (bdrew _)) hTl.out)
  have hjb:=lhd (jtwo (X:=(((W2.alloc (.cells #[.int .u8 115,.int .u8 101,.int .u8 99,.int .u8 116,.int .u8 105,.int .u8 109,.int .u8 101,.int .u8 32,.int .u8 98,.int .u8 97,.int .u8 116,.int .u8 99,.int .u8 104] 5 (13,14))).alloc (.cells #[.slice (some ⟨W2.heap.size,0,none⟩) 13 13,.slice A7 T.length c7] 25)).alloc (.cells #[.slice none 0 0,.int .i64 0,.int .i64 0] 27))) q1 p1 (W2.heap.size+1) (by simp only[xsa]) (balloc _ _) hTl.out);have hdb:=lhd (jtwo (X:=(((W2.alloc (.cells #[.int .u8 115,.int .u8 101,.int .u8 99,.int .u8 116,.int .u8 105,.int .u8 109,.int .u8 101,.int .u8 32,.int .u8 98,.int .u8 97,.int .u8 116,.int .u8 99,.int .u8 104] 5 (13,14))).alloc (.cells #[.slice (some ⟨W2.heap.size,0,none⟩) 13 13,.slice A7 T.length c7] 25)).alloc (.cells #[.slice none 0 0,.int .i64 0,.int .i64 0] 27)).drew) q1 p1 (W2.heap.size+1) (by simp only[xsa]) (bgo (balloc _ _) (bdrew _)) hTl.out);have hjc:=lhd (jtwo (X:=(((W2.alloc (.cells #[.slice none 0 0,.int .i64 0,.int .i64 0] 27)).alloc (.cells #[.int .u8 115,.int .u8 101,.int .u8 99,.int .u8 116,.int .u8 105,.int .u8 109,.int .u8 101,.int .u8 32,.int .u8 98,.int .u8 97,.int .u8 116,.int .u8 99,.int .u8 104] 5 (13,14))).alloc (.cells #[.slice (some ⟨W2.heap.size+1,0,none⟩) 13 13,.slice A7 T.length c7] 25))) q2 p2 (W2.heap.size+1+1) (by simp only[xsa]) (Below.refl _ _) hTl.out)
  have hdc:=lhd (jtwo (X:=(((W2.alloc (.cells #[.slice none 0 0,.int .i64 0,.int .i64 0] 27)).alloc (.cells #[.int .u8 115,.int .u8 101,.int .u8 99,.int .u8 116,.int .u8 105,.int .u8 109,.int .u8 101,.int .u8 32,.int .u8 98,.int .u8 97,.int .u8 116,.int .u8 99,.int .u8 104] 5 (13,14))).alloc (.cells #[.slice (some ⟨W2.heap.size+1,0,none⟩) 13 13,.slice A7 T.length c7] 25)).drew) q2 p2 (W2.heap.size+1+1) (by simp only[xsa]) (bgo (Below.refl _ _) (bdrew _)) hTl.out);have hjd:=lhd (jtwo (X:=(((W2.alloc (.cells #[.int .u8 115,.int .u8 101,.int .u8 99,.int .u8 116,.int .u8 105,.int .u8 109,.int .u8 101,.int .u8 32,.int .u8 98,.int .u8 97,.int .u8 116,.int .u8 99,.int .u8 104] 5 (13,14))).alloc (.cells #[.slice none 0 0,.int .i64 0,.int .i64 0] 27)).alloc (.cells #[.slice (some ⟨W2.heap.size,0,none⟩) 13 13,.slice A7 T.length c7] 25))) q3 p3 (W2.heap.size+1+1) (by simp only[xsa]) (Below.refl _ _) hTl.out);have hdd:=lhd (jtwo (X:=(((W2.alloc (.cells #[.int .u8 115,.int .u8 101,.int .u8 99,.int .u8 116,.int .u8 105,.int .u8 109,.int .u8 101,.int .u8 32,.int .u8 98,.int .u8 97,.int .u8 116,.int .u8 99,.int .u8 104] 5 (13,14))).alloc (.cells #[.slice none 0 0,.int .i64 0,.int .i64 0] 27)).alloc (.cells #[.slice (some ⟨W2.heap.size,0,none⟩) 13 13,.slice A7 T.length c7] 25)).drew) q3 p3 (W2.heap.size+1+1) (by simp only[xsa]) (bgo (Below.refl _ _) (bdrew _)) hTl.out);clear sT q1 p1 q2 p2 q3 p3 x6;generalize tBatch++T=M at *
  have hcAj:(convert 25 25 (.slice (some ⟨W2.heap.size,0,none⟩) 13 13)).run prog (W2.alloc (.cells #[.int .u8 115,.int .u8 101,.int .u8 99,.int .u8 116,.int .u8 105,.int .u8 109,.int .u8 101,.int .u8 32,.int .u8 98,.int .u8 97,.int .u8 116,.int .u8 99,.int .u8 104] 5))=.ok (.slice (some ⟨W2.heap.size,0,none⟩) 13 13) (W2.alloc (.cells #[.int .u8 115,.int .u8 101,.int .u8 99,.int .u8 116,.int .u8 105,.int .u8 109,.int .u8 101,.int .u8 32,.int .u8 98,.int .u8 97,.int .u8 116,.int .u8 99,.int .u8 104] 5 (13,14))):=lit13_runJ W2 W2.heap.size rfl;have hcBj:(convert 25 25 (.slice (some ⟨W2.heap.size+1,0,none⟩) 13 13)).run prog ((W2.alloc (.cells #[.slice none 0 0,.int .i64 0,.int .i64 0] 27)).alloc (.cells #[.int .u8 115,.int .u8 101,.int .u8 99,.int .u8 116,.int .u8 105,.int .u8 109,.int .u8 101,.int .u8 32,.int .u8 98,.int .u8 97,.int .u8 116,.int .u8 99,.int .u8 104] 5))=.ok (.slice (some ⟨W2.heap.size+1,0,none⟩) 13 13) ((W2.alloc (.cells #[.slice none 0 0,.int .i64 0,.int .i64 0] 27)).alloc (.cells #[.int .u8 115,.int .u8 101,.int .u8 99,.int .u8 116,.int .u8 105,.int .u8 109,.int .u8 101,.int .u8 32,.int .u8 98,.int .u8 97,.int .u8 116,.int .u8 99,.int .u8 104] 5 (13,14))):=lit13_runJ (W2.alloc (.cells #[.slice none 0 0,.int .i64 0,.int .i64 0] 27)) (W2.heap.size+1) (by rw[xsa])
  have hcCj:(convert 25 25 (.slice (some ⟨W2.heap.size,0,none⟩) 13 13)).run prog ((W2.alloc (.cells #[.int .u8 115,.int .u8 101,.int .u8 99,.int .u8 116,.int .u8 105,.int .u8 109,.int .u8 101,.int .u8 32,.int .u8 98,.int .u8 97,.int .u8 116,.int .u8 99,.int .u8 104] 5)).alloc (.cells #[.slice none 0 0,.int .i64 0,.int .i64 0] 27))=.ok (.slice (some ⟨W2.heap.size,0,none⟩) 13 13) ((W2.alloc (.cells #[.int .u8 115,.int .u8 101,.int .u8 99,.int .u8 116,.int .u8 105,.int .u8 109,.int .u8 101,.int .u8 32,.int .u8 98,.int .u8 97,.int .u8 116,.int .u8 99,.int .u8 104] 5 (13,14))).alloc (.cells #[.slice none 0 0,.int .i64 0,.int .i64 0] 27)):=lit13_mid W2 _ _ 13 13 rfl;have hcAd:(convert 25 25 (.slice (some ⟨W2.heap.size,0,none⟩) 13 13)).run prog (W2.alloc (.cells #[.int .u8 115,.int .u8 101,.int .u8 99,.int .u8 116,.int .u8 105,.int .u8 109,.int .u8 101,.int .u8 32,.int .u8 98,.int .u8 97,.int .u8 116,.int .u8 99,.int .u8 104] 5)).drew=.ok (.slice (some ⟨W2.heap.size,0,none⟩) 13 13) (W2.alloc (.cells #[.int .u8 115,.int .u8 101,.int .u8 99,.int .u8 116,.int .u8 105,.int .u8 109,.int .u8 101,.int .u8 32,.int .u8 98,.int .u8 97,.int .u8 116,.int .u8 99,.int .u8 104] 5 (13,14))).drew:=lit13_run W2 W2.heap.size rfl
  have hcBd:(convert 25 25 (.slice (some ⟨W2.heap.size+1,0,none⟩) 13 13)).run prog ((W2.alloc (.cells #[.slice none 0 0,.int .i64 0,.int .i64 0] 27)).alloc (.cells #[.int .u8 115,.int .u8 101,.int .u8 99,.int .u8 116,.int .u8 105,.int .u8 109,.int .u8 101,.int .u8 32,.int .u8 98,.int .u8 97,.int .u8 116,.int .u8 99,.int .u8 104] 5)).drew=.ok (.slice (some ⟨W2.heap.size+1,0,none⟩) 13 13) ((W2.alloc (.cells #[.slice none 0 0,.int .i64 0,.int .i64 0] 27)).alloc (.cells #[.int .u8 115,.int .u8 101,.int .u8 99,.int .u8 116,.int .u8 105,.int .u8 109,.int .u8 101,.int .u8 32,.int .u8 98,.int .u8 97,.int .u8 116,.int .u8 99,.int .u8 104] 5 (13,14))).drew:=lit13_run (W2.alloc (.cells #[.slice none 0 0,.int .i64 0,.int .i64 0] 27)) (W2.heap.size+1) (by rw[xsa]);have hcCd:(convert 25 25 (.slice (some ⟨W2.heap.size,0,none⟩) 13 13)).run prog ((W2.alloc (.cells #[.int .u8 115,.int .u8 101,.int .u8 99,.int .u8 116,.int .u8 105,.int .u8 109,.int .u8 101,.int .u8 32,.int .u8 98,.int .u8 97,.int .u8 116,.int .u8 99,.int .u8 104] 5)).alloc (.cells #[.slice none 0 0,.int .i64 0,.int .i64 0] 27)).drew=.ok (.slice (some ⟨W2.heap.size,0,none⟩) 13 13) ((W2.alloc (.cells #[.int .u8 115,.int .u8 101,.int .u8 99,.int .u8 116,.int .u8 105,.int .u8 109,.int .u8 101,.int .u8 32,.int .u8 98,.int .u8 97,.int .u8 116,.int .u8 99,.int .u8 104] 5 (13,14))).alloc (.cells #[.slice none 0 0,.int .i64 0,.int .i64 0] 27)).drew:=lit13_mid W2.drew _ _ 13 13 rfl
  have bxb:Box (((W2.alloc (.cells #[.int .u8 115,.int .u8 101,.int .u8 99,.int .u8 116,.int .u8 105,.int .u8 109,.int .u8 101,.int .u8 32,.int .u8 98,.int .u8 97,.int .u8 116,.int .u8 99,.int .u8 104] 5 (13,14))).alloc (.cells #[.slice (some ⟨W2.heap.size,0,none⟩) 13 13,.slice A7 T.length c7] 25)).alloc (.cells #[.slice none 0 0,.int .i64 0,.int .i64 0] 27)) (W2.heap.size+1+1) 27 [.slice none 0 0,.int .i64 0,.int .i64 0]:=by
   have h:=Box.new ((W2.alloc (.cells #[.int .u8 115,.int .u8 101,.int .u8 99,.int .u8 116,.int .u8 105,.int .u8 109,.int .u8 101,.int .u8 32,.int .u8 98,.int .u8 97,.int .u8 116,.int .u8 99,.int .u8 104] 5 (13,14))).alloc (.cells #[.slice (some ⟨W2.heap.size,0,none⟩) 13 13,.slice A7 T.length c7] 25)) 27 [.slice none 0 0,.int .i64 0,.int .i64 0];rw[xsa,xsa] at h;exact h
  have bxc:Box (((W2.alloc (.cells #[.slice none 0 0,.int .i64 0,.int .i64 0] 27)).alloc (.cells #[.int .u8 115,.int .u8 101,.int .u8 99,.int .u8 116,.int .u8 105,.int .u8 109,.int .u8 101,.int .u8 32,.int .u8 98,.int .u8 97,.int .u8 116,.int .u8 99,.int .u8 104] 5 (13,14))).alloc (.cells #[.slice (some ⟨W2.heap.size+1,0,none⟩) 13 13,.slice A7 T.length c7] 25)) W2.heap.size 27 [.slice none 0 0,.int .i64 0,.int .i64 0]:=((Box.new W2 27 [.slice none 0 0,.int .i64 0,.int .i64 0]).below (balloc _ (.cells #[.int .u8 115,.int .u8 101,.int .u8 99,.int .u8 116,.int .u8 105,.int .u8 109,.int .u8 101,.int .u8 32,.int .u8 98,.int .u8 97,.int .u8 116,.int .u8 99,.int .u8 104] 5 (13,14)))).below (balloc _ (.cells #[.slice (some ⟨W2.heap.size+1,0,none⟩) 13 13,.slice A7 T.length c7] 25));have bxd:Box (((W2.alloc (.cells #[.int .u8 115,.int .u8 101,.int .u8 99,.int .u8 116,.int .u8 105,.int .u8 109,.int .u8 101,.int .u8 32,.int .u8 98,.int .u8 97,.int .u8 116,.int .u8 99,.int .u8 104] 5 (13,14))).alloc (.cells #[.slice none 0 0,.int .i64 0,.int .i64 0] 27)).alloc (.cells #[.slice (some ⟨W2.heap.size,0,none⟩) 13 13,.slice A7 T.length c7] 25)) (W2.heap.size+1) 27 [.slice none 0 0,.int .i64 0,.int .i64 0]:=by
   have h:=(Box.new (W2.alloc (.cells #[.int .u8 115,.int .u8 101,.int .u8 99,.int .u8 116,.int .u8 105,.int .u8 109,.int .u8 101,.int .u8 32,.int .u8 98,.int .u8 97,.int .u8 116,.int .u8 99,.int .u8 104] 5 (13,14))) 27 [.slice none 0 0,.int .i64 0,.int .i64 0]).below (balloc _ (.cells #[.slice (some ⟨W2.heap.size,0,none⟩) 13 13,.slice A7 T.length c7] 25));rw[xsa] at h;exact h
  replace bxb:=lhd bxb;replace bxc:=lhd bxc;replace bxd:=lhd bxd;obtain⟨m0a,m0b,m0c⟩:=K.out (W2.alloc (.cells #[.int .u8 115,.int .u8 101,.int .u8 99,.int .u8 116,.int .u8 105,.int .u8 109,.int .u8 101,.int .u8 32,.int .u8 98,.int .u8 97,.int .u8 116,.int .u8 99,.int .u8 104] 5)) (balloc W2 _);obtain⟨m1a,m1b,m1c⟩:=K.out (W2.alloc (.cells #[.int .u8 115,.int .u8 101,.int .u8 99,.int .u8 116,.int .u8 105,.int .u8 109,.int .u8 101,.int .u8 32,.int .u8 98,.int .u8 97,.int .u8 116,.int .u8 99,.int .u8 104] 5 (13,14))) (balloc W2 _);obtain⟨m2a,m2b,m2c⟩:=K.out ((W2.alloc (.cells #[.int .u8 115,.int .u8 101,.int .u8 99,.int .u8 116,.int .u8 105,.int .u8 109,.int .u8 101,.int .u8 32,.int .u8 98,.int .u8 97,.int .u8 116,.int .u8 99,.int .u8 104] 5 (13,14))).alloc (.cells #[.slice (some ⟨W2.heap.size,0,none⟩) 13 13,.slice A7 T.length c7] 25)) (bgo (balloc W2 _) (balloc _ _));obtain⟨m3a,m3b,m3c⟩:=K.out (((W2.alloc (.cells #[.int .u8 115,.int .u8 101,.int .u8 99,.int .u8 116,.int .u8 105,.int .u8 109,.int .u8 101,.int .u8 32,.int .u8 98,.int .u8 97,.int .u8 116,.int .u8 99,.int .u8 104] 5 (13,14))).alloc (.cells #[.slice (some ⟨W2.heap.size,0,none⟩) 13 13,.slice A7 T.length c7] 25)).alloc (.cells #[.slice none 0 0,.int .i64 0,.int .i64 0] 27)) (bgo (bgo (balloc W2 _) (balloc _ _)) (balloc _ _));obtain⟨m4a,m4b,m4c⟩:=K.out (W2.alloc (.cells #[.slice none 0 0,.int .i64 0,.int .i64 0] 27)) (balloc W2 _)
  obtain⟨m5a,m5b,m5c⟩:=K.out ((W2.alloc (.cells #[.slice none 0 0,.int .i64 0,.int .i64 0] 27)).alloc (.cells #[.int .u8 115,.int .u8 101,.int .u8 99,.int .u8 116,.int .u8 105,.int .u8 109,.int .u8 101,.int .u8 32,.int .u8 98,.int .u8 97,.int .u8 116,.int .u8 99,.int .u8 104] 5)) (bgo (balloc W2 _) (balloc _ _));obtain⟨m6a,m6b,m6c⟩:=K.out ((W2.alloc (.cells #[.slice none 0 0,.int .i64 0,.int .i64 0] 27)).alloc (.cells #[.int .u8 115,.int .u8 101,.int .u8 99,.int .u8 116,.int .u8 105,.int .u8 109,.int .u8 101,.int .u8 32,.int .u8 98,.int .u8 97,.int .u8 116,.int .u8 99,.int .u8 104] 5 (13,14))) (bgo (balloc W2 _) (balloc _ _));obtain⟨m7a,m7b,m7c⟩:=K.out (((W2.alloc (.cells #[.slice none 0 0,.int .i64 0,.int .i64 0] 27)).alloc (.cells #[.int .u8 115,.int .u8 101,.int .u8 99,.int .u8 116,.int .u8 105,.int .u8 109,.int .u8 101,.int .u8 32,.int .u8 98,.int .u8 97,.int .u8 116,.int .u8 99,.int .u8 104] 5 (13,14))).alloc (.cells #[.slice (some ⟨W2.heap.size+1,0,none⟩) 13 13,.slice A7 T.length c7] 25)) (bgo (bgo (balloc W2 _) (balloc _ _)) (balloc _ _));obtain⟨m8a,m8b,m8c⟩:=K.out ((W2.alloc (.cells #[.int .u8 115,.int .u8 101,.int .u8 99,.int .u8 116,.int .u8 105,.int .u8 109,.int .u8 101,.int .u8 32,.int .u8 98,.int .u8 97,.int .u8 116,.int .u8 99,.int .u8 104] 5)).alloc (.cells #[.slice none 0 0,.int .i64 0,.int .i64 0] 27)) (bgo (balloc W2 _) (balloc _ _))
  obtain⟨m9a,m9b,m9c⟩:=K.out ((W2.alloc (.cells #[.int .u8 115,.int .u8 101,.int .u8 99,.int .u8 116,.int .u8 105,.int .u8 109,.int .u8 101,.int .u8 32,.int .u8 98,.int .u8 97,.int .u8 116,.int .u8 99,.int .u8 104] 5 (13,14))).alloc (.cells #[.slice none 0 0,.int .i64 0,.int .i64 0] 27)) (bgo (balloc W2 _) (balloc _ _));obtain⟨m10a,m10b,m10c⟩:=K.out (((W2.alloc (.cells #[.int .u8 115,.int .u8 101,.int .u8 99,.int .u8 116,.int .u8 105,.int .u8 109,.int .u8 101,.int .u8 32,.int .u8 98,.int .u8 97,.int .u8 116,.int .u8 99,.int .u8 104] 5 (13,14))).alloc (.cells #[.slice none 0 0,.int .i64 0,.int .i64 0] 27)).alloc (.cells #[.slice (some ⟨W2.heap.size,0,none⟩) 13 13,.slice A7 T.length c7] 25)) (bgo (bgo (balloc W2 _) (balloc _ _)) (balloc _ _))
  go_region_with
   (first
    | (go_at_call 69;(with_reducible refine (hsn.out (w9.alloc (.cells #[.slice none 0 0,.int .i64 0,.int .i64 0] 27)) _ (bgo hb9 (balloc w9 _)) (seesB_of s9 nlr (balloc w9 _))).mono ?_);rintro e w10 ⟨v1,v2,rfl,t1,t2,hb10⟩
       obtain⟨A1,k1,rfl,-,-⟩:=t1.mk_;obtain⟨A8,k8,rfl,-,-⟩:=t2.mk_;have bz:=(Box.new w9 27 [.slice none 0 0,.int .i64 0,.int .i64 0]).below hb10;have hz9:=hb9.size;replace hb10:=bgo (bgo hb9 (balloc w9 _)) hb10;obtain⟨e0,e1,e2,j0,j1,j2⟩:=box3_cells bz)
    | (go_at_call 69;have _q:=bz9;(with_reducible refine (hsn.out w9 _ hb9 s9).mono ?_);rintro e w10 ⟨v1,v2,rfl,t1,t2,hb10⟩
       obtain⟨A1,k1,rfl,-,-⟩:=t1.mk_;obtain⟨A8,k8,rfl,-,-⟩:=t2.mk_;have bz:=bz9.below hb10;replace hb10:=bgo hb9 hb10;have hz9:W2.heap.size<=W2.heap.size:=Nat.le_refl W2.heap.size;obtain⟨e0,e1,e2,j0,j1,j2⟩:=box3_cells bz)
    | (go_at_call 69;(with_reducible refine (hsn.out w9 _ hb9 s9).mono ?_);rintro e w10 ⟨v1,v2,rfl,t1,t2,hb10⟩
       obtain⟨A1,k1,rfl,-,-⟩:=t1.mk_;obtain⟨A8,k8,rfl,-,-⟩:=t2.mk_;replace hb10:=bgo hb9 hb10)
    | (go_at_call 70;(with_reducible refine hda.out.mono ?_);rintro e w9 ⟨v9,rfl,o9,hb9⟩
       have s9:=o9.sees;obtain⟨A9,c9,rfl,-,-⟩:=o9.sees.mk_;replace hb9:=bgo (bgo (bgo (balloc W2 _) (balloc _ _)) (bdrew _)) hb9;obtain⟨d0,d1,d2⟩:=K.out w9 hb9;obtain⟨d3,d4,d5⟩:=K.out (w9.alloc (.cells #[.slice none 0 0,.int .i64 0,.int .i64 0] 27)) (bgo hb9 (balloc w9 _)))
    | (go_at_call 70;(with_reducible refine hja.out.mono ?_);rintro e w9 ⟨v9,rfl,o9,hb9⟩
       have s9:=o9.sees;obtain⟨A9,c9,rfl,-,-⟩:=o9.sees.mk_;replace hb9:=bgo (bgo (balloc W2 _) (balloc _ _)) hb9;obtain⟨d0,d1,d2⟩:=K.out w9 hb9;obtain⟨d3,d4,d5⟩:=K.out (w9.alloc (.cells #[.slice none 0 0,.int .i64 0,.int .i64 0] 27)) (bgo hb9 (balloc w9 _)))
    | (go_at_call 70;(with_reducible refine hdb.out.mono ?_);rintro e w9 ⟨v9,rfl,o9,hb9⟩
       have s9:=o9.sees;obtain⟨A9,c9,rfl,-,-⟩:=o9.sees.mk_;have bz9:=bxb.out.below (bdrew _) |>.below hb9;replace hb9:=bgo (bgo (bgo (bgo (balloc W2 _) (balloc _ _)) (balloc _ _)) (bdrew _)) hb9;obtain⟨d0,d1,d2⟩:=K.out w9 hb9;obtain⟨d3,d4,d5⟩:=K.out (w9.alloc (.cells #[.slice none 0 0,.int .i64 0,.int .i64 0] 27)) (bgo hb9 (balloc w9 _)))
    | (go_at_call 70;(with_reducible refine hjb.out.mono ?_);rintro e w9 ⟨v9,rfl,o9,hb9⟩
       have s9:=o9.sees;obtain⟨A9,c9,rfl,-,-⟩:=o9.sees.mk_;have bz9:=bxb.out |>.below hb9;replace hb9:=bgo (bgo (bgo (balloc W2 _) (balloc _ _)) (balloc _ _)) hb9;obtain⟨d0,d1,d2⟩:=K.out w9 hb9;obtain⟨d3,d4,d5⟩:=K.out (w9.alloc (.cells #[.slice none 0 0,.int .i64 0,.int .i64 0] 27)) (bgo hb9 (balloc w9 _)))
    | (go_at_call 70;(with_reducible refine hdc.out.mono ?_);rintro e w9 ⟨v9,rfl,o9,hb9⟩
       have s9:=o9.sees;obtain⟨A9,c9,rfl,-,-⟩:=o9.sees.mk_;have bz9:=bxc.out.below (bdrew _) |>.below hb9;replace hb9:=bgo (bgo (bgo (bgo (balloc W2 _) (balloc _ _)) (balloc _ _)) (bdrew _)) hb9;obtain⟨d0,d1,d2⟩:=K.out w9 hb9;obtain⟨d3,d4,d5⟩:=K.out (w9.alloc (.cells #[.slice none 0 0,.int .i64 0,.int .i64 0] 27)) (bgo hb9 (balloc w9 _)))
    | (go_at_call 70;(with_reducible refine hjc.out.mono ?_);rintro e w9 ⟨v9,rfl,o9,hb9⟩
       have s9:=o9.sees;obtain⟨A9,c9,rfl,-,-⟩:=o9.sees.mk_;have bz9:=bxc.out |>.below hb9;replace hb9:=bgo (bgo (bgo (balloc W2 _) (balloc _ _)) (balloc _ _)) hb9;obtain⟨d0,d1,d2⟩:=K.out w9 hb9;obtain⟨d3,d4,d5⟩:=K.out (w9.alloc (.cells #[.slice none 0 0,.int .i64 0,.int .i64 0] 27)) (bgo hb9 (balloc w9 _)))
    | (go_at_call 70;(with_reducible refine hdd.out.mono ?_);rintro e w9 ⟨v9,rfl,o9,hb9⟩
       have s9:=o9.sees;obtain⟨A9,c9,rfl,-,-⟩:=o9.sees.mk_;have bz9:=bxd.out.below (bdrew _) |>.below hb9;replace hb9:=bgo (bgo (bgo (bgo (balloc W2 _) (balloc _ _)) (balloc _ _)) (bdrew _)) hb9;obtain⟨d0,d1,d2⟩:=K.out w9 hb9;obtain⟨d3,d4,d5⟩:=K.out (w9.alloc (.cells #[.slice none 0 0,.int .i64 0,.int .i64 0] 27)) (bgo hb9 (balloc w9 _)))
    | (go_at_call 70;(with_reducible refine hjd.out.mono ?_);rintro e w9 ⟨v9,rfl,o9,hb9⟩
       have s9:=o9.sees;obtain⟨A9,c9,rfl,-,-⟩:=o9.sees.mk_;have bz9:=bxd.out |>.below hb9;replace hb9:=bgo (bgo (bgo (balloc W2 _) (balloc _ _)) (balloc _ _)) hb9;obtain⟨d0,d1,d2⟩:=K.out w9 hb9;obtain⟨d3,d4,d5⟩:=K.out (w9.alloc (.cells #[.slice none 0 0,.int .i64 0,.int .i64 0] 27)) (bgo hb9 (balloc w9 _))))
  all_goals
   go_wp2_with fail
   go_meet
   first
    | (with_reducible exact sgn_new W2 w10 _ _ _ _ _ _ _ _ _ t1 t2 hb10)
    | (with_reducible exact sgn_set W2 w10 _ _ _ _ _ _ _ _ _ _ bz t1 t2 (by omega) hb10)
 case rest=>
  obtain⟨g11,A1,k1,A8,k8,rfl,rfl,rfl,b11,t1,t2,hg11,hb3⟩:=hcut;obtain⟨w3,rfl⟩:∃w3:World,w3=wc:=⟨_,rfl⟩
  have q6:Hid (g6<w3.heap.size):=(x6.below hb3).lt;replace x6:=x6.below hb3;replace sn:=lhd (seesL_of sn.out nlr hb3);replace sp2:=lhd (seesB_of sp2.out nlr hb3);replace hbw:=lhd (bgo hbw.out hb3);clear c0 c1 c2' K hsn hb3 su hTl hg11
  by_cases hE:rc=0
  rotate_left
  ·have hr2:Hid (answerR sd h n ns lo hi=(([],0,0),[],rc)):=by show _=_;rw[hr.out,if_neg hE]
   have hEb:(rc == 0)=false:=by rw[beq_eq_false_iff_ne];exact hE
   replace hE:=lhd hE;clear b11 t1 t2;obtain⟨y0,y1,y2,f0,f1,f2⟩:=box3_cells x6
   go_wp2_with fail
   have k:=box_set3 x6 (.slice none 0 0) (.int .i64 0) (.int .i64 0);have kb:=lhd (below_set3 hbw.out hg6.out (.slice none 0 0) (.int .i64 0) (.int .i64 0));clear y0 y1 y2 f0 f1 f2 x6;generalize ((w3.setCell ⟨g6,0,none⟩ (.slice none 0 0)).setCell ⟨g6,1,none⟩ (.int .i64 0)).setCell ⟨g6,2,none⟩ (.int .i64 0)=W9 at *;obtain⟨z0,z1,z2,-,-,-⟩:=box3_cells k;refine bodyPost_ret (v:=.tuple #[.agg #[.slice none 0 0,.int .i64 0,.int .i64 0],.slice none 0 0,.int .i64 rc]) (by simp[results,results16,go_sem,z0,z1,z2]) rfl ?_;exact answer_bad hr2.out kb.out
  subst hE;have hr2:Hid (answerR sd h n ns lo hi=((rs,rh,rn),ansL ns rg T ns.length,0)):=by show _=_;rw[hr.out,if_pos rfl]
  have hrl2:=hrl.out rfl;have hw3:Hid (w.heap.size<=w3.heap.size):=by show _<=_;exact hbw.out.size
  replace b11:=lhd b11;replace t1:=lhd t1;replace t2:=lhd t2;replace x6:=lhd x6;clear hr hrl
  go_wp2_with fail
  go_loopw [14,48] (fun r t wr=>∃k:Nat,k<=ns.length/\t=.int .i64 k/\Hid (OwnL wr w3.heap.size r (ansL ns rg T k))/\Hid (Below w3.heap.size w3 wr)) (fun _ t _=>ns.length - (intOf t).toNat)
  case atStart=>exact⟨0,by omega,rfl,OwnL.nil _ _,Below.refl _ _⟩
  case round=>
   obtain⟨k,hk,rfl,ho,hb⟩:=hrel;obtain⟨Ar,cr,rfl⟩:=ho.out.shape;have hkl:=ansL_len ns rg T k;rw[hkl] at ho ⊢
   by_cases hlt:k<ns.length
   ·have i0:(k:Int)<(ns.length:Int):=by omega
    have hst:=lhd (ansL_next ns rg T k);have hab:Hid (ansB ns rg T k=encT (ansTags k ns.length (pathG (ns.map leafH) k).flatten rg T)):=rfl;have hpt:=path_top ns k wr.heap.size _ wr (seesL_of sn.out nlr hb.out) hlt nlr (by omega) (fun l hl=>by rw[h32.out l hl];omega);unfold PathPost at hpt;obtain⟨pl1,pl2,pl3⟩:=pathF_len ns k;generalize pathG (ns.map leafH) k=PH at *;have hPl:PH.flatten.length<=512:=by omega
    have hjn:=fun W u (hu:SeesL W W.heap.size u PH)=>join_any W.heap.size u PH W hu nlr (by omega)
    generalize hPF:PH.flatten=PF at *;replace hPF:=lhd hPF;replace hjn:=lhd hjn;replace hpt:=lhd hpt;replace pl2:=lhd pl2;replace pl3:=lhd pl3;generalize ansL ns rg T k=acc at *;have m1:IntKind.u64.wrap (k:Int)=(k:Int):=by rw[IntKind.wrap_u64];omega
    have m2:IntKind.u64.wrap (ns.length:Int)=(ns.length:Int):=by rw[IntKind.wrap_u64];omega
    have hp1:=lhd (put4_any k (by omega));have hp2:=lhd (put4_any ns.length (by omega));have hpd:=lhd (fun W u (hu:SeesB W W.heap.size u rg)=>padded_any W.heap.size u rg W hu nlr (by omega));replace hkl:=lhd hkl
    go_wp2_with fail
    refine hpt.out.mono ?_;rintro e w4 ⟨v4,rfl,o4,hb4⟩;obtain⟨A4,c4,rfl⟩:=o4.shape;replace o4:=lhd o4;clear hpt;dsimp only
    go_wp2_with fail
    refine (names_any w4).mono ?_;rintro e w5 ⟨v5,rfl,s5,hb5⟩;obtain⟨A5,c5,rfl,-,-⟩:=s5.mk_;replace s5:=lhd s5;dsimp only
    go_wp2_with fail
    refine (hp1.out w5).mono ?_;rintro e w6 ⟨v6,rfl,o6,hb6⟩;obtain⟨A6,c6,rfl,-,-⟩:=o6.sees.mk_;replace o6:=lhd o6;dsimp only
    go_wp2_with fail
    refine (hp2.out w6).mono ?_;rintro e w7 ⟨v7,rfl,o7,hb7⟩;obtain⟨A7',c7',rfl,-,-⟩:=o7.sees.mk_;have hb47:=bgo (bgo hb5 hb6) hb7;replace o7:=lhd o7;have hjn7:=lhd (hjn.out w7 _ (o4.out.sees.below hb47 |>.more hb47.size));dsimp only
    go_wp2_with fail
    refine hjn7.out.mono ?_;rintro e w8 ⟨v8,rfl,o8,hb8⟩;obtain⟨A9,c9,rfl,-,-⟩:=o8.sees.mk_;have hb38:=bgo hb.out (bgo hb4 (bgo hb47 hb8));have hpd8:=lhd (hpd.out w8 _ (seesB_of t2.out nlr hb38));replace o8:=lhd o8;dsimp only
    go_wp2_with fail
    refine hpd8.out.mono ?_;rintro e w9 ⟨v9,rfl,o9,hb9⟩;obtain⟨A10,c10,rfl,-,-⟩:=o9.sees.mk_;have hb39:=bgo hb38 hb9;have hal9:=balloc w9 (.cells #[.slice A6 (putB 4 k).length c6,.slice A7' (putB 4 ns.length).length c7',.slice A9 PF.length c9,.slice A10 (pad4 rg).length c10,.slice A7 T.length c7] 25);have e6:=seesB_of o6.out.sees nlr (bgo hb7 (bgo hb8 hb9));have e7:=seesB_of o7.out.sees nlr (bgo hb8 hb9);have e8:=seesB_of o8.out.sees nlr hb9;have eT:=seesB_of sp2.out nlr hb39;have hL:=seesL_lit w9 25 (vs:=[.slice A6 (putB 4 k).length c6,.slice A7' (putB 4 ns.length).length c7',.slice A9 PF.length c9,.slice A10 (pad4 rg).length c10,.slice A7 T.length c7]) (ls:=[putB 4 k,putB 4 ns.length,PF,pad4 rg,T]) ⟨e6,e7,e8,o9.sees,eT,trivial⟩ (by simp[maxLen]);have s59:=(s5.out.below (bgo (bgo (bgo (bgo hb6 hb7) hb8) hb9) hal9)).more (bgo (bgo (bgo (bgo hb6 hb7) hb8) hb9) hal9).size;have hms:=message_any _ _ _ names5 [putB 4 k,putB 4 ns.length,PF,pad4 rg,T] _ s59 hL nlr rfl (by simp[names5]) (by
     have h1:=pad4_len rg;have h2:=putB_len 4 k;have h3:=putB_len 4 ns.length;simp only[names5,List.zip_cons_cons,List.zip_nil_right,dataT,xmp,List.map_nil,xfc,List.flatten_nil,xla,List.length_nil]
     omega)
    rw[ansTags_zip] at hms;have hbr:=lhd (bgo hb39 hal9);have ho9:=ho.out.below (bgo (bgo (bgo (bgo hb4 hb47) hb8) hb9) hal9);replace ho9:=lhd ho9;replace hms:=lhd hms;clear e6 e7 e8 eT hL s59 o4 s5 o6 o7 o8 o9 hb4 hb5 hb6 hb7 hb8 hb9 hb38 hb39 hb47 hjn hjn7 hpd hpd8 hp1 hp2 hal9;dsimp only
    go_wp2_with fail
    refine hms.out.mono ?_;rintro e w11 ⟨v11,rfl,o11,hb11⟩;generalize encT (ansTags k ns.length PF rg T)=AB at *;obtain⟨A11,c11,rfl,-,-⟩:=o11.sees.mk_;have ho4:=ho9.out.below hb11;have hel:=Elt.of_from (v:=.slice Ar k cr) o11.sees o11.from (fun q hq=>(ho9.out.lt q hq).2)
    have hal:=balloc w11 (.cells #[.slice A11 AB.length c11] 25);have hbox:=lhd (one_cell w11 (.slice A11 AB.length c11) 25);replace ho4:=lhd (ho4.below hal);have hel4:=lhd (hel.below hal);have hb4:=lhd (bgo (bgo hbr.out hb11) hal);clear hal hel o11 hb11 hbr hms ho9 ho;dsimp only
    go_wp2_with (at_builtin;refine wpList_appL (by rfl) _ _ 30 underlying30 rfl w3.heap.size _ acc rfl ho4.out _ _ _ AB rfl hbox.out hel4.out (by have:=hkl.out;omega) hb4.out.size ?_)
    intro v' w' hW2 hb5;have hW2:=lhd hW2;have hb5:=lhd (hb4.out.trans hb5)
    go_wp2_with fail
    go_roundw
    case rel=>exact⟨k+1,by omega,by go_num,by show OwnL _ _ _ _;rw[hst.out,hab.out];exact hW2.out,hb5⟩
    case measure=>simp[intOf];omega
   obtain rfl:k=ns.length:=by omega
   have i0:¬(ns.length:Int)<(ns.length:Int):=by omega
   have b11r:=b11.out.below hb.out;have t1r:=lhd (seesB_of t1.out nlr hb.out);have ta:=lhd (Elt.of_old (w:=wr) (v:=.slice Ar ns.length cr) (seesB_of t1.out nlr (Below.refl _ _) |>.below hb.out) hb.out.size (fun q hq=>(ho.out.lt q hq).1)).2;have x6r:=x6.out.below hb.out;replace hbw:=lhd (bgo hbw.out hb.out);replace hkl:=lhd hkl;obtain⟨e0,e1,e2,-,-,-⟩:=box3_cells b11r;obtain⟨y0,y1,y2,f0,f1,f2⟩:=box3_cells x6r
   go_wp2_with fail
   have k:=box_set3 x6r (.slice A1 rs.length k1) (.int .i64 rh) (.int .i64 rn);have ks:=lhd (sees_set3 x6r (noBL3' (NoB.s none 0 0) (NoB.i 0) (NoB.i 0)) (.slice A1 rs.length k1) (.int .i64 rh) (.int .i64 rn) t1r.out);have ko:=lhd (own_set3 x6r q6.out (NoB.s none 0 0) (NoB.i 0) (NoB.i 0) (.slice A1 rs.length k1) (.int .i64 rh) (.int .i64 rn) (NoB.s _ _ _) (NoB.i _) ho.out);have kb:=lhd (below_set3 hbw.out hg6.out (.slice A1 rs.length k1) (.int .i64 rh) (.int .i64 rn));clear e0 e1 e2 y0 y1 y2 f0 f1 f2 x6r b11r;generalize ((wr.setCell ⟨g6,0,none⟩ (.slice A1 rs.length k1)).setCell ⟨g6,1,none⟩ (.int .i64 rh)).setCell ⟨g6,2,none⟩ (.int .i64 rn)=W9 at *;obtain⟨z0,z1,z2,-,-,-⟩:=box3_cells k;refine bodyPost_ret (v:=.tuple #[.agg #[.slice A1 rs.length k1,.int .i64 rh,.int .i64 rn],.slice Ar ns.length cr,.int .i64 0]) (by simp[results,results16,go_sem,z0,z1,z2]) rfl ?_;exact answer_ok hr2.out ks.out ta.out ko.out hw3.out kb.out
end Go.Proofs.YtjgepckncogdaaaGreat
