/- Contracts of functions, walks, plain facts. Conditions: those of each theorem. -/
import Derived.Deep.CutBlock
import Derived.Test.YtjgepckncogdaaaGreatZTopP
import Derived.Test.YtjgepckncogdaaaGreatZReq
import Derived.Test.YtjgepckncogdaaaGreatZAwake
import Derived.Test.YtjgepckncogdaaaGreatZNonce
import Derived.Test.YtjgepckncogdaaaGreatZCAdd
set_option linter.unusedVariables false
set_option linter.unusedSimpArgs false
set_option maxRecDepth 100000
set_option maxHeartbeats 16000000
namespace Go.Proofs.YtjgepckncogdaaaGreat
open Go Go.RowKit _root_.Go.Proofs.Tryz
attribute [local go_sem ↓] Go.wp_at_zero Go.wp_at_succ
theorem one_link {L bl y nn:Bs} {lo hi:Int} (h0:nextC [] bl=0) (hn:nextG [] bl=nn) (hc:dverC L nn y=0) (hl:dverLo L nn y=lo) (hh:dverHi L nn y=hi) :
 addC [] (L,bl,y)=0/\addL [] (L,bl,y)=(L,bl,y) :: []/\addV [] (L,bl,y)=(lo,hi)/\cverC ((L,bl,y) :: [])=0/\cverV ((L,bl,y) :: [])=(lo,hi) :: []:=by
 have h1:nonceC (lastA []) bl=0:=by
  have:=h0
  rw[nextC,if_neg (by simp)] at this;exact this
 have h2:nonceG (lastA []) bl=nn:=by
  have:=hn
  rw[nextG,if_neg (by simp)] at this;exact this
 have a1:addC [] (L,bl,y)=0:=by
  unfold addC;dsimp only;rw[if_pos h0,hn,hc]
 have b0:linkN ((L,bl,y) :: []) 0=nn:=h2;have b1:linkC ((L,bl,y) :: []) 0=0:=by
  unfold linkC;rw[b0];show (if nonceC (lastA []) bl=0 then dverC L nn y else nonceC (lastA []) bl)=0;rw[if_pos h1,hc]
 have b2:cverC ((L,bl,y) :: [])=0:=by
  rw[cverC,if_neg (by simp)];show (if firstC _ 0=0 then linkC _ 0 else firstC _ 0)=0;rw[if_pos (show firstC ((L,bl,y) :: []) 0=0 from rfl),b1]
 have b3:linkV ((L,bl,y) :: []) 0=(lo,hi):=by
  unfold linkV;rw[b0];show (dverLo L nn y,dverHi L nn y)=(lo,hi)
  rw[hl,hh]
 refine⟨a1,by rw[addL,if_pos a1];rfl,by rw[addV,if_pos a1];dsimp only;rw[hn,hl,hh],b2,?_⟩;rw[cverV,if_pos b2];show (List.range 1).map _=_;simp[List.range_succ,b3]
theorem tcb_law (v:Int) (wf0:(Lit.int .i64 v).wf=true) (ot:Int) (wf1:(Lit.int .u8 ot).wf=true) (pl:Int) (wf2:(Lit.int .u8 pl).wf=true) (lo:Int) (wf3:(Lit.int .u16 lo).wf=true) (wd:Int) (wf4:(Lit.int .u16 wd).wf=true) (w:World) :
 Calls prog 12 #[.int .i64 v,.int .u8 ot,.int .u8 pl,.int .u16 lo,.int .u16 wd] w fun e w'=>e=.returned (.bool true)/\Below w.heap.size w w':=by
 have hwi:=lhd (fun (v m:Int) (h1:1<=m) (h2:m<=4294967296) W=>kwithin_any v m h1 h2 W);obtain⟨q,hq,hq2⟩:=kmod_nat v 500 (by omega);have hwq:=fun W=>hwi.out v 500 (by omega) (by omega) W
 rw[hq] at hwq;replace hwq:=lhd hwq;clear hq hwi;have hlo:0<=lo/\lo<=65535:=by simpa [Lit.wf,IntKind.min,IntKind.max,IntKind.signed,IntKind.bits] using wf3
 have hwd:0<=wd/\wd<=65535:=by simpa [Lit.wf,IntKind.min,IntKind.max,IntKind.signed,IntKind.bits] using wf4
 have hot:0<=ot/\ot<=255:=by simpa [Lit.wf,IntKind.min,IntKind.max,IntKind.signed,IntKind.bits] using wf1
 have hpl:0<=pl/\pl<=255:=by simpa [Lit.wf,IntKind.min,IntKind.max,IntKind.signed,IntKind.bits] using wf2
 clear wf0 wf1 wf2 wf3 wf4;obtain⟨k,hk,hk2⟩:∃k:Nat,1+ot % 6=((k+1:Nat):Int)/\k<6:=by
  refine⟨(ot % 6).toNat,?_,by omega⟩
  omega
 replace hk:=lhd hk;have w1:wrap64 lo=lo:=by unfold wrap64;omega
 have w2:wrap64 wd=wd:=by unfold wrap64;omega
 have w3:wrap64 (lo+wd)=lo+wd:=by unfold wrap64;omega
 go_enter func12,ntmps12
 go_wp2_with fail
 refine (hwq.out _).mono ?_;rintro e w1 ⟨rfl,hw1⟩;obtain rfl:=hw1.symm;dsimp only
 go_wp2_with fail
 have hal1:=balloc w (.cells #[.int .i64 lo,.int .i64 (lo+wd)] 24);have x11:=Box.new w 24 [.int .i64 lo,.int .i64 (lo+wd)];change Box (w.alloc (.cells #[.int .i64 lo,.int .i64 (lo+wd)] 24)) _ _ _ at x11;generalize w.alloc (.cells #[.int .i64 lo,.int .i64 (lo+wd)] 24)=W1 at *;generalize hg11:w.heap.size=g11 at x11 ⊢;refine (kgranted_any _ _ _ _ W1 (by decide)).mono ?_;rintro e w2 ⟨v1,v2,v3,v4,sd2,P,sd,L,rfl,r1,l2,hP,hPl,r2,r3,l1,hL,hLl,r4,hb2⟩;rw[show (1:Int) % 2=1 from rfl] at hP ⊢;obtain⟨S,hS⟩:∃S,S=sigG sd 0 0 (tGrant++P++spanB 0 1048576):=⟨_,rfl⟩
 rw[<-hS] at r3;have hSl:S.length=565:=by rw[hS,sigG_len]
 obtain⟨A1,c1,rfl,-,-⟩:=r1.mk_;obtain⟨A2,c2,rfl,-,-⟩:=r2.mk_;obtain⟨A3,c3,rfl,-,-⟩:=r3.mk_;obtain⟨A4,c4,rfl,-,-⟩:=r4.mk_;rw[l2] at r1 ⊢;rw[hPl] at r2 ⊢;rw[hSl] at r3 ⊢;rw[hLl] at r4 ⊢;have hal2:=balloc w2 (.cells #[.slice A1 32 c1,.int .i64 1,.int .i64 0,.slice A2 32 c2,.int .i64 0,.int .i64 1048576,.slice A3 565 c3] 96);have x13:=Box.new w2 96 [.slice A1 32 c1,.int .i64 1,.int .i64 0,.slice A2 32 c2,.int .i64 0,.int .i64 1048576,.slice A3 565 c3];change Box (w2.alloc (.cells #[.slice A1 32 c1,.int .i64 1,.int .i64 0,.slice A2 32 c2,.int .i64 0,.int .i64 1048576,.slice A3 565 c3] 96)) _ _ _ at x13;have hb12:=bgo hb2 hal2;have hbw:=lhd (bgo hal1 hb12);replace x11:=x11.below hb12;replace r1:=seesB_of r1 nlr hal2;replace r2:=seesB_of r2 nlr hal2;replace r3:=seesB_of r3 nlr hal2;replace r4:=seesB_of r4 nlr hal2;replace hP:=lhd hP;replace hL:=lhd hL;replace hS:=lhd hS;clear hal1 hal2 hb2 hb12 hwq;dsimp only
 go_upto_region 3 with (fail)
 generalize w2.alloc (.cells #[.slice A1 32 c1,.int .i64 1,.int .i64 0,.slice A2 32 c2,.int .i64 0,.int .i64 1048576,.slice A3 565 c3] 96)=W2 at *;generalize w2.heap.size=g13 at *;refine (krandom_any _ 32 (by omega) _).mono ?_;rintro e w3 ⟨v5,rfl,r5,hb3,-⟩;have hbl:=randK_len ((q:Int)+7) 32 (by omega);obtain⟨A5,c5,rfl,-,-⟩:=r5.mk_;rw[hbl] at r5 ⊢;generalize randK ((q:Int)+7) 32=bl at *;replace x11:=x11.below hb3;replace x13:=x13.below hb3;replace hbw:=lhd (bgo hbw.out hb3);replace r1:=seesB_of r1 nlr hb3;replace r2:=seesB_of r2 nlr hb3;replace r3:=seesB_of r3 nlr hb3;replace r4:=seesB_of r4 nlr hb3;clear hb3;dsimp only
 go_wp2_with fail
 refine (next_any _ _ _ _ [] bl w3 (SeesR.nil _ w3.heap.size 3) nlr r5 nlr).mono ?_;rintro e w4 ⟨v6,rfl,r6,hb4⟩;obtain⟨k1,k2⟩:=next_zero (ls:=[]) (x:=bl) (by simp) (by decide) hbl;rw[k1];have hkk:Hid (nextC [] bl=0/\∃nn,nextG [] bl=nn):=⟨k1,_,rfl⟩
 generalize hnn:nextG [] bl=nn at *;replace hnn:=lhd hnn;obtain⟨A6,c6,rfl,-,-⟩:=r6.sees.mk_;rw[k2] at r6 ⊢;replace x11:=x11.below hb4;replace x13:=x13.below hb4;replace hbw:=lhd (bgo hbw.out hb4);replace r1:=seesB_of r1 nlr hb4;replace r2:=seesB_of r2 nlr hb4;replace r3:=seesB_of r3 nlr hb4;replace r4:=seesB_of r4 nlr hb4;replace r5:=seesB_of r5 nlr hb4;have r7:=r6.sees;clear hb4 r6;dsimp only
 go_wp2_with fail
 have hq:=qrequest_any _ _ nn w4 r7 nlr k2;unfold EncP at hq;rw[reqT_enc nn k2] at hq;refine hq.mono ?_;rintro e w5 ⟨v7,rfl,r8,hb5⟩;have h2k:(encT (reqT nn)).length=2048:=by rw[encT,if_pos (reqT_enc nn k2),reqT_body nn k2]
 obtain⟨A7,c7,rfl,-,-⟩:=r8.sees.mk_;rw[h2k] at r8 ⊢;replace x11:=x11.below hb5;replace x13:=x13.below hb5;replace hbw:=lhd (bgo hbw.out hb5);replace r1:=seesB_of r1 nlr hb5;replace r2:=seesB_of r2 nlr hb5;replace r3:=seesB_of r3 nlr hb5;replace r4:=seesB_of r4 nlr hb5;replace r5:=seesB_of r5 nlr hb5;have r9:=r8.sees;clear hb5 r8 r7 hq;dsimp only
 go_wp2_with fail
 refine (qnonce_any _ _ nn w5 r9 nlr k2).mono ?_;rintro e w6 ⟨v8,rfl,r10,hb6⟩;obtain⟨A8,c8,rfl,-,-⟩:=r10.sees.mk_;rw[k2] at r10 ⊢;replace x11:=x11.below hb6;replace x13:=x13.below hb6;replace hbw:=lhd (bgo hbw.out hb6);replace r1:=seesB_of r1 nlr hb6;replace r2:=seesB_of r2 nlr hb6;replace r3:=seesB_of r3 nlr hb6;replace r4:=seesB_of r4 nlr hb6;replace r5:=seesB_of r5 nlr hb6;have r11:=r10.sees;clear hb6 r10 r9;dsimp only
 go_wp2_with fail
 rw[hk.out];refine (krandoms_any _ 32 (k+1) _ (by omega) (by omega)).mono ?_;rintro e w7 ⟨v9,rfl,r12,hb7⟩;have hRl:=randsK_len (q:Int) 32 (k+1);have hRe:=lhd (randsK_each (q:Int) 32 (k+1) (by omega));generalize randsK (q:Int) 32 (k+1)=R at *;obtain⟨A9,c9,rfl⟩:=r12.shape;rw[hRl] at r12 ⊢;obtain⟨g30,rfl⟩:=r12.at_ (by omega);obtain⟨i,hi,hi2⟩:∃i:Nat,pl % ((k:Int)+1)=(i:Int)/\i<k+1:=by
  have e0:=Int.emod_nonneg pl (show ((k:Int)+1)≠0 by omega);have e1:=Int.emod_lt_of_pos pl (show (0:Int)<((k:Int)+1) by omega);exact⟨(pl % ((k:Int)+1)).toNat,by omega,by omega⟩
 obtain⟨⟨z9,hz9⟩,hz10⟩:=r12.cell (k:=i) (by omega);have hi3:(0:Int)<=(i:Int)/\(i:Int)<(k:Int)+1:=by omega
 have hi4:((i:Nat):Int).toNat=i:=rfl;obtain⟨r13,hb78⟩:=r12.set (k:=i) (by omega) (Elt.of_old (r11.below hb7) hb7.size (fun g hg=>(r12.lt g hg).1));have hg30:=(r12.lt g30 rfl).1;have hne13:g13≠g30:=Nat.ne_of_lt (Nat.lt_of_lt_of_le x13.lt hg30);have hne11:g11≠g30:=Nat.ne_of_lt (Nat.lt_of_lt_of_le x11.lt hg30);replace x13:=(x13.below hb7).other (j:=i) (v:=.slice A8 32 c8) hne13;replace x11:=(x11.below hb7).other (j:=i) (v:=.slice A8 32 c8) hne11;have a0:=x13.cell 0;have a1:=x13.cell 1;have a2:=x13.cell 2;have a3:=x13.cell 3;have a4:=x13.cell 4;have a5:=x13.cell 5;have a6:=x13.cell 6;have b0:=x11.cell 0;have b1:=x11.cell 1;simp only[xqz,xqs] at a0 a1 a2 a3 a4 a5 a6 b0 b1;dsimp only
 go_wp2_with fail
 have hb68:=hb7.trans hb78;replace hbw:=lhd (bgo hbw.out hb68);replace r1:=seesB_of r1 nlr hb68;replace r2:=seesB_of r2 nlr hb68;replace r3:=seesB_of r3 nlr hb68;replace r4:=seesB_of r4 nlr hb68;replace r5:=seesB_of r5 nlr hb68;replace r11:=seesB_of r11 nlr hb68;have hns:(R.set i nn).length=k+1:=by rw[List.length_set,hRl]
 have hget:(R.set i nn).getD i []=nn:=by rw[xgd,List.getElem?_set_self (by omega)];rfl
 have h32:∀l∈R.set i nn,l.length=32:=fun l hl=>by
  rcases List.mem_or_eq_of_mem_set hl with h|h
  ·exact hRe.out l h
  rw[h];exact k2
 have r14:=r13.sees;clear r12 r13 hb78 hb7 hz9 hz10 hg30 hne13 hne11 a0 a1 a2 a3 a4 a5 a6 b0 b1 x13 hb68 hRe hRl;generalize R.set i nn=ns at *;obtain⟨ys,hd,hyl,hys⟩:=top_plain (sd:=sd) (sd2:=sd2) (S:=S) (ns:=ns) (lo:=lo) (hi:=lo+wd) l1 l2 (by omega) (by omega) h32 ⟨hlo.1,by omega,by omega⟩ (by rw[<-hP.out];exact hS.out);obtain⟨y1,y2,y3,y4,y5⟩:=hys i (by omega);rw[hget,<-hL.out] at y2 y3 y4 y5;rw[<-hP.out] at hd;generalize w7.setCell ⟨g30,i,none⟩ (.slice A8 32 c8)=W8 at *;have hda:=danswer_any W8.heap.size (.slice A1 32 c1) (.slice A2 32 c2) (.slice A3 565 c3) (.slice (some ⟨g30,0,none⟩) (k+1) c9) sd2 1 0 P 0 1048576 S ns lo (lo+wd) W8 r1 r2 r3 r14 nlr (by omega) (by omega) (by omega);unfold DAnsP at hda;rw[hd] at hda;dsimp only at hda;obtain⟨q1,q2,q3,q4,q5⟩:=one_link k1 hnn.out y2 y3 y4;generalize hy:ys.getD i []=y at *;replace q1:=lhd q1;replace q2:=lhd q2;replace q3:=lhd q3;replace q4:=lhd q4;replace q5:=lhd q5;replace y2:=lhd y2;replace y3:=lhd y3;replace y4:=lhd y4;replace y5:=lhd y5;replace hda:=lhd hda;clear hd hys h32 hget r14 r1 r2 r3 hkk hnn hP hL hS;refine hda.out.mono ?_;rintro e w9 ⟨v10,v11,v12,v13,rfl,s1,s2,s3,s4,hb9⟩;obtain⟨B1,d1,rfl,-,-⟩:=s1.mk_;obtain⟨B2,d2,rfl,-,-⟩:=s2.mk_;obtain⟨B3,d3,rfl,-,-⟩:=s3.mk_;obtain⟨B4,d4,rfl,-,-⟩:=s4.mk_;rw[l2] at s1 ⊢;rw[hPl] at s2 ⊢;rw[hSl] at s3 ⊢;rw[hyl,hns] at s4 ⊢;obtain⟨g40,o40,rfl,hg40,hds⟩:=s4.at_ (by omega);obtain⟨B5,d5,z1,-,-,s5⟩:=hds i (by omega);rw[hy] at z1 s5
 have hal9:=balloc w9 (.cells #[.slice B1 32 d1,.int .i64 1,.int .i64 1,.slice B2 32 d2,.int .i64 0,.int .i64 1048576,.slice B3 565 d3] 96);have hb99:=bgo hb9 hal9;replace x11:=x11.below hb99;replace hbw:=lhd (bgo hbw.out hb99);replace r4:=seesB_of r4 nlr hb99;replace r5:=seesB_of r5 nlr hb99;replace r11:=seesB_of r11 nlr hb99;replace s5:=seesB_of s5 nlr hal9;replace z1:=(hal9.cell (p:=⟨g40,o40+i,none⟩) hg40).trans z1;replace hg40:=Nat.lt_of_lt_of_le hg40 hal9.size;have iy:¬(2048:Int)<(y.length:Int):=by omega
 clear hda s1 s2 s3 s4 hds hal9 hb99 hb9;dsimp only
 go_upto_region 12 with (fail)
 generalize w9.alloc (.cells #[.slice B1 32 d1,.int .i64 1,.int .i64 1,.slice B2 32 d2,.int .i64 0,.int .i64 1048576,.slice B3 565 d3] 96)=W9 at *;generalize w9.heap.size=g42 at *
 go_wp2_with fail
 have hca:=cadd_any (.slice none 0 0) (.slice A4 32 c4) (.slice A5 32 c5) (.slice B5 y.length d5) [] (L,bl,y) W9 (SeesR.nil W9 W9.heap.size 3) r4 r5 s5 (by simp) (by simp) (by show L.length<=1048576/\bl.length<=1048576/\y.length<=1048576;omega);unfold AddP at hca;rw[q1.out,q2.out,q3.out,show ((L,bl,y) :: []).length=1 from rfl] at hca;dsimp only at hca;replace hca:=lhd hca;refine hca.out.mono ?_;rintro e w10 ⟨v14,rfl,s6,hb10⟩;obtain⟨B6,d6,rfl,-,-⟩:=s6.mk_;have hal10:=balloc w10 (.cells #[.int .i64 lo,.int .i64 (lo+wd)] 24);have x43:=Box.new w10 24 [.int .i64 lo,.int .i64 (lo+wd)];change Box (w10.alloc (.cells #[.int .i64 lo,.int .i64 (lo+wd)] 24)) _ _ _ at x43;have hb1010:=bgo hb10 hal10;replace x11:=x11.below hb1010;replace hbw:=lhd (bgo hbw.out hb1010);replace r4:=seesB_of r4 nlr hb1010;replace r11:=seesB_of r11 nlr hb1010;replace s5:=seesB_of s5 nlr hb1010;replace s6:=(s6.below hal10).more hal10.size;replace z1:=(hb1010.cell (p:=⟨g40,o40+i,none⟩) hg40).trans z1;replace hg40:=Nat.lt_of_lt_of_le hg40 hb1010.size;clear hca hal10 hb1010 hb10 r5;dsimp only
 go_upto_region 15 with (fail)
 generalize w10.alloc (.cells #[.int .i64 lo,.int .i64 (lo+wd)] 24)=W10 at *;generalize w10.heap.size=g43 at *;have hcv:=cverify_any W10.heap.size (.slice B6 1 d6) ((L,bl,y) :: []) W10 s6 nlr (by simp) (by
  intro t ht;rw[xm1] at ht;subst ht;show y.length<=_
  omega)
 unfold CVerP at hcv;rw[q4.out,q5.out,show ((lo,lo+wd) :: []).length=1 from rfl] at hcv;replace hcv:=lhd hcv;clear s6
 go_wp2_with fail
 refine hcv.out.mono ?_;rintro e w11 ⟨v15,rfl,s7,hb11⟩;obtain⟨B7,d7,rfl,-,-⟩:=s7.mk_;replace x11:=x11.below hb11;replace x43:=x43.below hb11;replace hbw:=lhd (bgo hbw.out hb11);replace r4:=seesB_of r4 nlr hb11;replace r11:=seesB_of r11 nlr hb11;replace s5:=seesB_of s5 nlr hb11;replace z1:=(hb11.cell (p:=⟨g40,o40+i,none⟩) hg40).trans z1;replace hg40:=Nat.lt_of_lt_of_le hg40 hb11.size;clear hcv hb11;have hbv:=bverify_any w11.heap.size _ _ _ L nn y w11 r4 r11 s5 nlr (by omega);unfold BVerP at hbv;rw[y5.out] at hbv;generalize bverLo L nn y=zl at *;generalize bverHi L nn y=zh at *;replace hbv:=lhd hbv;dsimp only
 go_wp2_with fail
 refine hbv.out.mono ?_;rintro e w12 ⟨rfl,hb12⟩;have hal12:=balloc w12 (.cells #[.int .i64 zl,.int .i64 zh] 24);have hb1212:=bgo hb12 hal12;replace x11:=x11.below hb1212;replace x43:=x43.below hb1212;replace hbw:=lhd (bgo hbw.out hb1212);replace s7:=(s7.below hb1212).more hb1212.size;obtain⟨g44,o44,rfl,hg44,hdv⟩:=s7.at_ (by omega);have e0:=hdv 0 _ rfl;have e1:=hdv 1 _ rfl;obtain⟨u0,e0,rfl,-⟩:=e0;obtain⟨u1,e1,rfl,-⟩:=e1;rw[Nat.add_zero] at e0;clear hbv hb1212 hb12 hal12 s7 hdv r4 r11 s5 z1 hg40;dsimp only
 go_upto_region 17 with (fail)
 generalize w12.alloc (.cells #[.int .i64 zl,.int .i64 zh] 24)=W12 at *;generalize w12.heap.size=g45 at *;have hx:=lhd x11;have hy':=lhd x43;have c0:=x11.cell 0;have c1':=x11.cell 1;have c2':=x43.cell 0;have c3':=x43.cell 1;have hkeep:Hid (∀W',Below W12.heap.size W12 W'->W'.cell? ⟨g11,0,none⟩=some (.int .i64 lo)/\W'.cell? ⟨g11,1,none⟩=some (.int .i64 (lo+wd))/\W'.cell? ⟨g43,0,none⟩=some (.int .i64 lo)/\W'.cell? ⟨g43,1,none⟩=some (.int .i64 (lo+wd))/\W'.cell? ⟨g44,o44,none⟩=some (.int .i64 lo)/\W'.cell? ⟨g44,o44+1,none⟩=some (.int .i64 (lo+wd))):=fun W' hW=>
  ⟨(hx.out.below hW).cell 0,(hx.out.below hW).cell 1,(hy'.out.below hW).cell 0,(hy'.out.below hW).cell 1,(hW.cell (p:=⟨g44,o44,none⟩) hg44).trans e0,(hW.cell (p:=⟨g44,o44+1,none⟩) hg44).trans e1⟩
 simp only[xqz,xqs] at c0 c1' c2' c3';clear x11 x43 hg44
 go_region_held3 (fun W'=>W'.cell? ⟨g11,0,none⟩=some (.int .i64 lo)/\W'.cell? ⟨g11,1,none⟩=some (.int .i64 (lo+wd))/\W'.cell? ⟨g43,0,none⟩=some (.int .i64 lo)/\W'.cell? ⟨g43,1,none⟩=some (.int .i64 (lo+wd))/\W'.cell? ⟨g44,o44,none⟩=some (.int .i64 lo)/\W'.cell? ⟨g44,o44+1,none⟩=some (.int .i64 (lo+wd)))
  (first | (go_keep;done) | (with_reducible exact hkeep.out _ hbA))
  (first | (go_at_call 57;refine (awake_any _).mono ?_;rintro e wA ⟨rfl,hbA⟩;replace hbA:=bgo (bdrew W12) hbA))
 go_wp2_with fail
 go_ret
 exact⟨rfl,bgo hbw.out hbA⟩
end Go.Proofs.YtjgepckncogdaaaGreat
