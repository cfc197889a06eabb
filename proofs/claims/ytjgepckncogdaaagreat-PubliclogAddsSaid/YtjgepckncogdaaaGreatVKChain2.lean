/- Contracts of functions, walks, plain facts. Conditions: those of each theorem. -/
import Derived.Test.YtjgepckncogdaaaGreatVSpansT
import Derived.Test.YtjgepckncogdaaaGreatVRLCopy
import Derived.Test.YtjgepckncogdaaaGreatK29
set_option linter.unusedVariables false
set_option linter.unusedSimpArgs false
set_option maxRecDepth 100000
set_option maxHeartbeats 16000000
namespace Go.Proofs.YtjgepckncogdaaaGreat
open Go Go.RowKit _root_.Go.Proofs.Tryz
attribute [local go_sem ↓] Go.wp_at_zero Go.wp_at_succ
theorem sees_s3 {W:World} {g:Nat} {T:TypeId} {a b c u:Value} {l:Bs} (h:Box W g T [a,b,c]) (n:NoByte [a,b,c]) (x y z:Value) (hs:SeesB W W.heap.size u l):SeesB (((W.setCell ⟨g,0,none⟩ x).setCell ⟨g,1,none⟩ y).setCell ⟨g,2,none⟩ z) (((W.setCell ⟨g,0,none⟩ x).setCell ⟨g,1,none⟩ y).setCell ⟨g,2,none⟩ z).heap.size u l:=by
 have hz:(((W.setCell ⟨g,0,none⟩ x).setCell ⟨g,1,none⟩ y).setCell ⟨g,2,none⟩ z).heap.size=W.heap.size:=by simp[World.setCell]
 rw[hz];exact hs.over nlr h n (ggo (ggo (setCell_grown W g 0 x) (setCell_grown _ g 1 y)) (setCell_grown _ g 2 z))
def HonK (ls:List LinkG) (k:Nat) (lo hi:Int):Prop:=
 ∃(sd sd2:Bs) (m:Int),sd.length=32/\sd2.length=32/\0<=m/\m<2/\(linkT ls k).1=pubG sd 1/\(linkT ls k).2.1.length=32 /\
  dansR sd2 0 0 (pubG sd2 0) (-1099511627776) 1099511627776 (sigG sd 1 m.toNat (tGrant++pubG sd2 0++spanB (-1099511627776) 1099511627776)) [nextG (ls.take k) (linkT ls k).2.1] lo hi =
   (((sd2,0,1),(pubG sd2 0,-1099511627776,1099511627776,sigG sd 1 m.toNat (tGrant++pubG sd2 0++spanB (-1099511627776) 1099511627776))),[(linkT ls k).2.2],0)
theorem HonK.snoc {ls:List LinkG} {t:LinkG} {k:Nat} {lo hi:Int} (hk:k<ls.length) (h:HonK ls k lo hi):HonK (ls++[t]) k lo hi:=by
 have e1:linkT (ls++[t]) k=linkT ls k:=by
  unfold linkT;rw[xgd,xgd,xal hk]
 have e2:(ls++[t]).take k=ls.take k:=List.take_append_of_le_length (Nat.le_of_lt hk);unfold HonK;rw[e1,e2];exact h
theorem HonK.last {ls:List LinkG} {pk bl y sd sd2:Bs} {m lo hi:Int} {k:Nat} (hk:ls.length=k) (h1:sd.length=32) (h2:sd2.length=32) (h3:0<=m) (h4:m<2) (h5:pk=pubG sd 1) (h6:bl.length=32)
 (h7:dansR sd2 0 0 (pubG sd2 0) (-1099511627776) 1099511627776 (sigG sd 1 m.toNat (tGrant++pubG sd2 0++spanB (-1099511627776) 1099511627776)) [nextG ls bl] lo hi =
  (((sd2,0,1),(pubG sd2 0,-1099511627776,1099511627776,sigG sd 1 m.toNat (tGrant++pubG sd2 0++spanB (-1099511627776) 1099511627776))),[y],0)):HonK (ls++[(pk,bl,y)]) k lo hi:=by
 subst hk;have e1:linkT (ls++[(pk,bl,y)]) ls.length=(pk,bl,y):=by
  unfold linkT;rw[xgd,xar nlr,Nat.sub_self];rfl
 have e2:(ls++[(pk,bl,y)]).take ls.length=ls:=by rw[List.take_append_of_le_length nlr,List.take_length]
 unfold HonK;rw[e1,e2];exact⟨sd,sd2,m,h1,h2,h3,h4,h5,h6,h7⟩
theorem link_eltsK {w:World} {n base:Nat} {v x y z:Value} {a b c:Bs} (h1:SeesB w w.heap.size x a) (h2:SeesB w w.heap.size y b) (h3:SeesB w w.heap.size z c) (f1:From n x) (f2:From n y) (f3:From n z) (hv:∀j,v.ownBlock=some j->j<n) (hn:base<=n):∀(k:Nat) (s:Spec),(linkS [(a,b,c)])[k]?=some s->∃u,[x,y,z][k]?=some u/\EltS w v u s/\From base u:=by
 intro k s hk
 match k,hk with
 | 0,hk=>cases hk;exact⟨_,rfl,EltS.of_from h1 f1 hv,f1.mono hn⟩
 | 1,hk=>cases hk;exact⟨_,rfl,EltS.of_from h2 f2 hv,f2.mono hn⟩
 | 2,hk=>cases hk;exact⟨_,rfl,EltS.of_from h3 f3 hv,f3.mono hn⟩
 | k+3,hk=>simp[linkS] at hk
theorem boxA {X w19:World} {g:Nat} {T:TypeId} {xs:List Value} (h:Box X g T xs) (h8:Below X.heap.size X w19):Box w19 g T xs/\g<X.heap.size:=⟨h.below h8,h.lt⟩
theorem ans_new {w17 w19:World} {n:Nat} {v:Value} {y:Bs} (q:OwnLF w19 n v [y]) (h:w17.heap.size<=n) (hb:Below w17.heap.size w17 w19) (o:Obj):OwnLF (w19.alloc o) w17.heap.size v [y]/\Below w17.heap.size w17 (w19.alloc o):=
 ⟨(q.below (balloc _ _)).mono h,bgo hb (balloc _ _)⟩
theorem ans_set {w17 w19:World} {g n:Nat} {T:TypeId} {v:Value} {y:Bs} (hx:Box w19 g T [.slice none 0 0,.int .i64 0,.int .i64 0,.slice none 0 0,.int .i64 0,.int .i64 0,.slice none 0 0]) (hgX:g<n) (hg:w17.heap.size<=g) (hX:w17.heap.size<=n) (q:OwnLF w19 n v [y]) (hb:Below w17.heap.size w17 w19)
 (A1:Option Addr) (n1 c1:Nat) (i1 i2:Int) (A2:Option Addr) (n2 c2:Nat) (i3 i4:Int) (A3:Option Addr) (n3 c3:Nat) :
 OwnLF (((((((w19.setCell ⟨g,0,none⟩ (.slice A1 n1 c1)).setCell ⟨g,1,none⟩ (.int .i64 i1)).setCell ⟨g,2,none⟩ (.int .i64 i2)).setCell ⟨g,3,none⟩ (.slice A2 n2 c2)).setCell ⟨g,4,none⟩ (.int .i64 i3)).setCell ⟨g,5,none⟩ (.int .i64 i4)).setCell ⟨g,6,none⟩ (.slice A3 n3 c3)) w17.heap.size v [y] /\
  Below w17.heap.size w17 (((((((w19.setCell ⟨g,0,none⟩ (.slice A1 n1 c1)).setCell ⟨g,1,none⟩ (.int .i64 i1)).setCell ⟨g,2,none⟩ (.int .i64 i2)).setCell ⟨g,3,none⟩ (.slice A2 n2 c2)).setCell ⟨g,4,none⟩ (.int .i64 i3)).setCell ⟨g,5,none⟩ (.int .i64 i4)).setCell ⟨g,6,none⟩ (.slice A3 n3 c3)):=
 ⟨(OwnLF.set7 hx hgX (NoB.s _ _ _) (NoB.i _) (NoB.i _) (NoB.s _ _ _) (NoB.i _) (NoB.i _) (NoB.s _ _ _) _ _ _ _ _ _ _ (NoB.s _ _ _) (NoB.i _) (NoB.i _) (NoB.s _ _ _) (NoB.i _) (NoB.i _) q).mono hX,
   ((((((hb.setCell (p:=⟨g,0,none⟩) hg _).setCell (p:=⟨g,1,none⟩) hg _).setCell (p:=⟨g,2,none⟩) hg _).setCell (p:=⟨g,3,none⟩) hg _).setCell (p:=⟨g,4,none⟩) hg _).setCell (p:=⟨g,5,none⟩) hg _).setCell (p:=⟨g,6,none⟩) hg _⟩
def KSignSP (v ht:Int) (w:World) (e:Ending) (w':World):Prop:=
 ∃v1 v2 sd pk,e=.returned (.tuple #[.agg #[v1,.int .i64 (ht % 2),.int .i64 0],v2])/\SeesB w' w'.heap.size v1 sd/\sd=randK (wrap64 (v+100)) 32/\sd.length=32/\SeesB w' w'.heap.size v2 pk/\pk=pubG sd (ht % 2)/\pk.length=32/\From w.heap.size v2/\Below w.heap.size w w'
theorem ksignerS_any (v ht:Int) (w:World):Calls prog 13 #[.int .i64 v,.int .i64 ht] w (KSignSP v ht w):=by
 have hkr:=fun x W=>(show Calls prog 59 #[.int .i64 x,.int .i64 32] W (Shows (randK x 32) W) from krandom_any x 32 (by omega) W)
 have hwi:=fun W=>kwithin_any ht 2 (by omega) (by omega) W
 have b1:=balloc w (.cells #[.slice none 0 0,.int .i64 0,.int .i64 0] 27);have h4:=Box.new w 27 [.slice none 0 0,.int .i64 0,.int .i64 0];have hm0:=Int.emod_nonneg ht (show (2:Int)≠0 by omega);have hm1:=Int.emod_lt_of_pos ht (show (0:Int)<2 by omega);replace hkr:=lhd hkr;replace hwi:=lhd hwi;replace b1:=lhd b1;have hm0':=lhd hm0;have hm1':=lhd hm1;clear hm0 hm1
 go_enter func13,ntmps13
 go_wp2_with fail
 change Box (w.alloc (.cells #[.slice none 0 0,.int .i64 0,.int .i64 0] 27)) _ _ _ at h4;generalize w.alloc (.cells #[.slice none 0 0,.int .i64 0,.int .i64 0] 27)=W1 at *;generalize hg:w.heap.size=g4 at h4 ⊢;replace hg:=lhd hg;refine (hkr.out _ _).mono ?_;rintro e w2 ⟨v2,rfl,t2,hb2,-⟩;have hl:=randK_len (wrap64 (v+100)) 32 (by omega);obtain⟨A2,c2,rfl,-,-⟩:=t2.mk_;replace h4:=lhd (h4.below hb2);replace b1:=lhd (bgo b1.out hb2);replace hl:=lhd hl;generalize hSD:randK (wrap64 (v+100)) 32=sd at *;replace hSD:=lhd hSD;dsimp only
 go_wp2_with fail
 refine (hwi.out _).mono ?_;rintro e w3 ⟨rfl,rfl⟩;generalize hH:ht % 2=H at *;replace hH:=lhd hH;dsimp only;have hal:=balloc w3 (.cells #[.slice A2 sd.length c2,.int .i64 H,.int .i64 0] 27);have h6:=Box.new w3 27 [.slice A2 sd.length c2,.int .i64 H,.int .i64 0];change Box (w3.alloc (.cells #[.slice A2 sd.length c2,.int .i64 H,.int .i64 0] 27)) _ _ _ at h6
 go_upto_region 2 with (fail)
 have t6:=seesB_of t2 nlr hal;replace h4:=lhd (h4.out.below hal);replace b1:=lhd (bgo b1.out hal);generalize w3.alloc (.cells #[.slice A2 sd.length c2,.int .i64 H,.int .i64 0] 27)=W6 at *;generalize w3.heap.size=g6 at *;have c0:=h6.cell 0;have c1:=h6.cell 1;simp only[xqz,xqs] at c0 c1;have hpu:=lhd (rpublicF_any W6.heap.size _ sd H W6 t6 nlr hl.out ⟨hm0'.out,by have:=hm1'.out;omega⟩);clear t2 hal hkr hwi
 go_wp2_with fail
 refine hpu.out.mono ?_;rintro e w7 ⟨vp,rfl,tp,fp,hb7⟩;obtain⟨Ap,cp,rfl,-,-⟩:=tp.mk_;have fw:=lhd (fp.mono b1.out.size);clear fp;have h67:=h6.below hb7;have h47:=h4.out.below hb7;have t7:=seesB_of t6 nlr hb7;have b7:=lhd (bgo b1.out hb7);have hlp:Hid ((pubG sd H).length=32):=by
  show _=_;have hl':sd.length=32:=hl.out;rw[pubG,if_pos (by have:=hm0'.out;have:=hm1'.out;omega)];exact keyG_len _ _
 have hl':Hid (sd.length=32):=hl.out;have hpg:Hid (pubG sd H=pubG sd H):=rfl;generalize hpk:pubG sd H=pk at tp hlp fw ⊢;replace hpk:=lhd hpk;have d0:=h67.cell 0;have d1:=h67.cell 1;have d2:=h67.cell 2;have y0:=h47.cell 0;have y1:=h47.cell 1;have y2:=h47.cell 2;simp only[xqz,xqs] at d0 d1 d2 y0 y1 y2;have f0:=h47.frozen 0;have f1:=h47.frozen 1;have f2:=h47.frozen 2;have n47:=noBL3' (NoB.s none 0 0) (NoB.i 0) (NoB.i 0);have hgr:=ggo (ggo (setCell_grown w7 g4 0 (.slice A2 sd.length c2)) (setCell_grown _ g4 1 (.int .i64 H))) (setCell_grown _ g4 2 (.int .i64 0));have hz:(((w7.setCell ⟨g4,0,none⟩ (.slice A2 sd.length c2)).setCell ⟨g4,1,none⟩ (.int .i64 H)).setCell ⟨g4,2,none⟩ (.int .i64 0)).heap.size=w7.heap.size:=by simp[World.setCell]
 have kt:=t7.over nlr h47 n47 hgr;have kp:=tp.over nlr h47 n47 hgr;have k4:=((h47.set 0 (.slice A2 sd.length c2)).set 1 (.int .i64 H)).set 2 (.int .i64 0);simp only[xsz,xss] at k4;rw[<-hz] at kt kp;replace kt:=lhd kt;replace kp:=lhd kp;replace k4:=lhd k4;have kb:=lhd (below_set3 b7.out (Nat.le_of_eq hg.out) (.slice A2 sd.length c2) (.int .i64 H) (.int .i64 0));clear hl hgr hz h47 h67 h6 h4 tp t7 t6 c0 c1 b1 hpu;dsimp only
 go_wp2_with fail
 clear d0 d1 d2 y0 y1 y2 f0 f1 f2;generalize ((w7.setCell ⟨g4,0,none⟩ (.slice A2 sd.length c2)).setCell ⟨g4,1,none⟩ (.int .i64 H)).setCell ⟨g4,2,none⟩ (.int .i64 0)=W9 at *;have z0:W9.cell? ⟨g4,0,none⟩=some (.slice A2 sd.length c2):=k4.out.cell 0;have z1:W9.cell? ⟨g4,1,none⟩=some (.int .i64 H):=k4.out.cell 1;have z2:W9.cell? ⟨g4,2,none⟩=some (.int .i64 0):=k4.out.cell 2;refine bodyPost_ret (v:=.tuple #[.agg #[.slice A2 sd.length c2,.int .i64 H,.int .i64 0],.slice Ap pk.length cp]) (by simp[results,results13,go_sem,z0,z1,z2]) rfl ?_;exact⟨_,_,sd,pk,by rw[hH.out],kt.out,hSD.out.symm,hl'.out,kp.out,by rw[hH.out];exact hpk.out.symm,hlp.out,fw.out,kb.out⟩
def Sg3 (S:Bs) (w:World) (v9 v10:Value) (W:World):Prop:=
 ∃g A c A2 c2 sd pk,v9=.pointer (some ⟨g,0,none⟩)/\v10=.slice A2 pk.length c2/\w.heap.size<=g/\Box W g 27 [.slice A sd.length c,.int .i64 1,.int .i64 0]/\SeesB W W.heap.size (.slice A sd.length c) sd/\sd=S/\sd.length=32/\SeesB W W.heap.size (.slice A2 pk.length c2) pk/\pk.length=32/\pk=pubG sd 1/\From w.heap.size (.slice A2 pk.length c2)/\Below w.heap.size w W
theorem sg3_new {w w7:World} {A A2:Option Addr} {c c2:Nat} {sd pk:Bs} (hb:Below w.heap.size w w7) (s1:SeesB w7 w7.heap.size (.slice A sd.length c) sd) {S:Bs} (hS:sd=S) (l1:sd.length=32) (s2:SeesB w7 w7.heap.size (.slice A2 pk.length c2) pk) (l2:pk.length=32) (he:pk=pubG sd 1) (f:From w.heap.size (.slice A2 pk.length c2)) :
 Sg3 S w (.pointer (some ⟨w7.heap.size,0,none⟩)) (.slice A2 pk.length c2) (w7.alloc (.cells #[.slice A sd.length c,.int .i64 1,.int .i64 0] 27)):=
 ⟨_,A,c,A2,c2,sd,pk,rfl,rfl,hb.size,Box.new w7 _ [.slice A sd.length c,.int .i64 1,.int .i64 0],seesB_of s1 nlr (balloc _ _),hS,l1,seesB_of s2 nlr (balloc _ _),l2,he,f,bgo hb (balloc _ _)⟩
theorem sg3_set {w w7:World} {g:Nat} {A A2:Option Addr} {c c2:Nat} {sd pk:Bs} (bz:Box w7 g 27 [.slice none 0 0,.int .i64 0,.int .i64 0]) (hg:w.heap.size<=g) (hb:Below w.heap.size w w7) (s1:SeesB w7 w7.heap.size (.slice A sd.length c) sd) {S:Bs} (hS:sd=S) (l1:sd.length=32) (s2:SeesB w7 w7.heap.size (.slice A2 pk.length c2) pk) (l2:pk.length=32) (he:pk=pubG sd 1) (f:From w.heap.size (.slice A2 pk.length c2)) :
 Sg3 S w (.pointer (some ⟨g,0,none⟩)) (.slice A2 pk.length c2) (((w7.setCell ⟨g,0,none⟩ (.slice A sd.length c)).setCell ⟨g,1,none⟩ (.int .i64 1)).setCell ⟨g,2,none⟩ (.int .i64 0)):=
 ⟨g,A,c,A2,c2,sd,pk,rfl,rfl,hg,box_lset3 bz _ _ _,sees_s3 bz (noBL3' (NoB.s none 0 0) (NoB.i 0) (NoB.i 0)) _ _ _ s1,hS,l1,sees_s3 bz (noBL3' (NoB.s none 0 0) (NoB.i 0) (NoB.i 0)) _ _ _ s2,l2,he,f,below_set3 hb hg _ _ _⟩
def HonS (ls:List LinkG) (k:Nat) (sd:Bs) (lo hi:Int):Prop:=
 ∃(sd2:Bs) (m:Int),sd.length=32/\sd2.length=32/\0<=m/\m<2/\(linkT ls k).1=pubG sd 1/\(linkT ls k).2.1.length=32 /\
  dansR sd2 0 0 (pubG sd2 0) (-1099511627776) 1099511627776 (sigG sd 1 m.toNat (tGrant++pubG sd2 0++spanB (-1099511627776) 1099511627776)) [nextG (ls.take k) (linkT ls k).2.1] lo hi =
   (((sd2,0,1),(pubG sd2 0,-1099511627776,1099511627776,sigG sd 1 m.toNat (tGrant++pubG sd2 0++spanB (-1099511627776) 1099511627776))),[(linkT ls k).2.2],0)
theorem HonS.snoc {ls:List LinkG} {t:LinkG} {k:Nat} {sd:Bs} {lo hi:Int} (hk:k<ls.length) (h:HonS ls k sd lo hi):HonS (ls++[t]) k sd lo hi:=by
 have e1:linkT (ls++[t]) k=linkT ls k:=by
  unfold linkT;rw[xgd,xgd,xal hk]
 have e2:(ls++[t]).take k=ls.take k:=List.take_append_of_le_length (Nat.le_of_lt hk);unfold HonS;rw[e1,e2];exact h
theorem HonS.last {ls:List LinkG} {pk bl y sd sd2:Bs} {m lo hi:Int} {k:Nat} (hk:ls.length=k) (h1:sd.length=32) (h2:sd2.length=32) (h3:0<=m) (h4:m<2) (h5:pk=pubG sd 1) (h6:bl.length=32)
 (h7:dansR sd2 0 0 (pubG sd2 0) (-1099511627776) 1099511627776 (sigG sd 1 m.toNat (tGrant++pubG sd2 0++spanB (-1099511627776) 1099511627776)) [nextG ls bl] lo hi =
  (((sd2,0,1),(pubG sd2 0,-1099511627776,1099511627776,sigG sd 1 m.toNat (tGrant++pubG sd2 0++spanB (-1099511627776) 1099511627776))),[y],0)):HonS (ls++[(pk,bl,y)]) k sd lo hi:=by
 subst hk;have e1:linkT (ls++[(pk,bl,y)]) ls.length=(pk,bl,y):=by
  unfold linkT;rw[xgd,xar nlr,Nat.sub_self];rfl
 have e2:(ls++[(pk,bl,y)]).take ls.length=ls:=by rw[List.take_append_of_le_length nlr,List.take_length]
 unfold HonS;rw[e1,e2];exact⟨sd2,m,h1,h2,h3,h4,h5,h6,h7⟩
def seedW (x y:Int):Bs:=randK (x % 1000 * 10+y+100) 32
def KChainS (x:Int) (N:Nat) (wh:Nat->Int) (sp:Nat->Int × Int) (w:World) (e:Ending) (w':World):Prop:=
 ∃v ls,e=.returned v/\OwnRF w' w.heap.size 108 v 3 ls.length (linkS ls)/\ls.length=N/\(∀t∈ls,t.1.length=32/\t.2.1.length=32/\t.2.2.length<=2048)/\(∀k,k<N->HonS ls k (seedW x (wh k)) (sp k).1 (sp k).2)/\Below w.heap.size w w'
theorem seed_is {x q y z:Int} (hq:x % 1000=q) (h0:0<=q) (h1:q<1000) (hy:z=y) (h2:0<=y) (h3:y<=1000):randK (wrap64 (IntKind.i64.wrap (IntKind.i64.wrap (q * 10)+y)+100)) 32=seedW x z:=by
 subst hq hy;rw[IntWalk.i64_in (x % 1000 * 10) (by omega),IntWalk.i64_in (x % 1000 * 10+z) (by omega),IntWalk.wrap64_in (x % 1000 * 10+z+100) (by omega)]
 rfl
theorem HonS.honK {ls:List LinkG} {k:Nat} {sd:Bs} {lo hi:Int} (h:HonS ls k sd lo hi):HonK ls k lo hi:=⟨sd,h⟩
theorem HonS.pub {ls:List LinkG} {k:Nat} {sd:Bs} {lo hi:Int} (h:HonS ls k sd lo hi):(linkT ls k).1=pubG sd 1:=by
 obtain⟨sd2,m,h1,h2,h3,h4,h5,-⟩:=h;exact h5
theorem kchainS_any (x:Int) (N:Nat) (hN:N<=8) (wh:Nat->Int) (sp:Nat->Int × Int) (xs1 xs2:List Value) (g1:∀k,k<N->xs1[k]?=some (.int .i64 (wh k))) (g2:∀k,k<N->xs2[k * 2]?=some (.int .i64 (sp k).1)/\xs2[k * 2+1]?=some (.int .i64 (sp k).2))
 (bw1:∀k,0<=wh k/\wh k<=1000) (bs2:∀k,k<N->vS (sp k).1 (sp k).2=true/\inS (sp k).1 (sp k).2 (-1099511627776) 1099511627776=true) (u1 u2:Value) (w:World) (h1:Sees w w.heap.size u1 1 N xs1) (h2:Sees w w.heap.size u2 2 N xs2) :
 Calls prog 82 #[.int .i64 x,u1,u2] w (KChainS x N wh sp w):=by
 obtain⟨A1,c1,rfl,-,-⟩:=h1.mk_;obtain⟨A2,c2,rfl,-,-⟩:=h2.mk_;have hks:=lhd (fun v ht W=>ksignerS_any v ht W);have hwi:=lhd (fun v m (h:1<=m) (h':m<=4294967296) W=>kwithin_any v m h h' W);have hr1:=Int.emod_nonneg x (show (1000:Int)≠0 by omega);have hr2:=Int.emod_lt_of_pos x (show (0:Int)<1000 by omega);generalize hq:x % 1000=q at *;replace hq:=lhd hq;replace h1:=lhd h1;replace h2:=lhd h2;replace g1:=lhd g1;replace g2:=lhd g2;replace bw1:=lhd bw1;replace bs2:=lhd bs2
 go_enter func82,ntmps82
 go_wp2_with fail
 go_loopw [7,8] (fun r t wr=>∃(k:Nat) (ls:List LinkG),k<=N/\t=.int .i64 k/\ls.length=k/\Hid (OwnRF wr w.heap.size 108 r 3 k (linkS ls))/\Hid (∀t∈ls,t.1.length=32/\t.2.1.length=32/\t.2.2.length<=2048)/\Hid (∀k',k'<k->HonS ls k' (seedW x (wh k')) (sp k').1 (sp k').2)/\Hid (Below w.heap.size w wr)) (fun _ t _=>N - (intOf t).toNat)
 case atStart=>exact⟨0,[],by omega,rfl,rfl,OwnRF.nil _ _ _ _,fun t ht=>by simp at ht,fun k' h=>absurd h (Nat.not_lt_zero _),Below.refl _ _⟩
 case round=>
  obtain⟨k,ls,hk,rfl,hlk,ho,hel,hho,hb⟩:=hrel;replace hlk:=lhd hlk;obtain⟨Ar,cr,rfl,-,-⟩:=ho.out.own.sees.mk_
  by_cases hlt:k<N
  ·have i0:(k:Int)<(N:Int):=by omega
   have i1:(0:Int)<=(k:Int):=by omega
   obtain⟨b1,o1,rfl,hb1,hc1⟩:=(Sees.below h1.out hb.out).at_ (by omega);obtain⟨b2,o2,rfl,hb2,hc2⟩:=(Sees.below h2.out hb.out).at_ (by omega);have d1:=hc1 k _ (g1.out k hlt);have d2:=hc2 _ _ (g2.out k hlt).1;have d3:=hc2 _ _ (g2.out k hlt).2;have hw0:=bw1.out k;have hsb:=lhd (bs2.out k hlt);obtain⟨lo,hlo⟩:∃z,(sp k).1=z:=⟨_,rfl⟩
   obtain⟨hi,hhi⟩:∃z,(sp k).2=z:=⟨_,rfl⟩
   rw[hlo] at hsb d2;rw[hhi] at hsb d3;replace hlo:=lhd hlo;replace hhi:=lhd hhi;obtain⟨y,hy⟩:∃y,wh k=y:=⟨_,rfl⟩
   rw[hy] at hw0 d1;replace hy:=lhd hy;have hSE:=lhd (seed_is hq.out hr1 hr2 hy.out hw0.1 hw0.2);have KS:Hid (∀W,Below wr.heap.size wr W->W.cell? ⟨b2,o2+k * 2,none⟩=some (.int .i64 lo)/\W.cell? ⟨b2,o2+k * 2+1,none⟩=some (.int .i64 hi)):=fun W hW=>⟨(hW.cell (p:=⟨b2,o2+k * 2,none⟩) (Nat.lt_of_lt_of_le hb2 hb.out.size)).trans d2,(hW.cell (p:=⟨b2,o2+k * 2+1,none⟩) (Nat.lt_of_lt_of_le hb2 hb.out.size)).trans d3⟩
   clear d2 d3;clear hc1 hc2;have hwq:Hid (∀W,Calls prog 15 #[.int .i64 x,.int .i64 1000] W fun e w'=>e=.returned (.int .i64 q)/\w'=W):=fun W=>by rw[<-hq.out];exact kwithin_any x 1000 (by omega) (by omega) W
   have hk1:Hid (∀(v:Int) W,Calls prog 13 #[.int .i64 v,.int .i64 1] W (KSignSP v 1 W)):=fun v W=>ksignerS_any v 1 W
   have hk2:Hid (∀(v:Int),Calls prog 13 #[.int .i64 v,.int .i64 1] (wr.alloc (.cells #[.slice none 0 0,.int .i64 0,.int .i64 0] 27)).drew (KSignSP v 1 (wr.alloc (.cells #[.slice none 0 0,.int .i64 0,.int .i64 0] 27)).drew)):=fun v=>ksignerS_any v 1 _
   have hk3:Hid (∀(v:Int),Calls prog 13 #[.int .i64 v,.int .i64 1] (wr.alloc (.cells #[.slice none 0 0,.int .i64 0,.int .i64 0] 27)) (KSignSP v 1 (wr.alloc (.cells #[.slice none 0 0,.int .i64 0,.int .i64 0] 27)))):=fun v=>ksignerS_any v 1 _
   have K:Hid (∀W,Below wr.heap.size wr W->W.cell? ⟨b1,o1+k,none⟩=some (.int .i64 y)):=fun W hW=>(hW.cell (p:=⟨b1,o1+k,none⟩) (Nat.lt_of_lt_of_le hb1 hb.out.size)).trans d1
   have K3:Hid (∀W (p0 p1 p2:Value),Below wr.heap.size wr W->(((W.setCell ⟨wr.heap.size,0,none⟩ p0).setCell ⟨wr.heap.size,1,none⟩ p1).setCell ⟨wr.heap.size,2,none⟩ p2).cell? ⟨b1,o1+k,none⟩=some (.int .i64 y)):=fun W p0 p1 p2 hW=>K.out _ (below_set3 hW nlr _ _ _)
   go_wp2_with fail
   go_cut [9,10] (fun v9 v10 W=>Sg3 (seedW x (wh k)) wr v9 v10 W)
   case first=>
    go_region_held3 (fun W':World=>W'.cell? ⟨b1,o1+k,none⟩=some (.int .i64 y))
     (first | (with_reducible exact K3.out _ _ _ _ (by (repeat (first | exact Below.refl _ _ | (refine bgo ?_ (balloc _ _)) | (refine bgo ?_ (bdrew _)) | (refine bgo ?_ (by assumption)))))) | (with_reducible exact K.out _ (by (repeat (first | exact Below.refl _ _ | (refine bgo ?_ (balloc _ _)) | (refine bgo ?_ (bdrew _)) | (refine bgo ?_ (by assumption)))))) | (go_keep;done))
     (first
      | (go_at_call 15;(with_reducible refine (hwq.out _).mono ?_);rintro e w5 ⟨rfl,hw⟩
         obtain rfl:=hw.symm)
      | (go_at_call 13;(with_reducible refine (hk2.out _).mono ?_);rintro e w7 ⟨v1,v2,sd,pk,rfl,s1,hse,hsd,s2,hpe,hpl,f2,hb7⟩
         obtain⟨B1,e1,rfl,-,-⟩:=s1.mk_;obtain⟨B2,e2,rfl,-,-⟩:=s2.mk_;replace hse:Hid (sd=seedW x (wh k)):=hse.trans hSE.out;replace hsd:=lhd hsd;replace hpl:=lhd hpl;replace hpe:Hid (pk=pubG sd 1):=lhd hpe;have bz:=((Box.new wr 27 [.slice none 0 0,.int .i64 0,.int .i64 0]).below (bdrew _)).below hb7;obtain⟨y0,y1,y2,f0,f1,f2'⟩:=box3_cells bz)
      | (go_at_call 13;(with_reducible refine (hk3.out _).mono ?_);rintro e w7 ⟨v1,v2,sd,pk,rfl,s1,hse,hsd,s2,hpe,hpl,f2,hb7⟩
         obtain⟨B1,e1,rfl,-,-⟩:=s1.mk_;obtain⟨B2,e2,rfl,-,-⟩:=s2.mk_;replace hse:Hid (sd=seedW x (wh k)):=hse.trans hSE.out;replace hsd:=lhd hsd;replace hpl:=lhd hpl;replace hpe:Hid (pk=pubG sd 1):=lhd hpe;have bz:=(Box.new wr 27 [.slice none 0 0,.int .i64 0,.int .i64 0]).below hb7;obtain⟨y0,y1,y2,f0,f1,f2'⟩:=box3_cells bz)
      | (go_at_call 13;(with_reducible refine (hk1.out _ _).mono ?_);rintro e w7 ⟨v1,v2,sd,pk,rfl,s1,hse,hsd,s2,hpe,hpl,f2,hb7⟩
         obtain⟨B1,e1,rfl,-,-⟩:=s1.mk_;obtain⟨B2,e2,rfl,-,-⟩:=s2.mk_;replace hse:Hid (sd=seedW x (wh k)):=hse.trans hSE.out;replace hsd:=lhd hsd;replace hpl:=lhd hpl;replace hpe:Hid (pk=pubG sd 1):=lhd hpe))
    all_goals
     go_wp2_with fail
     go_meet
     have fw:=f2.mono (before (w7:=wr) (by (repeat (first | exact Below.refl _ _ | (refine bgo ?_ (balloc _ _)) | (refine bgo ?_ (bdrew _)) | (refine bgo ?_ (by assumption))))) hb7)
     first
      | with_reducible exact sg3_new (by (repeat (first | exact Below.refl _ _ | (refine bgo ?_ (balloc _ _)) | (refine bgo ?_ (bdrew _)) | (refine bgo ?_ (by assumption))))) s1 hse.out hsd.out s2 hpl.out hpe.out fw
      | with_reducible exact sg3_set bz nlr (by (repeat (first | exact Below.refl _ _ | (refine bgo ?_ (balloc _ _)) | (refine bgo ?_ (bdrew _)) | (refine bgo ?_ (by assumption))))) s1 hse.out hsd.out s2 hpl.out hpe.out fw
   case rest=>
   unfold Sg3 at hcut;obtain⟨g9,A9,c9,A10,c10,sd,pk,rfl,rfl,hg9,x9,s9,hse,hsd,s10,hpl,hpe,f10,hb7⟩:=hcut;obtain⟨w7,rfl⟩:∃w7:World,w7=wc:=⟨_,rfl⟩
   have hn0:=Int.emod_nonneg (k:Int) (show (2:Int)≠0 by omega);have hn1:=Int.emod_lt_of_pos (k:Int) (show (0:Int)<2 by omega);have hw6:=hwi.out (k:Int) 2 (by omega) (by omega) w7;generalize (k:Int) % 2=n at *;replace hw6:=lhd hw6;obtain⟨k1,k2,k3,e1,e2,e3⟩:=box3_cells x9;have nz:NoByte [Value.slice A9 sd.length c9,.int .i64 1,.int .i64 0]:=noBL3' (NoB.s _ _ _) (NoB.i 1) (NoB.i 0);have x9':Box (w7.setCell ⟨g9,2,none⟩ (.int .i64 n)) g9 27 [.slice A9 sd.length c9,.int .i64 1,.int .i64 n]:=by have:=x9.set 2 (.int .i64 n);simpa using this
   have s9':=lhd (SeesB.more (SeesB.poke (j:=2) (v':=.int .i64 n) s9 x9 nz) (show w7.heap.size<=(w7.setCell ⟨g9,2,none⟩ (.int .i64 n)).heap.size by simp[World.setCell]));have s10':=lhd (SeesB.more (SeesB.poke (j:=2) (v':=.int .i64 n) s10 x9 nz) (show w7.heap.size<=(w7.setCell ⟨g9,2,none⟩ (.int .i64 n)).heap.size by simp[World.setCell]));have hb8:=lhd (hb7.setCell (p:=⟨g9,2,none⟩) hg9 (.int .i64 n));replace hse:=lhd hse;replace hsd:=lhd hsd;replace hpl:=lhd hpl;replace f10:=lhd f10;replace hpe:=lhd hpe;replace hg9:=lhd hg9;replace x9':=lhd x9';clear s9 s10 hb7 nz hwi x9 hk2 hk3 K K3
   go_wp2_with fail
   refine hw6.out.mono ?_;rintro e w8 ⟨rfl,hw⟩;obtain rfl:=hw.symm;clear hw6;dsimp only
   go_upto_region 7 with (fail)
   clear k1 k2 k3 e1 e2 e3;generalize w7.setCell ⟨g9,2,none⟩ (.int .i64 n)=W8 at *;have hk0:Hid (∀(v:Int) W,Calls prog 13 #[.int .i64 v,.int .i64 0] W (KSignSP v 0 W)):=fun v W=>ksignerS_any v 0 W
   go_wp2_with fail
   refine (hwq.out _).mono ?_;rintro e w8 ⟨rfl,hw⟩;obtain rfl:=hw.symm;dsimp only
   go_wp2_with fail
   refine (hk0.out _ _).mono ?_;rintro e w9 ⟨v1,v2,sd2,pk2,rfl,s11,-,hsd2,s12,hpe2,hpl2,-,hb9⟩;obtain⟨A11,c11,rfl,-,-⟩:=s11.mk_;obtain⟨A12,c12,rfl,-,-⟩:=s12.mk_;have hal:=balloc w9 (.cells #[.slice A11 sd2.length c11,.int .i64 0,.int .i64 0] 27);have x11:=Box.new w9 27 [.slice A11 sd2.length c11,.int .i64 0,.int .i64 0];change Box (w9.alloc (.cells #[.slice A11 sd2.length c11,.int .i64 0,.int .i64 0] 27)) _ _ _ at x11;have hb11:=bgo hb9 hal;have x9w:=x9'.out.below hb11;replace s9':=lhd (seesB_of s9'.out nlr hb11);replace s10':=lhd (seesB_of s10'.out nlr hb11);replace s11:=lhd (seesB_of s11 nlr hal);replace s12:=lhd (seesB_of s12 nlr hal);replace hb8:=lhd (bgo hb8.out hb11);replace hsd2:=lhd hsd2;replace hpl2:=lhd hpl2;replace hpe2:Hid (pk2=pubG sd2 0):=lhd hpe2;clear hal hb9 hb11 hk0 hk1 x9';dsimp only
   go_upto_region 8 with (fail)
   generalize w9.alloc (.cells #[.slice A11 sd2.length c11,.int .i64 0,.int .i64 0] 27)=W11 at *;generalize w9.heap.size=g11 at x11 ⊢;have hgr:=rgrant_any W11.heap.size _ _ sd pk2 1 n (-1099511627776) 1099511627776 W11 s9'.out s12.out nlr (by have:=hpl2.out;omega);rw[grant_two hsd.out hpl2.out wide_vS hn0 hn1] at hgr;have hfS:fitsG (sigG sd 1 n.toNat (tGrant++pk2++spanB (-1099511627776) 1099511627776))=true:=head_sig _ _ _ _ (by omega);have hSl:(sigG sd 1 n.toNat (tGrant++pk2++spanB (-1099511627776) 1099511627776)).length<=4000:=by rw[sigG_len];omega
   unfold GrantP at hgr;dsimp only at hgr;generalize hSq:sigG sd 1 n.toNat (tGrant++pk2++spanB (-1099511627776) 1099511627776)=S at *;replace hSq:=lhd hSq;replace hgr:=lhd hgr;replace hfS:=lhd hfS;replace hSl:=lhd hSl;replace x11:=lhd x11;obtain⟨k1,k2,k3,-,-,-⟩:=box3_cells x9w
   go_wp2_with fail
   refine hgr.out.mono ?_;rintro e w12 ⟨v1,v2,v3,rfl,t1,t2,t3,hb12⟩;obtain⟨A13,c13,rfl,-,-⟩:=t1.mk_;obtain⟨A14,c14,rfl,-,-⟩:=t2.mk_;obtain⟨A15,c15,rfl,-,-⟩:=t3.mk_;clear hgr k1 k2 k3 x9w s9';dsimp only
   go_upto_region 9 with (fail)
   have hal12:=bgo (balloc w12 (.cells #[.slice A13 sd.length c13,.int .i64 1,.int .i64 (n+1)] 27)) (balloc _ (.cells #[.slice A14 pk2.length c14,.int .i64 (-1099511627776),.int .i64 1099511627776,.slice A15 S.length c15] 94));have x14:=Box.new (w12.alloc (.cells #[.slice A13 sd.length c13,.int .i64 1,.int .i64 (n+1)] 27)) 94 [.slice A14 pk2.length c14,.int .i64 (-1099511627776),.int .i64 1099511627776,.slice A15 S.length c15];rw[xsa] at x14;change Box ((w12.alloc (.cells #[.slice A13 sd.length c13,.int .i64 1,.int .i64 (n+1)] 27)).alloc (.cells #[.slice A14 pk2.length c14,.int .i64 (-1099511627776),.int .i64 1099511627776,.slice A15 S.length c15] 94)) _ _ _ at x14;have hb1212:=bgo hb12 hal12;have x11b:=lhd (x11.out.below hb1212);replace s10':=lhd (seesB_of s10'.out nlr hb1212);replace s11:=lhd (seesB_of s11.out nlr hb1212);replace t2:=lhd (seesB_of t2 nlr hal12);replace t3:=lhd (seesB_of t3 nlr hal12);have hb13:=lhd (bgo hb8.out hb1212);clear hal12 hb1212 hb12 hb8 x11 t1 s12;generalize (w12.alloc (.cells #[.slice A13 sd.length c13,.int .i64 1,.int .i64 (n+1)] 27)).alloc (.cells #[.slice A14 pk2.length c14,.int .i64 (-1099511627776),.int .i64 1099511627776,.slice A15 S.length c15] 94)=W12 at *;generalize w12.heap.size+1=g14 at x14 ⊢;replace x14:=lhd x14;have hkr:Hid (∀(v:Int) W,Calls prog 59 #[.int .i64 v,.int .i64 32] W (fun e w'=>∃bl:Bs,bl.length=32/\Shows bl W e w')):=fun v W=>(krandom_any v 32 (by omega) W).mono fun e w' h=>⟨_,randK_len v 32 (by omega),h⟩
   go_wp2_with fail
   refine (hwq.out _).mono ?_;rintro e w13 ⟨rfl,hw⟩;obtain rfl:=hw.symm;dsimp only
   go_wp2_with fail
   refine (hkr.out _ _).mono ?_;rintro e w15 ⟨bl,hbl,vb,rfl,sb,hb15,fb⟩;obtain⟨Ab,cb,rfl,-,-⟩:=sb.mk_;have hbw15:=lhd (bgo hb13.out hb15);have hnz:=next_zero hel.out (by have:=hlk.out;omega) hbl;have hne:=lhd (rnext_any w15.heap.size w15.heap.size (.slice Ar k cr) _ ls bl w15 (by have h:=(ho.out.below hbw15.out).own.sees;have e:=hlk.out;rw[e];exact h) nlr sb nlr);unfold NextP at hne;rw[hnz.1] at hne;have hnl:=lhd hnz.2;generalize hnn:nextG ls bl=nn at *;replace hnn:=lhd hnn;replace hbl:=lhd hbl;have x11c:=lhd (x11b.out.below hb15);have x14c:=lhd (x14.out.below hb15);replace s10':=lhd (seesB_of s10'.out nlr hb15);replace s11:=lhd (seesB_of s11.out nlr hb15);replace t2:=lhd (seesB_of t2.out nlr hb15);replace t3:=lhd (seesB_of t3.out nlr hb15);replace fb:=lhd (fb.mono (hb13.out.size));replace sb:=lhd sb;clear hb15 hb13 hnz x11b x14 hkr;dsimp only
   go_wp2_with fail
   refine hne.out.mono ?_;rintro e w17 ⟨vn,rfl,on,hb17⟩;obtain⟨An,cn,rfl,-,-⟩:=on.sees.mk_;have x11d:=x11c.out.below hb17;have x14d:=x14c.out.below hb17;replace s10':=lhd (seesB_of s10'.out nlr hb17);replace s11:=lhd (seesB_of s11.out nlr hb17);replace t2:=lhd (seesB_of t2.out nlr hb17);replace t3:=lhd (seesB_of t3.out nlr hb17);replace sb:=lhd (seesB_of sb.out nlr hb17);have hbw17:=lhd (bgo hbw15.out hb17);have sn:=lhd on.sees;obtain⟨y,hR,hyl⟩:=dans_one (sd:=sd2) (P:=pk2) (S:=S) (nn:=nn) (h:=0) (f:=-1099511627776) (t:=1099511627776) (lo:=lo) (hi:=hi) hsd2.out (by omega) (by omega) hnl.out hsb.out.1 hpl2.out hfS.out wide_vS hsb.out.2;replace hyl:=lhd hyl;have hans:Hid (∀(W:World) (G:Nat),Box W G 25 [.slice An nn.length cn]->Below w17.heap.size w17 W->Calls prog 161 #[.agg #[.slice A11 sd2.length c11,.int .i64 0,.int .i64 0,.slice A14 pk2.length c14,.int .i64 (-1099511627776),.int .i64 1099511627776,.slice A15 S.length c15],.slice (some ⟨G,0,none⟩) 1 1,.agg #[.int .i64 lo,.int .i64 hi]] W
    (fun e w'=>∃v1 v2 v3 v4,e=.returned (.tuple #[.agg #[v1,.int .i64 0,.int .i64 1,v2,.int .i64 (-1099511627776),.int .i64 1099511627776,v3],v4,.int .i64 0])/\SeesB w' w'.heap.size v1 sd2/\SeesB w' w'.heap.size v2 pk2/\SeesB w' w'.heap.size v3 S/\OwnLF w' W.heap.size v4 [y]/\Below W.heap.size W w')):=fun W G hG hW=>by
    have h:=rdanswer_any W.heap.size (.slice A11 sd2.length c11) (.slice A14 pk2.length c14) (.slice A15 S.length c15) (.slice (some ⟨G,0,none⟩) 1 1) sd2 0 0 pk2 (-1099511627776) 1099511627776 S [nn] lo hi W (seesB_of s11.out nlr hW) (seesB_of t2.out nlr hW) (seesB_of t3.out nlr hW) (sees_box1 hG (seesB_of sn.out nlr hW)) nlr (by have:=hpl2.out;omega) hSl.out (by simp);rw[hR] at h;exact h
   replace hR:=lhd hR;have K17:Hid (∀W,Below w17.heap.size w17 W->W.cell? ⟨g11,0,none⟩=some (.slice A11 sd2.length c11)/\W.cell? ⟨g11,1,none⟩=some (.int .i64 0)/\W.cell? ⟨g11,2,none⟩=some (.int .i64 0)/\W.cell? ⟨g14,0,none⟩=some (.slice A14 pk2.length c14)/\W.cell? ⟨g14,1,none⟩=some (.int .i64 (-1099511627776))/\W.cell? ⟨g14,2,none⟩=some (.int .i64 1099511627776)/\W.cell? ⟨g14,3,none⟩=some (.slice A15 S.length c15)/\W.cell? ⟨b2,o2+k * 2,none⟩=some (.int .i64 lo)/\W.cell? ⟨b2,o2+k * 2+1,none⟩=some (.int .i64 hi)):=fun W hW=>
    ⟨(x11d.below hW).cell 0,(x11d.below hW).cell 1,(x11d.below hW).cell 2,(x14d.below hW).cell 0,(x14d.below hW).cell 1,(x14d.below hW).cell 2,(x14d.below hW).cell 3,(KS.out _ (bgo hbw17.out hW)).1,(KS.out _ (bgo hbw17.out hW)).2⟩
   clear hne hbw15 hb17 x11c x14c x11d x14d on s11 t2 t3 sn;dsimp only
   go_upto_region 11 with (fail)
   go_cut [20,21] (fun v20 v21 W=>∃A c,v20=.slice A 1 c/\v21=.int .i64 0/\OwnLF W w17.heap.size (.slice A 1 c) [y]/\Below w17.heap.size w17 W)
   case first=>
    refine wp_region_J (fun W':World=>W'.cell? ⟨g11,0,none⟩=some (.slice A11 sd2.length c11)/\W'.cell? ⟨g11,1,none⟩=some (.int .i64 0)/\W'.cell? ⟨g11,2,none⟩=some (.int .i64 0)/\W'.cell? ⟨g14,0,none⟩=some (.slice A14 pk2.length c14)/\W'.cell? ⟨g14,1,none⟩=some (.int .i64 (-1099511627776))/\W'.cell? ⟨g14,2,none⟩=some (.int .i64 1099511627776)/\W'.cell? ⟨g14,3,none⟩=some (.slice A15 S.length c15)/\W'.cell? ⟨b2,o2+k * 2,none⟩=some (.int .i64 lo)/\W'.cell? ⟨b2,o2+k * 2+1,none⟩=some (.int .i64 hi)) 15 (by kernel_rfl) ?_ (fun hHeld=>?_)
    ·(try dsimp only);exact K17.out _ (by (repeat (first | exact Below.refl _ _ | (refine bgo ?_ (balloc _ _)) | (refine bgo ?_ (bdrew _)) | (refine bgo ?_ (by assumption)))))
    refine wpAnyJ_take (i:=0) (v:=?_) rfl (by kernel_rfl) (by kernel_rfl) (by kernel_rfl) (fun _ _ _ h=>h) (by rfl) rfl (by kernel_rfl) (by kernel_rfl) (Or.inl ⟨by rfl,?_⟩) (by assumption) ?_;rotate_left 1
    ·intro w hSw;(try dsimp only at hSw);go_simp<;>(try with_reducible rfl)
    try simp only[Act.put,xgt,List.getElem_cons_succ,xgz,xsb,xsz,xss]
    refine wpAnyJ_take (i:=1) (v:=?_) rfl (by kernel_rfl) (by kernel_rfl) (by kernel_rfl) (fun _ _ _ h=>h) (by rfl) rfl (by kernel_rfl) (by kernel_rfl) (Or.inl ⟨by rfl,?_⟩) (by assumption) ?_;rotate_left 1
    ·intro w hSw;(try dsimp only at hSw);go_simp<;>(try with_reducible rfl)
    try simp only[Act.put,xgt,List.getElem_cons_succ,xgz,xsb,xsz,xss]
    refine wpAnyJ_take0 (i:=2) (v:=?_) rfl (by kernel_rfl) (by kernel_rfl) (by kernel_rfl) (fun _ _ _ h=>h) (by rfl) (Or.inl ⟨by rfl,?_⟩) (by assumption) ?_;rotate_left 1
    ·intro w hSw;(try dsimp only at hSw);go_simp<;>(try with_reducible rfl)
    try simp only[Act.put,xgt,List.getElem_cons_succ,xgz,xsb,xsz,xss]
    refine wpAnyJ_take0 (i:=3) (v:=?_) rfl (by kernel_rfl) (by kernel_rfl) (by kernel_rfl) (fun _ _ _ h=>h) (by rfl) (Or.inl ⟨by rfl,?_⟩) (by assumption) ?_;rotate_left 1
    ·intro w hSw;(try dsimp only at hSw);go_simp<;>(try with_reducible rfl)
    try simp only[Act.put,xgt,List.getElem_cons_succ,xgz,xsb,xsz,xss]
    refine wpAnyJ_take0 (i:=5) (v:=?_) rfl (by kernel_rfl) (by kernel_rfl) (by kernel_rfl) (fun _ _ _ h=>h) (by rfl) (Or.inl ⟨by rfl,?_⟩) (by assumption) ?_;rotate_left 1
    ·intro w hSw;(try dsimp only at hSw);go_simp<;>(try with_reducible rfl)
    try simp only[Act.put,xgt,List.getElem_cons_succ,xgz,xsb,xsz,xss]
    refine wpAnyJ_take0 (i:=6) (v:=?_) rfl (by kernel_rfl) (by kernel_rfl) (by kernel_rfl) (fun _ _ _ h=>h) (by rfl) (Or.inl ⟨by rfl,?_⟩) (by assumption) ?_;rotate_left 1
    ·intro w hSw;(try dsimp only at hSw);go_simp<;>(try with_reducible rfl)
    try simp only[Act.put,xgt,List.getElem_cons_succ,xgz,xsb,xsz,xss]
    refine wpAnyJ_take0 (i:=7) (v:=?_) rfl (by kernel_rfl) (by kernel_rfl) (by kernel_rfl) (fun _ _ _ h=>h) (by rfl) (Or.inl ⟨by rfl,?_⟩) (by assumption) ?_;rotate_left 1
    ·intro w hSw;(try dsimp only at hSw);go_simp<;>(try with_reducible rfl)
    try simp only[Act.put,xgt,List.getElem_cons_succ,xgz,xsb,xsz,xss]
    refine wpAnyJ_take (i:=8) (v:=?_) rfl (by kernel_rfl) (by kernel_rfl) (by kernel_rfl) (fun _ _ _ h=>h) (by rfl) rfl (by kernel_rfl) (by kernel_rfl) (Or.inl ⟨by rfl,?_⟩) (by assumption) ?_;rotate_left 1
    ·intro w hSw;(try dsimp only at hSw);go_simp<;>(try with_reducible rfl)
    try simp only[Act.put,xgt,List.getElem_cons_succ,xgz,xsb,xsz,xss]
    refine wpAnyJ_ready (rs:=[4,14]) (by kernel_rfl) (by simp) ?_;refine AllReadyJ.cons (o:=_) rfl (fun Kq hKq=>?_) ?_
    ·go_simp
     refine hKq.out _ _ ?_ (fun hHeld=>?_)
     ·intro _;(try dsimp only);exact K17.out _ (by (repeat (first | exact Below.refl _ _ | (refine bgo ?_ (balloc _ _)) | (refine bgo ?_ (bdrew _)) | (refine bgo ?_ (by assumption)))))
     clear hKq Kq
     try simp only[Act.put,xgt,List.getElem_cons_succ,xgz,xsb,xsz,xss]
     refine wpAnyJ_ready (rs:=[9,14]) (by kernel_rfl) (by simp) ?_;refine AllReadyJ.cons (o:=_) rfl (fun Kq hKq=>?_) ?_
     ·go_simp
      go_at_call 161
      with_reducible refine (hans.out _ _ (by (repeat (first | exact boxn (by with_reducible rfl) | exact boxn (by simp only[xsa];done) | (refine Box.below ?_ (balloc _ _)) | (refine Box.below ?_ (bdrew _)) | (refine Box.below ?_ (by assumption))))) (by (repeat (first | exact Below.refl _ _ | (refine bgo ?_ (balloc _ _)) | (refine bgo ?_ (bdrew _)) | (refine bgo ?_ (by assumption)))))).mono ?_
      rintro e w19 ⟨v1,v2,v3,v4,rfl,q1,q2,q3,q4,hb19⟩;obtain⟨A21,c21,rfl,-,-⟩:=q1.mk_;obtain⟨A22,c22,rfl,-,-⟩:=q2.mk_;obtain⟨A23,c23,rfl,-,-⟩:=q3.mk_;obtain⟨A24,c24,rfl,-,-⟩:=q4.own.sees.mk_;replace q4:OwnLF w19 _ (.slice A24 1 c24) [y]:=q4;have hx0:=before (w7:=w17) (by (repeat (first | exact Below.refl _ _ | (refine bgo ?_ (balloc _ _)) | (refine bgo ?_ (bdrew _)) | (refine bgo ?_ (by assumption))))) hb19;have hw19:Below w17.heap.size w17 w19:=by (repeat (first | exact Below.refl _ _ | (refine bgo ?_ (balloc _ _)) | (refine bgo ?_ (bdrew _)) | (refine bgo ?_ (by assumption))))
      go_wp2_with fail
      refine hKq.out _ _ ?_ (fun hHeld=>?_)
      ·intro _;(try dsimp only);exact K17.out _ (by (repeat (first | exact Below.refl _ _ | (refine bgo ?_ (balloc _ _)) | (refine bgo ?_ (bdrew _)) | (refine bgo ?_ (by assumption)))))
      clear hKq Kq
      try simp only[Act.put,xgt,List.getElem_cons_succ,xgz,xsb,xsz,xss]
      refine wpAnyJ_take0 (i:=10) (v:=?_) rfl (by kernel_rfl) (by kernel_rfl) (by kernel_rfl) (fun _ _ _ h=>h) (by rfl) (Or.inl ⟨by rfl,?_⟩) (by assumption) ?_;rotate_left 1
      ·intro w hSw;(try dsimp only at hSw);go_simp<;>(try with_reducible rfl)
      try simp only[Act.put,xgt,List.getElem_cons_succ,xgz,xsb,xsz,xss]
      refine wpAnyJ_take0 (i:=11) (v:=?_) rfl (by kernel_rfl) (by kernel_rfl) (by kernel_rfl) (fun _ _ _ h=>h) (by rfl) (Or.inl ⟨by rfl,?_⟩) (by assumption) ?_;rotate_left 1
      ·intro w hSw;(try dsimp only at hSw);go_simp<;>(try with_reducible rfl)
      try simp only[Act.put,xgt,List.getElem_cons_succ,xgz,xsb,xsz,xss]
      refine wpAnyJ_take0 (i:=12) (v:=?_) rfl (by kernel_rfl) (by kernel_rfl) (by kernel_rfl) (fun _ _ _ h=>h) (by rfl) (Or.inl ⟨by rfl,?_⟩) (by assumption) ?_;rotate_left 1
      ·intro w hSw;(try dsimp only at hSw);go_simp<;>(try with_reducible rfl)
      try simp only[Act.put,xgt,List.getElem_cons_succ,xgz,xsb,xsz,xss]
      refine wpAnyJ_take0 (i:=13) (v:=?_) rfl (by kernel_rfl) (by kernel_rfl) (by kernel_rfl) (fun _ _ _ h=>h) (by rfl) (Or.inl ⟨by rfl,?_⟩) (by assumption) ?_;rotate_left 1
      ·intro w hSw;(try dsimp only at hSw);go_simp<;>(try with_reducible rfl)
      try simp only[Act.put,xgt,List.getElem_cons_succ,xgz,xsb,xsz,xss]
      refine wpAnyJ_ready (rs:=[14]) (by kernel_rfl) (by simp) ?_;refine AllReadyJ.cons (o:=_) rfl (fun Kq hKq=>?_) ?_
      ·go_simp
       refine hKq.out _ _ ?_ (fun hHeld=>?_)
       ·intro _;(try dsimp only);exact K17.out _ (by (repeat (first | exact Below.refl _ _ | (refine bgo ?_ (balloc _ _)) | (refine bgo ?_ (bdrew _)) | (refine bgo ?_ (by assumption)))))
       clear hKq Kq
       try simp only[Act.put,xgt,List.getElem_cons_succ,xgz,xsb,xsz,xss]
       refine wpAnyJ_ready (rs:=[15]) (by kernel_rfl) (by simp) ?_;refine AllReadyJ.cons (o:=_) rfl (fun Kq hKq=>?_) ?_
       ·skip
        first
        | (refine have bq:=boxA (g:=w17.heap.size) (T:=96) (xs:=[.slice none 0 0,.int .i64 0,.int .i64 0,.slice none 0 0,.int .i64 0,.int .i64 0,.slice none 0 0]) ?_ hb19;?_;(· (repeat (first | exact Box.new _ _ _ | exact boxn (xsa _ _).symm | (refine Box.below ?_ (balloc _ _)) | (refine Box.below ?_ (bdrew _)))));have bz:=bq.1;obtain⟨e0,e1,e2,e3,e4,e5,e6⟩:=box7_cells bz;have d0:=bz.frozen 0;have d1:=bz.frozen 1;have d2:=bz.frozen 2;have d3:=bz.frozen 3;have d4:=bz.frozen 4;have d5:=bz.frozen 5;have d6:=bz.frozen 6)
        | (refine have bq:=boxA (g:=w17.heap.size+1) (T:=96) (xs:=[.slice none 0 0,.int .i64 0,.int .i64 0,.slice none 0 0,.int .i64 0,.int .i64 0,.slice none 0 0]) ?_ hb19;?_;(· (repeat (first | exact Box.new _ _ _ | exact boxn (xsa _ _).symm | (refine Box.below ?_ (balloc _ _)) | (refine Box.below ?_ (bdrew _)))));have bz:=bq.1;obtain⟨e0,e1,e2,e3,e4,e5,e6⟩:=box7_cells bz;have d0:=bz.frozen 0;have d1:=bz.frozen 1;have d2:=bz.frozen 2;have d3:=bz.frozen 3;have d4:=bz.frozen 4;have d5:=bz.frozen 5;have d6:=bz.frozen 6)
        | skip
        go_simp
        refine hKq.out _ _ ?_ (fun hHeld=>?_)
        ·intro hl;exact absurd hl (by decide)
        clear hKq Kq
        try simp only[Act.put,xgt,List.getElem_cons_succ,xgz,xsb,xsz,xss]
        refine wpAnyJ_take0 (i:=16) (v:=?_) rfl (by kernel_rfl) (by kernel_rfl) (by kernel_rfl) (fun _ _ _ h=>h) (by rfl) (Or.inl ⟨by rfl,?_⟩) (by assumption) ?_;rotate_left 1
        ·intro w hSw;(try dsimp only at hSw);go_simp<;>(try with_reducible rfl)
        try simp only[Act.put,xgt,List.getElem_cons_succ,xgz,xsb,xsz,xss]
        refine wpAnyJ_take0 (i:=17) (v:=?_) rfl (by kernel_rfl) (by kernel_rfl) (by kernel_rfl) (fun _ _ _ h=>h) (by rfl) (Or.inl ⟨by rfl,?_⟩) (by assumption) ?_;rotate_left 1
        ·intro w hSw;(try dsimp only at hSw);go_simp<;>(try with_reducible rfl)
        try simp only[Act.put,xgt,List.getElem_cons_succ,xgz,xsb,xsz,xss]
        refine wpAnyJ_done (by kernel_rfl) ?_ _
        try simp only[Act.put,xsb,xsz,xss]
        go_wp2_with fail
        go_meet
        refine⟨_,_,rfl,rfl,?_⟩
        first | (with_reducible exact ans_new q4 hx0 hw19 _) | (with_reducible exact ans_set bq.1 bq.2 (by omega) hx0 q4 hw19 _ _ _ _ _ _ _ _ _ _ _ _ _)
       exact AllReadyJ.nil
      exact AllReadyJ.nil
     refine AllReadyJ.cons (o:=_) rfl (fun Kq hKq=>?_) ?_
     ·go_simp
      refine hKq.out _ _ ?_ (fun hHeld=>?_)
      ·intro _;(try dsimp only);exact K17.out _ (by (repeat (first | exact Below.refl _ _ | (refine bgo ?_ (balloc _ _)) | (refine bgo ?_ (bdrew _)) | (refine bgo ?_ (by assumption)))))
      clear hKq Kq
      try simp only[Act.put,xgt,List.getElem_cons_succ,xgz,xsb,xsz,xss]
      refine wpAnyJ_ready (rs:=[9]) (by kernel_rfl) (by simp) ?_;refine AllReadyJ.cons (o:=_) rfl (fun Kq hKq=>?_) ?_
      ·go_simp
       go_at_call 161
       with_reducible refine (hans.out _ _ (by (repeat (first | exact boxn (by with_reducible rfl) | exact boxn (by simp only[xsa];done) | (refine Box.below ?_ (balloc _ _)) | (refine Box.below ?_ (bdrew _)) | (refine Box.below ?_ (by assumption))))) (by (repeat (first | exact Below.refl _ _ | (refine bgo ?_ (balloc _ _)) | (refine bgo ?_ (bdrew _)) | (refine bgo ?_ (by assumption)))))).mono ?_
       rintro e w19 ⟨v1,v2,v3,v4,rfl,q1,q2,q3,q4,hb19⟩;obtain⟨A21,c21,rfl,-,-⟩:=q1.mk_;obtain⟨A22,c22,rfl,-,-⟩:=q2.mk_;obtain⟨A23,c23,rfl,-,-⟩:=q3.mk_;obtain⟨A24,c24,rfl,-,-⟩:=q4.own.sees.mk_;replace q4:OwnLF w19 _ (.slice A24 1 c24) [y]:=q4;have hx0:=before (w7:=w17) (by (repeat (first | exact Below.refl _ _ | (refine bgo ?_ (balloc _ _)) | (refine bgo ?_ (bdrew _)) | (refine bgo ?_ (by assumption))))) hb19;have hw19:Below w17.heap.size w17 w19:=by (repeat (first | exact Below.refl _ _ | (refine bgo ?_ (balloc _ _)) | (refine bgo ?_ (bdrew _)) | (refine bgo ?_ (by assumption))))
       go_wp2_with fail
       refine hKq.out _ _ ?_ (fun hHeld=>?_)
       ·intro _;(try dsimp only);exact K17.out _ (by (repeat (first | exact Below.refl _ _ | (refine bgo ?_ (balloc _ _)) | (refine bgo ?_ (bdrew _)) | (refine bgo ?_ (by assumption)))))
       clear hKq Kq
       try simp only[Act.put,xgt,List.getElem_cons_succ,xgz,xsb,xsz,xss]
       refine wpAnyJ_take0 (i:=10) (v:=?_) rfl (by kernel_rfl) (by kernel_rfl) (by kernel_rfl) (fun _ _ _ h=>h) (by rfl) (Or.inl ⟨by rfl,?_⟩) (by assumption) ?_;rotate_left 1
       ·intro w hSw;(try dsimp only at hSw);go_simp<;>(try with_reducible rfl)
       try simp only[Act.put,xgt,List.getElem_cons_succ,xgz,xsb,xsz,xss]
       refine wpAnyJ_take0 (i:=11) (v:=?_) rfl (by kernel_rfl) (by kernel_rfl) (by kernel_rfl) (fun _ _ _ h=>h) (by rfl) (Or.inl ⟨by rfl,?_⟩) (by assumption) ?_;rotate_left 1
       ·intro w hSw;(try dsimp only at hSw);go_simp<;>(try with_reducible rfl)
       try simp only[Act.put,xgt,List.getElem_cons_succ,xgz,xsb,xsz,xss]
       refine wpAnyJ_take0 (i:=12) (v:=?_) rfl (by kernel_rfl) (by kernel_rfl) (by kernel_rfl) (fun _ _ _ h=>h) (by rfl) (Or.inl ⟨by rfl,?_⟩) (by assumption) ?_;rotate_left 1
       ·intro w hSw;(try dsimp only at hSw);go_simp<;>(try with_reducible rfl)
       try simp only[Act.put,xgt,List.getElem_cons_succ,xgz,xsb,xsz,xss]
       refine wpAnyJ_take0 (i:=13) (v:=?_) rfl (by kernel_rfl) (by kernel_rfl) (by kernel_rfl) (fun _ _ _ h=>h) (by rfl) (Or.inl ⟨by rfl,?_⟩) (by assumption) ?_;rotate_left 1
       ·intro w hSw;(try dsimp only at hSw);go_simp<;>(try with_reducible rfl)
       try simp only[Act.put,xgt,List.getElem_cons_succ,xgz,xsb,xsz,xss]
       refine wpAnyJ_ready (rs:=[15]) (by kernel_rfl) (by simp) ?_;refine AllReadyJ.cons (o:=_) rfl (fun Kq hKq=>?_) ?_
       ·skip
        first
        | (refine have bq:=boxA (g:=w17.heap.size) (T:=96) (xs:=[.slice none 0 0,.int .i64 0,.int .i64 0,.slice none 0 0,.int .i64 0,.int .i64 0,.slice none 0 0]) ?_ hb19;?_;(· (repeat (first | exact Box.new _ _ _ | exact boxn (xsa _ _).symm | (refine Box.below ?_ (balloc _ _)) | (refine Box.below ?_ (bdrew _)))));have bz:=bq.1;obtain⟨e0,e1,e2,e3,e4,e5,e6⟩:=box7_cells bz;have d0:=bz.frozen 0;have d1:=bz.frozen 1;have d2:=bz.frozen 2;have d3:=bz.frozen 3;have d4:=bz.frozen 4;have d5:=bz.frozen 5;have d6:=bz.frozen 6)
        | (refine have bq:=boxA (g:=w17.heap.size+1) (T:=96) (xs:=[.slice none 0 0,.int .i64 0,.int .i64 0,.slice none 0 0,.int .i64 0,.int .i64 0,.slice none 0 0]) ?_ hb19;?_;(· (repeat (first | exact Box.new _ _ _ | exact boxn (xsa _ _).symm | (refine Box.below ?_ (balloc _ _)) | (refine Box.below ?_ (bdrew _)))));have bz:=bq.1;obtain⟨e0,e1,e2,e3,e4,e5,e6⟩:=box7_cells bz;have d0:=bz.frozen 0;have d1:=bz.frozen 1;have d2:=bz.frozen 2;have d3:=bz.frozen 3;have d4:=bz.frozen 4;have d5:=bz.frozen 5;have d6:=bz.frozen 6)
        | skip
        go_simp
        refine hKq.out _ _ ?_ (fun hHeld=>?_)
        ·intro hl;exact absurd hl (by decide)
        clear hKq Kq
        try simp only[Act.put,xgt,List.getElem_cons_succ,xgz,xsb,xsz,xss]
        refine wpAnyJ_take0 (i:=16) (v:=?_) rfl (by kernel_rfl) (by kernel_rfl) (by kernel_rfl) (fun _ _ _ h=>h) (by rfl) (Or.inl ⟨by rfl,?_⟩) (by assumption) ?_;rotate_left 1
        ·intro w hSw;(try dsimp only at hSw);go_simp<;>(try with_reducible rfl)
        try simp only[Act.put,xgt,List.getElem_cons_succ,xgz,xsb,xsz,xss]
        refine wpAnyJ_take0 (i:=17) (v:=?_) rfl (by kernel_rfl) (by kernel_rfl) (by kernel_rfl) (fun _ _ _ h=>h) (by rfl) (Or.inl ⟨by rfl,?_⟩) (by assumption) ?_;rotate_left 1
        ·intro w hSw;(try dsimp only at hSw);go_simp<;>(try with_reducible rfl)
        try simp only[Act.put,xgt,List.getElem_cons_succ,xgz,xsb,xsz,xss]
        refine wpAnyJ_done (by kernel_rfl) ?_ _
        try simp only[Act.put,xsb,xsz,xss]
        go_wp2_with fail
        go_meet
        refine⟨_,_,rfl,rfl,?_⟩
        first | (with_reducible exact ans_new q4 hx0 hw19 _) | (with_reducible exact ans_set bq.1 bq.2 (by omega) hx0 q4 hw19 _ _ _ _ _ _ _ _ _ _ _ _ _)
       exact AllReadyJ.nil
      exact AllReadyJ.nil
     exact AllReadyJ.nil
    refine AllReadyJ.cons (o:=_) rfl (fun Kq hKq=>?_) ?_
    ·go_simp
     refine hKq.out _ _ ?_ (fun hHeld=>?_)
     ·intro _;(try dsimp only);exact K17.out _ (by (repeat (first | exact Below.refl _ _ | (refine bgo ?_ (balloc _ _)) | (refine bgo ?_ (bdrew _)) | (refine bgo ?_ (by assumption)))))
     clear hKq Kq
     try simp only[Act.put,xgt,List.getElem_cons_succ,xgz,xsb,xsz,xss]
     refine wpAnyJ_ready (rs:=[4]) (by kernel_rfl) (by simp) ?_;refine AllReadyJ.cons (o:=_) rfl (fun Kq hKq=>?_) ?_
     ·go_simp
      refine hKq.out _ _ ?_ (fun hHeld=>?_)
      ·intro _;(try dsimp only);exact K17.out _ (by (repeat (first | exact Below.refl _ _ | (refine bgo ?_ (balloc _ _)) | (refine bgo ?_ (bdrew _)) | (refine bgo ?_ (by assumption)))))
      clear hKq Kq
      try simp only[Act.put,xgt,List.getElem_cons_succ,xgz,xsb,xsz,xss]
      refine wpAnyJ_ready (rs:=[9]) (by kernel_rfl) (by simp) ?_;refine AllReadyJ.cons (o:=_) rfl (fun Kq hKq=>?_) ?_
      ·go_simp
       go_at_call 161
       with_reducible refine (hans.out _ _ (by (repeat (first | exact boxn (by with_reducible rfl) | exact boxn (by simp only[xsa];done) | (refine Box.below ?_ (balloc _ _)) | (refine Box.below ?_ (bdrew _)) | (refine Box.below ?_ (by assumption))))) (by (repeat (first | exact Below.refl _ _ | (refine bgo ?_ (balloc _ _)) | (refine bgo ?_ (bdrew _)) | (refine bgo ?_ (by assumption)))))).mono ?_
       rintro e w19 ⟨v1,v2,v3,v4,rfl,q1,q2,q3,q4,hb19⟩;obtain⟨A21,c21,rfl,-,-⟩:=q1.mk_;obtain⟨A22,c22,rfl,-,-⟩:=q2.mk_;obtain⟨A23,c23,rfl,-,-⟩:=q3.mk_;obtain⟨A24,c24,rfl,-,-⟩:=q4.own.sees.mk_;replace q4:OwnLF w19 _ (.slice A24 1 c24) [y]:=q4;have hx0:=before (w7:=w17) (by (repeat (first | exact Below.refl _ _ | (refine bgo ?_ (balloc _ _)) | (refine bgo ?_ (bdrew _)) | (refine bgo ?_ (by assumption))))) hb19;have hw19:Below w17.heap.size w17 w19:=by (repeat (first | exact Below.refl _ _ | (refine bgo ?_ (balloc _ _)) | (refine bgo ?_ (bdrew _)) | (refine bgo ?_ (by assumption))))
       go_wp2_with fail
       refine hKq.out _ _ ?_ (fun hHeld=>?_)
       ·intro _;(try dsimp only);exact K17.out _ (by (repeat (first | exact Below.refl _ _ | (refine bgo ?_ (balloc _ _)) | (refine bgo ?_ (bdrew _)) | (refine bgo ?_ (by assumption)))))
       clear hKq Kq
       try simp only[Act.put,xgt,List.getElem_cons_succ,xgz,xsb,xsz,xss]
       refine wpAnyJ_take0 (i:=10) (v:=?_) rfl (by kernel_rfl) (by kernel_rfl) (by kernel_rfl) (fun _ _ _ h=>h) (by rfl) (Or.inl ⟨by rfl,?_⟩) (by assumption) ?_;rotate_left 1
       ·intro w hSw;(try dsimp only at hSw);go_simp<;>(try with_reducible rfl)
       try simp only[Act.put,xgt,List.getElem_cons_succ,xgz,xsb,xsz,xss]
       refine wpAnyJ_take0 (i:=11) (v:=?_) rfl (by kernel_rfl) (by kernel_rfl) (by kernel_rfl) (fun _ _ _ h=>h) (by rfl) (Or.inl ⟨by rfl,?_⟩) (by assumption) ?_;rotate_left 1
       ·intro w hSw;(try dsimp only at hSw);go_simp<;>(try with_reducible rfl)
       try simp only[Act.put,xgt,List.getElem_cons_succ,xgz,xsb,xsz,xss]
       refine wpAnyJ_take0 (i:=12) (v:=?_) rfl (by kernel_rfl) (by kernel_rfl) (by kernel_rfl) (fun _ _ _ h=>h) (by rfl) (Or.inl ⟨by rfl,?_⟩) (by assumption) ?_;rotate_left 1
       ·intro w hSw;(try dsimp only at hSw);go_simp<;>(try with_reducible rfl)
       try simp only[Act.put,xgt,List.getElem_cons_succ,xgz,xsb,xsz,xss]
       refine wpAnyJ_take0 (i:=13) (v:=?_) rfl (by kernel_rfl) (by kernel_rfl) (by kernel_rfl) (fun _ _ _ h=>h) (by rfl) (Or.inl ⟨by rfl,?_⟩) (by assumption) ?_;rotate_left 1
       ·intro w hSw;(try dsimp only at hSw);go_simp<;>(try with_reducible rfl)
       try simp only[Act.put,xgt,List.getElem_cons_succ,xgz,xsb,xsz,xss]
       refine wpAnyJ_ready (rs:=[15]) (by kernel_rfl) (by simp) ?_;refine AllReadyJ.cons (o:=_) rfl (fun Kq hKq=>?_) ?_
       ·skip
        first
        | (refine have bq:=boxA (g:=w17.heap.size) (T:=96) (xs:=[.slice none 0 0,.int .i64 0,.int .i64 0,.slice none 0 0,.int .i64 0,.int .i64 0,.slice none 0 0]) ?_ hb19;?_;(· (repeat (first | exact Box.new _ _ _ | exact boxn (xsa _ _).symm | (refine Box.below ?_ (balloc _ _)) | (refine Box.below ?_ (bdrew _)))));have bz:=bq.1;obtain⟨e0,e1,e2,e3,e4,e5,e6⟩:=box7_cells bz;have d0:=bz.frozen 0;have d1:=bz.frozen 1;have d2:=bz.frozen 2;have d3:=bz.frozen 3;have d4:=bz.frozen 4;have d5:=bz.frozen 5;have d6:=bz.frozen 6)
        | (refine have bq:=boxA (g:=w17.heap.size+1) (T:=96) (xs:=[.slice none 0 0,.int .i64 0,.int .i64 0,.slice none 0 0,.int .i64 0,.int .i64 0,.slice none 0 0]) ?_ hb19;?_;(· (repeat (first | exact Box.new _ _ _ | exact boxn (xsa _ _).symm | (refine Box.below ?_ (balloc _ _)) | (refine Box.below ?_ (bdrew _)))));have bz:=bq.1;obtain⟨e0,e1,e2,e3,e4,e5,e6⟩:=box7_cells bz;have d0:=bz.frozen 0;have d1:=bz.frozen 1;have d2:=bz.frozen 2;have d3:=bz.frozen 3;have d4:=bz.frozen 4;have d5:=bz.frozen 5;have d6:=bz.frozen 6)
        | skip
        go_simp
        refine hKq.out _ _ ?_ (fun hHeld=>?_)
        ·intro hl;exact absurd hl (by decide)
        clear hKq Kq
        try simp only[Act.put,xgt,List.getElem_cons_succ,xgz,xsb,xsz,xss]
        refine wpAnyJ_take0 (i:=16) (v:=?_) rfl (by kernel_rfl) (by kernel_rfl) (by kernel_rfl) (fun _ _ _ h=>h) (by rfl) (Or.inl ⟨by rfl,?_⟩) (by assumption) ?_;rotate_left 1
        ·intro w hSw;(try dsimp only at hSw);go_simp<;>(try with_reducible rfl)
        try simp only[Act.put,xgt,List.getElem_cons_succ,xgz,xsb,xsz,xss]
        refine wpAnyJ_take0 (i:=17) (v:=?_) rfl (by kernel_rfl) (by kernel_rfl) (by kernel_rfl) (fun _ _ _ h=>h) (by rfl) (Or.inl ⟨by rfl,?_⟩) (by assumption) ?_;rotate_left 1
        ·intro w hSw;(try dsimp only at hSw);go_simp<;>(try with_reducible rfl)
        try simp only[Act.put,xgt,List.getElem_cons_succ,xgz,xsb,xsz,xss]
        refine wpAnyJ_done (by kernel_rfl) ?_ _
        try simp only[Act.put,xsb,xsz,xss]
        go_wp2_with fail
        go_meet
        refine⟨_,_,rfl,rfl,?_⟩
        first | (with_reducible exact ans_new q4 hx0 hw19 _) | (with_reducible exact ans_set bq.1 bq.2 (by omega) hx0 q4 hw19 _ _ _ _ _ _ _ _ _ _ _ _ _)
       exact AllReadyJ.nil
      exact AllReadyJ.nil
     exact AllReadyJ.nil
    exact AllReadyJ.nil
   case rest=>
   obtain⟨A24,c24,rfl,rfl,o24,hb24⟩:=hcut;obtain⟨w20,rfl⟩:∃w20:World,w20=wc:=⟨_,rfl⟩
   obtain⟨g24,rfl,hg24⟩:∃g,A24=some ⟨g,0,none⟩/\w17.heap.size<=g:=by
    obtain⟨vs,q1,-⟩:=o24;rcases q1.2 with ⟨e,hn⟩|⟨g,cap,cur,e1,e2,-⟩
    ·simp at e
    injection e1 with e1 e3 e4;exact⟨g,e1,e2⟩
   obtain⟨Ay,cy,z0,ey,fy⟩:=o24.elt (k:=0) (by simp);replace z0:w20.cell? ⟨g24,0,none⟩=some (.slice Ay y.length cy):=z0;have sy:SeesB w20 w20.heap.size (.slice Ay y.length cy) y:=ey.1;replace fy:From w17.heap.size (.slice Ay y.length cy):=fy;obtain⟨ti,hti,htz,hts,htb⟩:=info_parts link_infoC;replace hti:=lhd hti;replace htz:=lhd htz;replace hts:=lhd hts;replace htb:=lhd htb;have hal:=balloc w20 (.cells #[.slice A10 pk.length c10,.slice Ab bl.length cb,.slice Ay y.length cy] 108);have hrec:Hid (Sees (w20.alloc (.cells #[.slice A10 pk.length c10,.slice Ab bl.length cb,.slice Ay y.length cy] 108)) (w20.heap.size+1) (.slice (some ⟨w20.heap.size,0,none⟩) 1 1) 3 1 [.slice A10 pk.length c10,.slice Ab bl.length cb,.slice Ay y.length cy]):=rec_lit w20 108 [.slice A10 pk.length c10,.slice Ab bl.length cb,.slice Ay y.length cy];have hv:∀j,(Value.slice Ar k cr).ownBlock=some j->j<wr.heap.size:=fun j hj=>(ho.out.own.lt j hj).2
   have hel2:=lhd (link_eltsK (base:=w.heap.size) (v:=.slice Ar k cr) (seesB_of s10'.out nlr (bgo hb24 hal)) (seesB_of sb.out nlr (bgo hb24 hal)) (seesB_of sy nlr hal) f10.out fb.out (fy.mono hbw17.out.size) hv hb.out.size);have ho2:=lhd (ho.out.below (bgo hbw17.out (bgo hb24 hal)));have hb3:=lhd (bgo hb.out (bgo hbw17.out (bgo hb24 hal)));have hcnt:Hid (k+1<=1048576):=by show _<=_;omega
   have hhon:Hid (∀k',k'<k+1->HonS (ls++[(pk,bl,y)]) k' (seedW x (wh k')) (sp k').1 (sp k').2):=fun k' h=>by
    rcases Nat.lt_or_ge k' k with h1|h1
    ·exact (hho.out k' h1).snoc (by rw[hlk.out];exact h1)
    obtain rfl:k'=k:=by omega
    have hh:=hR.out;rw[<-hSq.out,hpe2.out,<-hnn.out] at hh;rw[hlo.out,hhi.out];rw[<-hse.out];exact HonS.last hlk.out hsd.out hsd2.out hn0 hn1 hpe.out hbl.out hh
   have hlens:Hid (∀t∈ls++[(pk,bl,y)],t.1.length=32/\t.2.1.length=32/\t.2.2.length<=2048):=fun t ht=>by
    rw[List.mem_append,xm1] at ht;rcases ht with ht|rfl
    ·exact hel.out t ht
    exact⟨hpl.out,hbl.out,hyl.out⟩
   have hlk2:Hid ((ls++[(pk,bl,y)]).length=k+1):=by show _=_;rw[xla,hlk.out];rfl
   clear hal hv ho hb o24 ey fy sy hb24 hans K17 hR
   go_wp2_with (at_builtin;refine wpList_appRF (by rfl) _ _ 104 108 underlying104 rfl ti _ 3 72 hti.out htz.out hts.out htb.out rfl (by omega) (by omega) w.heap.size _ k _ rfl ho2.out _ _ 1 _ (linkS [(pk,bl,y)]) rfl hrec.out rfl hel2.out hcnt.out hb3.out.size ?_)
   intro v' w' hW2 hb4;replace hW2:Hid (OwnRF w' w.heap.size 108 v' 3 (k+1) (linkS (ls++[(pk,bl,y)]))):=by show OwnRF _ _ _ _ _ _ _;rw[linkS_append];exact hW2
   replace hb4:=lhd (hb3.out.trans hb4)
   go_wp2_with fail
   go_roundw
   case rel=>exact⟨k+1,ls++[(pk,bl,y)],by omega,by go_num,hlk2.out,hW2,hlens,hhon,hb4⟩
   case measure=>simp[intOf];omega
  obtain rfl:k=N:=by omega
  have i0:¬(k:Int)<(k:Int):=by omega
  go_wp2_with fail
  go_returns
  have hl2:=hlk.out;refine⟨_,ls,rfl,?_,hl2,hel.out,hho.out,hb.out⟩;rw[hl2];exact ho.out
end Go.Proofs.YtjgepckncogdaaaGreat
