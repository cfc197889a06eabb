/- Contracts of functions, walks, plain facts. Conditions: those of each theorem. -/
import Derived.Test.YtjgepckncogdaaaGreatVLogK
import Derived.Test.YtjgepckncogdaaaGreatVLogE
import Derived.Test.YtjgepckncogdaaaGreatVRBFind
set_option linter.unusedVariables false
set_option linter.unusedSimpArgs false
set_option maxRecDepth 100000
set_option maxHeartbeats 16000000
namespace Go.Proofs.YtjgepckncogdaaaGreat
open Go Go.RowKit _root_.Go.Proofs.Tryz
attribute [local go_sem ↓] Go.wp_at_zero Go.wp_at_succ
theorem lsame_eq (u v:Value) (es:List Bs) (w:World) (hu:SeesL w w.heap.size u es) (hv:SeesL w w.heap.size v es) (hn:es.length<=1048576) :
 Calls prog 25 #[.agg #[u],.agg #[v]] w (BoolPost true w):=by
 obtain⟨A,c,rfl,-,-⟩:=hu.mk_;obtain⟨A2,c2,rfl,-,-⟩:=hv.mk_;have b1:=balloc w (.cells #[.slice A es.length c] 44);have b2:=balloc (w.alloc (.cells #[.slice A es.length c] 44)) (.cells #[.slice A2 es.length c2] 44);have x2:=(Box.new w 44 [.slice A es.length c]).below b2;have x3:=Box.new (w.alloc (.cells #[.slice A es.length c] 44)) 44 [.slice A2 es.length c2];rw[xsa] at x3;change Box ((w.alloc (.cells #[.slice A es.length c] 44)).alloc (.cells #[.slice A2 es.length c2] 44)) _ _ _ at x2 x3;have hbw:=bgo b1 b2;have hsm:=lhd (rsamel_eq _ _ es _ (seesL_of hu nlr hbw) (seesL_of hv nlr hbw) hn);replace hbw:=lhd hbw;have y2:=box1_cell x2;have y3:=box1_cell x3;clear b1 b2 x2 x3 hu hv
 go_enter func25,ntmps25
 go_upto_region 1 with (fail)
 generalize (w.alloc (.cells #[.slice A es.length c] 44)).alloc (.cells #[.slice A2 es.length c2] 44)=W1 at *;generalize w.heap.size+1=g3 at *;generalize hg:w.heap.size=g2 at y2 ⊢;replace hg:=lhd hg
 go_wp2_with fail
 refine hsm.out.mono ?_;rintro e w1 ⟨rfl,hb1⟩;dsimp only
 go_wp2_with fail
 go_ret
 exact⟨rfl,bgo hbw.out hb1⟩
def bytes1 (k:Nat):List Bs:=(List.range k).map fun i=>[UInt8.ofNat i]
theorem bytes1_len (k:Nat):(bytes1 k).length=k:=by simp[bytes1]
theorem bytes1_next (k:Nat):bytes1 (k+1)=bytes1 k++([UInt8.ofNat k] :: []):=by simp[bytes1,List.range_succ]
theorem bytes1_le (k:Nat):∀l∈bytes1 k,l.length<=1048576:=by
 intro l hl;simp only[bytes1,List.mem_map] at hl;obtain⟨i,-,rfl⟩:=hl;simp
theorem sees_row {W X:World} {g:Nat} {T:TypeId} {u:Value} {l:Bs} {xs:List Value} (h:SeesB W W.heap.size u l) (hg:W.grownBy X (some g)) (hx:Box W g T xs) (hn:NoByte xs):SeesB X X.heap.size u l:=
 (h.over nlr hx hn hg).more hg.size
def LaQ (w:World) (g:Nat) (v11:Value) (W:World):Prop:=
 ∃A' c' b Av cv es,v11=.slice A' b.length c'/\Box W g 44 [.slice Av es.length cv]/\SeesL W W.heap.size (.slice Av es.length cv) es/\SeesB W W.heap.size (.slice A' b.length c') b/\es.length<=1000/\(∀l∈es,l.length<=1048576)/\b.length<=65535/\Below w.heap.size w W
theorem laddR_len (es:List Bs) (P:Bs) (cc:Int) (h:es.length<=1000):(laddR es P cc).1.length<=1048576:=by
 unfold laddR
 split
 ·simp
 split
 ·simp
 split
 ·split
  ·simp
  simp;omega
 simp
theorem ladds_law (v:Int) (wf0:(Lit.int .i64 v).wf=true) (at_:Int) (wf1:(Lit.int .i64 at_).wf=true) (by_:Int) (wf2:(Lit.int .i64 by_).wf=true) (how:Int) (wf3:(Lit.int .i64 how).wf=true) (B:Nat) (u:Value) (raw:Bs) (w:World) (hu:SeesB w B u raw) (hB:B<=w.heap.size) :
 Calls prog 4 #[.int .i64 v,.int .i64 at_,.int .i64 by_,.int .i64 how,u] w fun e w'=>e=.returned (.bool true)/\Below w.heap.size w w':=by
 obtain⟨Ar,cr,rfl,-,-⟩:=hu.mk_;clear wf0 wf1 wf2 wf3;have hkn:=lhd (fun W=>lknown_any W)
 by_cases hr:raw.length<=300
 rotate_left
 ·have i1:(300:Int)<(raw.length:Int):=by omega
  clear hu
  go_enter func4,ntmps4
  go_wp2_with fail
  refine (hkn.out _).mono ?_;rintro e w1 ⟨rfl,hb1⟩;dsimp only
  go_wp2_with fail
  go_ret
  exact⟨rfl,hb1⟩
 have i1:¬(300:Int)<(raw.length:Int):=by omega
 have hpf:=lhd (fun W=>lproof_any v W);have hfl:=lhd (fun u (l:Bs) W (hu:SeesB W W.heap.size u l) (hl:l.length<=1048576)=>kflip_any u l at_ by_ W hu hl);have hwi:=lhd (fun (v m:Int) (h1:1<=m) (h2:m<=4294967296) W=>kwithin_any v m h1 h2 W);obtain⟨q,hq,hq2⟩:=kmod_nat how 6 (by omega);have hw6:=fun W=>hwi.out how 6 (by omega) (by omega) W
 rw[hq] at hw6;replace hw6:=lhd hw6;obtain⟨p,hp,hp2⟩:=kmod_nat at_ 3 (by omega);have hw3:=fun W=>hwi.out at_ 3 (by omega) (by omega) W
 rw[hp] at hw3;replace hw3:=lhd hw3;replace hq2:=lhd hq2;replace hp2:=lhd hp2;have su:=lhd (hu.more hB);replace hr:=lhd hr;clear hu hB hwi hq hp
 go_enter func4,ntmps4
 go_wp2_with fail
 refine (hpf.out w).mono ?_;rintro e w1 ⟨v1,v2,ls,rfl,hok,s1,s2,hb1⟩;have hfb:=fencB_len (f:=0) (s:=1) (pf_sizes hok);generalize fencB ls 0 1=b at *;generalize pubG (seedW v 0) 1=pk at *;obtain⟨A1,c1,rfl,-,-⟩:=s1.mk_;obtain⟨A2,c2,rfl,-,-⟩:=s2.mk_;have hal:=balloc w1 (.cells #[.slice none 0 0] 44);have x13:=Box.new w1 44 [.slice none 0 0];change Box (w1.alloc (.cells #[.slice none 0 0] 44)) _ _ _ at x13;have hg13:Hid (w.heap.size<=w1.heap.size):=hb1.size;have hbw:=lhd (bgo hb1 hal);have s1':=seesB_of s1 nlr hal;replace su:=lhd (seesB_of su.out nlr hbw.out);replace hfb:=lhd hfb;clear s1 s2 hb1 hal hpf hok i1;dsimp only
 go_upto_region 5 with (fail)
 generalize w1.alloc (.cells #[.slice none 0 0] 44)=W1 at *;generalize w1.heap.size=g13 at *
 go_wp2_with fail
 refine (hw6.out _).mono ?_;rintro e w2 ⟨rfl,hw2⟩;obtain rfl:=hw2.symm;clear hw6;dsimp only
 go_upto_block 0 with (fail)
 go_cut [11] (fun v11 W=>LaQ w g13 v11 W)
 case first=>
  have h7:=hq2.out;obtain rfl|rfl|rfl|hq34|rfl:q=0\/q=1\/q=2\/(q=3\/q=4)\/q=5:=by omega
  ·have hf1:=lhd (hfl.out _ b W1 s1' (by have:=hfb.out;omega))
   go_wp2_with fail
   refine hf1.out.mono ?_;rintro e w6 ⟨l',hl',v6,rfl,o6,hb6⟩;obtain⟨A6,c6,rfl,-,-⟩:=o6.sees.mk_;have hdone:LaQ w g13 (.slice A6 l'.length c6) w6:=⟨A6,c6,l',none,0,[],rfl,x13.below hb6,(OwnL.nil w6 0).sees,o6.sees,by simp,by simp,by have:=hfb.out;omega,bgo hbw.out hb6⟩
   dsimp only
   go_wp2_with fail
   go_meet
   exact hdone
  ·have bA:=balloc W1 (.cells #[.int .u8 1] 5)
   have o1:=one_byte W1 1 1 rfl;have s1l:=o1.sees;have bB:=balloc (W1.alloc (.cells #[.int .u8 1] 5)) (.cells #[.slice (some ⟨W1.heap.size,0,none⟩) 1 1,.slice A1 b.length c1] 25);have sl2:=seesL_lit (W1.alloc (.cells #[.int .u8 1] 5)) 25 (vs:=[.slice (some ⟨W1.heap.size,0,none⟩) 1 1,.slice A1 b.length c1]) (ls:=[[1],b]) ⟨s1l,seesB_of s1' nlr bA,trivial⟩ (by simp[maxLen]);simp only[xsa] at sl2;change SeesL ((W1.alloc (.cells #[.int .u8 1] 5)).alloc (.cells #[.slice (some ⟨W1.heap.size,0,none⟩) 1 1,.slice A1 b.length c1] 25)) _ (.slice (some ⟨W1.heap.size+1,0,none⟩) 2 2) [[1],b] at sl2;have bAB:=bgo bA bB;have x13':=x13.below bAB;have sb2:=seesB_of s1' nlr bAB;have hb2:=bgo hbw.out bAB;have y13:=box1_cell x13';have f13:=x13'.frozen 0;have hne:∀k,(Value.slice (some ⟨W1.heap.size+1,0,none⟩) 2 2).ownBlock=some k->k≠g13:=fun k hk=>by have h1:=x13.lt;have h2:W1.heap.size+1=k:=Option.some.inj hk;omega
   have hdone:Hid (LaQ w g13 (.slice A1 b.length c1) (((W1.alloc (.cells #[.int .u8 1] 5)).alloc (.cells #[.slice (some ⟨W1.heap.size,0,none⟩) 1 1,.slice A1 b.length c1] 25)).setCell ⟨g13,0,none⟩ (.slice (some ⟨W1.heap.size+1,0,none⟩) 2 2))):=by
    refine⟨A1,c1,b,some ⟨W1.heap.size+1,0,none⟩,2,[[1],b],rfl,?_,?_,?_,by simp,?_,hfb.out,hb2.setCell (p:=⟨g13,0,none⟩) hg13.out _⟩
    ·have z:=x13'.set 0 (.slice (some ⟨W1.heap.size+1,0,none⟩) 2 2)
     simp only[xsz] at z;exact z
    ·exact (SeesL.over sl2 (by rw[xsa,xsa];exact Nat.le_refl _) hne x13' (noS1 _ _ _) (setCell_grown _ g13 0 _)).more (by simp[World.setCell])
    ·exact (sb2.poke x13' (noS1 _ _ _)).more (by simp[World.setCell])
    intro l hm;simp only[List.mem_cons,List.not_mem_nil,or_false] at hm;rcases hm with rfl|rfl
    ·simp
    have:=hfb.out;omega
   clear sl2 s1l o1 bA bB bAB x13' sb2 hb2
   go_wp2_with fail
   go_meet
   exact hdone.out
  ·have hdone:LaQ w g13 (.slice Ar raw.length cr) W1:=⟨Ar,cr,raw,none,0,[],rfl,x13,(OwnL.nil W1 0).sees,su.out,by simp,by simp,by have:=hr.out;omega,hbw.out⟩
   replace hdone:=lhd hdone
   go_wp2_with fail
   go_meet
   exact hdone.out
  ·obtain rfl | rfl:=hq34
   ·skip
    have x13h:=lhd x13;have hbwh:=hbw;have hpb:=hp2.out;have m3:wrap64 (63+(p:Int))=((63+p:Nat):Int):=by unfold wrap64;omega
    have m3':IntKind.i64.wrap (63+(p:Int))=((63+p:Nat):Int):=by rw[xwi];omega
    clear h7;have s1h:=lhd s1';have hg13l:=lhd x13.lt;clear x13 s1'
    go_wp2_with fail
    go_loopw [14] (fun t wr=>∃(k:Nat) (v:Value),k<=63+p/\t=.int .i64 k/\Hid (Box wr g13 44 [v])/\Hid (OwnL wr W1.heap.size v (bytes1 k))/\Hid (W1.grownBy wr (some g13))) (fun t _=>63+p - (intOf t).toNat)
    case atStart=>exact⟨0,_,by omega,rfl,x13h,OwnL.nil _ _,⟨rfl,rfl,rfl,Nat.le_refl _,fun _ _ _=>rfl⟩⟩
    case round=>
     obtain⟨k,v,hk,rfl,x9r,ho,hg⟩:=hrel;obtain⟨Ao,co,rfl⟩:=ho.out.shape;rw[bytes1_len] at ho x9r
     by_cases hlt:k<63+p
     ·have i1:(k:Int)<((63+p:Nat):Int):=by omega
      have i1':(k:Int)<63+(p:Int):=by omega
      have m4:IntKind.u8.wrap (k:Int)=(k:Int):=by rw[IntKind.wrap_u8];omega
      have hu8:((UInt8.ofNat k).toNat:Int)=(k:Int):=by rw[UInt8.toNat_ofNat'];omega
      have bA:=balloc wr (.cells #[.int .u8 (k:Int)] 5);have o1:=one_byte wr (UInt8.ofNat k) (k:Int) hu8;have bB:=balloc (wr.alloc (.cells #[.int .u8 (k:Int)] 5)) (.cells #[.slice (some ⟨wr.heap.size,0,none⟩) 1 1] 25);have bAB:=bgo bA bB;have hov:∀j,(Value.slice Ao k co).ownBlock=some j->j<wr.heap.size:=fun j hj=>(ho.out.lt j hj).2
      have hcell:=lhd (one_cell (wr.alloc (.cells #[.int .u8 (k:Int)] 5)) (.slice (some ⟨wr.heap.size,0,none⟩) 1 1) 25);have hel:=lhd ((Elt.of_from (v:=.slice Ao k co) o1.sees o1.from hov).below bB);have ho2:=lhd (ho.out.below bAB);have hz:=lhd (Nat.le_trans hg.out.size bAB.size);have hx8:=lhd (x9r.out.below bAB);have hb8:=lhd (grown_then hg.out (bAB.mono hg.out.size));have hcnt:Hid ((bytes1 k).length<=549755813888):=by show _<=_;rw[bytes1_len];omega
      have y13:=box1_cell x9r.out;have hk1:Hid (k+1<=63+p):=hlt;clear bA o1 bB bAB hov hu8 ho;rw[xsa] at hcell
      go_wp2_with fail
      refine (hw3.out _).mono ?_;rintro e w5 ⟨rfl,hw5⟩;obtain rfl:=hw5.symm;dsimp only
      go_wp2_with (at_builtin;refine wpList_appL (by rfl) _ _ 30 underlying30 rfl W1.heap.size _ (bytes1 k) rfl ho2.out _ _ _ [UInt8.ofNat k] rfl hcell.out hel.out hcnt.out hz.out ?_)
      intro v' w' hW2 hb4;rw[<-bytes1_next] at hW2;obtain⟨Aw,cw,rfl⟩:=hW2.shape;rw[bytes1_len] at hW2 ⊢;have hx9:Hid (Box w' g13 44 [.slice Ao k co]):=(hb4.block g13 hg13l.out).trans hx8.out;have y9:=box1_cell hx9.out;have f9:=hx9.out.frozen 0;have hb9:=grown_then hb8.out hb4;have hx5:=hx9.out.set 0 (.slice Aw (k+1) cw);simp only[xsz] at hx5;have ho5:=OwnL.poke (j:=0) (v':=.slice Aw (k+1) cw) hW2 hg13l.out hx9.out (noS1 _ _ _);have hg5:=ggo hb9 (setCell_grown w' g13 0 (.slice Aw (k+1) cw));replace hx5:=lhd hx5;replace ho5:=lhd ho5;replace hg5:=lhd hg5;clear hb9 hb4 hW2 hel hcell ho2 hx8 hb8 y13
      go_wp2_with fail
      go_roundw
      case rel=>exact⟨k+1,_,hk1.out,by go_num,hx5,ho5,hg5⟩
      case measure=>simp[intOf];omega
     obtain rfl:k=63+p:=by omega
     have i1:¬((63+p:Nat):Int)<((63+p:Nat):Int):=by omega
     have hdone:LaQ w g13 (.slice A1 b.length c1) wr:=⟨A1,c1,b,Ao,co,bytes1 (63+p),rfl,by rw[bytes1_len];exact x9r.out,by rw[bytes1_len];exact ho.out.sees,sees_row s1h.out hg.out x13h.out (noS1 _ _ _),by rw[bytes1_len];omega,bytes1_le _,hfb.out,below_row hbwh.out hg.out hg13.out⟩
     replace hdone:=lhd hdone;clear x13h hbwh s1h
     go_wp2_with fail
     refine (hw3.out _).mono ?_;rintro e w5 ⟨rfl,hw5⟩;obtain rfl:=hw5.symm;dsimp only
     go_wp2_with fail
     go_meet
     exact hdone.out
   have x13h:=lhd x13;have hbwh:=hbw;have hpb:=hp2.out;have m3:wrap64 (63+(p:Int))=((63+p:Nat):Int):=by unfold wrap64;omega
   have m3':IntKind.i64.wrap (63+(p:Int))=((63+p:Nat):Int):=by rw[xwi];omega
   clear h7;have s1h:=lhd s1';have hg13l:=lhd x13.lt;clear x13 s1'
   go_wp2_with fail
   go_loopw [14] (fun t wr=>∃(k:Nat) (v:Value),k<=63+p/\t=.int .i64 k/\Hid (Box wr g13 44 [v])/\Hid (OwnL wr W1.heap.size v (bytes1 k))/\Hid (W1.grownBy wr (some g13))) (fun t _=>63+p - (intOf t).toNat)
   case atStart=>exact⟨0,_,by omega,rfl,x13h,OwnL.nil _ _,⟨rfl,rfl,rfl,Nat.le_refl _,fun _ _ _=>rfl⟩⟩
   case round=>
    obtain⟨k,v,hk,rfl,x9r,ho,hg⟩:=hrel;obtain⟨Ao,co,rfl⟩:=ho.out.shape;rw[bytes1_len] at ho x9r
    by_cases hlt:k<63+p
    ·have i1:(k:Int)<((63+p:Nat):Int):=by omega
     have i1':(k:Int)<63+(p:Int):=by omega
     have m4:IntKind.u8.wrap (k:Int)=(k:Int):=by rw[IntKind.wrap_u8];omega
     have hu8:((UInt8.ofNat k).toNat:Int)=(k:Int):=by rw[UInt8.toNat_ofNat'];omega
     have bA:=balloc wr (.cells #[.int .u8 (k:Int)] 5);have o1:=one_byte wr (UInt8.ofNat k) (k:Int) hu8;have bB:=balloc (wr.alloc (.cells #[.int .u8 (k:Int)] 5)) (.cells #[.slice (some ⟨wr.heap.size,0,none⟩) 1 1] 25);have bAB:=bgo bA bB;have hov:∀j,(Value.slice Ao k co).ownBlock=some j->j<wr.heap.size:=fun j hj=>(ho.out.lt j hj).2
     have hcell:=lhd (one_cell (wr.alloc (.cells #[.int .u8 (k:Int)] 5)) (.slice (some ⟨wr.heap.size,0,none⟩) 1 1) 25);have hel:=lhd ((Elt.of_from (v:=.slice Ao k co) o1.sees o1.from hov).below bB);have ho2:=lhd (ho.out.below bAB);have hz:=lhd (Nat.le_trans hg.out.size bAB.size);have hx8:=lhd (x9r.out.below bAB);have hb8:=lhd (grown_then hg.out (bAB.mono hg.out.size));have hcnt:Hid ((bytes1 k).length<=549755813888):=by show _<=_;rw[bytes1_len];omega
     have y13:=box1_cell x9r.out;have hk1:Hid (k+1<=63+p):=hlt;clear bA o1 bB bAB hov hu8 ho;rw[xsa] at hcell
     go_wp2_with fail
     refine (hw3.out _).mono ?_;rintro e w5 ⟨rfl,hw5⟩;obtain rfl:=hw5.symm;dsimp only
     go_wp2_with (at_builtin;refine wpList_appL (by rfl) _ _ 30 underlying30 rfl W1.heap.size _ (bytes1 k) rfl ho2.out _ _ _ [UInt8.ofNat k] rfl hcell.out hel.out hcnt.out hz.out ?_)
     intro v' w' hW2 hb4;rw[<-bytes1_next] at hW2;obtain⟨Aw,cw,rfl⟩:=hW2.shape;rw[bytes1_len] at hW2 ⊢;have hx9:Hid (Box w' g13 44 [.slice Ao k co]):=(hb4.block g13 hg13l.out).trans hx8.out;have y9:=box1_cell hx9.out;have f9:=hx9.out.frozen 0;have hb9:=grown_then hb8.out hb4;have hx5:=hx9.out.set 0 (.slice Aw (k+1) cw);simp only[xsz] at hx5;have ho5:=OwnL.poke (j:=0) (v':=.slice Aw (k+1) cw) hW2 hg13l.out hx9.out (noS1 _ _ _);have hg5:=ggo hb9 (setCell_grown w' g13 0 (.slice Aw (k+1) cw));replace hx5:=lhd hx5;replace ho5:=lhd ho5;replace hg5:=lhd hg5;clear hb9 hb4 hW2 hel hcell ho2 hx8 hb8 y13
     go_wp2_with fail
     go_roundw
     case rel=>exact⟨k+1,_,hk1.out,by go_num,hx5,ho5,hg5⟩
     case measure=>simp[intOf];omega
    obtain rfl:k=63+p:=by omega
    have i1:¬((63+p:Nat):Int)<((63+p:Nat):Int):=by omega
    have hdone:LaQ w g13 (.slice A1 b.length c1) wr:=⟨A1,c1,b,Ao,co,bytes1 (63+p),rfl,by rw[bytes1_len];exact x9r.out,by rw[bytes1_len];exact ho.out.sees,sees_row s1h.out hg.out x13h.out (noS1 _ _ _),by rw[bytes1_len];omega,bytes1_le _,hfb.out,below_row hbwh.out hg.out hg13.out⟩
    replace hdone:=lhd hdone;clear x13h hbwh s1h
    go_wp2_with fail
    refine (hw3.out _).mono ?_;rintro e w5 ⟨rfl,hw5⟩;obtain rfl:=hw5.symm;dsimp only
    go_wp2_with fail
    go_meet
    exact hdone.out
  have hdone:LaQ w g13 (.slice A1 b.length c1) W1:=⟨A1,c1,b,none,0,[],rfl,x13,(OwnL.nil W1 0).sees,s1',by simp,by simp,hfb.out,hbw.out⟩
  replace hdone:=lhd hdone
  go_wp2_with fail
  go_meet
  exact hdone.out
 case rest=>
 obtain⟨A',c',P,Av,cv,es,rfl,x13,sl,sP,hn,hl,hPl,hb⟩:=hcut;obtain⟨W2,rfl⟩:∃W2:World,W2=wc:=⟨_,rfl⟩
 clear hfl hw3 hp2 hq2 s1' su hfb hbw;have ha:=lhd (ladd_any es P _ _ W2 sl sP hn hl hPl);have hra:=lhd (fun W (hW:Below W2.heap.size W2 W)=>rladd_any es P _ _ W (seesL_of sl nlr hW) (seesB_of sP nlr hW) hn hl hPl);have hlen:=lhd (fun cc=>laddR_len es P cc hn);have y13:=box1_cell x13;replace hb:=lhd hb;clear sl sP hl;unfold LAddP at ha hra
 go_wp2_with fail
 refine ha.out.mono ?_;rintro e w3 ⟨v3,ls,f,s,qq,hO,rfl,s3,hb3⟩;have hl3:=hlen.out (dchkC ls f s qq);have hra2:Hid (∀W,Below W2.heap.size W2 W->Calls prog 24 #[.agg #[.slice Av es.length cv],.slice A' P.length c'] W fun e w'=>∃v,e=.returned (.tuple #[.agg #[v],.int .i64 (laddR es P (dchkC ls f s qq)).2.1,.int .i64 (laddR es P (dchkC ls f s qq)).2.2])/\SeesL w' w'.heap.size v (laddR es P (dchkC ls f s qq)).1/\Below W.heap.size W w'):=fun W hW=>(hra.out W hW).mono fun e w' h=>by
  obtain⟨v,ls',f',s',q',hO',h1,h2,h3⟩:=h;obtain⟨rfl,rfl,rfl,rfl⟩:=hO'.uniq hO;exact⟨v,h1,h2,h3⟩
 generalize laddR es P (dchkC ls f s qq)=R at *;obtain⟨rl,ri,rc⟩:=R;dsimp only at s3 hra2 hl3 ⊢;obtain⟨A3,c3,rfl,-,-⟩:=s3.mk_;have hal:=balloc w3 (.cells #[.slice A3 rl.length c3] 44);have x15:=Box.new w3 44 [.slice A3 rl.length c3];change Box (w3.alloc (.cells #[.slice A3 rl.length c3] 44)) _ _ _ at x15;have hb33:=bgo hb3 hal;have hrb:=lhd (hra2.out _ hb33);replace s3:=seesL_of s3 nlr hal;replace x13:=x13.below hb33;replace hb:=lhd (bgo hb.out hb33);replace hl3:=lhd hl3;clear ha hra hra2 hO y13 hal hb3 hb33 hlen
 go_upto_region 19 with (fail)
 generalize w3.alloc (.cells #[.slice A3 rl.length c3] 44)=W3 at *;generalize w3.heap.size=g15 at *;have y13:=box1_cell x13
 go_wp2_with fail
 refine hrb.out.mono ?_;rintro e w4 ⟨v4,rfl,s4,hb4⟩;obtain⟨A4,c4,rfl,-,-⟩:=s4.mk_;have hal:=balloc w4 (.cells #[.slice A4 rl.length c4] 44);have x18:=Box.new w4 44 [.slice A4 rl.length c4];change Box (w4.alloc (.cells #[.slice A4 rl.length c4] 44)) _ _ _ at x18;have hb44:=bgo hb4 hal;replace s4:=seesL_of s4 nlr hal;replace s3:=seesL_of s3 nlr hb44;replace x15:=x15.below hb44;replace hb:=lhd (bgo hb.out hb44);clear hrb y13 hal hb4 hb44 x13;dsimp only
 go_upto_region 20 with (fail)
 generalize w4.alloc (.cells #[.slice A4 rl.length c4] 44)=W4 at *;generalize w4.heap.size=g18 at *
 go_wp2_with fail
 refine (hkn.out _).mono ?_;rintro e w5 ⟨rfl,hb5⟩;have hsm:=lhd (lsame_eq _ _ rl w5 (seesL_of s3 nlr hb5) (seesL_of s4 nlr hb5) hl3.out);have y15:=box1_cell (x15.below hb5);have y18:=box1_cell (x18.below hb5);replace hb:=lhd (bgo hb.out hb5);clear s3 s4 x15 x18 hb5 hkn;dsimp only
 go_wp2_with fail
 refine hsm.out.mono ?_;rintro e w6 ⟨rfl,hb6⟩;dsimp only
 go_wp2_with fail
 go_ret
 exact⟨rfl,bgo hb.out hb6⟩
end Go.Proofs.YtjgepckncogdaaaGreat
