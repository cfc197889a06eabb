/- Contracts of functions, walks, plain facts. Conditions: those of each theorem. -/
import Derived.Test.YtjgepckncogdaaaGreatK9
set_option linter.unusedVariables false
set_option linter.unusedSimpArgs false
set_option maxRecDepth 100000
set_option maxHeartbeats 16000000
namespace Go.Proofs.YtjgepckncogdaaaGreat
open Go Go.RowKit _root_.Go.Proofs.Tryz
attribute [local go_sem ↓] Go.wp_at_zero Go.wp_at_succ
def RPartsSome (s:Sig) (w:World) (e:Ending) (w':World):Prop:=
 ∃v1 v2,e=.returned (.tuple #[.int .i64 (s.height:Int),.int .i64 (s.index:Int),v1,v2,.bool true])/\OwnL w' w.heap.size v1 s.elements/\OwnL w' w.heap.size v2 s.path/\Below w.heap.size w w'
def RPartsNone (w:World) (e:Ending) (w':World):Prop:=
 e=.returned (.tuple #[.int .i64 0,.int .i64 0,.slice none 0 0,.slice none 0 0,.bool false])/\Below w.heap.size w w'
def RPartsP (x:Option Sig) (w:World) (e:Ending) (w':World):Prop:=
 match x with
 | none=>RPartsNone w e w'
 | some s=>RPartsSome s w e w'
theorem cutL_step (size n:Nat) (l:Bs) (k:Nat) (hk:k<n):(cutL size n l).take (k+1)=(cutL size n l).take k++[(l.drop (size * k)).take size]:=by
 rw[List.take_succ_eq_append_getElem (by rw[cutL_len];exact hk),<-cutL_get size n l k hk,xgd,xge (by rw[cutL_len];exact hk)]
 rfl
def PR (cnt sz:Nat) (src:Bs) (tot:Nat) (wo:World) (v bb t:Value) (wr:World):Prop:=
 ∃(k n':Nat) (A':Option Addr) (c':Nat),k<=cnt/\t=.int .i64 k/\Hid (OwnL wr wo.heap.size v ((cutL sz cnt src).take k))/\Hid (Below wo.heap.size wo wr)/\Hid (n'=tot - sz * k)/\bb=.slice A' n' c'/\n'<=c'/\c'<=maxLen/\Hid (SeesB wo wo.heap.size (.slice A' n' c') (src.drop (sz * k)))
theorem rparts_short (B:Nat) (u:Value) (l:Bs) (w:World) (hu:SeesB w B u l) (hl:l.length<565):Calls prog 187 #[u] w (RPartsNone w):=by
 obtain⟨A,c,rfl,-,-⟩:=hu.mk_;clear hu;have i0:(l.length:Int)<565:=by omega
 go_enter func187,ntmps187
 go_wp2_with fail
 go_returns
 exact⟨rfl,Below.refl _ _⟩
theorem rparts_long (B:Nat) (u:Value) (l:Bs) (w:World) (hu:SeesB w B u l) (hB:B<=w.heap.size) (hl5:565<=l.length) (hl:l.length<=1048576) :
 Calls prog 187 #[u] w (RPartsP (partsG l) w):=by
 obtain⟨A,c,rfl,hc1,hc2⟩:=hu.mk_;obtain⟨b,o,rfl,hbB,hcell⟩:=hu.at_ (by omega);have x0:=hcell 0 (by omega);rw[Nat.add_zero] at x0;have s1:=SeesB.cut (a:=1) (b:=5) hu (by omega) (by omega);have hi4:((l.drop 1).take 4).length=4:=by rw[xlt,xld];omega
 have hidx:=getB_lt4 _ hi4;have s5:=SeesB.cut (a:=5) (b:=l.length) hu (by omega) nlr;rw[xtl (by rw[xld];omega)] at s5;have r1:∀W,(Instr.slice 25 (.slice (some ⟨b,o,none⟩) l.length c) (some (.int .i64 1)) (some (.int .i64 5)) none).run prog W=.ok (.slice (cutA (some ⟨b,o,none⟩) c 1 1) 4 (c - 1)) W:=fun W=>
  run_cut (P:=prog) 25 underlying25 1 byte_size (some ⟨b,o,none⟩) l.length c .i64 .i64 1 5 (by omega) (by omega) (by omega) W
 have r5:∀W,(Instr.slice 25 (.slice (some ⟨b,o,none⟩) l.length c) (some (.int .i64 5)) none none).run prog W=.ok (.slice (cutA (some ⟨b,o,none⟩) c 5 1) (l.length - 5) (c - 5)) W:=fun W=>
  run_cut_from (P:=prog) 25 underlying25 1 byte_size (some ⟨b,o,none⟩) l.length c .i64 5 (by omega) (by omega) W
 have hP:Hid (partsG l=if l.length<565 then none
  else if 6<(l.getD 0 0).toNat\/2 ^ (l.getD 0 0).toNat<=getB ((l.drop 1).take 4)\/l.length≠565+32 * (l.getD 0 0).toNat then none
  else some ⟨(l.getD 0 0).toNat,getB ((l.drop 1).take 4),cutL 16 35 (l.drop 5),cutL 32 (l.getD 0 0).toNat (l.drop 565)⟩):=rfl
 have hx0:=(l.getD 0 0).toNat_lt;generalize cutA (some ⟨b,o,none⟩) c 1 1=A3 at *;generalize cutA (some ⟨b,o,none⟩) c 5 1=A5 at *;have hget:∀n,Calls prog 230 #[.slice A3 4 (c - 1)] (w.drewN n) fun e w'=>e=.returned (.int .u64 (getB ((l.drop 1).take 4):Int))/\w'=w.drewN n:=fun n=>rget_any B _ _ (w.drewN n) (s1.below (below_drewN (Below.refl B w) n))
 unfold byV at x0;generalize (l.getD 0 0).toNat=h at *;generalize getB ((l.drop 1).take 4)=ix at *;have m0:IntKind.i64.wrap (h:Int)=(h:Int):=by rw[xwi];omega
 have m1:IntKind.i64.wrap (ix:Int)=(ix:Int):=by rw[xwi];omega
 have m2:IntKind.u64.wrap (h:Int)=(h:Int):=by rw[IntKind.wrap_u64];omega
 have i0:¬((l.length:Int)<565):=by omega
 have i1:(5:Int)<=(l.length:Int):=by omega
 have i2:(5:Int)<=(c:Int):=by omega
 replace hget:=lhd hget;replace s5:=lhd s5;clear s1 hcell hi4 hu
 by_cases hh:h<=6
 ·have hp:=wrap_pow h hh
  have hp64:=pow_le64 h hh
  by_cases hix:ix<2 ^ h
  ·by_cases hlen:l.length=565+32 * h
   ·have hn:Hid (partsG l=some ⟨h,ix,cutL 16 35 (l.drop 5),cutL 32 h ((l.drop 5).drop 560)⟩):=by show _=_;rw[hP.out,if_neg (by omega),if_neg (by omega),List.drop_drop]
    have hDl:(l.drop 5).length=560+32 * h:=by rw[xld];omega
    clear hP;generalize hD:l.drop 5=D at *;replace hD:=lhd hD;generalize 2 ^ h=N at *;have j0:¬((6:Int)<(h:Int)):=by omega
    have j1:¬((N:Int)<=(ix:Int)):=by omega
    have j3:decide ((6:Int)<(h:Int))=false:=by simp;omega
    have j4:decide (N<=ix)=false:=by simp;omega
    have j2:((l.length:Int) != 565+(h:Int) * 32)=false:=by rw[bne_eq_false_iff_eq];omega
    have hc5:D.length<=c - 5:=by rw[hDl];omega
    have hl5':l.length - 5=560+32 * h:=by omega
    rw[hl5'] at s5 r5;have hlit:∀W:World,Below w.heap.size w W->SeesB W W.heap.size (.slice A5 (560+32 * h) (c - 5)) D:=fun W hW=>seesB_of (s5.out.more hB) nlr hW
    replace hlit:=lhd hlit;replace hlen:=lhd hlen;replace hl5':=lhd hl5';replace hDl:=lhd hDl
    go_enter func187,ntmps187
    go_wp2_with fail
    go_quiet ((go_at_call 230;exact Calls.quiet_of_same (hget.out _)))
    go_wp2_with fail
    have hbq:Hid (Below w.heap.size w (w.drewN nq)):=below_drewN (Below.refl _ _) nq;clear x0 hget hp;generalize hwq:w.drewN nq=wo at *;replace hwq:=lhd hwq;have hv0:=lhd (hlit.out wo hbq.out);have hcm:c - 5<=maxLen:=by unfold maxLen at *;omega
    go_loopw [4,7,8] (fun v bb t wr=>PR 35 16 D (560+32 * h) wo v bb t wr) (fun _ _ t _=>35 - (intOf t).toNat)
    case atStart=>exact⟨0,560+32 * h,A5,c - 5,by omega,rfl,OwnL.nil _ _,Below.refl _ _,rfl,rfl,by have:=hDl.out;omega,hcm,hv0⟩
    case round=>
     clear hv0;obtain⟨k,n',A',c',hk,rfl,ho,hb,hn',rfl,hnc,hcc,hsee⟩:=hrel;have hnn:=hn'.out
     by_cases hlt:k<35
     ·have hst:=lhd (cutL_step 16 35 D k hlt)
      have hdl:(D.drop (16 * k)).length=n':=by rw[xld,hDl.out];omega
      have hrow:Hid (((cutL 16 35 D).take k).length<=64):=by show _<=_;rw[xlt];omega
      obtain⟨b',o',rfl,-,-⟩:=hsee.out.at_ (by omega);have qk:=SeesB.take (m:=16) (c':=c') hsee.out (by omega) (by omega) hcc;have qrest:=SeesB.cut (a:=16) (b:=n') hsee.out (by omega) (by omega);rw[xtl (by rw[xld];omega),List.drop_drop,<-Nat.mul_succ] at qrest;have rr:=run_cut_from (P:=prog) 25 underlying25 1 byte_size (some ⟨b',o',none⟩) n' c' .i64 16 (by omega) (by omega);have rt:=run_cut_to (P:=prog) 25 underlying25 1 byte_size (some ⟨b',o',none⟩) n' c' .i64 16 (by omega) (by omega);rw[show (16:Int).toNat=16 from rfl] at rr rt;rw[cutA_zero,Nat.sub_zero,Nat.sub_zero] at rt;generalize cutA (some ⟨b',o',none⟩) c' 16 1=A2 at *;generalize (cutL 16 35 D).take k=row at *;have hxl:Hid (((D.drop (16 * k)).take 16).length=16):=by show _=_;rw[xlt];omega
      generalize (D.drop (16 * k)).take 16=x at *;have hel:=Elt.of_old (qk.below hb.out) hb.out.size (fun j hj=>(ho.out.lt j hj).1);obtain⟨Ar,cr,rfl⟩:=ho.out.shape;have hal:=balloc wr (.cells #[.slice (some ⟨b',o',none⟩) 16 c'] 25);have hcl:=lhd (one_cell wr (.slice (some ⟨b',o',none⟩) 16 c') 25);have ho2:=lhd (ho.out.below hal);replace hel:=lhd (hel.below hal);have hb3:=lhd (bgo hb.out hal);replace qrest:=lhd qrest;have i5:(0:Int)<=(k:Int):=by omega
      have i6:(k:Int)<35:=by omega
      have i7:(16:Int)<=(c':Int):=by omega
      have i8:(16:Int)<=(n':Int):=by omega
      have hn2:Hid (n' - 16=560+32 * h - 16 * (k+1)):=by show _=_;omega
      have i9:n'<=1000:=by omega
      clear qk hsee ho hb hal hdl hnn
      go_wp2_with (at_builtin;refine wpList_appL (by rfl) _ _ 30 underlying30 rfl wo.heap.size _ row rfl ho2.out _ _ _ x rfl hcl.out hel.out (by have:=hrow.out;omega) hb3.out.size ?_)
      intro v' w' hW2 hb4;have hW2:=lhd hW2;have hb4:=lhd (hb3.out.trans hb4)
      go_wp2_with fail
      go_roundw
      case rel=>exact⟨k+1,n' - 16,A2,c' - 16,by omega,by go_num,by rw[hst.out];exact hW2.out,hb4.out,hn2.out,rfl,by omega,by omega,qrest.out⟩
      case measure=>simp[intOf];omega
     have hk35:k=35:=by omega
     have hfull:Hid ((cutL 16 35 D).take k=cutL 16 35 D):=by show _=_;rw[xtl (by rw[cutL_len];omega)]
     rw[hfull.out] at ho;have hv0:=hsee;rw[show 16 * k=560 from by omega] at hv0;have hDD:Hid ((D.drop 560).length=32 * h):=by show _=_;rw[xld,hDl.out];omega
     have hPl:=cutL_len 32 h (D.drop 560);have hEl:=cutL_len 16 35 D;generalize D.drop 560=E at *;generalize cutL 16 35 D=ES at *;replace hEl:=lhd hEl;replace hPl:=lhd hPl;have hn0:n'=32 * h:=by omega
     subst hn0;have i5:¬((k:Int)<35):=by omega
     replace hk35:=lhd hk35;clear hnn hn' hlt;obtain⟨Ae,ce,rfl⟩:=ho.out.shape;have hoE:=ho;have hbE:=hb;clear hsee hfull
     go_wp2_with fail
     obtain⟨wm,rfl⟩:∃W:World,W=wr:=⟨_,rfl⟩
     go_loopw [5,7,9] (fun v bb t wr=>PR h 32 E (32 * h) wm v bb t wr) (fun _ _ t _=>h - (intOf t).toNat)
     case atStart=>exact⟨0,32 * h,A',c',by omega,rfl,OwnL.nil _ _,Below.refl _ _,rfl,rfl,hnc,hcc,seesB_of hv0.out nlr hb.out⟩
     case round=>
      clear hv0;obtain⟨k,n',A',c',hk,rfl,ho2,hb2,hn2',rfl,hnc,hcc,hsee⟩:=hrel;have hnn:=hn2'.out;clear ho hb;have ho:=ho2;have hb:=hb2;clear ho2 hb2
      by_cases hlt:k<h
      ·have hst:=lhd (cutL_step 32 h E k hlt)
       have hdl:(E.drop (32 * k)).length=n':=by rw[xld,hDD.out];omega
       have hrow:Hid (((cutL 32 h E).take k).length<=64):=by show _<=_;rw[xlt];omega
       obtain⟨b',o',rfl,-,-⟩:=hsee.out.at_ (by omega);have qk:=SeesB.take (m:=32) (c':=c') hsee.out (by omega) (by omega) hcc;have qrest:=SeesB.cut (a:=32) (b:=n') hsee.out (by omega) (by omega);rw[xtl (by rw[xld];omega),List.drop_drop,<-Nat.mul_succ] at qrest;have rr:=run_cut_from (P:=prog) 25 underlying25 1 byte_size (some ⟨b',o',none⟩) n' c' .i64 32 (by omega) (by omega);have rt:=run_cut_to (P:=prog) 25 underlying25 1 byte_size (some ⟨b',o',none⟩) n' c' .i64 32 (by omega) (by omega);rw[show (32:Int).toNat=32 from rfl] at rr rt;rw[cutA_zero,Nat.sub_zero,Nat.sub_zero] at rt;generalize cutA (some ⟨b',o',none⟩) c' 32 1=A2 at *;generalize (cutL 32 h E).take k=row at *;have hxl:Hid (((E.drop (32 * k)).take 32).length=32):=by show _=_;rw[xlt];omega
       generalize (E.drop (32 * k)).take 32=x at *;have hel:=Elt.of_old (qk.below hb.out) hb.out.size (fun j hj=>(ho.out.lt j hj).1);obtain⟨Ar,cr,rfl⟩:=ho.out.shape;have hal:=balloc wr (.cells #[.slice (some ⟨b',o',none⟩) 32 c'] 25);have hcl:=lhd (one_cell wr (.slice (some ⟨b',o',none⟩) 32 c') 25);have ho2:=lhd (ho.out.below hal);replace hel:=lhd (hel.below hal);have hb3:=lhd (bgo hb.out hal);replace qrest:=lhd qrest;have i5:(0:Int)<=(k:Int):=by omega
       have i6:(k:Int)<(h:Int):=by omega
       have i7:(32:Int)<=(c':Int):=by omega
       have i8:(32:Int)<=(n':Int):=by omega
       have hn2:Hid (n' - 32=32 * h - 32 * (k+1)):=by show _=_;omega
       have i9:n'<=1000:=by omega
       clear qk hsee ho hb hal hdl hnn
       go_wp2_with (at_builtin;refine wpList_appL (by rfl) _ _ 30 underlying30 rfl wm.heap.size _ row rfl ho2.out _ _ _ x rfl hcl.out hel.out (by have:=hrow.out;omega) hb3.out.size ?_)
       intro v' w' hW2 hb4;have hW2:=lhd hW2;have hb4:=lhd (hb3.out.trans hb4)
       go_wp2_with fail
       go_roundw
       case rel=>exact⟨k+1,n' - 32,A2,c' - 32,by omega,by go_num,by rw[hst.out];exact hW2.out,hb4.out,hn2.out,rfl,by omega,by omega,qrest.out⟩
       case measure=>simp[intOf];omega
      have hkh:k=h:=by omega
      have hfull2:Hid ((cutL 32 h E).take k=cutL 32 h E):=by show _=_;rw[xtl (by rw[cutL_len];omega)]
      rw[hfull2.out] at ho;have i5:¬((k:Int)<(h:Int)):=by omega
      replace hkh:=lhd hkh;clear hlt hnn hn2'
      go_wp2_with fail
      go_returns
      rw[hn.out];exact⟨_,_,rfl,(hoE.out.below hb.out).mono hbq.out.size,ho.out.mono (bgo hbq.out hbE.out).size,bgo (bgo hbq.out hbE.out) hb.out⟩
   have hn:Hid (partsG l=none):=by show _=_;rw[hP.out,if_neg (by omega),if_pos (.inr (.inr hlen))]
   clear hP;generalize 2 ^ h=N at *;have j0:¬((6:Int)<(h:Int)):=by omega
   have j1:¬((N:Int)<=(ix:Int)):=by omega
   have j2:((l.length:Int) != 565+(h:Int) * 32)=true:=by rw[bne_iff_ne];omega
   go_enter func187,ntmps187
   go_wp2_with fail
   go_quiet ((go_at_call 230;exact Calls.quiet_of_same (hget.out _)))
   go_wp2_with fail
   go_returns
   rw[hn.out];exact⟨rfl,below_drewN (Below.refl _ _) _⟩
  have hn:Hid (partsG l=none):=by show _=_;rw[hP.out,if_neg (by omega),if_pos (.inr (.inl (by omega)))]
  clear hP;generalize 2 ^ h=N at *;have j0:¬((6:Int)<(h:Int)):=by omega
  have j1:(N:Int)<=(ix:Int):=by omega
  go_enter func187,ntmps187
  go_wp2_with fail
  go_quiet ((go_at_call 230;exact Calls.quiet_of_same (hget.out _)))
  go_wp2_with fail
  go_returns
  rw[hn.out];exact⟨rfl,below_drewN (Below.refl _ _) _⟩
 have hn:Hid (partsG l=none):=by show _=_;rw[hP.out,if_neg (by omega),if_pos (.inl (by omega))]
 clear hP;have j0:(6:Int)<(h:Int):=by omega
 go_enter func187,ntmps187
 go_wp2_with fail
 go_quiet ((go_at_call 230;exact Calls.quiet_of_same (hget.out _)))
 go_wp2_with fail
 go_returns
 rw[hn.out];exact⟨rfl,below_drewN (Below.refl _ _) _⟩
theorem partsG_short (l:Bs) (h:l.length<565):partsG l=none:=by rw[partsG,if_pos h]
theorem partsG_ok (l:Bs) (s:Sig) (h:partsG l=some s):s.height<=6/\s.index<2 ^ s.height/\s.elements.length=35/\(∀x∈s.elements,x.length=16)/\s.path.length=s.height/\(∀x∈s.path,x.length=32):=by
 unfold partsG at h
 split at h
 ·cases h
 split at h
 ·cases h
 rename_i h1 h2
 injection h with h;subst h;dsimp only;have hd:(l.drop 5).length=l.length - 5:=xld;refine⟨by omega,by omega,cutL_len _ _ _,?_,cutL_len _ _ _,?_⟩
 ·rw[<-cutL_take]
  exact cutL_el 16 35 _ (by rw[xlt,hd];omega)
 exact cutL_el 32 _ _ (by rw[xld];omega)
theorem parse_all (B:Nat) (u:Value) (l:Bs) (w:World) (hu:SeesB w B u l) (hB:B<=w.heap.size) (hl:l.length<=1048576):Calls prog 152 #[u] w (ParseP (partsG l) w):=by
 by_cases h:5<=l.length
 ·exact parse_long B u l w hu hB h hl
 rw[partsG_short l (by omega)];exact parse_short B u l w hu hB (by omega)
theorem rparts_all (B:Nat) (u:Value) (l:Bs) (w:World) (hu:SeesB w B u l) (hB:B<=w.heap.size) (hl:l.length<=1048576):Calls prog 187 #[u] w (RPartsP (partsG l) w):=by
 by_cases h:565<=l.length
 ·exact rparts_long B u l w hu hB h hl
 rw[partsG_short l (by omega)];exact rparts_short B u l w hu (by omega)
theorem checkI_in (root leaf:Bs) (n i:Nat) (p:List Bs) (hn:1<=n) (hn2:n<=1024) (hi:i<n):checkI root (n:Int) (i:Int) leaf p=checkG root n i leaf p:=by
 have hin:inI (n:Int) (i:Int)=true:=by simp[inI];omega
 unfold checkI climbI checkG;rw[if_pos hin,xnc,xnc];cases h:climbG n i (leafH leaf) p with
 | none=>rfl
 | some x=>
   obtain⟨r,used⟩:=x;dsimp only
   by_cases hu:used=p.length
   ·simp[hu]
    rw[Bool.eq_iff_iff];simp
   simp[hu]
theorem rverify_any (B:Nat) (u u2 u3:Value) (p m l:Bs) (w:World) (hu:SeesB w B u p) (hu2:SeesB w B u2 m) (hu3:SeesB w B u3 l) (hB:B<=w.heap.size) (hm:m.length<=1048576) (hl:l.length<=1048576) :
 Calls prog 116 #[u,u2,u3] w (BoolPost (verifyG p m l) w):=by
 have hc:=rparts_all B u3 l w hu3 hB hl;obtain⟨A,c,rfl,-,-⟩:=hu.mk_;obtain⟨A2,c2,rfl,-,-⟩:=hu2.mk_;obtain⟨A3,c3,rfl,-,-⟩:=hu3.mk_;clear hu3
 by_cases hp:p.length=32
 ·by_cases hm2:m.length<=65535
  ·rcases hpt:partsG l with _ | s
   ·have hv:Hid (verifyG p m l=false):=by show _=_;rw[verifyG,hpt]
    rw[hpt] at hc;replace hc:Hid (Calls _ _ _ _ (RPartsNone w)):=hc;rw[hp];have i0:¬((65535:Int)<(m.length:Int)):=by omega
    clear hpt hp hu hu2
    go_enter func116,ntmps116
    go_wp2_with fail
    refine hc.out.mono ?_;rintro e w1 ⟨rfl,hb1⟩;dsimp only
    go_wp2_with fail
    go_ret
    exact⟨ret_bool hv.out.symm,hb1⟩
   obtain⟨s1,s2,s3,s4,s5,s6⟩:=partsG_ok l s hpt;have hv:Hid (verifyG p m l=checkI p ((2 ^ s.height:Nat):Int) (s.index:Int) (recG (digG p s.index m) s.elements) s.path):=by
    show _=_
    have:=pow_le64 s.height s1
    rw[checkI_in _ _ _ _ _ (by omega) (by omega) s2,verifyG,hpt];simp[hp,hm2]
   rw[hpt] at hc;replace hc:Hid (Calls _ _ _ _ (RPartsSome s w)):=hc;have hpw:=wrap_pow s.height s1;have hp64:=pow_le64 s.height s1;have m0:IntKind.u64.wrap (s.height:Int)=(s.height:Int):=by rw[IntKind.wrap_u64];omega
   have hix:s.index<4294967296:=Nat.lt_of_lt_of_le s2 (Nat.le_trans hp64.2 (by omega));have hpl:p.length<=1048576:=by omega
   have hdg:=fun (W:World) (hW:Below w.heap.size w W)=>rdigest_any B (.slice A p.length c) (.slice A2 m.length c2) p m s.index W (hu.below (hW.mono hB)) (hu2.below (hW.mono hB)) (Nat.le_trans hB hW.size) hpl hm hix
   clear hpl;have hpw2:=fun (W:World) (hW:Below w.heap.size w W)=>hu.below (hW.mono hB)
   rw[hp] at hdg hpw2 ⊢;have i0:¬((65535:Int)<(m.length:Int)):=by omega
   have hd16:Hid ((digG p s.index m).length=16):=short_len _;generalize digG p s.index m=DG at *;obtain⟨h,i,es,ps⟩:=s;dsimp only at *;generalize 2 ^ h=N at *;replace hdg:=lhd hdg;replace hpw2:=lhd hpw2;replace s3:=lhd s3;replace s4:=lhd s4;replace s5:=lhd s5;replace s6:=lhd s6;clear hpt hp hu hu2
   go_enter func116,ntmps116
   go_wp2_with fail
   refine hc.out.mono ?_;rintro e w1 ⟨v1,v2,rfl,h1,h2,hb1⟩;obtain⟨A4,c4,rfl⟩:=h1.shape;obtain⟨A5,c5,rfl⟩:=h2.shape;replace h1:=lhd h1;replace h2:=lhd h2;dsimp only
   go_wp2_with fail
   refine (hdg.out w1 hb1).mono ?_;rintro e w2 ⟨v3,rfl,h3,hb2,-⟩;have hrc:=lhd (rrecover_any w2.heap.size v3 (.slice A4 es.length c4) DG es w2 h3 (h1.out.below hb2).sees nlr hd16.out s3.out s4.out);obtain⟨A6,c6,rfl,-,-⟩:=h3.mk_;clear h3;dsimp only
   go_wp2_with fail
   refine hrc.out.mono ?_;rintro e w3 ⟨v4,rfl,h4,hb3,-⟩;have hb12:=bgo hb1 (bgo hb2 hb3);have hr16:(recG DG es).length=16:=short_len _;have hck:=lhd (rcheck_any p (N:Int) (i:Int) (recG DG es) ps w3.heap.size (.slice A 32 c) v4 (.slice A5 ps.length c5) w3 ((hpw2.out w3 hb12).more (Nat.le_trans hB hb12.size)) h4 (h2.out.below (bgo hb2 hb3)).sees nlr (by omega) (fun x hx=>by rw[s6.out x hx];omega));replace hr16:=lhd hr16;obtain⟨A7,c7,rfl,-,-⟩:=h4.mk_;clear h4;dsimp only
   go_wp2_with fail
   refine hck.out.mono ?_;rintro e w4 ⟨rfl,hb4⟩;dsimp only
   go_wp2_with fail
   go_ret
   exact⟨ret_bool hv.out.symm,bgo hb12 hb4⟩
  ·have hv:Hid (verifyG p m l=false):=by
    show _=_;rw[verifyG];split<;>simp[hm2]
   have i0:(65535:Int)<(m.length:Int):=by omega
   rw[hp];clear hu hu2 hc
   go_enter func116,ntmps116
   go_wp2_with fail
   go_ret
   exact⟨ret_bool hv.out.symm,Below.refl _ _⟩
 ·have hv:Hid (verifyG p m l=false):=by
   show _=_;rw[verifyG];split<;>simp[hp]
  have i0:((p.length:Int) != 32)=true:=by rw[bne_iff_ne];omega
  clear hu hu2 hc
  go_enter func116,ntmps116
  go_wp2_with fail
  go_ret
  exact⟨ret_bool hv.out.symm,Below.refl _ _⟩
theorem verify_any (B:Nat) (u u2 u3:Value) (p m l:Bs) (w:World) (hu:SeesB w B u p) (hu2:SeesB w B u2 m) (hu3:SeesB w B u3 l) (hB:B<=w.heap.size) (hm:m.length<=1048576) (hl:l.length<=1048576) :
 Calls prog 78 #[u,u2,u3] w (BoolPost (verifyG p m l) w):=by
 have hc:=parse_all B u3 l w hu3 hB hl;obtain⟨A,c,rfl,-,-⟩:=hu.mk_;obtain⟨A2,c2,rfl,-,-⟩:=hu2.mk_;obtain⟨A3,c3,rfl,-,-⟩:=hu3.mk_;clear hu3;rcases hpt:partsG l with _|s
 ·have hv:Hid (verifyG p m l=false):=by show _=_;rw[verifyG,hpt]
  rw[hpt] at hc;replace hc:Hid (Calls _ _ _ _ (ParseNone w)):=hc;clear hpt hu hu2
  go_enter func78,ntmps78
  go_wp2_with fail
  refine hc.out.mono ?_;rintro e w1 ⟨rfl,hb1⟩;dsimp only
  go_wp2_with fail
  go_ret
  exact⟨ret_bool hv.out.symm,bgo hb1 (balloc _ _)⟩
 obtain⟨s1,s2,s3,s4,s5,s6⟩:=partsG_ok l s hpt;rw[hpt] at hc;replace hc:Hid (Calls _ _ _ _ (ParseSome s w)):=hc
 by_cases hp:p.length=32
 ·by_cases hm2:m.length<=65535
  ·have hv:Hid (verifyG p m l=checkI p ((2 ^ s.height:Nat):Int) (s.index:Int) (recG (digG p s.index m) s.elements) s.path):=by
    show _=_
    have:=pow_le64 s.height s1
    rw[checkI_in _ _ _ _ _ (by omega) (by omega) s2,verifyG,hpt];simp[hp,hm2]
   have hpw:=wrap_pow s.height s1;have hpw3:=wrap_pow2 s.height s1;have hp64:=pow_le64 s.height s1;have hix:s.index<4294967296:=Nat.lt_of_lt_of_le s2 (Nat.le_trans hp64.2 (by omega));have hpl:p.length<=1048576:=by omega
   have hdg:=fun (W:World) (hW:Below w.heap.size w W)=>digest_any B (.slice A p.length c) (.slice A2 m.length c2) p m s.index W (hu.below (hW.mono hB)) (hu2.below (hW.mono hB)) (Nat.le_trans hB hW.size) hpl hm hix
   clear hpl;have hpw2:=fun (W:World) (hW:Below w.heap.size w W)=>hu.below (hW.mono hB)
   rw[hp] at hdg hpw2 ⊢;have i0:¬((65535:Int)<(m.length:Int)):=by omega
   have hd16:Hid ((digG p s.index m).length=16):=short_len _;generalize digG p s.index m=DG at *;obtain⟨h,i,es,ps⟩:=s;dsimp only at *;generalize 2 ^ h=N at *;replace hdg:=lhd hdg;replace hpw2:=lhd hpw2;replace s3:=lhd s3;replace s4:=lhd s4;replace s5:=lhd s5;replace s6:=lhd s6;clear hpt hp hu hu2
   go_enter func78,ntmps78
   go_wp2_with fail
   refine hc.out.mono ?_;rintro e w1 ⟨v1,v2,rfl,h1,h2,hb1⟩;obtain⟨A4,c4,rfl⟩:=h1.shape;obtain⟨A5,c5,rfl⟩:=h2.shape;have hal:=balloc w1 (.cells #[.int .i64 (h:Int),.int .i64 (i:Int),.slice A4 es.length c4,.slice A5 ps.length c5] 191);have hx:=Box.new w1 191 [.int .i64 (h:Int),.int .i64 (i:Int),.slice A4 es.length c4,.slice A5 ps.length c5];change Box (w1.alloc (.cells #[.int .i64 (h:Int),.int .i64 (i:Int),.slice A4 es.length c4,.slice A5 ps.length c5] 191)) _ _ _ at hx;replace h1:=lhd (h1.below hal);replace h2:=lhd (h2.below hal);have hb2:=lhd (bgo hb1 hal);dsimp only
   go_upto_region 4 with (fail)
   generalize w1.alloc (.cells #[.int .i64 (h:Int),.int .i64 (i:Int),.slice A4 es.length c4,.slice A5 ps.length c5] 191)=W2 at *;generalize w1.heap.size=G at *;have K:Hid (∀W:World,Below W2.heap.size W2 W->W.cell? ⟨G,0,none⟩=some (.int .i64 (h:Int))/\W.cell? ⟨G,1,none⟩=some (.int .i64 (i:Int))/\W.cell? ⟨G,2,none⟩=some (.slice A4 es.length c4)/\W.cell? ⟨G,3,none⟩=some (.slice A5 ps.length c5)):=
    fun W hW=>⟨(hx.below hW).cell 0,(hx.below hW).cell 1,(hx.below hW).cell 2,(hx.below hW).cell 3⟩
   obtain⟨x0,x1,x2,x3⟩:=K.out W2 (Below.refl _ _);have hdg2:=lhd (hdg.out W2.drew hb2.out.drew);have hrc:Hid (∀W v,Below W2.heap.size W2 W->SeesB W W.heap.size v DG->Calls prog 153 #[v,.slice A4 es.length c4] W (RecPost (recG DG es) W)):=fun W v hW hv=>recover_any W.heap.size v (.slice A4 es.length c4) DG es W hv (h1.out.below hW).sees nlr hd16.out s3.out s4.out
   have hr16:(recG DG es).length=16:=short_len _;have hck:Hid (∀W v,Below W2.heap.size W2 W->SeesB W W.heap.size v (recG DG es)->Calls prog 79 #[.slice A 32 c,.int .i64 (N:Int),.int .i64 (i:Int),v,.slice A5 ps.length c5] W (BoolPost (checkI p (N:Int) (i:Int) (recG DG es) ps) W)):=fun W v hW hv=>check_any p (N:Int) (i:Int) (recG DG es) ps W.heap.size (.slice A 32 c) v (.slice A5 ps.length c5) W ((hpw2.out W (bgo hb2.out hW)).more (Nat.le_trans hB (bgo hb2.out hW).size)) hv (h2.out.below hW).sees nlr (by omega) (fun x hx=>by rw[s6.out x hx];omega)
   generalize recG DG es=RG at *;replace hr16:=lhd hr16;clear hx hal hdg hpw2 h1 h2
   go_region_held3 (fun W':World=>W'.cell? ⟨G,0,none⟩=some (.int .i64 (h:Int))/\W'.cell? ⟨G,1,none⟩=some (.int .i64 (i:Int))/\W'.cell? ⟨G,2,none⟩=some (.slice A4 es.length c4)/\W'.cell? ⟨G,3,none⟩=some (.slice A5 ps.length c5))
    (first | exact K.out _ hb4 | exact K.out _ hb3 | (go_keep;done))
    (first
     | (go_at_call 153;refine (hrc.out _ _ hb3 k3).mono ?_;rintro e w4 ⟨v4,rfl,k4,hb4,-⟩
        obtain⟨A7,c7,rfl,-,-⟩:=k4.mk_;replace hb4:=bgo hb3 hb4)
     | (go_at_call 139;refine hdg2.out.mono ?_;rintro e w3 ⟨v3,rfl,k3,hb3,-⟩
        obtain⟨A6,c6,rfl,-,-⟩:=k3.mk_;replace hb3:=(bdrew W2).trans hb3))
   all_goals
    clear x0 x1 x2 x3;obtain⟨x0,x1,x2,x3⟩:=K.out w4 hb4;have hck2:=lhd (hck.out w4.drew _ (hb4.drew) k4);replace K:Hid (∀W:World,Below w4.heap.size w4 W->W.cell? ⟨G,0,none⟩=some (.int .i64 (h:Int))/\W.cell? ⟨G,1,none⟩=some (.int .i64 (i:Int))/\W.cell? ⟨G,2,none⟩=some (.slice A4 es.length c4)/\W.cell? ⟨G,3,none⟩=some (.slice A5 ps.length c5)):=fun W hW=>K.out W (bgo hb4 hW)
    replace hb4:=lhd hb4;clear hck hrc hdg2 k3 hb3 k4
    go_wp2_with fail
    go_region_held3 (fun W':World=>W'.cell? ⟨G,0,none⟩=some (.int .i64 (h:Int))/\W'.cell? ⟨G,1,none⟩=some (.int .i64 (i:Int))/\W'.cell? ⟨G,2,none⟩=some (.slice A4 es.length c4)/\W'.cell? ⟨G,3,none⟩=some (.slice A5 ps.length c5))
     (first | exact K.out _ ((bdrew w4).trans hb5) | (go_keep;done))
     (first
      | (go_at_call 79;refine hck2.out.mono ?_;rintro e w5 ⟨rfl,hb5⟩))
    all_goals
     go_wp2_with fail
     go_ret
     exact⟨ret_bool hv.out.symm,bgo (bgo hb2.out hb4.out) ((bdrew w4).trans hb5)⟩
  ·have hv:Hid (verifyG p m l=false):=by
    show _=_;rw[verifyG];split<;>simp[hm2]
   have i0:(65535:Int)<(m.length:Int):=by omega
   rw[hp];clear hu hu2 hpt hp s2 s3 s4 s5 s6
   go_enter func78,ntmps78
   go_wp2_with fail
   refine hc.out.mono ?_;rintro e w1 ⟨v1,v2,rfl,h1,h2,hb1⟩;obtain⟨A4,c4,rfl⟩:=h1.shape;obtain⟨A5,c5,rfl⟩:=h2.shape;clear h1 h2;dsimp only
   go_wp2_with fail
   go_ret
   exact⟨ret_bool hv.out.symm,bgo hb1 (balloc _ _)⟩
 ·have hv:Hid (verifyG p m l=false):=by
   show _=_;rw[verifyG];split<;>simp[hp]
  have i0:((p.length:Int) != 32)=true:=by rw[bne_iff_ne];omega
  clear hu hu2 hpt s2 s3 s4 s5 s6
  go_enter func78,ntmps78
  go_wp2_with fail
  refine hc.out.mono ?_;rintro e w1 ⟨v1,v2,rfl,h1,h2,hb1⟩;obtain⟨A4,c4,rfl⟩:=h1.shape;obtain⟨A5,c5,rfl⟩:=h2.shape;clear h1 h2;dsimp only
  go_wp2_with fail
  go_ret
  exact⟨ret_bool hv.out.symm,bgo hb1 (balloc _ _)⟩
def pubC (seed:Bs) (h:Int):Int:=if seed.length=32 then (if 0<=h/\h<=6 then 0 else 4) else 5
def pubG (seed:Bs) (h:Int):Bs:=if seed.length=32/\0<=h/\h<=6 then keyG seed h.toNat else []
theorem key_root (seed:Bs) (k:Nat):rootG ((leavesL seed (2 ^ k)).map leafH)=keyG seed k:=rfl
end Go.Proofs.YtjgepckncogdaaaGreat
