/- Contracts of functions, walks, plain facts. Conditions: those of each theorem. -/
import Derived.Test.YtjgepckncogdaaaGreatK6
set_option linter.unusedVariables false
set_option linter.unusedSimpArgs false
set_option maxRecDepth 100000
set_option maxHeartbeats 16000000
namespace Go.Proofs.YtjgepckncogdaaaGreat
open Go Go.RowKit _root_.Go.Proofs.Tryz
attribute [local go_sem ↓] Go.wp_at_zero Go.wp_at_succ
theorem equal_any (B B':Nat) (u v:Value) (a b:Bs) (w:World) (hu:SeesB w B u a) (hv:SeesB w B' v b) :
 Calls prog 88 #[u,v] w fun e w'=>e=.returned (.bool (a == b))/\w'=w:=by
 obtain⟨A,c,rfl,_,_⟩:=hu.mk_;obtain⟨A',c',rfl,_,_⟩:=hv.mk_;have h1:=hu.string;have h2:=hv.string;clear hu hv
 go_enter func88,ntmps88
 go_wp2
 go_ret
 exact⟨ret_bool (by rw[strB_toList,strB_toList]),rfl⟩
theorem same_any (B B':Nat) (u v:Value) (a b:Bs) (w:World) (hu:SeesB w B u a) (hv:SeesB w B' v b) :
 Calls prog 155 #[u,v] w fun e w'=>e=.returned (.bool (a == b))/\w'=w:=by
 have h:=lhd (equal_any B B' u v a b w hu hv);obtain⟨A,c,rfl,_,_⟩:=hu.mk_;obtain⟨A',c',rfl,_,_⟩:=hv.mk_;clear hu hv
 go_enter func155,ntmps155
 go_wp2_with fail
 refine h.out.mono ?_;rintro e w0 ⟨rfl,rfl⟩;dsimp only
 go_wp2_with fail
 go_ret
 exact⟨rfl,rfl⟩
def inI (n i:Int):Bool:=decide (1<=n)&&decide (n<=1024)&&decide (0<=i)&&decide (i<n)
def climbI (n i:Int) (leaf:Bs) (p:List Bs):Option Bs:=
 if inI n i=true then
  match climbG n.toNat i.toNat (leafH leaf) p with
  | none=>none
  | some (r,used)=>if used=p.length then some r else none
 else none
def checkI (root:Bs) (n i:Int) (leaf:Bs) (p:List Bs):Bool:=
 match climbI n i leaf p with
 | none=>false
 | some r=>r == root
def CSome (r:Bs) (w:World) (e:Ending) (w':World):Prop:=∃v,e=.returned (.tuple #[v,.bool true])/\SeesB w' w'.heap.size v r/\Below w.heap.size w w'
def CNone (w:World) (e:Ending) (w':World):Prop:=e=.returned (.tuple #[.slice none 0 0,.bool false])/\Below w.heap.size w w'
def CPost (x:Option Bs) (w:World) (e:Ending) (w':World):Prop:=
 match x with
 | none=>CNone w e w'
 | some r=>CSome r w e w'
theorem inI_ok {n i:Int} (h:inI n i=true):1<=n/\n<=1024/\0<=i/\i<n:=by
 simpa [inI,and_assoc] using h
theorem inI_no {n i:Int} (h:¬inI n i=true):n<1\/(1<=n/\1024<n)\/(1<=n/\n<=1024/\i<0)\/(1<=n/\n<=1024/\0<=i/\n<=i):=by
 simp[inI] at h
 omega
theorem climbT_any (n i:Int) (a:Bs) (p:List Bs) (B:Nat) (u u2:Value) (w:World) (hu:SeesB w B u a) (hu2:SeesL w B u2 p) (hB:B<=w.heap.size) (ha:a.length<=1048576) (hp:∀l∈p,l.length<=1048576) :
 Calls prog 154 #[.int .i64 n,.int .i64 i,u,u2] w (CPost (climbI n i a p) w):=by
 obtain⟨A,c,rfl,hc1,hc2⟩:=hu.mk_;obtain⟨AA,cc,rfl,hc3,hc4⟩:=hu2.mk_
 by_cases hin:inI n i=true
 ·obtain⟨n1,n2,i1,i2⟩:=inI_ok hin
  have hci:climbI n i a p=match climbG n.toNat i.toNat (leafH a) p with
   | none=>none
   | some (r,used)=>if used=p.length then some r else none:=by rw[climbI,if_pos hin]
  rw[hci];obtain⟨n,rfl⟩:=Int.eq_ofNat_of_zero_le (show 0<=n by omega);obtain⟨i,rfl⟩:=Int.eq_ofNat_of_zero_le i1;rw[xnc,xnc];have j0:¬((n:Int)<1):=by omega
  have j1:¬((1024:Int)<(n:Int)):=by omega
  have j2:¬((i:Int)<0):=by omega
  have j3:¬((n:Int)<=(i:Int)):=by omega
  have hus:∀r u,climbG n i (leafH a) p=some (r,u)->u<=p.length:=fun r u h=>climbG_used n n i _ _ r u nlr h
  clear hci hin;have hlf:=lhd (leaf_any B _ a w hu hB (by omega));have hall:(leafH a).length=32:=sha_len _;have hcm:=fun (W:World) (v:Value) (hb:Below w.heap.size w W) (hv:SeesB W W.heap.size v (leafH a))=>climb_any n n i (leafH a) p W.heap.size v (.slice AA p.length cc) W nlr (by omega) (by omega) (by omega) hv (SeesL.more (hu2.below (hb.mono hB)) (Nat.le_trans hB hb.size)) nlr (by omega) hp
  replace hcm:=lhd hcm;clear hu hu2 hp hall;rcases hcl:climbG n i (leafH a) p with _|⟨r,used⟩
  ·rw[hcl] at hcm
   clear hcl hus;show Calls _ _ _ _ (CNone w)
   go_enter func154,ntmps154
   go_wp2_with fail
   refine hlf.out.mono ?_;rintro e w1 ⟨v,rfl,hv,hb1⟩;dsimp only
   go_wp2_with fail
   have hc:=hcm.out w1 v hb1 hv.sees;replace hc:Calls _ _ _ _ (ClimbNone w1):=hc;refine hc.mono ?_;rintro e w2 ⟨rfl,hb2⟩;dsimp only
   go_wp2_with fail
   go_returns
   exact⟨rfl,bgo hb1 hb2⟩
  rw[hcl] at hcm;replace hcm:Hid (∀(W:World) (v:Value),Below w.heap.size w W->SeesB W W.heap.size v (leafH a)->Calls prog 221 #[.int .i64 (n:Int),.int .i64 (i:Int),v,.slice AA p.length cc] W (ClimbSome r (p.drop used) W)):=hcm;have hle:=hus r used hcl;clear hcl hus;have hdl:(p.drop used).length=p.length - used:=xld;dsimp only
  by_cases hu:used=p.length
  ·rw[if_pos hu]
   have h0:(p.drop used).length=0:=by omega
   show Calls _ _ _ _ (CSome r w);generalize p.drop used=q at *;replace h0:=lhd h0;clear hdl hu hle
   go_enter func154,ntmps154
   go_wp2_with fail
   refine hlf.out.mono ?_;rintro e w1 ⟨v,rfl,hv,hb1⟩;dsimp only
   go_wp2_with fail
   have hc:=hcm.out w1 v hb1 hv.sees;replace hc:Calls _ _ _ _ (ClimbSome r q w1):=hc;refine hc.mono ?_;rintro e w2 ⟨v2,v3,rfl,h2,h3,hb2⟩;obtain⟨A3,c3,rfl,-,-⟩:=h2.mk_;obtain⟨A4,c4,rfl,-,-⟩:=h3.mk_;rw[h0.out];clear h3;replace h2:=lhd h2;dsimp only
   go_wp2_with fail
   go_returns
   exact⟨_,rfl,h2.out,bgo hb1 hb2⟩
  rw[if_neg hu];have h0:(0:Int)<((p.drop used).length:Int):=by omega
  show Calls _ _ _ _ (CNone w);generalize p.drop used=q at *;clear hdl hu hle
  go_enter func154,ntmps154
  go_wp2_with fail
  refine hlf.out.mono ?_;rintro e w1 ⟨v,rfl,hv,hb1⟩;dsimp only
  go_wp2_with fail
  have hc:=hcm.out w1 v hb1 hv.sees;replace hc:Calls _ _ _ _ (ClimbSome r q w1):=hc;refine hc.mono ?_;rintro e w2 ⟨v2,v3,rfl,h2,h3,hb2⟩;obtain⟨A3,c3,rfl,-,-⟩:=h2.mk_;obtain⟨A4,c4,rfl,-,-⟩:=h3.mk_;clear h3 h2;dsimp only
  go_wp2_with fail
  go_returns
  exact⟨rfl,bgo hb1 hb2⟩
 have hci:climbI n i a p=none:=by rw[climbI,if_neg hin]
 rw[hci];show Calls _ _ _ _ (CNone w);clear hu hu2 hp;rcases inI_no hin with j0|⟨j0,j1⟩|⟨j0,j1,j2⟩|⟨j0,j1,j2,j3⟩
 ·go_enter func154,ntmps154
  go_wp2_with fail
  go_returns
  exact⟨rfl,Below.refl _ _⟩
 ·have j2:¬(n<1):=by omega
  go_enter func154,ntmps154
  go_wp2_with fail
  go_returns
  exact⟨rfl,Below.refl _ _⟩
 ·have j3:¬(n<1):=by omega
  have j4:¬(1024<n):=by omega
  go_enter func154,ntmps154
  go_wp2_with fail
  go_returns
  exact⟨rfl,Below.refl _ _⟩
 have j4:¬(n<1):=by omega
 have j5:¬(1024<n):=by omega
 have j6:¬(i<0):=by omega
 go_enter func154,ntmps154
 go_wp2_with fail
 go_returns
 exact⟨rfl,Below.refl _ _⟩
theorem rclimbT_any (n i:Int) (a:Bs) (p:List Bs) (B:Nat) (u u2:Value) (w:World) (hu:SeesB w B u a) (hu2:SeesL w B u2 p) (hB:B<=w.heap.size) (ha:a.length<=1048576) (hp:∀l∈p,l.length<=1048576) :
 Calls prog 99 #[.int .i64 n,.int .i64 i,u,u2] w (CPost (climbI n i a p) w):=by
 obtain⟨A,c,rfl,hc1,hc2⟩:=hu.mk_;obtain⟨AA,cc,rfl,hc3,hc4⟩:=hu2.mk_
 by_cases hin:inI n i=true
 ·obtain⟨n1,n2,i1,i2⟩:=inI_ok hin
  have hci:climbI n i a p=match climbG n.toNat i.toNat (leafH a) p with
   | none=>none
   | some (r,used)=>if used=p.length then some r else none:=by rw[climbI,if_pos hin]
  rw[hci];obtain⟨n,rfl⟩:=Int.eq_ofNat_of_zero_le (show 0<=n by omega);obtain⟨i,rfl⟩:=Int.eq_ofNat_of_zero_le i1;rw[xnc,xnc];have j0:¬((n:Int)<1):=by omega
  have j1:¬((1024:Int)<(n:Int)):=by omega
  have j2:¬((i:Int)<0):=by omega
  have j3:¬((n:Int)<=(i:Int)):=by omega
  have hus:∀r u,climbG n i (leafH a) p=some (r,u)->u<=p.length:=fun r u h=>climbG_used n n i _ _ r u nlr h
  clear hci hin;have hcm:=rclimb_any n n i a p B _ _ w nlr (by omega) (by omega) (by omega) hu hu2 hB ha hp;clear hu hu2 hp;rcases hcl:climbG n i (leafH a) p with _|⟨r,used⟩
  ·rw[hcl] at hcm
   replace hcm:Hid (Calls _ _ _ _ (RClimbNone w)):=hcm;clear hcl hus;show Calls _ _ _ _ (CNone w)
   go_enter func99,ntmps99
   go_wp2_with fail
   refine hcm.out.mono ?_;rintro e w2 ⟨rfl,hb2⟩;dsimp only
   go_wp2_with fail
   go_returns
   exact⟨rfl,hb2⟩
  rw[hcl] at hcm;replace hcm:Hid (Calls _ _ _ _ (RClimbSome r used w)):=hcm;have hle:=hus r used hcl;clear hcl hus;dsimp only
  by_cases hu:used=p.length
  ·rw[if_pos hu]
   have h0:((used:Int) != (p.length:Int))=false:=by rw[bne_eq_false_iff_eq];omega
   show Calls _ _ _ _ (CSome r w);replace hu:=lhd hu
   go_enter func99,ntmps99
   go_wp2_with fail
   refine hcm.out.mono ?_;rintro e w2 ⟨v2,rfl,h2,hb2⟩;obtain⟨A3,c3,rfl,-,-⟩:=h2.mk_;replace h2:=lhd h2;dsimp only
   go_wp2_with fail
   go_returns
   exact⟨_,rfl,h2.out,hb2⟩
  rw[if_neg hu];have h0:((used:Int) != (p.length:Int))=true:=by rw[bne_iff_ne];omega
  show Calls _ _ _ _ (CNone w)
  go_enter func99,ntmps99
  go_wp2_with fail
  refine hcm.out.mono ?_;rintro e w2 ⟨v2,rfl,h2,hb2⟩;obtain⟨A3,c3,rfl,-,-⟩:=h2.mk_;clear h2;dsimp only
  go_wp2_with fail
  go_returns
  exact⟨rfl,hb2⟩
 have hci:climbI n i a p=none:=by rw[climbI,if_neg hin]
 rw[hci];show Calls _ _ _ _ (CNone w);clear hu hu2 hp;rcases inI_no hin with j0|⟨j0,j1⟩|⟨j0,j1,j2⟩|⟨j0,j1,j2,j3⟩
 ·go_enter func99,ntmps99
  go_wp2_with fail
  go_returns
  exact⟨rfl,Below.refl _ _⟩
 ·have j2:¬(n<1):=by omega
  go_enter func99,ntmps99
  go_wp2_with fail
  go_returns
  exact⟨rfl,Below.refl _ _⟩
 ·have j3:¬(n<1):=by omega
  have j4:¬(1024<n):=by omega
  go_enter func99,ntmps99
  go_wp2_with fail
  go_returns
  exact⟨rfl,Below.refl _ _⟩
 have j4:¬(n<1):=by omega
 have j5:¬(1024<n):=by omega
 have j6:¬(i<0):=by omega
 go_enter func99,ntmps99
 go_wp2_with fail
 go_returns
 exact⟨rfl,Below.refl _ _⟩
def BoolPost (b:Bool) (w:World) (e:Ending) (w':World):Prop:=e=.returned (.bool b)/\Below w.heap.size w w'
theorem check_any (root:Bs) (n i:Int) (a:Bs) (p:List Bs) (B:Nat) (ur u u2:Value) (w:World) (hr:SeesB w B ur root) (hu:SeesB w B u a) (hu2:SeesL w B u2 p) (hB:B<=w.heap.size) (ha:a.length<=1048576) (hp:∀l∈p,l.length<=1048576) :
 Calls prog 79 #[ur,.int .i64 n,.int .i64 i,u,u2] w (BoolPost (checkI root n i a p) w):=by
 have hc:=climbT_any n i a p B u u2 w hu hu2 hB ha hp;obtain⟨A,c,rfl,-,-⟩:=hu.mk_;obtain⟨AA,cc,rfl,-,-⟩:=hu2.mk_;obtain⟨AR,cr,rfl,-,-⟩:=hr.mk_;clear hu hu2 hp;unfold checkI;replace hr:=lhd hr;rcases hcl:climbI n i a p with _|r
 ·rw[hcl] at hc
  replace hc:Hid (Calls _ _ _ _ (CNone w)):=hc;clear hcl
  go_enter func79,ntmps79
  go_wp2_with fail
  refine hc.out.mono ?_;rintro e w1 ⟨rfl,hb1⟩;dsimp only
  go_wp2_with fail
  go_ret
  exact⟨rfl,hb1⟩
 rw[hcl] at hc;replace hc:Hid (Calls _ _ _ _ (CSome r w)):=hc;clear hcl
 go_enter func79,ntmps79
 go_wp2_with fail
 refine hc.out.mono ?_;rintro e w1 ⟨v,rfl,hv,hb1⟩;have hsm:=lhd (same_any _ _ _ _ _ _ w1 hv (hr.out.below (hb1.mono hB)));obtain⟨A3,c3,rfl,-,-⟩:=hv.mk_;clear hv;dsimp only
 go_wp2_with fail
 refine hsm.out.mono ?_;rintro e w2 ⟨rfl,rfl⟩;dsimp only
 go_wp2_with fail
 go_ret
 exact⟨rfl,hb1⟩
theorem rcheck_any (root:Bs) (n i:Int) (a:Bs) (p:List Bs) (B:Nat) (ur u u2:Value) (w:World) (hr:SeesB w B ur root) (hu:SeesB w B u a) (hu2:SeesL w B u2 p) (hB:B<=w.heap.size) (ha:a.length<=1048576) (hp:∀l∈p,l.length<=1048576) :
 Calls prog 31 #[ur,.int .i64 n,.int .i64 i,u,u2] w (BoolPost (checkI root n i a p) w):=by
 have hc:=rclimbT_any n i a p B u u2 w hu hu2 hB ha hp;obtain⟨A,c,rfl,-,-⟩:=hu.mk_;obtain⟨AA,cc,rfl,-,-⟩:=hu2.mk_;obtain⟨AR,cr,rfl,-,-⟩:=hr.mk_;clear hu hu2 hp;unfold checkI;replace hr:=lhd hr;rcases hcl:climbI n i a p with _|r
 ·rw[hcl] at hc
  replace hc:Hid (Calls _ _ _ _ (CNone w)):=hc;clear hcl
  go_enter func31,ntmps31
  go_wp2_with fail
  refine hc.out.mono ?_;rintro e w1 ⟨rfl,hb1⟩;dsimp only
  go_wp2_with fail
  go_ret
  exact⟨rfl,hb1⟩
 rw[hcl] at hc;replace hc:Hid (Calls _ _ _ _ (CSome r w)):=hc;clear hcl
 go_enter func31,ntmps31
 go_wp2_with fail
 refine hc.out.mono ?_;rintro e w1 ⟨v,rfl,hv,hb1⟩;have hsm:=lhd (rsame_any _ _ _ _ _ _ w1 hv (hr.out.below (hb1.mono hB)));obtain⟨A3,c3,rfl,-,-⟩:=hv.mk_;clear hv;dsimp only
 go_wp2_with fail
 refine hsm.out.mono ?_;rintro e w2 ⟨rfl,rfl⟩;dsimp only
 go_wp2_with fail
 go_ret
 exact⟨rfl,hb1⟩
theorem chainN_nat (x:Nat) (h:x<16):chainN (x:Int)=x:=by unfold chainN;omega
def signF (seed:Bs) (i:Nat) (ds:List Nat) (k:Nat):List Bs:=(List.range k).map fun c=>chainH (ds.getD c 0) (otBegin seed i c)
theorem signF_succ (seed:Bs) (i:Nat) (ds:List Nat) (k:Nat):signF seed i ds (k+1)=signF seed i ds k++[chainH (ds.getD k 0) (otBegin seed i k)]:=by simp[signF,List.range_succ]
theorem signF_len (seed:Bs) (i:Nat) (ds:List Nat) (k:Nat):(signF seed i ds k).length=k:=by simp[signF]
def OtSignPost (ls:List Bs) (w:World) (e:Ending) (w':World):Prop:=
 ∃v,e=.returned (.tuple #[v,.int .i64 0])/\OwnL w' w.heap.size v ls/\Below w.heap.size w w'
theorem rotsign_any (B:Nat) (u u2:Value) (seed d:Bs) (i:Nat) (w:World) (hu:SeesB w B u seed) (hu2:SeesB w B u2 d) (hB:B<=w.heap.size) (hl:seed.length=32) (hd:d.length=16) (hi:i<=2147483647) :
 Calls prog 184 #[u,.int .i64 (i:Int),u2] w (OtSignPost (signL seed i d) w):=by
 obtain⟨A,c,rfl,hc1,hc2⟩:=hu.mk_;obtain⟨AA,cc,rfl,hc3,hc4⟩:=hu2.mk_;have hv:=rotvalid_any B _ seed (i:Int) w hu;rw[show otC seed (i:Int)=0 by simp[otC,hl];omega] at hv;have hdg:=rdigits_any B _ d w hu2 hB hd;unfold DigPost at hdg;have hfin:Hid (signL seed i d=signF seed i (digs d) 35):=rfl;have hlen:=digs_len d;have hlt16:=digs_get d hd;rw[hd] at hlen hu2 hc3 hdg ⊢;rw[hl] at hu hc1 hv ⊢;generalize digs d=ds at *;replace hlen:Hid (ds.length=35):=hlen;replace hlt16:=lhd hlt16;replace hl:=lhd hl;replace hd:=lhd hd;replace hu:=lhd hu;replace hv:=lhd hv;replace hdg:=lhd hdg;clear hu2
 go_enter func184,ntmps184
 go_wp2_with fail
 refine hv.out.mono ?_;rintro e w0 ⟨rfl,rfl⟩;dsimp only
 go_wp2_with fail
 refine hdg.out.mono ?_;rintro e w1 ⟨v1,rfl,h1,hb1⟩;obtain⟨A1,c1,rfl,g1,g2⟩:=h1.sees.mk_;rw[hlen.out] at g1 ⊢;have h1':=h1.sees;rw[hlen.out] at h1';obtain⟨b,o,rfl,hbB,hcell⟩:=h1'.at_ (by rw[hlen.out];omega);rw[hlen.out] at hcell;replace hcell:=lhd hcell;clear h1 h1';replace hb1:=lhd hb1;dsimp only
 go_wp2_with fail
 obtain⟨wo,rfl⟩:∃wo:World,wo=w1:=⟨_,rfl⟩
 clear hdg hv
 go_loopw [11,12,13,14] (fun v t _ _ wr=>∃k:Nat,k<=35/\t=.int .i64 k/\Hid (OwnL wr wo.heap.size v (signF seed i ds k))/\Hid (Below wo.heap.size wo wr)) (fun _ t _ _ _=>35 - (intOf t).toNat)
 case atStart=>exact⟨0,by omega,rfl,OwnL.nil _ _,Below.refl _ _⟩
 case round=>
  obtain⟨k,hk,rfl,ho,hb⟩:=hrel
  by_cases hlt:k<35
  ·have hdk:=hlt16.out k hlt
   have hst:=lhd (signF_succ seed i ds k);have hrow:Hid ((signF seed i ds k).length<=35):=by show _<=_;rw[signF_len];omega
   have hbg:=rsecret_any B _ seed i k wr (hu.out.below ((bgo hb1.out hb.out).mono hB)) (Nat.le_trans hB (bgo hb1.out hb.out).size) hl.out hi hlt;unfold SecretPost at hbg;replace hbg:=lhd hbg;have hlb:Hid ((otBegin seed i k).length=16):=short_len _;have x1:=lhd ((hb.out.cell (p:=⟨b,o+k,none⟩) hbB).trans (hcell.out k hlt));generalize signF seed i ds k=row at *;generalize otBegin seed i k=bg at *;generalize ds.getD k 0=dk at *;have i0:(0:Int)<=(k:Int):=by omega
   have i1:(k:Int)<35:=by omega
   obtain⟨Ar,cr,rfl⟩:=ho.out.shape
   go_wp2_with fail
   refine hbg.out.mono ?_;rintro e w2 ⟨v2,rfl,h2,hb2,hf2⟩;have hch:=rchain_any _ _ _ (dk:Int) w2 h2 nlr (by rw[hlb.out];omega);rw[chainN_nat dk hdk] at hch;replace hch:=lhd hch;have x0:=(hb2.cell (p:=⟨b,o+k,none⟩) (Nat.lt_of_lt_of_le hbB hb.out.size)).trans x1.out;generalize chainH dk bg=l at *;clear h2 hf2;dsimp only
   go_wp2_with fail
   refine hch.out.mono ?_;rintro e w3 ⟨v3,rfl,h3,hb3,hf3⟩;have hb23:=bgo hb2 hb3;have ho2:=ho.out.below hb23;have hel:=Elt.of_from (v:=.slice Ar row.length cr) h3 hf3 (fun k hk=>Nat.lt_of_lt_of_le (ho.out.lt k hk).2 hb2.size);obtain⟨A2,c2,rfl,-,-⟩:=h3.mk_;replace hb:=lhd (bgo hb.out hb23);have hal:=balloc w3 (.cells #[.slice A2 l.length c2] 25);have hcl:=lhd (one_cell w3 (.slice A2 l.length c2) 25);replace ho2:=lhd (ho2.below hal);replace hel:=lhd (hel.below hal);have hb4:=lhd (bgo hb.out hal);clear hb2 hb3 hb23 hbg hch ho h3 hf3 x0 x1 hal hb;dsimp only
   go_wp2_with (at_builtin;refine wpList_appL (by rfl) _ _ 30 underlying30 rfl wo.heap.size _ row rfl ho2.out _ _ _ l rfl hcl.out hel.out (by have:=hrow.out;omega) hb4.out.size ?_)
   intro v' w' hW2 hb5;have hW2:=lhd hW2;have hb5:=lhd (hb4.out.trans hb5)
   go_wp2_with fail
   go_roundw
   case rel=>exact⟨k+1,by omega,by go_num,by rw[hst.out];exact hW2.out,hb5⟩
   case measure=>simp[intOf];omega
  have hkn:k=35:=by omega
  rw[hkn] at ho;replace hkn:=lhd hkn
  go_wp2_with fail
  go_returns
  exact⟨_,rfl,by rw[hfin.out];exact ho.out.mono hb1.out.size,bgo hb1.out hb.out⟩
def RecPost (l:Bs) (w:World) (e:Ending) (w':World):Prop:=
 ∃v,e=.returned (.tuple #[v,.int .i64 0])/\SeesB w' w'.heap.size v l/\Below w.heap.size w w'/\From w.heap.size v
theorem recEnds_len (d:Bs) (sig:List Bs) (h:∀k,k<35->(sig.getD k []).length=16) (n:Nat) (hn:n<=35):(recEnds d sig n).length=16 * n:=by
 induction n with
 | zero=>rfl
 | succ n ih=>rw[recEnds,xla,ih (by omega),chainH_len _ _ (h n (by omega))];omega
theorem recover_any (B:Nat) (u u2:Value) (d:Bs) (sig:List Bs) (w:World) (hu:SeesB w B u d) (hu2:SeesL w B u2 sig) (hB:B<=w.heap.size) (hd:d.length=16) (hs:sig.length=35) (hel:∀x∈sig,x.length=16) :
 Calls prog 153 #[u,u2] w (RecPost (recG d sig) w):=by
 obtain⟨A,c,rfl,hc1,hc2⟩:=hu.mk_;obtain⟨AA,cc,rfl,hc3,hc4⟩:=hu2.mk_;have hdg:=digits_any B _ d w hu hB hd;unfold DigPost at hdg;have hel':∀k,k<35->(sig.getD k []).length=16:=fun k hk=>by
  rw[xgd,xge (by omega)];exact hel _ (xgx _)
 have hEl:=lhd (recEnds_len d sig hel');have hfin:Hid (recG d sig=short (recEnds d sig 35)):=rfl;have hstep:Hid (∀n,recEnds d sig (n+1)=recEnds d sig n++chainH (15 - (digs d).getD n 0) (sig.getD n [])):=fun n=>rfl
 have hlen:=digs_len d;have hlt16:=digs_get d hd;rw[hd] at hlen hu hc1 hdg ⊢;rw[hs] at hu2 hc3 ⊢;generalize digs d=ds at *;obtain⟨b2,o2,rfl,hbB2,hcell2⟩:=hu2.at_ (by omega);rw[hs] at hcell2;replace hcell2:=lhd hcell2;replace hlen:Hid (ds.length=35):=hlen;replace hlt16:=lhd hlt16;replace hel':=lhd hel';replace hs:=lhd hs;replace hd:=lhd hd;replace hdg:=lhd hdg;clear hu2 hel hu;have hmk:=make_560
 go_enter func153,ntmps153
 go_wp2_with fail
 refine hdg.out.mono ?_;rintro e w1 ⟨v1,rfl,h1,hb1⟩;obtain⟨A1,c1,rfl,g1,g2⟩:=h1.sees.mk_;rw[hlen.out] at g1 ⊢;have h1':=h1.sees;rw[hlen.out] at h1';obtain⟨b,o,rfl,hbB,hcell⟩:=h1'.at_ (by rw[hlen.out];omega);rw[hlen.out] at hcell;replace hcell:=lhd hcell;clear h1 h1';replace hb1:=lhd hb1;dsimp only
 go_wp2_with fail
 obtain⟨wo,rfl⟩:∃wo:World,wo=w1:=⟨_,rfl⟩
 refine wp_fresh (fun W=>OwnB W wo.heap.size (.slice (some ⟨wo.heap.size,0,none⟩) 0 560) []/\Below wo.heap.size wo W) ⟨World.ownsRow_made wo _ 560 nlr (by unfold maxLen;omega) (size_madeCells _ _),balloc wo _⟩ ?_;rintro W1 ⟨ho,hb⟩;replace ho:=lhd ho;replace hb:=lhd hb;clear hdg hmk
 go_loopw [8,9,10,27] (fun r _ _ t wr=>∃k:Nat,k<=35/\t=.int .i64 k/\Hid (OwnB wr wo.heap.size r (recEnds d sig k))/\Hid (Below wo.heap.size wo wr)) (fun _ _ _ t _=>35 - (intOf t).toNat)
 case atStart=>exact⟨0,by omega,rfl,ho,hb⟩
 case round=>
  clear ho hb;obtain⟨k,hk,rfl,ho,hb⟩:=hrel
  by_cases hlt:k<35
  ·have hdk:=hlt16.out k hlt
   have hst:=lhd (hstep.out k);have hal:Hid ((recEnds d sig k).length=16 * k):=hEl.out k hk;have hw01:=bgo hb1.out hb.out;obtain⟨A5,c5,y0,g3,g4,hsee⟩:=hcell2.out k hlt;have hxl:=lhd (hel'.out k hlt);have hch:=chain_any _ _ _ ((15 - ds.getD k 0:Nat):Int) wr (hsee.below (hw01.mono hB)) (Nat.le_trans hB hw01.size) (by rw[hxl.out];omega);rw[chainN_nat _ (by omega)] at hch;have x0:=(hb.out.cell (p:=⟨b,o+k,none⟩) hbB).trans (hcell.out k hlt);have y1:=(hw01.cell (p:=⟨b2,o2+k,none⟩) (Nat.lt_of_lt_of_le hbB2 hB)).trans y0;have hcl16:Hid ((chainH (15 - ds.getD k 0) (sig.getD k [])).length=16):=chainH_len _ _ hxl.out;rw[hxl.out] at y1 hch;replace hch:=lhd hch;generalize recEnds d sig k=row at *;generalize sig.getD k []=x at *;rw[show (((15 - ds.getD k 0:Nat)):Int)=15 - ((ds.getD k 0:Nat):Int) from by omega] at hch;generalize chainH (15 - ds.getD k 0) x=l at *;generalize ds.getD k 0=dk at *;have i0:(0:Int)<=(k:Int):=by omega
   have i1:(k:Int)<35:=by omega
   have i2:(dk:Int)<16:=by omega
   obtain⟨Ar,cr,rfl,-,-⟩:=ho.out.sees.mk_;clear hw01 y0 hsee
   go_wp2_with fail
   refine hch.out.mono ?_;rintro e w3 ⟨v3,rfl,h3,hb3,hf3⟩;have ho3:=lhd (ho.out.below hb3);have hw3:=lhd (bgo hb.out hb3);have hl3:=lhd (show row.length+l.length<=140737488355328 by rw[hal.out,hcl16.out];omega);replace h3:=lhd h3;clear hb3 hch hb ho x0 y1;dsimp only
   go_wp2_with (at_builtin;refine wpList_app (by rfl) _ _ rfl wo.heap.size _ row rfl ho3.out _ _ l rfl h3.out hl3.out hw3.out.size ?_)
   intro v' w' hW2 hb2;have hW2:=lhd hW2;have hb2:=lhd hb2
   go_wp2_with fail
   go_roundw
   case rel=>exact⟨k+1,by omega,by go_num,by rw[hst.out];exact hW2.out,hw3.out.trans hb2.out⟩
   case measure=>simp[intOf];omega
  have hkn:k=35:=by omega
  rw[hkn] at ho;have hsh:=short_any _ _ _ _ ho.out.sees nlr (by rw[hEl.out 35 (by omega)];omega);rw[<-hfin.out] at hsh;replace hsh:=lhd hsh;generalize recEnds d sig 35=row at *;replace hkn:=lhd hkn;obtain⟨Ar,cr,rfl,-,-⟩:=ho.out.sees.mk_
  go_wp2_with fail
  refine hsh.out.mono ?_;rintro e w2 ⟨v2,rfl,h2,hb2,hf2⟩;dsimp only
  go_wp2_with fail
  go_returns
  exact⟨v2,rfl,h2,bgo (bgo hb1.out hb.out) hb2,hf2.mono (bgo hb1.out hb.out).size⟩
theorem rrecover_any (B:Nat) (u u2:Value) (d:Bs) (sig:List Bs) (w:World) (hu:SeesB w B u d) (hu2:SeesL w B u2 sig) (hB:B<=w.heap.size) (hd:d.length=16) (hs:sig.length=35) (hel:∀x∈sig,x.length=16) :
 Calls prog 188 #[u,u2] w (RecPost (recG d sig) w):=by
 obtain⟨A,c,rfl,hc1,hc2⟩:=hu.mk_;obtain⟨AA,cc,rfl,hc3,hc4⟩:=hu2.mk_;have hdg:=rdigits_any B _ d w hu hB hd;unfold DigPost at hdg;have hel':∀k,k<35->(sig.getD k []).length=16:=fun k hk=>by
  rw[xgd,xge (by omega)];exact hel _ (xgx _)
 have hEl:=lhd (recEnds_len d sig hel');have hfin:Hid (recG d sig=short (recEnds d sig 35)):=rfl;have hstep:Hid (∀n,recEnds d sig (n+1)=recEnds d sig n++chainH (15 - (digs d).getD n 0) (sig.getD n [])):=fun n=>rfl
 have hlen:=digs_len d;have hlt16:=digs_get d hd;rw[hd] at hlen hu hc1 hdg ⊢;rw[hs] at hu2 hc3 ⊢;generalize digs d=ds at *;obtain⟨b2,o2,rfl,hbB2,hcell2⟩:=hu2.at_ (by omega);rw[hs] at hcell2;replace hcell2:=lhd hcell2;replace hlen:Hid (ds.length=35):=hlen;replace hlt16:=lhd hlt16;replace hel':=lhd hel';replace hs:=lhd hs;replace hd:=lhd hd;replace hdg:=lhd hdg;clear hu2 hel hu
 go_enter func188,ntmps188
 go_wp2_with fail
 refine hdg.out.mono ?_;rintro e w1 ⟨v1,rfl,h1,hb1⟩;obtain⟨A1,c1,rfl,g1,g2⟩:=h1.sees.mk_;rw[hlen.out] at g1 ⊢;have h1':=h1.sees;rw[hlen.out] at h1';obtain⟨b,o,rfl,hbB,hcell⟩:=h1'.at_ (by rw[hlen.out];omega);rw[hlen.out] at hcell;replace hcell:=lhd hcell;clear h1 h1';replace hb1:=lhd hb1;dsimp only
 go_wp2_with fail
 obtain⟨wo,rfl⟩:∃wo:World,wo=w1:=⟨_,rfl⟩
 refine wp_fresh (fun W=>OwnB W wo.heap.size (.slice (some ⟨wo.heap.size,0,none⟩) 0 0) []/\Below wo.heap.size wo W) ⟨own_made wo [] (Nat.zero_le _) _ nlr,balloc wo _⟩ ?_;rintro W1 ⟨ho,hb⟩;replace ho:=lhd ho;replace hb:=lhd hb;clear hdg
 go_loopw [8,9] (fun r t wr=>∃k:Nat,k<=35/\t=.int .i64 k/\Hid (OwnB wr wo.heap.size r (recEnds d sig k))/\Hid (Below wo.heap.size wo wr)) (fun _ t _=>35 - (intOf t).toNat)
 case atStart=>exact⟨0,by omega,rfl,ho,hb⟩
 case round=>
  clear ho hb;obtain⟨k,hk,rfl,ho,hb⟩:=hrel
  by_cases hlt:k<35
  ·have hdk:=hlt16.out k hlt
   have hst:=lhd (hstep.out k);have hal:Hid ((recEnds d sig k).length=16 * k):=hEl.out k hk;have hw01:=bgo hb1.out hb.out;obtain⟨A5,c5,y0,g3,g4,hsee⟩:=hcell2.out k hlt;have hxl:=lhd (hel'.out k hlt);have hch:=rchain_any _ _ _ ((15 - ds.getD k 0:Nat):Int) wr.drew (hsee.below (hw01.mono hB).drew) (Nat.le_trans hB hw01.size) (by rw[hxl.out];omega);rw[chainN_nat _ (by omega)] at hch;have x0:=(hb.out.cell (p:=⟨b,o+k,none⟩) hbB).trans (hcell.out k hlt);have y1:=(hw01.cell (p:=⟨b2,o2+k,none⟩) (Nat.lt_of_lt_of_le hbB2 hB)).trans y0;have hcl16:Hid ((chainH (15 - ds.getD k 0) (sig.getD k [])).length=16):=chainH_len _ _ hxl.out;rw[hxl.out] at y1 hch;replace hch:=lhd hch;generalize recEnds d sig k=row at *;generalize sig.getD k []=x at *;rw[show (((15 - ds.getD k 0:Nat)):Int)=15 - ((ds.getD k 0:Nat):Int) from by omega] at hch;generalize chainH (15 - ds.getD k 0) x=l at *;generalize ds.getD k 0=dk at *;have i0:(0:Int)<=(k:Int):=by omega
   have i1:(k:Int)<35:=by omega
   have i2:(dk:Int)<16:=by omega
   obtain⟨Ar,cr,rfl,-,-⟩:=ho.out.sees.mk_;clear hw01 y0 hsee;have hlb2:b2<wr.drew.heap.size:=Nat.lt_of_lt_of_le hbB2 (Nat.le_trans hB (Nat.le_trans hb1.out.size hb.out.size));have hlb1:b<wr.drew.heap.size:=Nat.lt_of_lt_of_le hbB hb.out.size;have hlb3:b2<wo.heap.size:=Nat.lt_of_lt_of_le hbB2 (Nat.le_trans hB hb1.out.size);have K1:Hid (∀W:World,Below wr.drew.heap.size wr.drew W->W.cell? ⟨b2,o2+k,none⟩=some (.slice A5 16 c5)/\W.cell? ⟨b,o+k,none⟩=some (.int .i64 (dk:Int))):=
    fun W h=>⟨(h.cell (p:=⟨b2,o2+k,none⟩) hlb2).trans y1,(h.cell (p:=⟨b,o+k,none⟩) hlb1).trans x0⟩
   have K2:Hid (∀W W':World,Below wr.drew.heap.size wr.drew W->Below wo.heap.size W W'->W'.cell? ⟨b2,o2+k,none⟩=some (.slice A5 16 c5)/\W'.cell? ⟨b,o+k,none⟩=some (.int .i64 (dk:Int))):=
    fun W W' h h'=>⟨(h'.cell (p:=⟨b2,o2+k,none⟩) hlb3).trans (K1.out W h).1,(h'.cell (p:=⟨b,o+k,none⟩) hbB).trans (K1.out W h).2⟩
   clear hlb1 hlb2 hlb3;have m1:IntKind.i64.wrap (15 - (dk:Int))=15 - (dk:Int):=by rw[xwi];omega
   go_wp2_with fail
   go_region_held3 (fun W':World=>W'.cell? ⟨b2,o2+k,none⟩=some (.slice A5 16 c5)/\W'.cell? ⟨b,o+k,none⟩=some (.int .i64 (dk:Int)))
    (first | (go_keep;done) | exact K2.out _ _ hb3 hb2 | exact K1.out _ hb3)
    (first
     | (refine step_app (by rfl) _ _ (by rfl) wo.heap.size _ row (by rfl) ho3.out _ _ l (by rfl) h3.out hl3.out hw3.out.size ?_;intro v' w' hW2 hb2)
     | (go_at_call 245;refine hch.out.mono ?_;rintro e w3 ⟨v3,rfl,h3,hb3,hf3⟩
        have ho3:=lhd (ho.out.below ((bdrew wr).trans hb3));have hw3:=lhd (bgo hb.out ((bdrew wr).trans hb3));have hl3:=lhd (show row.length+l.length<=140737488355328 by rw[hal.out,hcl16.out];omega);obtain⟨A9,c9,rfl,-,-⟩:=h3.mk_;replace h3:=lhd h3))
   all_goals
    go_wp2_with fail
    go_roundw
    case rel=>exact⟨k+1,by omega,by go_num,by rw[hst.out];exact hW2,hw3.out.trans hb2⟩
    case measure=>simp[intOf];omega
  have hkn:k=35:=by omega
  rw[hkn] at ho;have hsh:=rshort_any _ _ _ _ ho.out.sees nlr (by rw[hEl.out 35 (by omega)];omega);rw[<-hfin.out] at hsh;replace hsh:=lhd hsh;generalize recEnds d sig 35=row at *;replace hkn:=lhd hkn;obtain⟨Ar,cr,rfl,-,-⟩:=ho.out.sees.mk_
  go_wp2_with fail
  refine hsh.out.mono ?_;rintro e w2 ⟨v2,rfl,h2,hb2,hf2⟩;dsimp only
  go_wp2_with fail
  go_returns
  exact⟨v2,rfl,h2,bgo (bgo hb1.out hb.out) hb2,hf2.mono (bgo hb1.out hb.out).size⟩
end Go.Proofs.YtjgepckncogdaaaGreat
