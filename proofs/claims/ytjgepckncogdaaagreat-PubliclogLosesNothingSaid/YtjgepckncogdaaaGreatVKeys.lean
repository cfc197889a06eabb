/- Contracts of functions, walks, plain facts. Conditions: those of each theorem. -/
import Derived.Test.YtjgepckncogdaaaGreatVVecA
import Derived.Test.YtjgepckncogdaaaGreatVLogK
import Derived.Test.YtjgepckncogdaaaGreatVRBFind
set_option linter.unusedVariables false
set_option linter.unusedSimpArgs false
set_option maxRecDepth 100000
set_option maxHeartbeats 16000000
namespace Go.Proofs.YtjgepckncogdaaaGreat
open Go Go.RowKit _root_.Go.Proofs.Tryz
theorem seedW_at (x:Int) (y:Nat):∃v:Nat,v<1000/\x % 1000=v/\seedW x (y:Int)=randK ((100+y+10 * v:Nat):Int) 32:=by
 have h0:=Int.emod_nonneg x (show (1000:Int)≠0 by omega);have h1:=Int.emod_lt_of_pos x (show (0:Int)<1000 by omega);refine⟨(x % 1000).toNat,by omega,by omega,?_⟩;unfold seedW
 congr 1
 omega
theorem seedW_len (x y:Int):(seedW x y).length=32:=randK_len _ 32 (by omega)
theorem keyNext:(List.range 999).all (fun v=>!(Nat.beq (V.keyAH v) (V.keyAH (v+1))))=true:=by kernel_rfl
theorem keys_next (q:Nat) (h:q<500):pubG (seedW (q:Int) 0) 1≠pubG (seedW ((q:Int)+1) 0) 1:=by
 obtain⟨v,hv,hx,h0⟩:=seedW_at (q:Int) 0;obtain⟨v',hv',hx',h1⟩:=seedW_at ((q:Int)+1) 0;obtain rfl:v=q:=by omega
 obtain rfl:v'=v+1:=by omega
 have e0:pubG (seedW (v:Int) 0) 1=keyG (seedW (v:Int) 0) 1:=pubG_key _ 1 (seedW_len _ 0) (by omega);have e1:pubG (seedW ((v:Int)+1) 0) 1=keyG (seedW ((v:Int)+1) 0) 1:=pubG_key _ 1 (seedW_len _ 0) (by omega);intro hh;rw[e0,e1] at hh;have a:=V.keyA_at v hv;have b:=V.keyA_at (v+1) hv';have ht:V.keyAH v≠V.keyAH (v+1):=by
  have:=List.all_eq_true.1 keyNext v (List.mem_range.2 (by omega))
  intro e;rw[e,Nat.beq_refl] at this;cases this
 refine ht ?_;rw[<-a,<-b];have h0':seedW (v:Int) 0=randK ((100+10 * v:Nat):Int) 32:=h0;have h1':seedW ((v:Int)+1) 0=randK ((100+10 * (v+1):Nat):Int) 32:=h1;rw[<-h0',<-h1',hh]
theorem pf_dec {v:Int} {ls:List LinkG} (h:PfOk v ls):DecOut (fencB ls 0 1) ls 0 1 0:=decOut_enc h.2.2.1 (pf_sizes h)
theorem pf_chk {v:Int} {ls:List LinkG} (h:PfOk v ls):dchkC ls 0 1 0=0:=by
 unfold dchkC;rw[if_pos rfl];exact h.2.2.2.1
theorem pf_name {v:Int} {ls:List LinkG} (h:PfOk v ls) (P:Bs):nameQ (fencB ls 0 1) P↔pubG (seedW v 0) 1=P:=by
 rw[nameQ_iff (pf_dec h)]
 constructor
 ·rintro⟨-,-,h3⟩
  rw[<-h.2.2.2.2];exact h3
 intro h3;refine⟨rfl,?_,?_⟩
 ·rw[h.1];decide
 rw[<-h3];exact h.2.2.2.2
theorem los_plain {q:Nat} (hq:q<500) {ls0 ls1:List LinkG} (h0:PfOk (q:Int) ls0) (h1:PfOk ((q:Int)+1) ls1) :
 laddR [] (fencB ls0 0 1) (dchkC ls0 0 1 0)=([fencB ls0 0 1],0,0) /\
 laddR [fencB ls0 0 1] (fencB ls1 0 1) (dchkC ls1 0 1 0)=([fencB ls0 0 1,fencB ls1 0 1],1,0) /\
 (∀cc,laddR [fencB ls0 0 1,fencB ls1 0 1] (fencB ls0 0 1) cc=([],0,27)) /\
 NamR [fencB ls0 0 1,fencB ls1 0 1] (pubG (seedW (q:Int) 0) 1) 2 [0] /\
 NamR [fencB ls0 0 1,fencB ls1 0 1] (pubG (seedW ((q:Int)+1) 0) 1) 2 [1]:=by
 have hk:=keys_next q hq;have hne:fencB ls0 0 1≠fencB ls1 0 1:=by
  intro e;have d0:=pf_dec h0;rw[e] at d0;obtain⟨rfl,-⟩:=d0.uniq (pf_dec h1);exact hk (h0.2.2.2.2.symm.trans h1.2.2.2.2)
 have n0:=pf_name h0;have n1:=pf_name h1;rw[pf_chk h0,pf_chk h1];generalize fencB ls0 0 1=b at *;generalize fencB ls1 0 1=c at *;refine⟨?_,?_,fun cc=>?_,?_,?_⟩
 ·simp[laddR,hasB]
 ·have:hasB [b] c=false:=by simp[hasB,hne]
  simp[laddR,this]
 ·have:hasB [b,c] b=true:=by simp[hasB]
  simp[laddR,this]
 ·refine⟨[0],⟨[],rfl,.inl ⟨?_,rfl⟩⟩,.inr ⟨?_,rfl⟩⟩
  ·show nameQ b _;rw[n0]
  show ¬nameQ c _;rw[n1];exact fun e=>hk e.symm
 refine⟨[],⟨[],rfl,.inr ⟨?_,rfl⟩⟩,.inl ⟨?_,rfl⟩⟩
 ·show ¬nameQ b _;rw[n0];exact hk
 show nameQ c _;rw[n1]
theorem two_tree (b c:Bs):rootG ([b].map leafH)=leafH b/\rootG ([b,c].map leafH)=nodeH (leafH b) (leafH c)/\growL [b,c] 1=[leafH c]/\inL [b,c] 1=[leafH b]/\checkI (nodeH (leafH b) (leafH c)) 2 1 c [leafH b]=true:=by
 have r1:∀x:Bs,rootG [x]=x:=fun x=>by rw[rootG];rfl
 have r2:rootG ([b,c].map leafH)=nodeH (leafH b) (leafH c):=by
  show rootG [leafH b,leafH c]=_;rw[rootG,dif_pos (by simp)];show nodeH (rootG [leafH b]) (rootG [leafH c])=_;rw[r1,r1]
 have p1:pathG [leafH b,leafH c] 1=[leafH b]:=by
  rw[pathG_right _ _ (by simp) (show ¬1<splitN 2 from by decide)];show pathG [leafH c] (1 - 1)++[rootG [leafH b]]=_;rw[pathG_one _ _ (by simp),r1]
  rfl
 refine⟨r1 _,r2,?_,?_,?_⟩
 ·unfold growL
  rw[if_pos (by simp)];show proofG [leafH b,leafH c] 1 true=_;rw[proofG_left _ _ _ (by simp) (by simp) (show 1<=splitN 2 from by decide)];show proofG [leafH b] 1 true++[rootG [leafH c]]=_;rw[proofG_full _ _ (by simp),if_pos rfl,List.nil_append];show [rootG [leafH c]]=_;rw[r1]
 ·unfold inL
  rw[if_pos (by simp)];exact p1
 have hc:=climb_path 2 [leafH b,leafH c] 1 [] (by simp) (by simp);rw[p1] at hc;rw[show checkI (nodeH (leafH b) (leafH c)) 2 1 c [leafH b]=checkI (nodeH (leafH b) (leafH c)) ((2:Nat):Int) ((1:Nat):Int) c [leafH b] from rfl,checkI_in _ _ 2 1 _ (by omega) (by omega) (by omega)];unfold checkG;rw[show ([leafH b,leafH c].getD 1 [])=leafH c from rfl,show [leafH b,leafH c].length=2 from rfl] at hc;rw[List.append_nil] at hc;rw[hc];have r2':rootG [leafH b,leafH c]=nodeH (leafH b) (leafH c):=r2;rw[r2'];simp
attribute [local go_sem ↓] Go.wp_at_zero Go.wp_at_succ
theorem rgrown_11 (A A2:Option Addr) (n c n2 c2:Nat) (w:World):Calls prog 100 #[.int .i64 1,.int .i64 1,.bool true,.slice A n c,.slice A2 n2 c2] w fun e w'=>e=.returned (.tuple #[.slice A n c,.slice A n c,.int .i64 0,.bool true])/\Below w.heap.size w w':=by
 go_enter func100,ntmps100
 go_wp2_with fail
 go_returns
 exact⟨rfl,Below.refl _ _⟩
theorem rgrown_12 (u u2:Value) (a b:Bs) (w:World) (hu:SeesB w w.heap.size u a) (hu2:SeesL w w.heap.size u2 [b]) (ha:a.length<=1048576) (hb:b.length<=1048576) :
 Calls prog 100 #[.int .i64 1,.int .i64 2,.bool true,u,u2] w fun e w'=>∃v,e=.returned (.tuple #[u,v,.int .i64 1,.bool true])/\SeesB w' w'.heap.size v (nodeH a b)/\Below w.heap.size w w':=by
 obtain⟨A,c,rfl,-,-⟩:=hu.mk_;obtain⟨A2,c2,rfl,-,-⟩:=hu2.mk_;rw[xl1] at hu2 ⊢;have hsp:=split_any 2 w (by omega) (by omega);rw[show splitN 2=1 from by decide] at hsp;replace hsp:=lhd hsp;have hg:=lhd (fun W=>rgrown_11 A A2 a.length c 1 c2 W);obtain⟨bb,oo,rfl,hbb,hz⟩:=hu2.at_ (by simp);obtain⟨A3,c3,z1,-,-,z2⟩:=hz 0 (by simp);rw[show [b].getD 0 []=b from rfl,Nat.add_zero] at z1;rw[show [b].getD 0 []=b from rfl] at z2;have hnd:=lhd (fun W (hW:Below w.heap.size w W)=>rnode_any _ _ _ a b W (seesB_of hu nlr hW) (seesB_of z2 nlr hW) nlr (by omega) (by omega));have hcell:=lhd (fun W (hW:Below w.heap.size w W)=>(hW.cell (p:=⟨bb,oo,none⟩) hbb).trans z1);clear hz hu hu2 z2
 go_enter func100,ntmps100
 go_wp2_with fail
 refine hsp.out.mono ?_;rintro e w1 ⟨rfl,hw1⟩;obtain rfl:=hw1.symm;dsimp only
 go_wp2_with fail
 refine (hg.out _).mono ?_;rintro e w1 ⟨rfl,hb1⟩;have z3:=hcell.out w1 hb1;dsimp only
 go_wp2_with fail
 refine (hnd.out _ hb1).mono ?_;rintro e w2 ⟨v2,rfl,o2,hb2⟩;have s2:=o2.sees;obtain⟨A4,c4,rfl,-,-⟩:=s2.mk_;dsimp only
 go_wp2_with fail
 go_returns
 exact⟨_,rfl,s2,bgo hb1 hb2⟩
theorem rgrowth_12 (u u2 u3:Value) (a b:Bs) (w:World) (hu:SeesB w w.heap.size u a) (hu3:SeesB w w.heap.size u3 (nodeH a b)) (hu2:SeesL w w.heap.size u2 [b]) (ha:a.length<=1048576) (hb:b.length<=1048576) :
 Calls prog 32 #[u,.int .i64 1,u3,.int .i64 2,u2] w (BoolPost true w):=by
 have hgr:=lhd (rgrown_12 u u2 a b w hu hu2 ha hb);obtain⟨A,c,rfl,-,-⟩:=hu.mk_;obtain⟨A2,c2,rfl,-,-⟩:=hu2.mk_;obtain⟨A3,c3,rfl,-,-⟩:=hu3.mk_;have q1:=lhd (fun W (hW:Below w.heap.size w W)=>rsame_any _ _ _ _ a a W (seesB_of hu nlr hW) (seesB_of hu nlr hW));have q2:=lhd (fun W v (hW:Below w.heap.size w W) (hv:SeesB W W.heap.size v (nodeH a b))=>rsame_any _ _ v _ (nodeH a b) (nodeH a b) W hv (seesB_of hu3 nlr hW));rw[beq_self_eq_true] at q1 q2;generalize nodeH a b=r at *;rw[xl1] at hgr ⊢;clear hu hu2 hu3
 go_enter func32,ntmps32
 go_wp2_with fail
 refine hgr.out.mono ?_;rintro e w1 ⟨v,rfl,s1,hb1⟩;obtain⟨A4,c4,rfl,-,-⟩:=s1.mk_;dsimp only
 go_wp2_with fail
 refine (q1.out _ hb1).mono ?_;rintro e w2 ⟨rfl,hw2⟩;obtain rfl:=hw2.symm;dsimp only
 go_wp2_with fail
 refine (q2.out _ _ hb1 s1).mono ?_;rintro e w3 ⟨rfl,hw3⟩;obtain rfl:=hw3.symm;dsimp only
 go_wp2_with fail
 go_ret
 exact⟨rfl,hb1⟩
end Go.Proofs.YtjgepckncogdaaaGreat
