/- Contracts of functions, walks, plain facts. Conditions: those of each theorem. -/
import Derived.Test.YtjgepckncogdaaaGreatVLogD
set_option linter.unusedVariables false
set_option linter.unusedSimpArgs false
set_option maxRecDepth 100000
set_option maxHeartbeats 16000000
namespace Go.Proofs.YtjgepckncogdaaaGreat
open Go Go.RowKit _root_.Go.Proofs.Tryz
attribute [local go_sem ↓] Go.wp_at_zero Go.wp_at_succ
theorem decOut_nil {ls:List Lk} {f s q:Int} (h:DecOut [] ls f s q):q=3:=by
 have h0:DecOut [] [] 0 0 3:=by
  refine⟨some [],⟨by simp,rfl⟩,none,fun ls f s _ _ _ e=>?_,rfl,rfl,rfl,rfl⟩
  have:=congrArg List.length e
  rw[encF_len] at this;simp at this
 exact (h.uniq h0).2.2.2
theorem ladd_nil {ls:List Lk} {f s q:Int} (h:DecOut [] ls f s q):laddR [] [] (dchkC ls f s q)=([],0,3):=by
 obtain rfl:=decOut_nil h
 rfl
theorem lsameI_true (u v:Value) (xs:List Int) (w:World) (hu:SeesT w w.heap.size u xs) (hv:SeesT w w.heap.size v xs) :
 Calls prog 33 #[u,v] w (BoolPost true w):=by
 obtain⟨A,c,rfl,hc1,hc2⟩:=hu.mk_;obtain⟨A',c',rfl,hc1',hc2'⟩:=hv.mk_;have hm:xs.length<=9223372036854775807:=by unfold maxLen at hc2;omega
 replace hu:=lhd hu;replace hv:=lhd hv
 go_enter func33,ntmps33
 go_wp2_with fail
 go_loopw [5] (fun i wr=>∃k m:Nat,k<=xs.length/\i=.int .i64 k/\wr=w.drewN m) (fun i _=>xs.length - (intOf i).toNat)
 case atStart=>exact⟨0,0,Nat.zero_le _,rfl,rfl⟩
 case round=>
  obtain⟨k,m,hk,rfl,rfl⟩:=hrel
  by_cases hlt:k<xs.length
  ·obtain⟨b,o,rfl,hb,hcell⟩:=SeesT.at_ hu.out (by omega)
   obtain⟨b',o',rfl,hb',hcell'⟩:=SeesT.at_ hv.out (by omega);have x0:=hcell k hlt;have y0:=hcell' k hlt;clear hcell hcell';generalize xs.getD k 0=x at *;have i0:(0:Int)<=(k:Int):=by omega
   have i1:(k:Int)<(xs.length:Int):=by omega
   go_wp2
   go_quiet (fail)
   go_wp2
   go_roundw
   case rel=>exact⟨k+1,_,by omega,by go_num,rfl⟩
   case measure=>simp[intOf];omega
  have i0:¬(k:Int)<(xs.length:Int):=by omega
  go_wp2
  go_ret
  exact⟨rfl,below_drewN (Below.refl _ _) _⟩
theorem lknown_any (w:World):Calls prog 20 #[] w (BoolPost true w):=by
 have hhd:=lhd (lhead_any [] (.slice none 0 0) w (OwnL.nil w 0).sees (by simp) (by simp));have had:=lhd (fun W=>ladd_any [] [] (.slice none 0 0) (.slice none 0 0) W (OwnL.nil W 0).sees (SeesB.nil _ _) (by simp) (by simp) (by simp));have hsm:=lhd (fun W=>rsum_any W.heap.size (.slice none 0 0) [] W (SeesB.nil _ _) nlr (by simp))
 go_enter func20,ntmps20
 go_wp2_with fail
 refine hhd.out.mono ?_;rintro e w1 ⟨v1,rfl,s1,hb1⟩;rw[show rootG (([]:List Bs).map leafH)=sha [] by rw[List.map_nil,rootG];rfl] at s1;obtain⟨A1,c1,rfl,-,-⟩:=s1.mk_;dsimp only
 go_wp2_with fail
 refine (had.out w1).mono ?_;rintro e w2 ⟨v2,ls,f,s,q,hO,rfl,s2,hb2⟩;rw[ladd_nil hO] at s2 ⊢;obtain⟨A2,c2,rfl,-,-⟩:=s2.mk_;have hal:=balloc w2 (.cells #[.slice A2 ([]:List Bs).length c2] 44);rw[List.length_nil] at hal;have hbw:=bgo hb1 (bgo hb2 hal);replace s1:=seesB_of s1 nlr (bgo hb2 hal);clear hal hb1 hb2 hhd had hO s2;dsimp only
 go_upto_region 3 with (fail)
 simp only[List.length_nil];generalize w2.alloc (.cells #[.slice A2 0 c2] 44)=W2 at *
 go_wp2_with fail
 refine (hsm.out _).mono ?_;rintro e w3 ⟨v3,rfl,o3,hb3⟩;have s3:=o3.sees;obtain⟨A3,c3,rfl,-,-⟩:=s3.mk_;have hsa:=rsame_any _ _ _ _ _ _ w3 (seesB_of s1 nlr hb3) s3;rw[show (sha [] == sha [])=true from beq_self_eq_true _] at hsa;replace hsa:=lhd hsa;replace hbw:=lhd (bgo hbw hb3);clear s1 s3 o3 hb3 hsm;dsimp only
 go_wp2_with fail
 refine hsa.out.mono ?_;rintro e w4 ⟨rfl,hw4⟩;obtain rfl:=hw4.symm;dsimp only
 go_wp2_with fail
 go_ret
 exact⟨rfl,hbw.out⟩
end Go.Proofs.YtjgepckncogdaaaGreat
