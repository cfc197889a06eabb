/- Contracts of functions, walks, plain facts. Conditions: those of each theorem. -/
import Derived.Test.YtjgepckncogdaaaGreatK11
set_option linter.unusedVariables false
set_option linter.unusedSimpArgs false
set_option maxRecDepth 100000
set_option maxHeartbeats 16000000
namespace Go.Proofs.YtjgepckncogdaaaGreat
open Go Go.RowKit _root_.Go.Proofs.Tryz
section
variable {w w':World} {B base:Nat} {u v:Value} {l:Bs} {ls:List Bs}
theorem OwnL.made (w:World) (n:Nat) (hn:n<=maxLen):OwnL (w.alloc (.cells (Array.replicate n (Value.slice none 0 0)) 25)) w.heap.size (.slice (some ⟨w.heap.size,0,none⟩) n n) (List.replicate n []):=by
 rw[<-List.toArray_replicate];refine⟨List.replicate n (Value.slice none 0 0),by rw[List.length_replicate];exact World.ownsRow_lit (base:=w.heap.size) (size:=1) w (List.replicate n (Value.slice none 0 0)).toArray n nlr hn (by simp),fun k hk=>?_⟩;rw[List.length_replicate] at hk;refine⟨.slice none 0 0,by simp[hk],?_⟩;rw[xgd,List.getElem?_replicate,if_pos hk];exact⟨SeesB.nil _ _,fun h=>absurd rfl h⟩
end
attribute [local go_sem ↓] Go.wp_at_zero Go.wp_at_succ
theorem hashes_size (w:World):(sizeOf 25).run prog w=.ok 1 w:=slice_size w
def DividePost (A:Option Addr) (n c:Nat) (w:World) (e:Ending) (w':World):Prop:=
 e=.returned (.tuple #[.slice A (splitN n) c,.slice (cutA A c (splitN n) 1) (n - splitN n) (c - splitN n)])/\∃k,w'=w.drewN k
theorem divide_any (A:Option Addr) (n c:Nat) (w:World) (h2:2<=n) (hn:n<=1024) (hc:n<=c) (hm:c<=maxLen) :
 Calls prog 214 #[.slice A n c] w (DividePost A n c w):=by
 obtain⟨k1,k2,k3⟩:=splitN_lt n h2;have hh:=lhd (half_any n w h2 hn);unfold DividePost;generalize splitN n=k at *;have r2:=run_cut_from (P:=prog) 195 underlying195 1 hashes_size A n c .i64 (k:Int) (by omega) (by omega);rw[xnc] at r2;generalize cutA A c k 1=A2 at r2 ⊢;have j0:(0:Int)<=(k:Int):=by omega
 have j1:(k:Int)<=(c:Int):=by omega
 have j2:(k:Int)<=(n:Int):=by omega
 go_enter func214,ntmps214
 go_wp2_with fail
 refine hh.out.mono ?_;rintro e w0 ⟨rfl,rfl⟩;dsimp only
 go_wp2_with fail
 go_quiet (fail)
 go_wp2_with fail
 go_returns
 exact⟨rfl,_,rfl⟩
attribute [local go_sem ↓] Go.wp_at_zero Go.wp_at_succ
theorem root_any (m:Nat):∀(ls:List Bs) (B:Nat) (u:Value) (w:World),ls.length<=m->SeesL w B u ls->B<=w.heap.size->ls.length<=1024->(∀l∈ls,l.length=32) ->
 Calls prog 170 #[u] w (Gives (rootG ls) w):=by
 induction m with
 | zero=>
   intro ls B u w hm hu hB hn hl;obtain rfl:ls=[]:=List.eq_nil_of_length_eq_zero (by omega);obtain⟨A,c,rfl,hc1,hc2⟩:=hu.mk_;have hs:=lhd (sum_any B (.slice none 0 0) [] w (SeesB.nil _ _) hB (by simp))
   go_enter func170,ntmps170
   go_wp2_with fail
   refine hs.out.mono ?_;rintro e w1 ⟨v,rfl,h1,hb1⟩;dsimp only
   go_wp2_with fail
   go_ret
   exact⟨v,rfl,by rw[rootG_nil];exact h1,hb1⟩
 | succ m ih=>
   intro ls B u w hm hu hB hn hl
   by_cases h0:ls.length<=m
   ·exact ih ls B u w h0 hu hB hn hl
   have hlen:ls.length=m+1:=by omega
   by_cases hm0:m=0
   ·subst hm0
    obtain⟨A,c,rfl,hc1,hc2⟩:=hu.mk_
    match ls,hlen,hu,hl with
    | [x],_,hu,hl=>
      obtain⟨b,o,rfl,hb,hcell⟩:=hu.at_ (by simp);obtain⟨A',c',x0,g1,g2,hsee⟩:=hcell 0 (by simp);rw[Nat.add_zero] at x0;have hs:=lhd (clone_any B _ _ w hsee hB (by have:=hl x (by simp);simp;omega));clear hcell hsee hu ih hl;simp only[List.getD_cons_zero,xlc,List.length_nil] at *
      go_enter func170,ntmps170
      go_wp2_with fail
      refine hs.out.mono ?_;rintro e w1 ⟨v,rfl,h1,hb1⟩;dsimp only
      go_wp2_with fail
      go_ret
      exact⟨v,rfl,by rw[rootG_one];exact h1,hb1⟩
   obtain⟨A,c,rfl,hc1,hc2⟩:=hu.mk_;have h2:2<=ls.length:=by omega
   obtain⟨k1,k2,k3⟩:=splitN_lt ls.length h2;have hdv:=divide_any A ls.length c w h2 hn hc1 hc2;unfold DividePost at hdv;have hroot:Hid (rootG ls=nodeH (rootG (ls.take (splitN ls.length))) (rootG (ls.drop (splitN ls.length)))):=rootG_two ls h2;generalize splitN ls.length=k at *;obtain⟨b,o,rfl,hbB,-⟩:=hu.at_ (by omega);have c1:=SeesL.cut (a:=0) (b:=k) hu (by omega) (by omega);have c2:=SeesL.cut (a:=k) (b:=ls.length) hu (by omega) nlr;rw[cutA_zero,Nat.sub_zero,Nat.sub_zero,List.drop_zero] at c1;rw[xtl (by rw[xld];omega)] at c2;generalize cutA (some ⟨b,o,none⟩) c k 1=A2 at hdv c2;have l1:∀x∈ls.take k,x.length=32:=fun x hx=>hl x (List.mem_of_mem_take hx)
   have l2:∀x∈ls.drop k,x.length=32:=fun x hx=>hl x (List.mem_of_mem_drop hx)
   have n1:(ls.take k).length<=m:=by rw[xlt];omega
   have n2:(ls.drop k).length<=m:=by rw[xld];omega
   have g1:=lhd (fun q=>ih (ls.take k) B _ (w.drewN q) n1 (SeesL.below c1 (below_drewN (Below.refl B w) q)) hB (by omega) l1);have g2:=lhd (fun (W:World) (hbW:Below w.heap.size w W)=>ih (ls.drop k) B _ W n2 (SeesL.below c2 (hbW.mono hB)) (Nat.le_trans hB hbW.size) (by omega) l2);have q1:=rootG_len _ l1;have q2:=rootG_len _ l2;have j3:¬((ls.length:Int)=0):=by omega
   have j4:¬((ls.length:Int)=1):=by omega
   have hlm:Hid (ls.length=m+1):=hlen;replace hdv:=lhd hdv;clear ih c1 c2 hu hlen
   go_enter func170,ntmps170
   go_wp2_with fail
   refine hdv.out.mono ?_;rintro e w0 ⟨rfl,q,rfl⟩;dsimp only
   go_wp2_with fail
   refine (g1.out q).mono ?_;rintro e w1 ⟨v1,rfl,h1,hb1⟩;have hb1':Below w.heap.size w w1:=(below_drewN (Below.refl _ _) q).trans hb1;dsimp only
   go_wp2_with fail
   refine (g2.out w1 hb1').mono ?_;rintro e w2 ⟨v2,rfl,h2',hb2⟩;dsimp only
   go_wp2_with fail
   refine (node_any w2.heap.size _ _ _ _ w2 (h1.below hb2).sees h2'.sees nlr (by omega) (by omega)).mono ?_;rintro e w3 ⟨v3,rfl,h3,hb3⟩;dsimp only
   go_wp2_with fail
   go_ret
   exact⟨v3,rfl,by rw[hroot.out];exact h3.mono (bgo hb1' hb2).size,bgo (bgo hb1' hb2) hb3⟩
attribute [local go_sem ↓] Go.wp_at_zero Go.wp_at_succ
theorem make_hashes (n:Nat) (hn:n<=1048576) (w:World):(Instr.makeSlice 195 (.int .i64 (n:Int)) (.int .i64 (n:Int))).run prog w=.ok (.slice (some ⟨w.heap.size,0,none⟩) n n) (w.alloc (.cells (List.replicate n (Value.slice none 0 0)).toArray 25)):=by
 obtain⟨i,hi,hz,hs,hb⟩:=info_parts slice_info;have h:=run_make (P:=prog) w 195 25 i (.slice none 0 0) underlying195 hi hz .i64 .i64 n n (by omega) (by omega) (by rw[hb];omega) (by omega);rw[h,hs];simp only[xnc,Nat.mul_one];rw[<-toList_madeCells_one]
 rfl
def ShowsL (ls:List Bs) (w:World) (e:Ending) (w':World):Prop:=∃v,e=.returned v/\SeesL w' w'.heap.size v ls/\Below w.heap.size w w'
theorem of_any (ls:List Bs) (B:Nat) (u:Value) (w:World) (hu:SeesL w B u ls) (hB:B<=w.heap.size) (hn:ls.length<=1024) (hl:∀l∈ls,l.length<=1048576) :
 Calls prog 143 #[u] w (ShowsL (ls.map leafH) w):=by
 obtain⟨A,c,rfl,hc1,hc2⟩:=hu.mk_;have hmk:=make_hashes ls.length (by omega);replace hu:=lhd hu
 go_enter func143,ntmps143
 go_wp2_with fail
 refine wp_fresh (fun W=>W.ownsRow w.heap.size 25 1 (.slice (some ⟨w.heap.size,0,none⟩) ls.length ls.length) ls.length (List.replicate ls.length (Value.slice none 0 0))/\Below w.heap.size w W/\w.heap.size<W.heap.size) ⟨World.ownsRow_lit (base:=w.heap.size) (size:=1) w (List.replicate ls.length (Value.slice none 0 0)).toArray ls.length nlr (by unfold maxLen;omega) (by simp),(Below.refl _ _).alloc nlr _,by simp⟩ ?_;rintro W0 ⟨ho,hb,hlt0⟩;replace ho:=lhd ho;replace hb:=lhd hb;obtain⟨g,hg⟩:∃g,g=w.heap.size:=⟨_,rfl⟩
 rw[<-hg] at ho hlt0 ⊢;replace hg:=lhd hg;clear hmk
 go_loopw [4,5,11] (fun _ _ t wr=>∃(k:Nat) (vs:List Value),k<=ls.length/\t=.int .i64 k/\Hid (wr.ownsRow g 25 1 (.slice (some ⟨g,0,none⟩) ls.length ls.length) ls.length vs)/\Hid (∀j,j<k->∃v,vs[j]?=some v/\OwnB wr (g+1) v (leafH (ls.getD j [])))/\Hid (Below w.heap.size w wr)/\Hid (g<wr.heap.size)) (fun _ _ t _=>ls.length - (intOf t).toNat)
 case atStart=>exact⟨0,_,by omega,rfl,ho,fun j hj=>absurd hj (by omega),hb,hlt0⟩
 case round=>
  clear ho hb hlt0;obtain⟨k,vs,hk,rfl,ho,hv,hb,hgl⟩:=hrel
  by_cases hlt:k<ls.length
  ·obtain⟨b,o,rfl,hbB,hcell⟩:=hu.out.at_ (by omega)
   obtain⟨A',c',hc,g1,g2,hsee⟩:=hcell k hlt;have x0:=(hb.out.cell (p:=⟨b,o+k,none⟩) (by dsimp only;omega)).trans hc;have hlk:(ls.getD k []).length<=1048576:=by
    rw[xgd,xge hlt];exact hl _ (xgx hlt)
   have hlf:=lhd (leaf_any B _ _ wr (hsee.below (hb.out.mono hB)) (Nat.le_trans hB hb.out.size) (by omega));obtain⟨l,hlz⟩:∃l,ls.getD k []=l:=⟨_,rfl⟩
   rw[hlz] at x0 hlf;replace hlz:=lhd hlz;clear hc hcell hsee hlk hl g1 g2;have i0:(0:Int)<=(k:Int):=by omega
   have i1:(k:Int)<(ls.length:Int):=by omega
   go_wp2_with fail
   refine hlf.out.mono ?_;rintro e w2 ⟨v2,rfl,h2,hb2⟩;have ho2:=own_below ho.out hb2;obtain⟨z,hz⟩:∃z,vs[k]?=some z:=⟨vs[k]'(by have:=ho2.1;omega),xge _⟩
   have y0:w2.cell? ⟨g,k,none⟩=some z:=(ho2.cellAt k (by omega)).trans hz;have f0:=ho2.frozenAt k;obtain⟨A2,c2,rfl,-,-⟩:=h2.sees.mk_;replace ho2:=lhd ho2;replace hz:=lhd hz;replace h2:=lhd (h2.mono (show g+1<=wr.heap.size from hgl.out));replace hv:=lhd (fun j hj=>by obtain⟨v,e1,e2⟩:=hv.out j hj;exact⟨v,e1,e2.below hb2⟩:∀j,j<k->∃v,vs[j]?=some v/\OwnB w2 (g+1) v (leafH (ls.getD j [])));replace hgl:=lhd (Nat.lt_of_lt_of_le hgl.out hb2.size);replace hb:=lhd (bgo hb.out hb2);clear hb2 hlf ho;dsimp only
   go_wp2_with fail
   go_roundw
   case rel=>
    refine⟨k+1,vs.set k (.slice A2 (leafH l).length c2),by omega,by go_num,(ho2.out.stored k _).1,fun j hj=>?_,hb.out.setCell (by have:=hg.out;dsimp only;omega) _,by have:=hgl.out;show _<_;simp[World.setCell];omega⟩
    by_cases hjk:j=k
    ·subst hjk
     refine⟨_,List.getElem?_set_self (by have:=ho2.out.1;omega),?_⟩;rw[hlz.out];exact ownsRow_setCell_below h2.out (by dsimp only;omega) _
    obtain⟨v,e1,e2⟩:=hv.out j (by omega);exact⟨v,by rw[List.getElem?_set_ne (by omega)];exact e1,ownsRow_setCell_below e2 (by dsimp only;omega) _⟩
   case measure=>simp[intOf];omega
  have hkn:k=ls.length:=by omega
  have hfin:Hid (SeesL wr wr.heap.size (.slice (some ⟨g,0,none⟩) ls.length ls.length) (ls.map leafH)):=by
   refine⟨vs,by rw[xlm];exact Sees.of_own ho.out,fun j hj=>?_⟩;rw[xlm] at hj;obtain⟨v,e1,e2⟩:=hv.out j (by omega);refine⟨v,e1,?_⟩;rw[xgd,xgm,xge hj,Option.map_some,Option.getD_some];rw[xgd,xge hj,Option.getD_some] at e2;exact e2.sees
  replace hkn:=lhd hkn
  go_wp2_with fail
  go_ret
  exact⟨_,rfl,hfin.out,hb.out⟩
attribute [local go_sem ↓] Go.wp_at_zero Go.wp_at_succ
theorem root_top (ls:List Bs) (B:Nat) (u:Value) (w:World) (hu:SeesL w B u ls) (hB:B<=w.heap.size) (hn:ls.length<=1024) (hl:∀l∈ls,l.length<=1048576) :
 Calls prog 97 #[u] w (RootPost ls w):=by
 have hs:=lhd (of_any ls B u w hu hB hn hl);obtain⟨A,c,rfl,hc1,hc2⟩:=hu.mk_;have j0:¬((1024:Int)<(ls.length:Int)):=by omega
 clear hu hl
 go_enter func97,ntmps97
 go_wp2_with fail
 refine hs.out.mono ?_;rintro e w1 ⟨v,rfl,h1,hb1⟩;dsimp only
 go_wp2_with fail
 refine (root_any _ _ _ _ _ nlr h1 nlr (by rw[xlm];exact hn) (leafs_len ls)).mono ?_;rintro e w2 ⟨v2,rfl,h2,hb2⟩;dsimp only
 go_wp2_with fail
 go_returns
 exact⟨v2,rfl,h2.mono hb1.size,bgo hb1 hb2⟩
attribute [local go_sem ↓] Go.wp_at_zero Go.wp_at_succ
theorem path_any (m:Nat):∀(ls:List Bs) (i:Nat) (B:Nat) (u:Value) (w:World),ls.length<=m->i<ls.length->SeesL w B u ls->B<=w.heap.size->ls.length<=1024->(∀l∈ls,l.length=32) ->
 Calls prog 144 #[u,.int .i64 (i:Int)] w (GivesL (pathG ls i) w):=by
 induction m with
 | zero=>intro ls i B u w hm hi;omega
 | succ m ih=>
   intro ls i B u w hm hi hu hB hn hl
   by_cases h0:ls.length<=m
   ·exact ih ls i B u w h0 hi hu hB hn hl
   have hlen:ls.length=m+1:=by omega
   by_cases h2:2<=ls.length
   ·obtain⟨A,c,rfl,hc1,hc2⟩:=hu.mk_
    obtain⟨k1,k2,k3⟩:=splitN_lt ls.length h2;have hdv:=divide_any A ls.length c w h2 hn hc1 hc2;unfold DividePost at hdv;have p1:=lhd (fun h=>pathG_left ls i h2 h);have p2:=lhd (fun h=>pathG_right ls i h2 h);generalize splitN ls.length=k at *;obtain⟨b,o,rfl,hbB,-⟩:=hu.at_ (by omega);have c1:=SeesL.cut (a:=0) (b:=k) hu (by omega) (by omega);have c2:=SeesL.cut (a:=k) (b:=ls.length) hu (by omega) nlr;rw[cutA_zero,Nat.sub_zero,Nat.sub_zero,List.drop_zero] at c1;rw[xtl (by rw[xld];omega)] at c2;generalize cutA (some ⟨b,o,none⟩) c k 1=A2 at hdv c2;have l1:∀x∈ls.take k,x.length=32:=fun x hx=>hl x (List.mem_of_mem_take hx)
    have l2:∀x∈ls.drop k,x.length=32:=fun x hx=>hl x (List.mem_of_mem_drop hx)
    have n1:(ls.take k).length=k:=by rw[xlt];omega
    have n2:(ls.drop k).length=ls.length - k:=by rw[xld]
    have q1:=lhd (rootG_len _ l1);have q2:=lhd (rootG_len _ l2);replace hdv:=lhd hdv;have hlm:=lhd hlen;have hplen:∀j,Hid ((pathG (ls.take k) j).length<=1024/\(pathG (ls.drop k) j).length<=1024):=fun j=>⟨Nat.le_trans (pathG_short _ _) (by omega),Nat.le_trans (pathG_short _ _) (by omega)⟩
    have j4:¬((ls.length:Int)=1):=by omega
    by_cases hk:i<k
    ·have g1:=lhd (fun q=>ih (ls.take k) i B _ (w.drewN q) (by omega) (by omega) (SeesL.below c1 (below_drewN (Below.refl B w) q)) hB (by omega) l1)
     have g2:=lhd (fun (W:World) (hbW:Below w.heap.size w W)=>root_any _ (ls.drop k) B _ W nlr (SeesL.below c2 (hbW.mono hB)) (Nat.le_trans hB hbW.size) (by omega) l2);have i0:(i:Int)<(k:Int):=by omega
     replace p1:=lhd (p1.out hk);have hp:=lhd (hplen i).out.1;clear ih c1 c2 hu hlen hl l1 l2 n1 n2 p2 hplen;generalize pathG (ls.take k) i=P at *;generalize rootG (ls.drop k)=R at *;generalize rootG (ls.take k)=R' at *
     go_enter func144,ntmps144
     go_wp2_with fail
     refine hdv.out.mono ?_;rintro e w0 ⟨rfl,q,rfl⟩;dsimp only
     go_wp2_with fail
     refine (g1.out q).mono ?_;rintro e w1 ⟨v1,rfl,h1,hb1⟩;have hb1':Below w.heap.size w w1:=(below_drewN (Below.refl _ _) q).trans hb1;dsimp only
     go_wp2_with fail
     refine (g2.out w1 hb1').mono ?_;rintro e w2 ⟨v2,rfl,h2',hb2⟩;have hw2:=bgo hb1' hb2;have ho2:=h1.below hb2;have hel:=Elt.of_from (v:=v1) h2'.sees h2'.from (fun k hk=>(h1.lt k hk).2)
     have hal:=balloc w2 (.cells #[v2] 25);have hcell:=lhd (one_cell w2 v2 25);obtain⟨A9,c9,rfl,-,-⟩:=h2'.sees.mk_;obtain⟨A8,c8,rfl⟩:=h1.shape;replace ho2:=lhd (ho2.below hal);replace hel:=lhd (hel.below hal);have hb3:=lhd (bgo hw2 hal);clear hb2 hb1 hb1' hw2 h1 h2' hal g1 g2;dsimp only
     go_wp2_with (at_builtin;refine wpList_appL (by rfl) _ _ 30 underlying30 rfl w.heap.size _ P rfl ho2.out _ _ _ R rfl hcell.out hel.out (by have:=hp.out;omega) hb3.out.size ?_)
     intro v' w' hW2 hb4;have hW2:=lhd hW2;have hb4:=lhd hb4
     go_wp2_with fail
     go_ret
     exact⟨_,rfl,by rw[p1.out];exact hW2.out,hb3.out.trans hb4.out⟩
    have g1:=lhd (fun q=>ih (ls.drop k) (i - k) B _ (w.drewN q) (by omega) (by omega) (SeesL.below c2 (below_drewN (Below.refl B w) q)) hB (by omega) l2);have g2:=lhd (fun (W:World) (hbW:Below w.heap.size w W)=>root_any _ (ls.take k) B _ W nlr (SeesL.below c1 (hbW.mono hB)) (Nat.le_trans hB hbW.size) (by omega) l1);have i0:¬((i:Int)<(k:Int)):=by omega
    have i1:(k:Int)<=(i:Int):=by omega
    have i2:Hid (((i - k:Nat):Int)=(i:Int) - (k:Int)):=by show _=_;omega
    rw[i2.out] at g1;replace p2:=lhd (p2.out hk);have hp:=lhd (hplen (i - k)).out.2;clear ih c1 c2 hu hlen hl l1 l2 n1 n2 p1 hplen;generalize pathG (ls.drop k) (i - k)=P at *;generalize rootG (ls.drop k)=R' at *;generalize rootG (ls.take k)=R at *
    go_enter func144,ntmps144
    go_wp2_with fail
    refine hdv.out.mono ?_;rintro e w0 ⟨rfl,q,rfl⟩;dsimp only
    go_wp2_with fail
    refine (g1.out q).mono ?_;rintro e w1 ⟨v1,rfl,h1,hb1⟩;have hb1':Below w.heap.size w w1:=(below_drewN (Below.refl _ _) q).trans hb1;dsimp only
    go_wp2_with fail
    refine (g2.out w1 hb1').mono ?_;rintro e w2 ⟨v2,rfl,h2',hb2⟩;have hw2:=bgo hb1' hb2;have ho2:=h1.below hb2;have hel:=Elt.of_from (v:=v1) h2'.sees h2'.from (fun k hk=>(h1.lt k hk).2)
    have hal:=balloc w2 (.cells #[v2] 25);have hcell:=lhd (one_cell w2 v2 25);obtain⟨A9,c9,rfl,-,-⟩:=h2'.sees.mk_;obtain⟨A8,c8,rfl⟩:=h1.shape;replace ho2:=lhd (ho2.below hal);replace hel:=lhd (hel.below hal);have hb3:=lhd (bgo hw2 hal);clear hb2 hb1 hb1' hw2 h1 h2' hal g1 g2;dsimp only
    go_wp2_with (at_builtin;refine wpList_appL (by rfl) _ _ 30 underlying30 rfl w.heap.size _ P rfl ho2.out _ _ _ R rfl hcell.out hel.out (by have:=hp.out;omega) hb3.out.size ?_)
    intro v' w' hW2 hb4;have hW2:=lhd hW2;have hb4:=lhd hb4
    go_wp2_with fail
    go_ret
    exact⟨_,rfl,by rw[p2.out];exact hW2.out,hb3.out.trans hb4.out⟩
   have h1:ls.length=1:=by omega
   have hp:pathG ls i=[]:=pathG_one _ _ h2;obtain⟨A,c,rfl,hc1,hc2⟩:=hu.mk_;rw[h1] at hc1 ⊢;rw[hp];clear hu ih hl hlen hp h1
   go_enter func144,ntmps144
   go_wp2_with fail
   go_ret
   exact⟨_,rfl,OwnL.nil _ _,Below.refl _ _⟩
theorem path_top (ls:List Bs) (i:Nat) (B:Nat) (u:Value) (w:World) (hu:SeesL w B u ls) (hi:i<ls.length) (hB:B<=w.heap.size) (hn:ls.length<=1024) (hl:∀l∈ls,l.length<=1048576) :
 Calls prog 71 #[u,.int .i64 (i:Int)] w (PathPost (ls.map leafH) i w):=by
 have hs:=lhd (of_any ls B u w hu hB hn hl);obtain⟨A,c,rfl,hc1,hc2⟩:=hu.mk_;have j0:¬((1024:Int)<(ls.length:Int)):=by omega
 have j1:¬((i:Int)<0):=by omega
 have j2:¬((ls.length:Int)<=(i:Int)):=by omega
 clear hu hl
 go_enter func71,ntmps71
 go_wp2_with fail
 refine hs.out.mono ?_;rintro e w1 ⟨v,rfl,h1,hb1⟩;dsimp only
 go_wp2_with fail
 refine (path_any _ _ i _ _ _ nlr (by rw[xlm];exact hi) h1 nlr (by rw[xlm];exact hn) (leafs_len ls)).mono ?_;rintro e w2 ⟨v2,rfl,h2,hb2⟩;dsimp only
 go_wp2_with fail
 go_returns
 exact⟨v2,rfl,h2.mono hb1.size,bgo hb1 hb2⟩
end Go.Proofs.YtjgepckncogdaaaGreat
