/- Contracts of functions, walks, plain facts. Conditions: those of each theorem. -/
import Derived.Test.YtjgepckncogdaaaGreatVC1
import Derived.Test.YtjgepckncogdaaaGreatK23
set_option linter.unusedVariables false
set_option linter.unusedSimpArgs false
set_option maxRecDepth 100000
set_option maxHeartbeats 16000000
namespace Go.Proofs.YtjgepckncogdaaaGreat
open Go Go.RowKit _root_.Go.Proofs.Tryz
attribute [local go_sem ↓] Go.wp_at_zero Go.wp_at_succ
def proofG (hs:List Bs) (m:Nat) (known:Bool):List Bs:=
 if m=hs.length then (if known then [] else [rootG hs])
 else if h:2<=hs.length then
  if m<=splitN hs.length then proofG (hs.take (splitN hs.length)) m known++[rootG (hs.drop (splitN hs.length))]
  else proofG (hs.drop (splitN hs.length)) (m - splitN hs.length) false++[rootG (hs.take (splitN hs.length))]
 else []
termination_by hs.length
decreasing_by
 ·have:=splitN_lt hs.length h;rw[xlt];omega
 have:=splitN_lt hs.length h;rw[xld];omega
theorem proofG_full (hs:List Bs) (m:Nat) (h:m=hs.length) (b:Bool):proofG hs m b=if b then [] else [rootG hs]:=by rw[proofG,if_pos h]
theorem proofG_left (hs:List Bs) (m:Nat) (b:Bool) (h:2<=hs.length) (hm:m≠hs.length) (hi:m<=splitN hs.length):proofG hs m b=proofG (hs.take (splitN hs.length)) m b++[rootG (hs.drop (splitN hs.length))]:=by rw[proofG,if_neg hm,dif_pos h,if_pos hi]
theorem proofG_right (hs:List Bs) (m:Nat) (b:Bool) (h:2<=hs.length) (hm:m≠hs.length) (hi:¬m<=splitN hs.length):proofG hs m b=proofG (hs.drop (splitN hs.length)) (m - splitN hs.length) false++[rootG (hs.take (splitN hs.length))]:=by rw[proofG,if_neg hm,dif_pos h,if_neg hi]
theorem proofG_short (hs:List Bs) (m:Nat) (b:Bool):(proofG hs m b).length<=hs.length+1:=by
 have:∀(n:Nat) (hs:List Bs) (m:Nat) (b:Bool),hs.length<=n->(proofG hs m b).length<=hs.length+1:=by
  intro n
  induction n with
  | zero=>
    intro hs m b hn;rw[proofG]
    split
    ·split<;>simp
    rw[dif_neg (by omega)];simp
  | succ n ih=>
    intro hs m b hn
    by_cases hf:m=hs.length
    ·rw[proofG_full _ _ hf];split<;>simp
    by_cases h2:2<=hs.length
    ·have hsp:=splitN_lt hs.length h2
     by_cases hi:m<=splitN hs.length
     ·rw[proofG_left _ _ _ h2 hf hi,xla]
      have:=ih (hs.take (splitN hs.length)) m b (by rw[xlt];omega)
      rw[xlt] at this;simp only[xlc,List.length_nil]
      omega
     rw[proofG_right _ _ _ h2 hf hi,xla]
     have:=ih (hs.drop (splitN hs.length)) (m - splitN hs.length) false (by rw[xld];omega)
     rw[xld] at this;simp only[xlc,List.length_nil]
     omega
    rw[proofG,if_neg hf,dif_neg h2];simp
 exact this hs.length hs m b nlr
theorem OwnL.one {w:World} {v:Value} {R:Bs} (h:SeesB w w.heap.size v R):OwnL (w.alloc (.cells #[v] 25)) w.heap.size (.slice (some ⟨w.heap.size,0,none⟩) 1 1) [R]:=by
 refine⟨[v],World.ownsRow_lit (base:=w.heap.size) (size:=1) w #[v] 1 nlr (by decide) (by simp),fun k hk=>?_⟩
 have:k=0:=by simp at hk;omega
 subst this;exact⟨v,rfl,Elt.of_old (B:=w.heap.size) (h.below (balloc w _)) (balloc w _).size (fun k hk=>by cases hk;exact Nat.le_refl _)⟩
theorem proof_any (m:Nat):∀(ls:List Bs) (i:Nat) (kn:Bool) (B:Nat) (u:Value) (w:World),ls.length<=m->1<=i->i<=ls.length->SeesL w B u ls->B<=w.heap.size->ls.length<=1024->(∀l∈ls,l.length=32) ->
 Calls prog 171 #[u,.int .i64 (i:Int),.bool kn] w (GivesL (proofG ls i kn) w):=by
 induction m with
 | zero=>intro ls i kn B u w hm hi hi2;omega
 | succ m ih=>
   intro ls i kn B u w hm hi hi2 hu hB hn hl
   by_cases h0:ls.length<=m
   ·exact ih ls i kn B u w h0 hi hi2 hu hB hn hl
   have hlen:ls.length=m+1:=by omega
   by_cases hfull:i≠ls.length
   ·have h2:2<=ls.length:=by omega
    obtain⟨A,c,rfl,hc1,hc2⟩:=hu.mk_;obtain⟨k1,k2,k3⟩:=splitN_lt ls.length h2;have hdv:=divide_any A ls.length c w h2 hn hc1 hc2;unfold DividePost at hdv;have p1:=lhd (fun h=>proofG_left ls i kn h2 hfull h);have p2:=lhd (fun h=>proofG_right ls i kn h2 hfull h);generalize splitN ls.length=k at *;obtain⟨b,o,rfl,hbB,-⟩:=hu.at_ (by omega);have c1:=SeesL.cut (a:=0) (b:=k) hu (by omega) (by omega);have c2:=SeesL.cut (a:=k) (b:=ls.length) hu (by omega) nlr;rw[cutA_zero,Nat.sub_zero,Nat.sub_zero,List.drop_zero] at c1;rw[xtl (by rw[xld];omega)] at c2;generalize cutA (some ⟨b,o,none⟩) c k 1=A2 at hdv c2;have l1:∀x∈ls.take k,x.length=32:=fun x hx=>hl x (List.mem_of_mem_take hx)
    have l2:∀x∈ls.drop k,x.length=32:=fun x hx=>hl x (List.mem_of_mem_drop hx)
    have n1:(ls.take k).length=k:=by rw[xlt];omega
    have n2:(ls.drop k).length=ls.length - k:=by rw[xld]
    have q1:=lhd (rootG_len _ l1);have q2:=lhd (rootG_len _ l2);replace hdv:=lhd hdv;have hlm:=lhd hlen;have hplen:∀j b,Hid ((proofG (ls.take k) j b).length<=2048/\(proofG (ls.drop k) j b).length<=2048):=fun j b=>⟨Nat.le_trans (proofG_short _ _ _) (by omega),Nat.le_trans (proofG_short _ _ _) (by omega)⟩
    have j4:¬((i:Int)=(ls.length:Int)):=by omega
    have j5:((i:Int) == (ls.length:Int))=false:=by rw[beq_eq_false_iff_ne];omega
    by_cases hk:i<=k
    ·have g1:=lhd (fun q=>ih (ls.take k) i kn B _ (w.drewN q) (by omega) hi (by omega) (SeesL.below c1 (below_drewN (Below.refl B w) q)) hB (by omega) l1)
     have g2:=lhd (fun (W:World) (hbW:Below w.heap.size w W)=>root_any _ (ls.drop k) B _ W nlr (SeesL.below c2 (hbW.mono hB)) (Nat.le_trans hB hbW.size) (by omega) l2);have i0:(i:Int)<=(k:Int):=by omega
     replace p1:=lhd (p1.out hk);have hp:=lhd (hplen i kn).out.1;clear ih c1 c2 hu hlen hl l1 l2 n1 n2 p2 hplen;generalize proofG (ls.take k) i kn=P at *;generalize rootG (ls.drop k)=R at *;generalize rootG (ls.take k)=R' at *
     go_enter func171,ntmps171
     go_wp2_with fail
     refine hdv.out.mono ?_;rintro e w0 ⟨rfl,q,rfl⟩;dsimp only
     go_wp2_with fail
     refine (g1.out q).mono ?_;rintro e w1 ⟨v1,rfl,h1,hb1⟩;have hb1':Below w.heap.size w w1:=(below_drewN (Below.refl _ _) q).trans hb1;dsimp only
     go_wp2_with fail
     refine (g2.out w1 hb1').mono ?_;rintro e w2 ⟨v2,rfl,h2',hb2⟩;have hw2:=bgo hb1' hb2;have ho2:=h1.below hb2;have hel:=Elt.of_from (v:=v1) h2'.sees h2'.from (fun k hk=>(h1.lt k hk).2)
     have hal:=balloc w2 (.cells #[v2] 25);have hcell:=lhd (one_cell w2 v2 25);obtain⟨A9,c9,rfl,-,-⟩:=h2'.sees.mk_;obtain⟨A8,c8,rfl⟩:=h1.shape;replace ho2:=lhd (ho2.below hal);replace hel:=lhd (hel.below hal);have hb3:=lhd (bgo hw2 hal);clear hb2 hb1 hb1' hw2 h1 h2' hal g1 g2;dsimp only
     go_wp2_with (at_builtin;refine wpList_appL (by rfl) _ _ 30 underlying30 rfl w.heap.size _ P rfl ho2.out _ _ _ R rfl hcell.out hel.out (by have:=hp.out;omega) hb3.out.size ?_)
     intro v' w' hW2 hb4;have hW2:=lhd hW2;have hb4:=lhd hb4
     go_wp2_with fail
     go_ret
     exact⟨_,rfl,by rw[p1.out];exact hW2.out,hb3.out.trans hb4.out⟩
    have g1:=lhd (fun q=>ih (ls.drop k) (i - k) false B _ (w.drewN q) (by omega) (by omega) (by omega) (SeesL.below c2 (below_drewN (Below.refl B w) q)) hB (by omega) l2);have g2:=lhd (fun (W:World) (hbW:Below w.heap.size w W)=>root_any _ (ls.take k) B _ W nlr (SeesL.below c1 (hbW.mono hB)) (Nat.le_trans hB hbW.size) (by omega) l1);have i0:¬((i:Int)<=(k:Int)):=by omega
    have i1:(k:Int)<=(i:Int):=by omega
    have i2:Hid (((i - k:Nat):Int)=(i:Int) - (k:Int)):=by show _=_;omega
    rw[i2.out] at g1;replace p2:=lhd (p2.out hk);have hp:=lhd (hplen (i - k) false).out.2;clear ih c1 c2 hu hlen hl l1 l2 n1 n2 p1 hplen;generalize proofG (ls.drop k) (i - k) false=P at *;generalize rootG (ls.drop k)=R' at *;generalize rootG (ls.take k)=R at *
    go_enter func171,ntmps171
    go_wp2_with fail
    refine hdv.out.mono ?_;rintro e w0 ⟨rfl,q,rfl⟩;dsimp only
    go_wp2_with fail
    refine (g1.out q).mono ?_;rintro e w1 ⟨v1,rfl,h1,hb1⟩;have hb1':Below w.heap.size w w1:=(below_drewN (Below.refl _ _) q).trans hb1;dsimp only
    go_wp2_with fail
    refine (g2.out w1 hb1').mono ?_;rintro e w2 ⟨v2,rfl,h2',hb2⟩;have hw2:=bgo hb1' hb2;have ho2:=h1.below hb2;have hel:=Elt.of_from (v:=v1) h2'.sees h2'.from (fun k hk=>(h1.lt k hk).2)
    have hal:=balloc w2 (.cells #[v2] 25);have hcell:=lhd (one_cell w2 v2 25);obtain⟨A9,c9,rfl,-,-⟩:=h2'.sees.mk_;obtain⟨A8,c8,rfl⟩:=h1.shape;replace ho2:=lhd (ho2.below hal);replace hel:=lhd (hel.below hal);have hb3:=lhd (bgo hw2 hal);clear hb2 hb1 hb1' hw2 h1 h2' hal g1 g2;dsimp only
    go_wp2_with (at_builtin;refine wpList_appL (by rfl) _ _ 30 underlying30 rfl w.heap.size _ P rfl ho2.out _ _ _ R rfl hcell.out hel.out (by have:=hp.out;omega) hb3.out.size ?_)
    intro v' w' hW2 hb4;have hW2:=lhd hW2;have hb4:=lhd hb4
    go_wp2_with fail
    go_ret
    exact⟨_,rfl,by rw[p2.out];exact hW2.out,hb3.out.trans hb4.out⟩
   have hf:i=ls.length:=by omega
   have hp:=proofG_full ls i hf kn;obtain⟨A,c,rfl,hc1,hc2⟩:=hu.mk_;have hrt:=lhd (root_any _ ls B _ w nlr hu hB (by omega) hl);rw[hp];have j4:(i:Int)=(ls.length:Int):=by omega
   rw[j4];clear hu ih hl hp hf j4 hfull hlen hi hi2 hm h0;generalize rootG ls=R at *;generalize ls.length=N at *
   go_enter func171,ntmps171
   cases kn with
   | true=>
     go_wp2_with fail
     go_ret
     exact⟨_,rfl,OwnL.nil _ _,Below.refl _ _⟩
   | false=>
     go_wp2_with fail
     refine hrt.out.mono ?_;rintro e w1 ⟨v1,rfl,h1,hb1⟩;have hs1:=h1.sees;obtain⟨A9,c9,rfl,-,-⟩:=h1.sees.mk_;have ho:=OwnL.one hs1;have hb2:=bgo hb1 (balloc w1 (.cells #[.slice A9 R.length c9] 25));have ho2:=ho.mono hb1.size;clear ho hs1 h1 hrt;dsimp only
     go_wp2_with fail
     go_ret
     exact⟨_,rfl,ho2,hb2⟩
def ProofPost (hs:List Bs) (i:Nat) (w:World) (e:Ending) (w':World):Prop:=
 ∃v,e=.returned (.tuple #[v,.int .i64 0])/\OwnL w' w.heap.size v (proofG hs i true)/\Below w.heap.size w w'
theorem consistency_top (ls:List Bs) (i:Nat) (B:Nat) (u:Value) (w:World) (hu:SeesL w B u ls) (hi1:1<=i) (hi:i<=ls.length) (hB:B<=w.heap.size) (hn:ls.length<=1024) (hl:∀l∈ls,l.length<=1048576) :
 Calls prog 98 #[u,.int .i64 (i:Int)] w (ProofPost (ls.map leafH) i w):=by
 have hs:=lhd (of_any ls B u w hu hB hn hl);obtain⟨A,c,rfl,hc1,hc2⟩:=hu.mk_;have j0:¬((1024:Int)<(ls.length:Int)):=by omega
 have j1:¬((i:Int)<1):=by omega
 have j2:¬((ls.length:Int)<(i:Int)):=by omega
 clear hu hl
 go_enter func98,ntmps98
 go_wp2_with fail
 refine hs.out.mono ?_;rintro e w1 ⟨v,rfl,h1,hb1⟩;dsimp only
 go_wp2_with fail
 refine (proof_any _ _ i true _ _ _ nlr hi1 (by rw[xlm];exact hi) h1 nlr (by rw[xlm];exact hn) (leafs_len ls)).mono ?_;rintro e w2 ⟨v2,rfl,h2,hb2⟩;dsimp only
 go_wp2_with fail
 go_returns
 exact⟨v2,rfl,h2.mono hb1.size,bgo hb1 hb2⟩
def HeadP (ls:List Bs) (w:World) (e:Ending) (w':World):Prop:=∃v,e=.returned (.tuple #[v,.int .i64 0])/\SeesB w' w'.heap.size v (rootG (ls.map leafH))/\Below w.heap.size w w'
def inC (n:Nat) (i:Int):Int:=if 0<=i/\i<n then 0 else 4
def inL (ls:List Bs) (i:Int):List Bs:=if 0<=i/\i<ls.length then pathG (ls.map leafH) i.toNat else []
def growC (n:Nat) (i:Int):Int:=if 1<=i/\i<=n then 0 else 4
def growL (ls:List Bs) (i:Int):List Bs:=if 1<=i/\i<=ls.length then proofG (ls.map leafH) i.toNat true else []
def InP (c:Int) (l:List Bs) (w:World) (e:Ending) (w':World):Prop:=∃v,e=.returned (.tuple #[v,.int .i64 c])/\SeesL w' w'.heap.size v l/\Below w.heap.size w w'
theorem box1_cell {W:World} {g:Nat} {T:TypeId} {a:Value} (h:Box W g T [a]):W.cell? ⟨g,0,none⟩=some a:=h.cell 0
theorem inP_bad {c:Int} {l:List Bs} {w w':World} (h:l=[]) (hb:Below w.heap.size w w'):InP c l w (.returned (.tuple #[.slice none 0 0,.int .i64 c])) w':=by
 subst h;exact⟨_,rfl,(OwnL.nil w' 0).sees,hb⟩
theorem path_int (ls:List Bs) (i:Int) (u:Value) (w:World) (hu:SeesL w w.heap.size u ls) (hn:ls.length<=64) (hl:∀l∈ls,l.length<=1048576) :
 Calls prog 71 #[u,.int .i64 i] w (InP (inC ls.length i) (inL ls i) w):=by
 by_cases h:0<=i/\i<ls.length
 ·obtain⟨k,rfl⟩:=Int.eq_ofNat_of_zero_le h.1
  refine (path_top ls k _ u w hu (by omega) nlr (by omega) hl).mono ?_;rintro e w' ⟨v,rfl,h1,h2⟩;exact⟨v,by rw[inC,if_pos h],by rw[inL,if_pos h];exact h1.sees,h2⟩
 have hc:inC ls.length i=4:=if_neg h;have hl0:inL ls i=[]:=if_neg h;rw[hc,hl0];obtain⟨A,c,rfl,-,-⟩:=hu.mk_;have j0:¬((1024:Int)<(ls.length:Int)):=by omega
 clear hu hl hc hl0
 by_cases h1:i<0
 ·clear h
  go_enter func71,ntmps71
  go_wp2_with fail
  go_returns
  exact inP_bad rfl (by go_grown)
 have h2:(ls.length:Int)<=i:=by omega
 clear h
 go_enter func71,ntmps71
 go_wp2_with fail
 go_returns
 exact inP_bad rfl (by go_grown)
theorem cons_int (ls:List Bs) (i:Int) (u:Value) (w:World) (hu:SeesL w w.heap.size u ls) (hn:ls.length<=64) (hl:∀l∈ls,l.length<=1048576) :
 Calls prog 98 #[u,.int .i64 i] w (InP (growC ls.length i) (growL ls i) w):=by
 by_cases h:1<=i/\i<=ls.length
 ·obtain⟨k,rfl⟩:=Int.eq_ofNat_of_zero_le (show 0<=i by omega)
  refine (consistency_top ls k _ u w hu (by omega) (by omega) nlr (by omega) hl).mono ?_;rintro e w' ⟨v,rfl,h1,h2⟩;exact⟨v,by rw[growC,if_pos h],by rw[growL,if_pos h];exact h1.sees,h2⟩
 have hc:growC ls.length i=4:=if_neg h;have hl0:growL ls i=[]:=if_neg h;rw[hc,hl0];obtain⟨A,c,rfl,-,-⟩:=hu.mk_;have j0:¬((1024:Int)<(ls.length:Int)):=by omega
 clear hu hl hc hl0
 by_cases h1:i<1
 ·clear h
  go_enter func98,ntmps98
  go_wp2_with fail
  go_returns
  exact inP_bad rfl (by go_grown)
 have h2:(ls.length:Int)<i:=by omega
 clear h
 go_enter func98,ntmps98
 go_wp2_with fail
 go_returns
 exact inP_bad rfl (by go_grown)
theorem entries_any (A:Option Addr) (n c:Nat) (w:World) (hn:n<=64) :
 Calls prog 96 #[.agg #[.slice A n c]] w fun e w'=>e=.returned (.tuple #[.slice A n c,.int .i64 0])/\Below w.heap.size w w':=by
 have j0:¬((64:Int)<(n:Int)):=by omega
 have hx:=Box.new w 44 [.slice A n c];change Box (w.alloc (.cells #[.slice A n c] 44)) _ _ _ at hx;have hal:=lhd (balloc w (.cells #[.slice A n c] 44));have y0:=box1_cell hx;clear hx
 go_enter func96,ntmps96
 go_wp2_with fail
 go_returns
 exact⟨rfl,hal.out⟩
theorem lhead_any (ls:List Bs) (u:Value) (w:World) (hu:SeesL w w.heap.size u ls) (hn:ls.length<=64) (hl:∀l∈ls,l.length<=1048576) :
 Calls prog 27 #[.agg #[u]] w (HeadP ls w):=by
 obtain⟨A,c,rfl,-,-⟩:=hu.mk_;have hx:=Box.new w 44 [.slice A ls.length c];change Box (w.alloc (.cells #[.slice A ls.length c] 44)) _ _ _ at hx;have hal:=balloc w (.cells #[.slice A ls.length c] 44);have y0:=box1_cell hx;have hen:=lhd (fun W=>entries_any A ls.length c W hn);have hrt:=lhd (fun W (hW:Below w.heap.size w W)=>root_top ls _ _ W (seesL_of hu nlr hW) nlr (by omega) hl);replace hal:=lhd hal;clear hx hu hl hn
 go_enter func27,ntmps27
 go_wp2_with fail
 refine (hen.out _).mono ?_;rintro e w1 ⟨rfl,hb1⟩;replace hal:=lhd (bgo hal.out hb1);clear y0 hb1 hen;dsimp only
 go_wp2_with fail
 refine (hrt.out w1 hal.out).mono ?_;rintro e w2 ⟨v,rfl,h2,hb2⟩;replace hal:=lhd (bgo hal.out hb2);have h2s:=h2.sees;dsimp only
 go_wp2_with fail
 go_returns
 exact⟨v,rfl,h2s,hal.out⟩
theorem lincl_any (ls:List Bs) (u:Value) (i:Int) (w:World) (hu:SeesL w w.heap.size u ls) (hn:ls.length<=64) (hl:∀l∈ls,l.length<=1048576) :
 Calls prog 28 #[.agg #[u],.int .i64 i] w (InP (inC ls.length i) (inL ls i) w):=by
 obtain⟨A,c,rfl,-,-⟩:=hu.mk_;have hx:=Box.new w 44 [.slice A ls.length c];change Box (w.alloc (.cells #[.slice A ls.length c] 44)) _ _ _ at hx;have hal:=balloc w (.cells #[.slice A ls.length c] 44);have y0:=box1_cell hx;have hen:=lhd (fun W=>entries_any A ls.length c W hn);have hrt:=lhd (fun W (hW:Below w.heap.size w W)=>path_int ls i _ W (seesL_of hu nlr hW) hn hl);replace hal:=lhd hal;clear hx hu hl hn
 go_enter func28,ntmps28
 go_wp2_with fail
 refine (hen.out _).mono ?_;rintro e w1 ⟨rfl,hb1⟩;replace hal:=lhd (bgo hal.out hb1);clear y0 hb1 hen;dsimp only
 go_wp2_with fail
 refine (hrt.out w1 hal.out).mono ?_;rintro e w2 ⟨v,rfl,h2,hb2⟩;replace hal:=lhd (bgo hal.out hb2);dsimp only
 go_wp2_with fail
 go_returns
 exact⟨v,rfl,h2,hal.out⟩
theorem lgrow_any (ls:List Bs) (u:Value) (i:Int) (w:World) (hu:SeesL w w.heap.size u ls) (hn:ls.length<=64) (hl:∀l∈ls,l.length<=1048576) :
 Calls prog 29 #[.agg #[u],.int .i64 i] w (InP (growC ls.length i) (growL ls i) w):=by
 obtain⟨A,c,rfl,-,-⟩:=hu.mk_;have hx:=Box.new w 44 [.slice A ls.length c];change Box (w.alloc (.cells #[.slice A ls.length c] 44)) _ _ _ at hx;have hal:=balloc w (.cells #[.slice A ls.length c] 44);have y0:=box1_cell hx;have hen:=lhd (fun W=>entries_any A ls.length c W hn);have hrt:=lhd (fun W (hW:Below w.heap.size w W)=>cons_int ls i _ W (seesL_of hu nlr hW) hn hl);replace hal:=lhd hal;clear hx hu hl hn
 go_enter func29,ntmps29
 go_wp2_with fail
 refine (hen.out _).mono ?_;rintro e w1 ⟨rfl,hb1⟩;replace hal:=lhd (bgo hal.out hb1);clear y0 hb1 hen;dsimp only
 go_wp2_with fail
 refine (hrt.out w1 hal.out).mono ?_;rintro e w2 ⟨v,rfl,h2,hb2⟩;replace hal:=lhd (bgo hal.out hb2);dsimp only
 go_wp2_with fail
 go_returns
 exact⟨v,rfl,h2,hal.out⟩
section
variable {P:Program} {ops:Array Oper} {Q:Exit->Act->World->Prop} {md:Region.Mode} {S:World->Prop} {s:Nat}
def TillJ (S:World->Prop) (s:Nat) (listed:Array Bool) (w:World):Prop:=listed.getD s true=false->S w
def wpAnyJ (P:Program) (md:Region.Mode) (ops:Array Oper) (Q:Exit->Act->World->Prop) (S:World->Prop) (s:Nat):Nat->Array Bool->Act->World->Prop
 | 0,listed,a,w=>Region.ready md ops listed=[]/\Q .normal a w
 | fuel+1,listed,a,w=>
   (Region.ready md ops listed=[]->Q .normal a w) /\
   ∀i∈Region.ready md ops listed,wpOp P ops Q i (fun a' w'=>TillJ S s (listed.setIfInBounds i true) w'/\wpAnyJ P md ops Q S s fuel (listed.setIfInBounds i true) a' w') a w
theorem wpAny_of_J:∀(fuel:Nat) (listed:Array Bool) (a:Act) (w:World),wpAnyJ P md ops Q S s fuel listed a w->wpAny P md ops Q fuel listed a w
 | 0,_,_,_,h=>h
 | fuel+1,_,_,_,h=>⟨h.1,fun i hi=>wpOp_mono (fun a' w' h'=>wpAny_of_J fuel _ a' w' h'.2) (h.2 i hi)⟩
theorem wpAnyJ_first {i:Nat} {oi:Oper} {v:Value} (hi:ops[i]?=some oi) (hsel:∀(j:Nat) (o:Oper) cs b,ops[j]?=some o->o.op≠.select cs b)
 (hQ:∀c a w,Q (.panic c) (a.put oi.dst v) w->Q (.panic c) a w) (hs:s≠i) {os:Oper} (ho:ops[s]?=some os) (hw:∃e∈os.after,Region.binds md e=true/\e.on=i) :
 ∀(fuel:Nat) (listed:Array Bool) (a:Act) (w:World),
  (∀j oj,ops[j]?=some oj->j≠i->listed.getD j true=false->(∀e∈oj.after,Region.binds md e=true->e.on≠i)->oi.apart ops oj=true) ->
  i∈Region.ready md ops listed->YieldsIf P ops S oi v a->listed.getD s true=false->S w ->
  wpAnyJ P md ops Q S s fuel (listed.setIfInBounds i true) (a.put oi.dst v) w->wpAnyJ P md ops Q S s (fuel+1) listed a w:=by
 intro fuel
 induction fuel with
 | zero=>
   intro listed a w _ hr hy hu hS H;refine⟨fun h=>(by rw[h] at hr;cases hr),fun j hj=>?_⟩
   by_cases hji:j=i
   ·subst hji;exact hy.wpOp hi hS ⟨fun _=>hS,H⟩
   have:=ready_mono hj hji
   rw[H.1] at this;cases this
 | succ fuel ih=>
   intro listed a w hfree hr hy hu hS H;refine⟨fun h=>(by rw[h] at hr;cases hr),fun j hj=>?_⟩
   by_cases hji:j=i
   ·subst hji;exact hy.wpOp hi hS ⟨fun _=>hS,H⟩
   have h1:=H.2 j (ready_mono hj hji);obtain⟨hjun,oj,hoj,hall⟩:=mem_ready.1 hj;have hnot:∀e∈oj.after,Region.binds md e=true->e.on≠i:=fun e he hb heq=>by
    have h1:=hall e he hb;have h0:=(mem_ready.1 hr).1;rw[heq] at h1;rcases Nat.lt_or_ge i listed.size with h'|h'
    ·simp[h'] at h0 h1;rw[h0] at h1;cases h1
    simp[Array.getElem?_eq_none h'] at h1
   have hjs:j≠s:=fun e=>by
    subst e;rw[hoj] at ho;cases ho;obtain⟨e,he,hb,heq⟩:=hw;exact hnot e he hb heq
   have hu2:(listed.setIfInBounds j true).getD s true=false:=by rw[getD_set_ne true hjs];exact hu
   have hu3:((listed.setIfInBounds i true).setIfInBounds j true).getD s true=false:=by rw[getD_set_ne true hjs,getD_set_ne true (Ne.symm hs)];exact hu
   have h2:=wpOp_putIf hoj (hfree j oj hoj hji hjun hnot) (fun cs b=>hsel i oi cs b hi) (fun cs b=>hsel j oj cs b hoj) hQ hy h1;have hfree':∀k ok,ops[k]?=some ok->k≠i->(listed.setIfInBounds j true).getD k true=false ->
    (∀e∈ok.after,Region.binds md e=true->e.on≠i)->oi.apart ops ok=true:=fun k ok hk hki hun hno=>by
    refine hfree k ok hk hki ?_ hno
    by_cases hjk:j=k
    ·subst hjk;exact hjun
    rw[getD_set_ne true hjk] at hun;exact hun
   refine wpOp_mono (fun a' w' h3=>⟨fun _=>h3.2.1 hu3,ih (listed.setIfInBounds j true) a' w' hfree' (ready_mono hr (Ne.symm hji)) h3.1 hu2 (h3.2.1 hu3) ?_⟩) h2;rw[Array.setIfInBounds_comm _ _ hji];exact h3.2.2
theorem wpAnyJ_take {i:Nat} {oi os:Oper} {v:Value} {fuel:Nat} {listed:Array Bool} {a:Act} {w:World} (hi:ops[i]?=some oi)
 (hsl:Region.noSelect ops=true) (hf:Region.free md ops listed i=true) (hr:(Region.ready md ops listed).contains i=true)
 (hQ:∀c a w,Q (.panic c) (a.put oi.dst v) w->Q (.panic c) a w) (hs:Nat.beq s i=false) (ho:ops[s]?=some os) (hw:os.after.toList.any (fun e=>Region.binds md e&&Nat.beq e.on i)=true)
 (hu:listed.getD s true=false) (hy:YieldsIf P ops S oi v a) (hS:TillJ S s listed w)
 (h:wpAnyJ P md ops Q S s fuel (listed.setIfInBounds i true) (a.put oi.dst v) w):wpAnyJ P md ops Q S s (fuel+1) listed a w:=by
 refine wpAnyJ_first hi (Region.noSelect_spec hsl) hQ (Nat.ne_of_beq_eq_false hs) ho ?_ fuel listed a w (Region.free_spec hi hf) (by simpa using hr) hy hu (hS hu) h;obtain⟨e,he,h2⟩:=List.any_eq_true.1 hw;simp only[Bool.and_eq_true] at h2;exact⟨e,by simpa using he,h2.1,Nat.eq_of_beq_eq_true h2.2⟩
theorem wpAnyJ_first0 {i:Nat} {oi:Oper} {v:Value} (hi:ops[i]?=some oi) (hsel:∀(j:Nat) (o:Oper) cs b,ops[j]?=some o->o.op≠.select cs b)
 (hQ:∀c a w,Q (.panic c) (a.put oi.dst v) w->Q (.panic c) a w) (hs:s≠i) :
 ∀(fuel:Nat) (listed:Array Bool) (a:Act) (w:World),
  (∀j oj,ops[j]?=some oj->j≠i->listed.getD j true=false->(∀e∈oj.after,Region.binds md e=true->e.on≠i)->oi.apart ops oj=true) ->
  i∈Region.ready md ops listed->YieldsIf P ops (fun _=>True) oi v a->TillJ S s listed w ->
  wpAnyJ P md ops Q S s fuel (listed.setIfInBounds i true) (a.put oi.dst v) w->wpAnyJ P md ops Q S s (fuel+1) listed a w:=by
 intro fuel
 induction fuel with
 | zero=>
   intro listed a w _ hr hy hS H;refine⟨fun h=>(by rw[h] at hr;cases hr),fun j hj=>?_⟩
   by_cases hji:j=i
   ·subst hji;exact hy.wpOp hi trivial ⟨fun h=>hS (by rw[getD_set_ne true (Ne.symm hs)] at h;exact h),H⟩
   have:=ready_mono hj hji
   rw[H.1] at this;cases this
 | succ fuel ih=>
   intro listed a w hfree hr hy hS H;refine⟨fun h=>(by rw[h] at hr;cases hr),fun j hj=>?_⟩
   by_cases hji:j=i
   ·subst hji;exact hy.wpOp hi trivial ⟨fun h=>hS (by rw[getD_set_ne true (Ne.symm hs)] at h;exact h),H⟩
   have h1:=H.2 j (ready_mono hj hji);obtain⟨hjun,oj,hoj,hall⟩:=mem_ready.1 hj;have hnot:∀e∈oj.after,Region.binds md e=true->e.on≠i:=fun e he hb heq=>by
    have h1:=hall e he hb;have h0:=(mem_ready.1 hr).1;rw[heq] at h1;rcases Nat.lt_or_ge i listed.size with h'|h'
    ·simp[h'] at h0 h1;rw[h0] at h1;cases h1
    simp[Array.getElem?_eq_none h'] at h1
   have h2:=wpOp_putIf hoj (hfree j oj hoj hji hjun hnot) (fun cs b=>hsel i oi cs b hi) (fun cs b=>hsel j oj cs b hoj) hQ hy h1;have hfree':∀k ok,ops[k]?=some ok->k≠i->(listed.setIfInBounds j true).getD k true=false ->
    (∀e∈ok.after,Region.binds md e=true->e.on≠i)->oi.apart ops ok=true:=fun k ok hk hki hun hno=>by
    refine hfree k ok hk hki ?_ hno
    by_cases hjk:j=k
    ·subst hjk;exact hjun
    rw[getD_set_ne true hjk] at hun;exact hun
   have hT:∀w',TillJ S s ((listed.setIfInBounds i true).setIfInBounds j true) w'->TillJ S s (listed.setIfInBounds j true) w':=fun w' h hl=>h (by
    rw[Array.setIfInBounds_comm _ _ (Ne.symm hji),getD_set_ne true (Ne.symm hs)];exact hl)
   refine wpOp_mono (fun a' w' h3=>⟨hT w' h3.2.1,ih (listed.setIfInBounds j true) a' w' hfree' (ready_mono hr (Ne.symm hji)) h3.1 (hT w' h3.2.1) ?_⟩) h2;rw[Array.setIfInBounds_comm _ _ hji];exact h3.2.2
theorem wpAnyJ_take0 {i:Nat} {oi:Oper} {v:Value} {fuel:Nat} {listed:Array Bool} {a:Act} {w:World} (hi:ops[i]?=some oi)
 (hsl:Region.noSelect ops=true) (hf:Region.free md ops listed i=true) (hr:(Region.ready md ops listed).contains i=true)
 (hQ:∀c a w,Q (.panic c) (a.put oi.dst v) w->Q (.panic c) a w) (hs:Nat.beq s i=false) (hy:YieldsIf P ops (fun _=>True) oi v a) (hS:TillJ S s listed w)
 (h:wpAnyJ P md ops Q S s fuel (listed.setIfInBounds i true) (a.put oi.dst v) w):wpAnyJ P md ops Q S s (fuel+1) listed a w:=
 wpAnyJ_first0 hi (Region.noSelect_spec hsl) hQ (Nat.ne_of_beq_eq_false hs) fuel listed a w (Region.free_spec hi hf) (by simpa using hr) hy hS h
theorem wpAnyJ_done {listed:Array Bool} {a:Act} {w:World} (hr:Region.ready md ops listed=[]) (h:Q .normal a w) :
 ∀fuel,wpAnyJ P md ops Q S s fuel listed a w
 | 0=>⟨hr,h⟩
 | _+1=>⟨fun _=>h,by rw[hr];simp⟩
def AllReadyJ (P:Program) (md:Region.Mode) (ops:Array Oper) (Q:Exit->Act->World->Prop) (S:World->Prop) (s fuel:Nat) (listed:Array Bool) (a:Act) (w:World) (rs:List Nat):Prop:=
 ∀i∈rs,wpOp P ops Q i (fun a' w'=>TillJ S s (listed.setIfInBounds i true) w'/\wpAnyJ P md ops Q S s fuel (listed.setIfInBounds i true) a' w') a w
theorem AllReadyJ.nil {fuel:Nat} {listed:Array Bool} {a:Act} {w:World}:AllReadyJ P md ops Q S s fuel listed a w []:=fun _ h=>by cases h
theorem AllReadyJ.cons {fuel:Nat} {listed:Array Bool} {a:Act} {w:World} {i:Nat} {o:Oper} {rs:List Nat} (ho:ops[i]?=some o)
 (h:∀K':Act->World->Prop,Shut (∀a w,TillJ S s (listed.setIfInBounds i true) w->(TillJ S s (listed.setIfInBounds i true) w->wpAnyJ P md ops Q S s fuel (listed.setIfInBounds i true) a w)->K' a w)->if Region.wanted o (yielded ops a.tmps)=true then Oper.wp P o a w K' Q else K' (a.put o.dst undef) w)
 (hs:AllReadyJ P md ops Q S s fuel listed a w rs):AllReadyJ P md ops Q S s fuel listed a w (i :: rs):=fun j hj=>by
 rcases List.mem_cons.1 hj with rfl|hj
 ·exact wpOp_step ho (fun K' hK=>h K' (fun a w hS hW=>hK a w ⟨hS,hW hS⟩))
 exact hs j hj
theorem wpAnyJ_ready {rs:List Nat} {fuel:Nat} {listed:Array Bool} {a:Act} {w:World} (hr:Region.ready md ops listed=rs) (hne:rs≠[])
 (h:AllReadyJ P md ops Q S s fuel listed a w rs):wpAnyJ P md ops Q S s (fuel+1) listed a w:=⟨fun h0=>absurd (hr ▸ h0) hne,hr ▸ h⟩
theorem wp_region_J {id:Nat} {a:Act} {w:World} (S:World->Prop) (s:Nat) (hm:P.follows .mixedOrders=true) (hS:S w.drew)
 (h:TillJ S s (Array.replicate ops.size false) w.drew->wpAnyJ P .any ops Q S s ops.size (Array.replicate ops.size false) a w.drew):(Code.region id ops true).wp P Q a w:=
 wp_region_any hm (wpAny_of_J _ _ _ _ (h fun _=>hS))
end
def SeesT (w:World) (B:Nat) (v:Value) (l:List Int):Prop:=Sees w B v 1 l.length (l.map fun x=>Value.int .i64 x)
theorem SeesT.mk_ {w:World} {B:Nat} {v:Value} {l:List Int} (h:SeesT w B v l):∃A c,v=.slice A l.length c/\l.length<=c/\c<=maxLen:=Sees.mk_ h
theorem SeesT.at_ {w:World} {B n c:Nat} {A:Option Addr} {l:List Int} (h:SeesT w B (.slice A n c) l) (hn:0<l.length):∃b o,A=some ⟨b,o,none⟩/\b<B/\∀j,j<l.length->w.cell? ⟨b,o+j,none⟩=some (.int .i64 (l.getD j 0)):=by
 obtain⟨A',c',e,-,-⟩:=h.mk_;injection e with e1 e2 e3;subst e1 e2 e3;obtain⟨b,o,e,hb,hc⟩:=Sees.at_ h hn;refine⟨b,o,e,hb,fun j hj=>hc j _ ?_⟩;rw[xgm,xge hj,xgd,xge hj]
 rfl
def TapeAt (w:World) (g:Nat) (u:Value) (l:List Int) (k:Nat):Prop:=Box w g 150 [u,.int .i64 k]/\SeesT w g u l/\k<=l.length
theorem TapeAt.grown {w w':World} {g:Nat} {u:Value} {l:List Int} {k:Nat} (h:TapeAt w g u l k) (hb:Below w.heap.size w w'):TapeAt w' g u l k:=
 ⟨h.1.below hb,Sees.below h.2.1 (hb.mono (Nat.le_of_lt h.1.lt)),h.2.2⟩
theorem TapeAt.drew {w:World} {g:Nat} {u:Value} {l:List Int} {k:Nat} (h:TapeAt w g u l k):TapeAt w.drew g u l k:=h.grown (bdrew w)
end Go.Proofs.YtjgepckncogdaaaGreat
