/- Contracts of functions, walks, plain facts. Conditions: those of each theorem. -/
import Derived.Test.YtjgepckncogdaaaGreatK12
set_option linter.unusedVariables false
set_option linter.unusedSimpArgs false
set_option maxRecDepth 100000
set_option maxHeartbeats 16000000
namespace Go.Proofs.YtjgepckncogdaaaGreat
open Go Go.RowKit _root_.Go.Proofs.Tryz
attribute [local go_sem ↓] Go.wp_at_zero Go.wp_at_succ
theorem placeN_lt (b:Bs) (i:Nat) (h:4 * i+4<=b.length):placeN b i<4294967296:=by
 unfold placeN;exact getB_lt4 _ (by rw[xlt,xld];omega)
theorem number_any (B:Nat) (u:Value) (b:Bs) (i:Nat) (w:World) (hu:SeesB w B u b) (hi:4 * i+4<=b.length) (hb:b.length<=4096) :
 Calls prog 195 #[u,.int .i64 (i:Int)] w fun e w'=>e=.returned (.int .i64 (placeN b i:Int))/\w'=w:=by
 obtain⟨A,c,rfl,hc1,hc2⟩:=hu.mk_;have hr:=run_cut (P:=prog) 25 underlying25 1 byte_size A b.length c .i64 .i64 (4 * (i:Int)) (4 * (i:Int)+4) (by omega) (by omega) (by omega);rw[show (4 * (i:Int)).toNat=4 * i from by omega,show (4 * (i:Int)+4).toNat=4 * i+4 from by omega] at hr;have hcut:=SeesB.cut (a:=4 * i) (b:=4 * i+4) hu (by omega) hi;rw[show 4 * i+4 - 4 * i=4 by omega] at hcut hr;have hg:=lhd (get_any B _ _ w hcut);have hlt:=placeN_lt b i hi;have hp:Hid (getB ((b.drop (4 * i)).take 4)=placeN b i):=rfl;generalize getB ((b.drop (4 * i)).take 4)=p at *;have hp':=hp.out;rw[<-hp'] at hlt ⊢;have hw:IntKind.i64.wrap (p:Int)=(p:Int):=by rw[xwi];omega
 generalize cutA A c (4 * i) 1=A2 at *;generalize c - 4 * i=c2 at *;replace hp':=lhd hp';clear hcut hu
 go_enter func195,ntmps195
 go_wp2_with fail
 refine hg.out.mono ?_;rintro e w0 ⟨rfl,rfl⟩;dsimp only
 go_wp2_with fail
 go_ret
 exact⟨rfl,rfl⟩
theorem placesOk_no (b:Bs) (size j m:Nat) (h:placesOk b size j=false) (hm:j<=m):placesOk b size m=false:=by
 induction m with
 | zero=>rw[show j=0 by omega] at h;exact h
 | succ m ih=>
   by_cases hj:j=m+1
   ·rw[<-hj];exact h
   rw[placesOk,ih (by omega),Bool.false_and]
def PlacesP (b:Bs) (n size:Nat) (w:World) (e:Ending) (w':World):Prop:=
 (placesOk b size (n - 1)=true/\∃v,e=.returned (.tuple #[v,.bool (decide (size % 4=0))])/\OwnI w' w.heap.size v ((List.range n).map (fromN b)++[size])/\Below w.heap.size w w') \/
 (placesOk b size (n - 1)=false/\e=.returned (.tuple #[.slice none 0 0,.bool false])/\Below w.heap.size w w')
theorem range_step (b:Bs) (k:Nat):(List.range (k+1)).map (fromN b)=(List.range k).map (fromN b)++[fromN b k]:=by
 rw[List.range_succ,List.map_append];rfl
theorem places_any (B:Nat) (u:Value) (b:Bs) (n size:Nat) (w:World) (hu:SeesB w B u b) (hB:B<=w.heap.size) (h1:1<=n) (h2:n<=16) (hn:4 * n<=b.length) (hb:b.length<=4096) (hs:size<=4096) :
 Calls prog 196 #[u,.int .i64 (n:Int),.int .i64 (size:Int)] w (PlacesP b n size w):=by
 obtain⟨A,c,rfl,hc1,hc2⟩:=hu.mk_;have hnum:=lhd (fun W (hW:Below w.heap.size w W) (i:Nat) (hi:4 * i+4<=b.length)=>number_any B _ b i W (hu.below (hW.mono hB)) hi hb);replace hb:=lhd hb;clear hu
 go_enter func196,ntmps196
 go_wp2_with fail
 refine wp_fresh (fun W=>OwnI W w.heap.size (.slice (some ⟨w.heap.size,0,none⟩) 1 1) [0]/\Below w.heap.size w W) ⟨?_,balloc w _⟩ ?_
 ·exact World.ownsRow_lit (base:=w.heap.size) (size:=1) w #[.int .i64 0] 1 nlr (by simp[maxLen]) rfl
 rintro W1 ⟨ho,hbw⟩;replace ho:=lhd ho;replace hbw:=lhd hbw
 go_loopw [8,9,10] (fun r t _ wr=>∃j:Nat,j<n/\t=.int .i64 ((j:Int)+1)/\Hid (OwnI wr w.heap.size r ((List.range (j+1)).map (fromN b)))/\Hid (placesOk b size j=true)/\Hid (Below w.heap.size w wr)) (fun _ t _ _=>n - (intOf t).toNat)
 case atStart=>exact⟨0,by omega,rfl,ho,rfl,hbw⟩
 case round=>
  clear ho hbw;obtain⟨j,hj,rfl,ho,hok,hbw⟩:=hrel;have hsee:=ho.out.sees;have hrl:((List.range (j+1)).map (fromN b)).length=j+1:=by simp
  obtain⟨Ar,cr,rfl,-,-⟩:=hsee.mk_;obtain⟨g,o,rfl,hgB,hcell⟩:=hsee.at_ (by rw[hrl];omega);have x0:=hcell j (by rw[hrl];omega);have hgd:((List.range (j+1)).map (fromN b)).getD j 0=fromN b j:=by simp[xgd]
  rw[hgd] at x0;have hrs:=lhd (range_step b (j+1));have i1:(j:Int)<((((List.range (j+1)).map (fromN b)).length:Nat):Int):=by rw[hrl];omega
  replace hrl:=lhd hrl;clear hgd hcell hsee
  by_cases hlt:j+1<n
  ·have i0:(j:Int)+1<(n:Int):=by omega
   have hq:=lhd (hnum.out wr hbw.out (j+1) (by omega));rw[show ((j+1:Nat):Int)=(j:Int)+1 by omega] at hq;have hplt:=placeN_lt b (j+1) (by omega);have hstep:Hid (placesOk b size (j+1)=(placesOk b size j&&(decide (placeN b (j+1) % 4=0)&&decide (fromN b j<=placeN b (j+1))&&decide (placeN b (j+1)<=size)))):=rfl;have hfr:Hid (fromN b (j+1)=placeN b (j+1)):=by show _=_;simp[fromN]
   rw[hfr.out] at hrs;have hno1:Hid (placesOk b size (j+1)=false->placesOk b size (n - 1)=false):=fun h=>placesOk_no b size (j+1) (n - 1) h (by omega)
   have hfl:fromN b j<=4294967296:=by
    unfold fromN
    split
    ·omega
    exact Nat.le_of_lt (placeN_lt b j (by omega))
   generalize placeN b (j+1)=p at *;generalize fromN b j=f at *;generalize (List.range (j+1)).map (fromN b)=acc at *
   by_cases m4:p % 4=0
   ·have z4:((p:Nat):Int) % 4=0:=by omega
    by_cases mf:f<=p
    ·have zf:¬((p:Nat):Int)<(f:Int):=by omega
     by_cases ms:p<=size
     ·have zs:¬(size:Int)<(p:Int):=by omega
      have hok2:Hid (placesOk b size (j+1)=true):=by show _=_;rw[hstep.out,hok.out];simp[m4,mf,ms]
      have hal2:=balloc wr (.cells #[.int .i64 (p:Int)] 3);have ho2:=lhd (ho.out.below hal2);have hcl:=lhd (lit_int1 wr p);have hb2:=lhd (bgo hbw.out hal2);clear hal2 hstep hno1
      go_wp2_with fail
      refine hq.out.mono ?_;rintro e w0 ⟨rfl,hw0⟩;obtain rfl:=hw0.symm;dsimp only
      go_wp2_with (at_builtin;refine wpList_appI (by rfl) _ _ rfl w.heap.size _ acc rfl ho2.out _ _ [p] rfl hcl.out (by have:=hrl.out;simp;omega) hb2.out.size ?_)
      intro v' w' hW2 hb4;have hW2:=lhd hW2;have hb4:=lhd (hb2.out.trans hb4)
      go_wp2_with fail
      go_roundw
      case rel=>exact⟨j+1,by omega,by go_num,by rw[hrs.out];exact hW2.out,hok2,hb4⟩
      case measure=>simp[intOf];omega
     have zs:(size:Int)<(p:Int):=by omega
     have hno:=hno1.out (by rw[hstep.out];simp[ms])
     go_wp2_with fail
     refine hq.out.mono ?_;rintro e w0 ⟨rfl,hw0⟩;obtain rfl:=hw0.symm;dsimp only
     go_wp2_with fail
     go_returns
     exact .inr ⟨hno,rfl,hbw.out⟩
    have zf:((p:Nat):Int)<(f:Int):=by omega
    have hno:=hno1.out (by rw[hstep.out];simp[mf])
    go_wp2_with fail
    refine hq.out.mono ?_;rintro e w0 ⟨rfl,hw0⟩;obtain rfl:=hw0.symm;dsimp only
    go_wp2_with fail
    go_returns
    exact .inr ⟨hno,rfl,hbw.out⟩
   have z4:¬((p:Nat):Int) % 4=0:=by omega
   have hno:=hno1.out (by rw[hstep.out];simp[m4])
   go_wp2_with fail
   refine hq.out.mono ?_;rintro e w0 ⟨rfl,hw0⟩;obtain rfl:=hw0.symm;dsimp only
   go_wp2_with fail
   go_returns
   exact .inr ⟨hno,rfl,hbw.out⟩
  have i0:¬(j:Int)+1<(n:Int):=by omega
  have hok2:Hid (placesOk b size (n - 1)=true):=by show _=_;rw[show n - 1=j by omega];exact hok.out
  have hln:Hid ((List.range n).map (fromN b)++[size]=(List.range (j+1)).map (fromN b)++[size]):=by show _=_;rw[show n=j+1 by omega]
  generalize (List.range (j+1)).map (fromN b)=acc at *;have hal2:=balloc wr (.cells #[.int .i64 (size:Int)] 3);have ho2:=lhd (ho.out.below hal2);have hcl:=lhd (lit_int1 wr size);have hb2:=lhd (bgo hbw.out hal2);clear hal2
  by_cases m4:size % 4=0
  ·have z4:((size:Nat):Int) % 4=0:=by omega
   go_wp2_with (at_builtin;refine wpList_appI (by rfl) _ _ rfl w.heap.size _ acc rfl ho2.out _ _ [size] rfl hcl.out (by have:=hrl.out;simp;omega) hb2.out.size ?_)
   intro v' w' hW2 hb4;have hW2:=lhd hW2;have hb4:=lhd (hb2.out.trans hb4)
   go_wp2_with fail
   go_returns
   exact .inl ⟨hok2.out,v',by simp[m4]<;>omega,by rw[hln.out];exact hW2.out,hb4.out⟩
  have z4:¬((size:Nat):Int) % 4=0:=by omega
  go_wp2_with (at_builtin;refine wpList_appI (by rfl) _ _ rfl w.heap.size _ acc rfl ho2.out _ _ [size] rfl hcl.out (by have:=hrl.out;simp;omega) hb2.out.size ?_)
  intro v' w' hW2 hb4;have hW2:=lhd hW2;have hb4:=lhd (hb2.out.trans hb4)
  go_wp2_with fail
  go_returns
  exact .inl ⟨hok2.out,v',by simp[m4]<;>omega,by rw[hln.out];exact hW2.out,hb4.out⟩
theorem bclone_any (B:Nat) (u:Value) (bs:Bs) (w:World) (hu:SeesB w B u bs) (hB:B<=w.heap.size) (hlen:bs.length<=1099511627776) :
 Calls prog 92 #[u] w (Gives bs w):=by
 obtain⟨A,c,rfl,hc1,hc2⟩:=hu.mk_;cases A with
 | none=>
   have h0:bs=[]:=by
    rcases Nat.eq_zero_or_pos bs.length with h0|h0
    ·exact List.eq_nil_of_length_eq_zero h0
    obtain⟨b,o,e,_⟩:=hu.at_ h0;cases e
   subst h0;have hnil:∀W,(binOp .eql 25 (.slice none 0 c) (.slice none 0 0)).run prog W=.ok (.bool true) W:=fun W=>Lib.run_eql_slice_nil_nil W _ _ underlying25
   go_enter func92,ntmps92
   go_wp2_with fail
   go_ret
   exact⟨_,rfl,World.ownsRow_nil _ _ _ _,Below.refl _ _⟩
 | some a=>
   have hnil:∀W,(binOp .eql 25 (.slice (some a) bs.length c) (.slice none 0 0)).run prog W=.ok (.bool false) W:=fun W=>Lib.run_eql_slice_some_nil W _ _ _ underlying25
   have hl:=balloc w (.cells #[] 5);have ho:=own_made w [] (Nat.zero_le _) w.heap.size nlr;have hs:=hu.below (hl.mono hB);clear hu
   go_enter func92,ntmps92
   go_wp2_with (at_builtin;refine wpList_app (by rfl) _ _ rfl w.heap.size _ [] rfl ho B _ bs rfl hs (by simp;omega) hl.size ?_)
   intro v' w' h2 hb2
   go_wp2_with fail
   go_ret
   exact⟨v',rfl,h2,hl.trans hb2⟩
theorem placesOk_get (b:Bs) (size m:Nat) (h:placesOk b size m=true):∀j,j<m->placeN b (j+1) % 4=0/\fromN b j<=placeN b (j+1)/\placeN b (j+1)<=size:=by
 induction m with
 | zero=>intro j hj;omega
 | succ m ih=>
   intro j hj;rw[placesOk] at h;simp at h
   by_cases hjm:j=m
   ·subst hjm
    exact⟨h.2.1.1,h.2.1.2,h.2.2⟩
   exact ih h.1 j (by omega)
theorem from_le (b:Bs) (n size:Nat) (h:placesOk b size (n - 1)=true) (i:Nat) (hi:i<n):fromN b i<=size:=by
 cases i with
 | zero=>simp[fromN]
 | succ i=>
   have:=(placesOk_get b size _ h i (by omega)).2.2
   simpa [fromN] using this
theorem at_le (b:Bs) (n size:Nat) (h:placesOk b size (n - 1)=true) (i:Nat) (hi:i<n):atN b n size i<=atN b n size (i+1)/\atN b n size (i+1)<=size:=by
 unfold atN;rw[if_pos hi]
 by_cases h2:i+1<n
 ·rw[if_pos h2]
  have:=placesOk_get b size _ h i (by omega)
  have e:fromN b (i+1)=placeN b (i+1):=by simp[fromN]
  rw[e];exact⟨this.2.1,this.2.2⟩
 rw[if_neg h2];exact⟨from_le b n size h i hi,Nat.le_refl _⟩
def listN (b:Bs) (n size:Nat):List Nat:=(List.range n).map (fromN b)++[size]
theorem listN_len (b:Bs) (n size:Nat):(listN b n size).length=n+1:=by simp[listN]
theorem listN_get (b:Bs) (n size i:Nat) (h:i<=n):(listN b n size).getD i 0=atN b n size i:=by
 unfold listN atN;rw[xgd]
 by_cases h2:i<n
 ·rw[if_pos h2,xal (by simpa using h2)]
  simp[h2]
 rw[if_neg h2,xar (by simp;omega)];simp[show i - n=0 by omega]
theorem tagsN_step (b:Bs) (n k:Nat):(List.range (k+1)).map (tagN b n)=(List.range k).map (tagN b n)++[tagN b n k]:=by
 rw[List.range_succ,List.map_append];rfl
theorem dec_bad {b:Bs} {c:Int} (h:decC b=c) (hc:c≠0):decT b=[]:=by
 unfold decT;rw[if_neg (by rw[h];exact hc)]
theorem dec_long (b:Bs) (h:2048<b.length):decC b=2:=by unfold decC;rw[if_pos h]
theorem dec_short (b:Bs) (h:¬2048<b.length) (h1:b.length<4):decC b=1:=by unfold decC;rw[if_neg h,if_pos h1]
theorem dec_limit (b:Bs) (h:¬2048<b.length) (h1:¬b.length<4) (h2:placeN b 0<1\/16<placeN b 0):decC b=8:=by unfold decC;rw[if_neg h,if_neg h1,if_pos h2]
theorem dec_short2 (b:Bs) (h:¬2048<b.length) (h1:¬b.length<4) (h2:¬(placeN b 0<1\/16<placeN b 0)) (h3:b.length<8 * placeN b 0):decC b=1:=by
 unfold decC;rw[if_neg h,if_neg h1,if_neg h2,if_pos h3]
theorem dec_form (b:Bs) (h:¬2048<b.length) (h1:¬b.length<4) (h2:¬(placeN b 0<1\/16<placeN b 0)) (h3:¬b.length<8 * placeN b 0)
 (h4:¬(placesOk b (b.length - 8 * placeN b 0) (placeN b 0 - 1)=true/\(b.length - 8 * placeN b 0) % 4=0)):decC b=3:=by
 unfold decC;rw[if_neg h,if_neg h1,if_neg h2,if_neg h3,if_neg h4]
theorem dec_tags (b:Bs) (h:¬2048<b.length) (h1:¬b.length<4) (h2:¬(placeN b 0<1\/16<placeN b 0)) (h3:¬b.length<8 * placeN b 0)
 (h4:placesOk b (b.length - 8 * placeN b 0) (placeN b 0 - 1)=true/\(b.length - 8 * placeN b 0) % 4=0):decC b=checkT [] (tagsN b (placeN b 0)):=by
 unfold decC;rw[if_neg h,if_neg h1,if_neg h2,if_neg h3,if_pos h4]
def DecP (b:Bs) (w:World) (e:Ending) (w':World):Prop:=
 ∃v,e=.returned (.tuple #[v,.int .i64 (decC b)])/\SeesR w' w'.heap.size v 2 (decT b).length (tagS (decT b))/\Below w.heap.size w w'
theorem dec_nil {b:Bs} {c:Int} {w w':World} {e:Ending} (h:decC b=c) (hc:c≠0) (he:e=.returned (.tuple #[.slice none 0 0,.int .i64 c])) (hb:Below w.heap.size w w'):DecP b w e w':=by
 refine⟨.slice none 0 0,by rw[h];exact he,?_,hb⟩;rw[dec_bad h hc];exact SeesR.nil _ _ _
theorem tag_info:(prog.info? 173).map (fun i=>(i.zero,i.size,i.bytes))=some (some (.agg #[.string ⟨#[]⟩,.slice none 0 0]),2,40):=by kernel_rfl
theorem decode_any (B:Nat) (u:Value) (b:Bs) (w:World) (hu:SeesB w B u b) (hB:B<=w.heap.size) (hbl:b.length<=1048576) :
 Calls prog 125 #[u] w (DecP b w):=by
 obtain⟨A,c,rfl,hc1,hc2⟩:=hu.mk_
 by_cases g1:2048<b.length
 ·have hd:=lhd (dec_long b g1)
  have i1:(2048:Int)<(b.length:Int):=by omega
  clear hu
  go_enter func125,ntmps125
  go_wp2_with fail
  go_returns
  exact dec_nil hd.out (by omega) rfl (Below.refl _ _)
 by_cases g2:b.length<4
 ·have hd:=lhd (dec_short b g1 g2)
  have i1:¬(2048:Int)<(b.length:Int):=by omega
  have i2:(b.length:Int)<4:=by omega
  clear hu
  go_enter func125,ntmps125
  go_wp2_with fail
  go_returns
  exact dec_nil hd.out (by omega) rfl (Below.refl _ _)
 have i1:¬(2048:Int)<(b.length:Int):=by omega
 have i2:¬(b.length:Int)<4:=by omega
 have hnum:=lhd (number_any B _ b 0 w hu (by omega) (by omega));rw[show (((0:Nat)):Int)=0 from rfl] at hnum
 by_cases g3:placeN b 0<1\/16<placeN b 0
 ·have hd:=lhd (dec_limit b g1 g2 g3)
  generalize placeN b 0=n at *;rcases g3 with g3|g3
  ·have i3:(n:Int)<1:=by omega
   clear hu
   go_enter func125,ntmps125
   go_wp2_with fail
   refine hnum.out.mono ?_;rintro e w0 ⟨rfl,rfl⟩;dsimp only
   go_wp2_with fail
   go_returns
   exact dec_nil hd.out (by omega) rfl (Below.refl _ _)
  have i3:¬(n:Int)<1:=by omega
  have i4:(16:Int)<(n:Int):=by omega
  clear hu
  go_enter func125,ntmps125
  go_wp2_with fail
  refine hnum.out.mono ?_;rintro e w0 ⟨rfl,rfl⟩;dsimp only
  go_wp2_with fail
  go_returns
  exact dec_nil hd.out (by omega) rfl (Below.refl _ _)
 have i3:¬((placeN b 0:Nat):Int)<1:=by omega
 have i4:¬(16:Int)<((placeN b 0:Nat):Int):=by omega
 by_cases g4:b.length<8 * placeN b 0
 ·have hd:=lhd (dec_short2 b g1 g2 g3 g4)
  generalize placeN b 0=n at *;have i5:(b.length:Int)<8 * (n:Int):=by omega
  clear hu
  go_enter func125,ntmps125
  go_wp2_with fail
  refine hnum.out.mono ?_;rintro e w0 ⟨rfl,rfl⟩;dsimp only
  go_wp2_with fail
  go_returns
  exact dec_nil hd.out (by omega) rfl (Below.refl _ _)
 have i5:¬(b.length:Int)<8 * ((placeN b 0:Nat):Int):=by omega
 have hfm:=dec_form b g1 g2 g3 g4;have htg:=dec_tags b g1 g2 g3 g4;have hdt:decT b=if decC b=0 then tagsN b (placeN b 0) else []:=rfl
 have hr:=run_cut_from (P:=prog) 25 underlying25 1 byte_size A b.length c .i64 (8 * ((placeN b 0:Nat):Int)) (by omega) (by omega);rw[show (8 * ((placeN b 0:Nat):Int)).toNat=8 * placeN b 0 from by omega] at hr;have hcut:=SeesB.cut (a:=8 * placeN b 0) (b:=b.length) hu (by omega) nlr;rw[xtl (by rw[xld];omega)] at hcut;generalize hN:placeN b 0=n at *;have hpl:=lhd (places_any B _ b n (b.length - 8 * n) w hu hB (by omega) (by omega) (by omega) (by omega) (by omega));have hD:(b.drop (8 * n)).length=b.length - 8 * n:=xld;generalize hz:b.length - 8 * n=z at *;have hz2:(b.length:Int) - 8 * (n:Int)=(z:Int):=by omega
 generalize cutA A c (8 * n) 1=A2 at *;generalize hc3:c - 8 * n=c2 at *;have hc4:z<=c2:=by omega
 have hu':=lhd hu;have hcut':=lhd hcut;have hfm':=lhd hfm;have htg':=lhd htg;have hdt':=lhd hdt;replace hz:=lhd hz;replace hD:=lhd hD;replace hc3:=lhd hc3;replace hN:=lhd hN;clear hu hcut hfm htg hdt
 go_enter func125,ntmps125
 go_wp2_with fail
 refine hnum.out.mono ?_;rintro e w0 ⟨rfl,hw0⟩;obtain rfl:=hw0.symm;dsimp only
 go_wp2_with fail
 refine hpl.out.mono ?_;rintro e w2 hP;rcases hP with ⟨hok,v2,rfl,hL,hb2⟩|⟨hno,rfl,hb2⟩
 ·dsimp only
  by_cases m4:z % 4=0
  ·have hdc:=htg'.out ⟨hok,m4⟩
   have hat:=fun k hk=>at_le b n z hok k hk
   rw[show (List.range n).map (fromN b)++[z]=listN b n z from rfl] at hL;have hLl:=listN_len b n z;obtain⟨AL,cL,rfl,-,-⟩:=hL.sees.mk_;obtain⟨gL,oL,rfl,hgL,hLc⟩:=hL.sees.at_ (by omega);have hLc2:∀k,k<=n->w2.cell? ⟨gL,oL+k,none⟩=some (.int .i64 ((atN b n z k:Nat):Int)):=fun k hk=>by
    have:=hLc k (by omega)
    rwa [listN_get b n z k hk] at this
   have hlit:decide (z % 4=0)=true:=by rw[decide_eq_true_iff];exact m4
   rw[hlit];have hchk:=lhd (fun W u (hW:SeesR W W.heap.size u 2 (tagsN b n).length (tagS (tagsN b n)))=>tcheck_any W.heap.size u (tagsN b n) W hW nlr (by simp[tagsN];omega));have hK:Hid (∀k,k<n->∀W',Below w2.heap.size w2 W'->W'.cell? ⟨gL,oL+k,none⟩=some (.int .i64 ((atN b n z k:Nat):Int))/\W'.cell? ⟨gL,oL+(k+1),none⟩=some (.int .i64 ((atN b n z (k+1):Nat):Int))):=fun k hk W' hW'=>
    ⟨(hW'.cell (p:=⟨gL,oL+k,none⟩) hgL).trans (hLc2 k (by omega)),(hW'.cell (p:=⟨gL,oL+(k+1),none⟩) hgL).trans (hLc2 (k+1) (by omega))⟩
   have hts:Hid ((tagsN b n)=(List.range n).map (tagN b n)):=rfl;have hdt2:Hid (decT b=if checkT [] (tagsN b n)=0 then tagsN b n else []):=by show _=_;rw[hdt'.out,hdc]
   replace hdc:=lhd hdc;replace hat:=lhd hat;replace hb2:=lhd hb2;replace hLl:=lhd hLl;have hsz:(((listN b n z).length:Nat):Int)=(n:Int)+1:=by rw[hLl.out];omega
   replace hsz:=lhd hsz;clear hL hLc hLc2 hlit hfm' htg' hdt' hok hpl;generalize listN b n z=L at *
   go_wp2_with fail
   go_loopw [8,9,10,50] (fun r _ _ t wr=>∃k:Nat,k<=n/\t=.int .i64 k/\Hid (OwnR wr w2.heap.size 173 r 2 k (tagS ((List.range k).map (tagN b n))))/\Hid (Below w2.heap.size w2 wr)) (fun _ _ _ t _=>n - (intOf t).toNat)
   case atStart=>exact⟨0,by omega,rfl,OwnR.nil _ _ _ _,Below.refl _ _⟩
   case round=>
    obtain⟨k,hk,rfl,ho,hb⟩:=hrel;obtain⟨Ar,cr,rfl,-,-⟩:=ho.out.sees.mk_
    by_cases hlt:k<n
    ·have i9:(k:Int)<(n:Int):=by omega
     obtain⟨a1,a2⟩:=hat.out k hlt;have K:=lhd (hK.out k hlt);obtain⟨x0,x1⟩:=K.out wr hb.out;have hstep:=lhd (tagsN_step b n k);have htg:Hid (tagN b n k=((b.drop (4 * (n+k))).take 4,((b.drop (8 * n)).drop (atN b n z k)).take (atN b n z (k+1) - atN b n z k))):=by show _=_;rw[tagN,hz.out]
     generalize atN b n z k=p at *;generalize atN b n z (k+1)=q at *;have hb0:=hb.out;have hbw:=bgo hb2.out hb0;have hub:=hu'.out.below (hbw.mono hB);have hcb:=hcut'.out.below (hbw.mono hB);have hr3:=run_cut (P:=prog) 25 underlying25 1 byte_size A b.length c .i64 .i64 (4 * ((n:Int)+(k:Int))) (4 * ((n:Int)+(k:Int))+4) (by omega) (by omega) (by omega);rw[show (4 * ((n:Int)+(k:Int))).toNat=4 * (n+k) by omega,show (4 * ((n:Int)+(k:Int))+4).toNat=4 * (n+k)+4 by omega] at hr3;have hnm:=SeesB.cut (a:=4 * (n+k)) (b:=4 * (n+k)+4) hub (by omega) (by omega);rw[show 4 * (n+k)+4 - 4 * (n+k)=4 by omega] at hnm hr3;have hstr:=hnm.string;have hr4:=run_cut (P:=prog) 25 underlying25 1 byte_size A2 z c2 .i64 .i64 (p:Int) (q:Int) (by omega) (by omega) (by omega);rw[xnc,xnc] at hr4;have hda:=SeesB.cut (a:=p) (b:=q) hcb a1 (by rw[hD.out];exact a2);have hclo:=lhd (fun W (hW:Below wr.heap.size wr W)=>bclone_any B _ _ W (hda.below (hW.mono (Nat.le_trans hB hbw.size))) (Nat.le_trans hB (Nat.le_trans hbw.size hW.size)) (by rw[xlt];omega));generalize (b.drop (4 * (n+k))).take 4=nm at *;generalize cutA A c (4 * (n+k)) 1=A3 at *;generalize c - 4 * (n+k)=c3 at *;generalize ((b.drop (8 * n)).drop p).take (q - p)=da at *;generalize cutA A2 c2 p 1=A4 at *;generalize c2 - p=c4 at *;generalize (List.range k).map (tagN b n)=acc at *;obtain⟨ti,hti,htz,hts',htby⟩:=info_parts tag_info;have hst1:(Value.string (strB nm)).oneCell'=true:=rfl;generalize hS1:strB nm=S1 at *;replace hS1:=lhd hS1;clear hub hcb hnm hda hbw
     have i12:(k:Int)<((L.length:Nat):Int):=by have:=hsz.out;omega
     have i13:(k:Int)+1<((L.length:Nat):Int):=by have:=hsz.out;omega
     have i14:IntKind.i64.wrap ((k:Int)+1)=(k:Int)+1:=by rw[xwi];omega
     have i15:((k:Int)+1).toNat=k+1:=by omega
     have i16:(0:Int)<=(k:Int)+1:=by omega
     have i10:(p:Int)<=(q:Int):=by omega
     have i11:(q:Int)<=(c2:Int):=by omega
     go_wp2_with fail
     go_region_held3 (fun W':World=>W'.cell? ⟨gL,oL+k,none⟩=some (.int .i64 (p:Int))/\W'.cell? ⟨gL,oL+(k+1),none⟩=some (.int .i64 (q:Int)))
      (first | exact K.out _ (hb3.out.trans hb4) | exact K.out _ (by (repeat (first | exact Below.refl _ _ | (refine bgo ?_ (balloc _ _)) | (refine bgo ?_ (bdrew _)) | (refine bgo ?_ (by assumption))))) | (go_keep;done))
      (first
       | (refine step_appR (by rfl) _ _ 174 173 underlying174 (by rfl) ti _ 2 40 hti htz hts' htby (by rfl) (by omega) (by omega) w2.heap.size _ k _ (by rfl) ho2.out _ _ 1 _ [.val (.string S1),.byt da] (by rfl) hrec.out (by rfl) hel.out (by omega) hb3.out.size ?_;intro v' w' hW2 hb4)
       | (go_at_call 92;refine (hclo.out _ (bdrew wr)).mono ?_;rintro e w5 ⟨v5,rfl,h5,hb5⟩;obtain⟨A5,c5,rfl,-,-⟩:=h5.sees.mk_
          have hw5:=bgo (bdrew wr) hb5;have hal:=balloc w5 (.cells #[.string S1,.slice A5 da.length c5] 173);have hrec:Hid (Sees (w5.alloc (.cells #[.string S1,.slice A5 da.length c5] 173)) (w5.heap.size+1) (.slice (some ⟨w5.heap.size,0,none⟩) 1 1) 2 1 [.string S1,.slice A5 da.length c5]):=rec_lit w5 173 [.string S1,.slice A5 da.length c5];have ho2:=lhd ((ho.out.below hw5).below hal);have hel:=lhd (two_elt hst1 ((EltS.of_from (v:=.slice Ar k cr) h5.sees h5.from (fun j hj=>(ho.out.lt j hj).2)).below hal));have hb3:=lhd (bgo (bgo hb0 hw5) hal);clear hal h5))
     all_goals
      go_wp2_with fail
      go_roundw
      case rel=>exact⟨k+1,by omega,by go_num,by rw[hstep.out,tagS_append,htg.out,show tagS [(nm,da)]=[Spec.val (.string (strB nm)),Spec.byt da] from rfl,hS1.out];exact hW2,hb3.out.trans hb4⟩
      case measure=>simp[intOf];omega
    obtain rfl:n=k:=by omega
    have i9:¬(n:Int)<(n:Int):=by omega
    have hs9:Hid (SeesR wr wr.heap.size (.slice Ar n cr) 2 (tagsN b n).length (tagS (tagsN b n))):=by
     have h9:=ho.out.sees;rw[<-hts.out] at h9;have hl9:(tagsN b n).length=n:=by simp[tagsN]
     show SeesR _ _ _ _ _ _;rw[hl9];exact h9
    generalize tagsN b n=ts at *;have hcw:=lhd (hchk.out wr _ hs9.out);clear hchk;generalize checkT [] ts=E at *
    by_cases hE:E=0
    ·have hd0:Hid (decT b=ts):=by show _=_;rw[hdt2.out,if_pos hE]
     subst hE
     go_wp2_with fail
     refine hcw.out.mono ?_;rintro e w6 ⟨rfl,hb6⟩;dsimp only
     go_wp2_with fail
     go_returns
     exact⟨.slice Ar n cr,by rw[hdc.out];rfl,by rw[hd0.out];exact (hs9.out.below hb6).more hb6.size,bgo (bgo hb2.out hb.out) hb6⟩
    go_wp2_with fail
    refine hcw.out.mono ?_;rintro e w6 ⟨rfl,hb6⟩;dsimp only
    go_wp2_with fail
    go_returns
    exact dec_nil hdc.out hE rfl (bgo (bgo hb2.out hb.out) hb6)
  have hdc:=hfm'.out (fun h=>m4 h.2);have hlit:decide (z % 4=0)=false:=by rw[decide_eq_false_iff_not];exact m4
  rw[hlit];obtain⟨AL,cL,rfl,-,-⟩:=hL.sees.mk_;replace hdc:=lhd hdc;clear hlit hL
  go_wp2_with fail
  go_returns
  exact dec_nil hdc.out (by omega) rfl hb2
 have hdc:=hfm'.out (fun h=>by rw[hno] at h;exact absurd h.1 (by simp));replace hdc:=lhd hdc;dsimp only
 go_wp2_with fail
 go_returns
 exact dec_nil hdc.out (by omega) rfl hb2
theorem less_total:∀a b:Bs,(!Op.bytesLess a b)=(Op.bytesLess b a || b == a)
 | [],[]=>by simp[Op.bytesLess]
 | [],b :: y=>by simp[Op.bytesLess]
 | a :: x,[]=>by simp[Op.bytesLess]
 | a :: x,b :: y=>by
   have ih:=less_total x y;simp only[Op.bytesLess]
   by_cases h1:a<b
   ·have h2:¬b<a:=by rw[UInt8.lt_iff_toNat_lt] at *;omega
    have h3:¬b=a:=by intro e;subst e;exact h2 h1
    simp[h1,h2,h3]
   by_cases h2:b<a
   ·simp[h1,h2]
    exact Or.inl (fun e=>by subst e;exact h1 h2)
   ·have h3:a=b:=by
     rw[UInt8.lt_iff_toNat_lt] at *;exact UInt8.toNat_inj.1 (by omega)
    subst h3;simp[h1,ih]
theorem less_nil (a:Bs) (h:a.length=4):(Op.bytesLess a [] || a == [])=false:=by
 cases a with
 | nil=>simp at h
 | cons x y=>simp[Op.bytesLess]
def lastN (b:Bs) (n k:Nat):Bs:=if k=0 then [] else (tagN b n (k - 1)).1
theorem at_mod (b:Bs) (n size:Nat) (h:placesOk b size (n - 1)=true) (h4:size % 4=0) (i:Nat):atN b n size i % 4=0:=by
 unfold atN
 split
 ·unfold fromN
  split
  ·rfl
  have:=(placesOk_get b size _ h (i - 1) (by omega)).1
  rwa [show i - 1+1=i by omega] at this
 exact h4
theorem tagsN_get (b:Bs) (n k:Nat) (h:k<n):(tagsN b n)[k]?=some (tagN b n k):=by
 simp[tagsN,h]
theorem named_len (s:Bs) (h:namedG s=true):s.length=4:=by
 unfold namedG at h;simp at h;exact h.1
theorem rdecode_any (B:Nat) (u:Value) (b:Bs) (w:World) (hu:SeesB w B u b) (hB:B<=w.heap.size) (hbl:b.length<=1048576) :
 Calls prog 267 #[u] w (DecP b w):=by
 obtain⟨A,c,rfl,hc1,hc2⟩:=hu.mk_
 by_cases g1:2048<b.length
 ·have hd:=lhd (dec_long b g1)
  have i1:(2048:Int)<(b.length:Int):=by omega
  clear hu
  go_enter func267,ntmps267
  go_wp2_with fail
  go_returns
  exact dec_nil hd.out (by omega) rfl (Below.refl _ _)
 by_cases g2:b.length<4
 ·have hd:=lhd (dec_short b g1 g2)
  have i1:¬(2048:Int)<(b.length:Int):=by omega
  have i2:(b.length:Int)<4:=by omega
  clear hu
  go_enter func267,ntmps267
  go_wp2_with fail
  go_returns
  exact dec_nil hd.out (by omega) rfl (Below.refl _ _)
 have i1:¬(2048:Int)<(b.length:Int):=by omega
 have i2:¬(b.length:Int)<4:=by omega
 have h0t:SeesB w B (.slice A 4 c) (b.take 4):=hu.take (by omega) (by omega) hc2;have hnum:=rget_any B _ _ w h0t;rw[show getB (b.take 4)=placeN b 0 by simp[placeN]] at hnum;replace hnum:=lhd hnum;have hnlt:=placeN_lt b 0 (by omega);clear h0t;have i6:(4:Int)<=(c:Int):=by omega
 by_cases g3:placeN b 0<1\/16<placeN b 0
 ·have hd:=lhd (dec_limit b g1 g2 g3)
  generalize placeN b 0=n at *;rcases g3 with g3|g3
  ·have i3:(n:Int)<1:=by omega
   clear hu
   go_enter func267,ntmps267
   go_wp2_with fail
   refine hnum.out.mono ?_;rintro e w0 ⟨rfl,rfl⟩;dsimp only
   go_wp2_with fail
   go_returns
   exact dec_nil hd.out (by omega) rfl (Below.refl _ _)
  have i3:¬(n:Int)<1:=by omega
  have i4:(16:Int)<(n:Int):=by omega
  clear hu
  go_enter func267,ntmps267
  go_wp2_with fail
  refine hnum.out.mono ?_;rintro e w0 ⟨rfl,rfl⟩;dsimp only
  go_wp2_with fail
  go_returns
  exact dec_nil hd.out (by omega) rfl (Below.refl _ _)
 have i3:¬((placeN b 0:Nat):Int)<1:=by omega
 have i4:¬(16:Int)<((placeN b 0:Nat):Int):=by omega
 have i7:IntKind.i64.wrap ((placeN b 0:Nat):Int)=((placeN b 0:Nat):Int):=by rw[xwi];omega
 by_cases g4:b.length<8 * placeN b 0
 ·have hd:=lhd (dec_short2 b g1 g2 g3 g4)
  generalize placeN b 0=n at *;have i5:(b.length:Int)<8 * (n:Int):=by omega
  clear hu
  go_enter func267,ntmps267
  go_wp2_with fail
  refine hnum.out.mono ?_;rintro e w0 ⟨rfl,rfl⟩;dsimp only
  go_wp2_with fail
  go_returns
  exact dec_nil hd.out (by omega) rfl (Below.refl _ _)
 have i5:¬(b.length:Int)<8 * ((placeN b 0:Nat):Int):=by omega
 have hfm:=dec_form b g1 g2 g3 g4;have htg:=dec_tags b g1 g2 g3 g4;have hdt:decT b=if decC b=0 then tagsN b (placeN b 0) else []:=rfl
 have hr:=run_cut_from (P:=prog) 25 underlying25 1 byte_size A b.length c .i64 (8 * ((placeN b 0:Nat):Int)) (by omega) (by omega);rw[show (8 * ((placeN b 0:Nat):Int)).toNat=8 * placeN b 0 from by omega] at hr;have hcut:=SeesB.cut (a:=8 * placeN b 0) (b:=b.length) hu (by omega) nlr;rw[xtl (by rw[xld];omega)] at hcut;generalize hN:placeN b 0=n at *;have hD:(b.drop (8 * n)).length=b.length - 8 * n:=xld;generalize hz:b.length - 8 * n=z at *;have hz2:(b.length:Int) - 8 * (n:Int)=(z:Int):=by omega
 have hz3:z<=2048:=by omega
 have iz:IntKind.u64.wrap (z:Int)=(z:Int):=by rw[IntKind.wrap_u64];omega
 generalize cutA A c (8 * n) 1=A2 at *;generalize hc3:c - 8 * n=c2 at *;have hc4:z<=c2:=by omega
 have hget:=lhd (fun W (hW:Below w.heap.size w W) (j:Nat) (hj:4 * (j+1)+4<=b.length)=>rget_any B _ _ W (SeesB.cut (a:=4 * (j+1)) (b:=4 * (j+1)+4) (hu.below (hW.mono hB)) (by omega) hj));have hu':=lhd hu;have hcut':=lhd hcut;have hfm':=lhd hfm;have htg':=lhd htg;have hdt':=lhd hdt;replace hz:=lhd hz;replace hD:=lhd hD;replace hc3:=lhd hc3;replace hN:=lhd hN;clear hu hcut hfm htg hdt
 go_enter func267,ntmps267
 go_wp2_with fail
 refine hnum.out.mono ?_;rintro e w0 ⟨rfl,hw0⟩;obtain rfl:=hw0.symm;dsimp only
 go_wp2_with fail
 refine wp_fresh (fun W=>OwnI W w.heap.size (.slice (some ⟨w.heap.size,0,none⟩) 1 1) [0]/\Below w.heap.size w W) ⟨World.ownsRow_lit (base:=w.heap.size) (size:=1) w #[.int .i64 0] 1 nlr (by simp[maxLen]) rfl,balloc w _⟩ ?_;rintro W1 ⟨ho,hbw⟩;replace ho:=lhd ho;replace hbw:=lhd hbw;clear hnum
 go_loopw [7,8,9] (fun r t _ wr=>∃j:Nat,j<n/\t=.int .i64 (j:Int)/\Hid (OwnI wr w.heap.size r ((List.range (j+1)).map (fromN b)))/\Hid (placesOk b z j=true)/\Hid (Below w.heap.size w wr)) (fun _ t _ _=>n - (intOf t).toNat)
 case atStart=>exact⟨0,by omega,rfl,ho,rfl,hbw⟩
 case round=>
  clear ho hbw;obtain⟨j,hj,rfl,ho,hok,hbw⟩:=hrel;have hsee:=ho.out.sees;have hrl:((List.range (j+1)).map (fromN b)).length=j+1:=by simp
  obtain⟨Ar,cr,rfl,-,-⟩:=hsee.mk_;obtain⟨g,o,rfl,hgB,hcell⟩:=hsee.at_ (by rw[hrl];omega);have x0:=hcell j (by rw[hrl];omega);have hgd:((List.range (j+1)).map (fromN b)).getD j 0=fromN b j:=by simp[xgd]
  rw[hgd] at x0;have hrs:=lhd (range_step b (j+1));have i8:(j:Int)<((((List.range (j+1)).map (fromN b)).length:Nat):Int):=by rw[hrl];omega
  replace hrl:=lhd hrl;clear hgd hcell hsee
  by_cases hlt:j+1<n
  ·have i0:(j:Int)+1<(n:Int):=by omega
   have hr2:=run_cut (P:=prog) 25 underlying25 1 byte_size A b.length c .i64 .i64 (4+4 * (j:Int)) (8+4 * (j:Int)) (by omega) (by omega) (by omega);rw[show (4+4 * (j:Int)).toNat=4 * (j+1) by omega,show (8+4 * (j:Int)).toNat=4 * (j+1)+4 by omega] at hr2;have hq:=hget.out wr hbw.out j (by omega);rw[show getB ((b.drop (4 * (j+1))).take (4 * (j+1)+4 - 4 * (j+1)))=placeN b (j+1) by rw[placeN,show 4 * (j+1)+4 - 4 * (j+1)=4 by omega]] at hq;replace hq:=lhd hq;generalize cutA A c (4 * (j+1)) 1=A3 at *;generalize 4 * (j+1)+4 - 4 * (j+1)=n3 at *;generalize c - 4 * (j+1)=c3 at *;have hplt:=placeN_lt b (j+1) (by omega);have hstep:Hid (placesOk b z (j+1)=(placesOk b z j&&(decide (placeN b (j+1) % 4=0)&&decide (fromN b j<=placeN b (j+1))&&decide (placeN b (j+1)<=z)))):=rfl;have hfr:Hid (fromN b (j+1)=placeN b (j+1)):=by show _=_;simp[fromN]
   rw[hfr.out] at hrs;have hno1:Hid (placesOk b z (j+1)=false->decC b=3):=fun h=>hfm'.out (fun h2=>by rw[placesOk_no b z (j+1) (n - 1) h (by omega)] at h2;exact absurd h2.1 (by simp))
   generalize placeN b (j+1)=p at *;generalize fromN b j=f at *;generalize (List.range (j+1)).map (fromN b)=acc at *;have iw:IntKind.i64.wrap (p:Int)=(p:Int):=by rw[xwi];omega
   by_cases ms:p<=z
   ·have zs:¬(z:Int)<(p:Int):=by omega
    by_cases m4:p % 4=0
    ·have z4:((p:Nat):Int) % 4=0:=by omega
     by_cases mf:f<=p
     ·have zf:¬((p:Nat):Int)<(f:Int):=by omega
      have hok2:Hid (placesOk b z (j+1)=true):=by show _=_;rw[hstep.out,hok.out];simp[m4,mf,ms]
      have hal2:=balloc wr (.cells #[.int .i64 (p:Int)] 3);have ho2:=lhd (ho.out.below hal2);have hcl:=lhd (lit_int1 wr p);have hb2:=lhd (bgo hbw.out hal2);clear hal2 hstep hno1
      go_wp2_with fail
      refine hq.out.mono ?_;rintro e w0 ⟨rfl,hw0⟩;obtain rfl:=hw0.symm;dsimp only
      go_wp2_with (at_builtin;refine wpList_appI (by rfl) _ _ rfl w.heap.size _ acc rfl ho2.out _ _ [p] rfl hcl.out (by have:=hrl.out;simp;omega) hb2.out.size ?_)
      intro v' w' hW2 hb4;have hW2:=lhd hW2;have hb4:=lhd (hb2.out.trans hb4)
      go_wp2_with fail
      go_roundw
      case rel=>exact⟨j+1,by omega,by go_num,by rw[hrs.out];exact hW2.out,hok2,hb4⟩
      case measure=>simp[intOf];omega
     have zf:((p:Nat):Int)<(f:Int):=by omega
     have hno:=lhd (hno1.out (by rw[hstep.out];simp[mf]))
     go_wp2_with fail
     refine hq.out.mono ?_;rintro e w0 ⟨rfl,hw0⟩;obtain rfl:=hw0.symm;dsimp only
     go_wp2_with fail
     go_returns
     exact dec_nil hno.out (by omega) rfl hbw.out
    have z4:¬((p:Nat):Int) % 4=0:=by omega
    have hno:=lhd (hno1.out (by rw[hstep.out];simp[m4]))
    go_wp2_with fail
    refine hq.out.mono ?_;rintro e w0 ⟨rfl,hw0⟩;obtain rfl:=hw0.symm;dsimp only
    go_wp2_with fail
    go_returns
    exact dec_nil hno.out (by omega) rfl hbw.out
   have zs:(z:Int)<(p:Int):=by omega
   have hno:=lhd (hno1.out (by rw[hstep.out];simp[ms]))
   go_wp2_with fail
   refine hq.out.mono ?_;rintro e w0 ⟨rfl,hw0⟩;obtain rfl:=hw0.symm;dsimp only
   go_wp2_with fail
   go_returns
   exact dec_nil hno.out (by omega) rfl hbw.out
  have hjn:n=j+1:=by omega
  have i0:¬(j:Int)+1<(n:Int):=by omega
  have hokn:placesOk b z (n - 1)=true:=by rw[show n - 1=j by omega];exact hok.out
  have hLn:Hid (listN b n z=(List.range (j+1)).map (fromN b)++[z]):=by show _=_;rw[listN,hjn]
  generalize (List.range (j+1)).map (fromN b)=acc at *;replace hjn:=lhd hjn
  by_cases m4:z % 4=0
  ·have z4:((z:Nat):Int) % 4=0:=by omega
   have hal2:=balloc wr (.cells #[.int .i64 (z:Int)] 3);have ho2:=lhd (ho.out.below hal2);have hcl:=lhd (lit_int1 wr z);have hbx:=lhd (bgo hbw.out hal2);clear hal2 hrs
   go_wp2_with (at_builtin;refine wpList_appI (by rfl) _ _ rfl w.heap.size _ acc rfl ho2.out _ _ [z] rfl hcl.out (by have:=hrl.out;simp;omega) hbx.out.size ?_)
   intro v2 w2 hL hb4;have hb2:=lhd (hbx.out.trans hb4);rw[<-hLn.out] at hL;have hdc:=htg'.out ⟨hokn,m4⟩;have hat:=lhd (fun k hk=>at_le b n z hokn k hk);have hmod:=lhd (fun k=>at_mod b n z hokn m4 k);have hLl:=listN_len b n z;obtain⟨AL,cL,rfl,-,-⟩:=hL.sees.mk_;obtain⟨gL,oL,rfl,hgL,hLc⟩:=hL.sees.at_ (by omega);have hLc2:∀k,k<=n->w2.cell? ⟨gL,oL+k,none⟩=some (.int .i64 ((atN b n z k:Nat):Int)):=fun k hk=>by
    have:=hLc k (by omega)
    rwa [listN_get b n z k hk] at this
   have hK:Hid (∀k,k<n->∀W',Below w2.heap.size w2 W'->W'.cell? ⟨gL,oL+k,none⟩=some (.int .i64 ((atN b n z k:Nat):Int))/\W'.cell? ⟨gL,oL+(k+1),none⟩=some (.int .i64 ((atN b n z (k+1):Nat):Int))):=fun k hk W' hW'=>
    ⟨(hW'.cell (p:=⟨gL,oL+k,none⟩) hgL).trans (hLc2 k (by omega)),(hW'.cell (p:=⟨gL,oL+(k+1),none⟩) hgL).trans (hLc2 (k+1) (by omega))⟩
   have hdt2:Hid (decT b=if checkT [] (tagsN b n)=0 then tagsN b n else []):=by show _=_;rw[hdt'.out,hdc]
   replace hdc:=lhd hdc;have hsz:(((listN b n z).length:Nat):Int)=(n:Int)+1:=by rw[hLl];omega
   replace hsz:=lhd hsz;replace hLl:=lhd hLl;clear hL hLc hLc2 hfm' htg' hdt' hok hokn hcl ho2 hbx hb4 ho x0 i8 hrl hLn hget hgB;generalize listN b n z=L at *
   go_wp2_with fail
   go_loopw [10,11,12,109,113] (fun r t _ _ _ wr=>∃k:Nat,k<=n/\t=.int .i64 k/\Hid (OwnR wr w2.heap.size 173 r 2 k (tagS ((List.range k).map (tagN b n))))/\Hid (checkT [] (tagsN b n)=checkT (lastN b n k) ((tagsN b n).drop k))/\Hid (Below w2.heap.size w2 wr)) (fun _ t _ _ _ _=>n - (intOf t).toNat)
   case atStart=>exact⟨0,by omega,rfl,OwnR.nil _ _ _ _,rfl,Below.refl _ _⟩
   case round=>
    rename_i wr1 wr
    clear hbw;obtain⟨k,hk,rfl,ho,hck,hb⟩:=hrel;obtain⟨Ar2,cr2,rfl,-,-⟩:=ho.out.sees.mk_
    by_cases hlt:k<n
    ·have i9:(k:Int)<(n:Int):=by omega
     obtain⟨a1,a2⟩:=hat.out k hlt;have K:=lhd (hK.out k hlt);have hstep:=lhd (tagsN_step b n k);have htg:Hid (tagN b n k=((b.drop (4 * (n+k))).take 4,((b.drop (8 * n)).drop (atN b n z k)).take (atN b n z (k+1) - atN b n z k))):=by show _=_;rw[tagN,hz.out]
     have htk:=tagsN_get b n k hlt;have hcm:=checkT_step (tagsN b n) k _ (lastN b n k) htk;have hcn:=checkT_name (tagsN b n) k _ (lastN b n k) htk;have hco:=checkT_order (tagsN b n) k _ (lastN b n k) htk;have hls:lastN b n (k+1)=(tagN b n k).1:=by simp[lastN]
     have hda4:(((b.drop (8 * n)).drop (atN b n z k)).take (atN b n z (k+1) - atN b n z k)).length % 4=0:=by
      have m1:=hmod.out k;have m2:=hmod.out (k+1)
      have:=hD.out
      rw[xlt,xld]
      omega
     rw[htg.out] at hcm hcn hco hls;dsimp only at hcm hcn hco hls;generalize atN b n z k=p at *;generalize atN b n z (k+1)=q at *;have hb0:=hb.out;have hbw:=bgo hb2.out hb0;have hub:=hu'.out.below (hbw.mono hB);have hr3:=run_cut (P:=prog) 25 underlying25 1 byte_size A b.length c .i64 .i64 (4 * (n:Int)+4 * (k:Int)) (4 * (n:Int)+4 * (k:Int)+4) (by omega) (by omega) (by omega);rw[show (4 * (n:Int)+4 * (k:Int)).toNat=4 * (n+k) by omega,show (4 * (n:Int)+4 * (k:Int)+4).toNat=4 * (n+k)+4 by omega] at hr3;have hnm:=SeesB.cut (a:=4 * (n+k)) (b:=4 * (n+k)+4) hub (by omega) (by omega);rw[show 4 * (n+k)+4 - 4 * (n+k)=4 by omega] at hnm hr3;have hstr:=hnm.string;have hr4:=run_cut (P:=prog) 25 underlying25 1 byte_size A2 z c2 .i64 .i64 (p:Int) (q:Int) (by omega) (by omega) (by omega);rw[xnc,xnc] at hr4;have hda:=SeesB.cut (a:=p) (b:=q) hcut'.out a1 (by rw[hD.out];exact a2);have hdl:(((b.drop (8 * n)).drop p).take (q - p)).length=q - p:=by rw[xlt,xld,hD.out];omega
     generalize (b.drop (4 * (n+k))).take 4=nm at *;generalize cutA A c (4 * (n+k)) 1=A3 at *;generalize c - 4 * (n+k)=c3 at *;generalize ((b.drop (8 * n)).drop p).take (q - p)=da at *;rw[<-hdl] at hda hr4;generalize cutA A2 c2 p 1=A4 at *;generalize c2 - p=c4 at *;generalize tagsN b n=ts at *;have htags:∀m,k=m+1->((List.range k).map (tagN b n))[m]?=some (tagN b n m):=fun m hm=>by
      subst hm;simp
     have hlast2:∀m,k=m+1->lastN b n k=(tagN b n m).1:=fun m hm=>by
      subst hm;simp[lastN]
     have hjoin:Hid (∀W0,Below w.heap.size w W0->∀W,Below (W0.alloc (.cells #[.slice A4 da.length c4] 25)).heap.size (W0.alloc (.cells #[.slice A4 da.length c4] 25)) W->Calls prog 85 #[.slice (some ⟨W0.heap.size,0,none⟩) 1 1] W (Gives da W)):=fun W0 hW0 W hW=>by
      have hl3:=seesL_lit W0 25 (show SeesAll W0 W0.heap.size [.slice A4 da.length c4] [da] from⟨(hda.below (hW0.mono hB)).more (Nat.le_trans hB hW0.size),trivial⟩) (by simp[maxLen]);have hfl:[da].flatten=da:=by simp
      have h9:=rjoin_any _ _ [da] W (SeesL.below hl3 hW) hW.size (by rw[hfl];omega)
      rwa [hfl] at h9
     obtain⟨x0,x1⟩:=K.out wr hb0;have hrn:=fun W=>rnamed_any nm W
     generalize hac:(List.range k).map (tagN b n)=ac at *;replace hac:=lhd hac;obtain⟨ti,hti,htz,hts',htby⟩:=info_parts tag_info;have hst1:(Value.string (strB nm)).oneCell'=true:=rfl;have hl1:=strB_toList nm;generalize hS1:strB nm=S1 at *;replace hS1:=lhd hS1;clear hub hnm hda hbw;have i12:(k:Int)<((L.length:Nat):Int):=by have:=hsz.out;omega
     have i13:(k:Int)+1<((L.length:Nat):Int):=by have:=hsz.out;omega
     have i14:IntKind.i64.wrap ((k:Int)+1)=(k:Int)+1:=by rw[xwi];omega
     have i15:((k:Int)+1).toNat=k+1:=by omega
     have i16:(0:Int)<=(k:Int)+1:=by omega
     have i10:(p:Int)<=(q:Int):=by omega
     have i11:(q:Int)<=(c2:Int):=by omega
     replace hcm:=lhd hcm;replace hcn:=lhd hcn;replace hco:=lhd hco;replace hls:=lhd hls;replace hda4:=lhd hda4;replace hdl:=lhd hdl;replace htags:=lhd htags;replace hlast2:=lhd hlast2;replace htk:=lhd htk;cases hV:namedG nm with
     | false=>
       rw[hV] at hrn;have hd:Hid (decC b=11):=by show _=_;rw[hdc.out,hck.out,hcn.out hV]
       replace hrn:=lhd hrn
       go_wp2_with fail
       refine (hrn.out _).mono ?_;rintro e w6 ⟨rfl,hb6⟩;dsimp only
       go_wp2_with fail
       go_returns
       exact dec_nil hd.out (by omega) rfl (bgo (bgo hb2.out hb0) hb6)
     | true=>
       rw[hV] at hrn;replace hrn:=lhd hrn
       go_wp2_with fail
       refine (hrn.out _).mono ?_;rintro e w6 ⟨rfl,hb6⟩;have ho6:=lhd (ho.out.below hb6);have hb06:=bgo hb0 hb6;clear x0 x1;obtain⟨x0,x1⟩:=K.out w6 hb06;dsimp only
       by_cases k0:k=0
       ·have hck2:Hid (checkT [] ts=checkT (lastN b n (k+1)) (ts.drop (k+1))):=by
         show _=_;rw[hck.out,hcm.out hV (by rw[lastN,if_pos k0];exact less_nil nm (named_len nm hV)) hda4.out,hls.out]
        have ik:¬(0:Int)<(k:Int):=by omega
        replace k0:=lhd k0
        go_wp2_with fail
        go_region_held3 (fun W':World=>W'.cell? ⟨gL,oL+k,none⟩=some (.int .i64 (p:Int))/\W'.cell? ⟨gL,oL+(k+1),none⟩=some (.int .i64 (q:Int)))
         (first | exact K.out _ (hb3.out.trans hb4) | exact K.out _ (by (repeat (first | exact Below.refl _ _ | (refine bgo ?_ (balloc _ _)) | (refine bgo ?_ (bdrew _)) | (refine bgo ?_ (by assumption))))) | (go_keep;done))
         (first
          | (refine step_appR (by rfl) _ _ 174 173 underlying174 (by rfl) ti _ 2 40 hti htz hts' htby (by rfl) (by omega) (by omega) w2.heap.size _ (k) _ (by rfl) ho2.out _ _ 1 _ [.val (.string S1),.byt da] (by rfl) hrec.out (by rfl) hel.out (by omega) hb3.out.size ?_;intro v' w' hW2 hb4)
          | (go_at_call 85;refine (hjoin.out w6 (bgo hb2.out hb06) _ (by (repeat (first | exact Below.refl _ _ | (refine bgo ?_ (balloc _ _)) | (refine bgo ?_ (bdrew _)) | (refine bgo ?_ (by assumption)))))).mono ?_;rintro e w5 ⟨v5,rfl,h5,hb5⟩;obtain⟨A5,c5,rfl,-,-⟩:=h5.sees.mk_
             have hw5:Below w6.heap.size w6 w5:=bgo (bgo (balloc w6 _) (bdrew _)) hb5;have hal:=balloc w5 (.cells #[.string S1,.slice A5 da.length c5] 173);have hrec:Hid (Sees (w5.alloc (.cells #[.string S1,.slice A5 da.length c5] 173)) (w5.heap.size+1) (.slice (some ⟨w5.heap.size,0,none⟩) 1 1) 2 1 [.string S1,.slice A5 da.length c5]):=rec_lit w5 173 [.string S1,.slice A5 da.length c5];have ho2:=lhd ((ho6.out.below hw5).below hal);have hel:=lhd (two_elt hst1 ((EltS.of_from (v:=.slice Ar2 (k) cr2) h5.sees h5.from (fun j hj=>Nat.lt_of_lt_of_le (ho6.out.lt j hj).2 (balloc w6 _).size)).below hal));have hb3:=lhd (bgo (bgo hb06 hw5) hal);clear hal h5))
        all_goals
         go_wp2_with fail
         go_roundw
         case rel=>exact⟨k+1,by omega,by go_num,by rw[hstep.out,tagS_append,htg.out,show tagS [(nm,da)]=[Spec.val (.string (strB nm)),Spec.byt da] from rfl,hS1.out];exact hW2,hck2,hb3.out.trans hb4⟩
         case measure=>simp[intOf];omega
       obtain⟨m,hm⟩:∃m,k=m+1:=⟨k - 1,by omega⟩
       have ht9:=htags.out m hm;have hl9:=hlast2.out m hm;obtain⟨b9,o9,A9,c9,rfl,hb9,y0,y1,-⟩:=tag_at ho6.out.sees m _ ht9;rw[<-hl9] at y0;have hl2:=strB_toList (lastN b n k);have hlt9:=less_total (lastN b n k) nm;generalize lastN b n k=la at *;generalize strB la=S2 at *;have ik:(0:Int)<(k:Int):=by omega
       have im:(k:Int) - 1=(m:Int):=by omega
       have im2:(m:Int)<(k:Int):=by omega
       replace hm:=lhd hm;replace ht9:=lhd ht9;replace hl9:=lhd hl9;replace k0:=lhd k0;cases hp:Op.bytesLess la nm with
       | false=>
         rw[hp] at hlt9;have hd:Hid (decC b=12):=by show _=_;rw[hdc.out,hck.out,hco.out hV (by rw[<-hlt9];rfl)]
         replace hlt9:=lhd hlt9
         go_wp2_with fail
         go_returns
         exact dec_nil hd.out (by omega) rfl (bgo hb2.out hb06)
       | true=>
         rw[hp] at hlt9;have hck2:Hid (checkT [] ts=checkT (lastN b n (k+1)) (ts.drop (k+1))):=by
          show _=_;rw[hck.out,hcm.out hV (by rw[<-hlt9];rfl) hda4.out,hls.out]
         replace hlt9:=lhd hlt9
         go_wp2_with fail
         go_region_held3 (fun W':World=>W'.cell? ⟨gL,oL+k,none⟩=some (.int .i64 (p:Int))/\W'.cell? ⟨gL,oL+(k+1),none⟩=some (.int .i64 (q:Int)))
          (first | exact K.out _ (hb3.out.trans hb4) | exact K.out _ (by (repeat (first | exact Below.refl _ _ | (refine bgo ?_ (balloc _ _)) | (refine bgo ?_ (bdrew _)) | (refine bgo ?_ (by assumption))))) | (go_keep;done))
          (first
           | (refine step_appR (by rfl) _ _ 174 173 underlying174 (by rfl) ti _ 2 40 hti htz hts' htby (by rfl) (by omega) (by omega) w2.heap.size _ (k) _ (by rfl) ho2.out _ _ 1 _ [.val (.string S1),.byt da] (by rfl) hrec.out (by rfl) hel.out (by omega) hb3.out.size ?_;intro v' w' hW2 hb4)
           | (go_at_call 85;refine (hjoin.out w6 (bgo hb2.out hb06) _ (by (repeat (first | exact Below.refl _ _ | (refine bgo ?_ (balloc _ _)) | (refine bgo ?_ (bdrew _)) | (refine bgo ?_ (by assumption)))))).mono ?_;rintro e w5 ⟨v5,rfl,h5,hb5⟩;obtain⟨A5,c5,rfl,-,-⟩:=h5.sees.mk_
              have hw5:Below w6.heap.size w6 w5:=bgo (bgo (balloc w6 _) (bdrew _)) hb5;have hal:=balloc w5 (.cells #[.string S1,.slice A5 da.length c5] 173);have hrec:Hid (Sees (w5.alloc (.cells #[.string S1,.slice A5 da.length c5] 173)) (w5.heap.size+1) (.slice (some ⟨w5.heap.size,0,none⟩) 1 1) 2 1 [.string S1,.slice A5 da.length c5]):=rec_lit w5 173 [.string S1,.slice A5 da.length c5];have ho2:=lhd ((ho6.out.below hw5).below hal);have hel:=lhd (two_elt hst1 ((EltS.of_from (v:=.slice (some ⟨b9,o9,none⟩) k cr2) h5.sees h5.from (fun j hj=>Nat.lt_of_lt_of_le (ho6.out.lt j hj).2 (balloc w6 _).size)).below hal));have hb3:=lhd (bgo (bgo hb06 hw5) hal);clear hal h5))
         all_goals
          go_wp2_with fail
          go_roundw
          case rel=>exact⟨k+1,by omega,by go_num,by rw[hstep.out,tagS_append,htg.out,show tagS [(nm,da)]=[Spec.val (.string (strB nm)),Spec.byt da] from rfl,hS1.out];exact hW2,hck2,hb3.out.trans hb4⟩
          case measure=>simp[intOf];omega
    obtain rfl:n=k:=by omega
    have i9:¬(n:Int)<(n:Int):=by omega
    have hd0:Hid (decC b=0):=by
     show _=_;rw[hdc.out,hck.out,List.drop_eq_nil_of_le (by simp[tagsN])]
     rfl
    have hd1:Hid (decT b=tagsN b n):=by
     show _=_;rw[hdt2.out,<-hdc.out,hd0.out,if_pos rfl]
    have hs9:Hid (SeesR wr wr.heap.size (.slice Ar2 n cr2) 2 (tagsN b n).length (tagS (tagsN b n))):=by
     have h9:=ho.out.sees;have hl9:(tagsN b n).length=n:=by simp[tagsN]
     show SeesR _ _ _ _ _ _;rw[hl9];exact h9
    go_wp2_with fail
    go_returns
    exact⟨.slice Ar2 n cr2,by rw[hd0.out];rfl,by rw[hd1.out];exact hs9.out,bgo hb2.out hb.out⟩
  have hd:=lhd (hfm'.out (fun h=>m4 h.2));have z4:¬((z:Nat):Int) % 4=0:=by omega
  go_wp2_with fail
  go_returns
  exact dec_nil hd.out (by omega) rfl hbw.out
theorem snoc_of (l:Bs) (n:Nat) (h:l.length=n+1):∃(r:Bs) (x:UInt8),l=r++[x]/\r.length=n:=by
 have hne:l≠[]:=by intro e;rw[e] at h;simp at h
 exact⟨l.dropLast,l.getLast hne,(List.dropLast_concat_getLast hne).symm,by rw[List.length_dropLast];omega⟩
theorem valB_lt:∀(n:Nat) (l:Bs),l.length=n->valB l<256 ^ n
 | 0,l,h=>by
   have:l=[]:=List.eq_nil_of_length_eq_zero h
   subst this;simp[valB]
 | n+1,l,h=>by
   obtain⟨r,x,rfl,hr⟩:=snoc_of l n h;have ih:=valB_lt n r hr;rw[valB_append];have hx:=x.toNat_lt;have h1:valB [x]=x.toNat:=by simp[valB]
   rw[h1];simp only[xl1,Nat.pow_succ,Nat.pow_zero,Nat.one_mul]
   omega
theorem putB_val:∀(n:Nat) (l:Bs),l.length=n->putB n (valB l)=l
 | 0,l,h=>by
   have:l=[]:=List.eq_nil_of_length_eq_zero h
   subst this
   rfl
 | n+1,l,h=>by
   obtain⟨r,x,rfl,hr⟩:=snoc_of l n h;have ih:=putB_val n r hr;rw[putB,valB_append];have hx:=x.toNat_lt;have h1:valB [x]=x.toNat:=by simp[valB]
   rw[h1];simp only[xl1,Nat.pow_one];rw[show (valB r * 256+x.toNat) / 256=valB r by omega,ih]
   congr 2
   apply UInt8.toNat.inj;rw[UInt8.toNat_ofNat']
   omega
theorem putB_get4 (l:Bs) (h:l.length=4):putB 4 (getB l)=l:=by
 have h1:=valB_lt 4 l h;rw[getB_val,Nat.mod_eq_of_lt (by omega),putB_val 4 l h]
theorem putB_get8 (l:Bs) (h:l.length=8):putB 8 (getB l)=l:=by
 have h1:=valB_lt 8 l h;rw[getB_val,Nat.mod_eq_of_lt (by omega),putB_val 8 l h]
theorem place_put (b:Bs) (i:Nat) (h:4 * i+4<=b.length):putB 4 (placeN b i)=(b.drop (4 * i)).take 4:=
 putB_get4 _ (by rw[xlt,xld];omega)
theorem take_add_drop {α:Type} (l:List α) (i j:Nat):l.take i++(l.drop i).take j=l.take (i+j):=by
 rw[List.take_add]
section
variable (b:Bs) (n:Nat)
theorem at_zero (h1:1<=n) (z:Nat):atN b n z 0=0:=by unfold atN fromN;rw[if_pos (by omega),if_pos rfl]
theorem at_end (z:Nat):atN b n z n=z:=by unfold atN;rw[if_neg (by omega)]
theorem data_at (h1:1<=n) (hn:8 * n<=b.length) (h:placesOk b (b.length - 8 * n) (n - 1)=true) (k:Nat) (hk:k<=n) :
 dataT ((tagsN b n).take k)=(b.drop (8 * n)).take (atN b n (b.length - 8 * n) k)/\atN b n (b.length - 8 * n) k<=b.length - 8 * n:=by
 induction k with
 | zero=>
   rw[at_zero b n h1];exact⟨by simp[dataT],by omega⟩
 | succ k ih=>
   obtain⟨i1,i2⟩:=ih (by omega);have ha:=at_le b n (b.length - 8 * n) h k (by omega);have hg:=tagsN_get b n k (by omega);rw[dataT_step _ _ _ hg,i1];refine⟨?_,ha.2⟩;show _++(tagN b n k).2=_;unfold tagN;rw[take_add_drop]
   congr 1
   omega
theorem names_at (hn:8 * n<=b.length) (k:Nat) (hk:k<=n):namesT ((tagsN b n).take k)=(b.drop (4 * n)).take (4 * k):=by
 induction k with
 | zero=>simp[namesT]
 | succ k ih=>
   rw[namesT_step _ _ _ (tagsN_get b n k (by omega)),ih (by omega)];show _++(tagN b n k).1=_;unfold tagN;rw[show (b.drop (4 * (n+k))).take 4=((b.drop (4 * n)).drop (4 * k)).take 4 by rw[List.drop_drop];congr 2;omega,take_add_drop]
   congr 1
theorem places_at (h1:1<=n) (hn:8 * n<=b.length) (h:placesOk b (b.length - 8 * n) (n - 1)=true) (k:Nat) (hk:k<=n - 1) :
 placesT (tagsN b n) k=(b.drop 4).take (4 * k):=by
 induction k with
 | zero=>rfl
 | succ k ih=>
   obtain⟨d1,d2⟩:=data_at b n h1 hn h (k+1) (by omega);have hp:=placesOk_get b _ _ h k (by omega);have ha:atN b n (b.length - 8 * n) (k+1)=placeN b (k+1):=by
    unfold atN fromN;rw[if_pos (by omega),if_neg (by omega)]
   rw[placesT,ih (by omega),d1,xlt,xld,ha,Nat.min_eq_left (by omega),place_put b (k+1) (by omega)];rw[show (b.drop (4 * (k+1))).take 4=((b.drop 4).drop (4 * k)).take 4 by rw[List.drop_drop];congr 2;omega,take_add_drop]
   congr 1
theorem tagsN_len:(tagsN b n).length=n:=by simp[tagsN]
theorem body_back (h1:1<=n) (hn:8 * n<=b.length) (h0:placeN b 0=n) (h:placesOk b (b.length - 8 * n) (n - 1)=true):bodyT (tagsN b n)=b:=by
 have e1:(tagsN b n).take n=tagsN b n:=xtl (by rw[tagsN_len];exact Nat.le_refl _);have e2:=(data_at b n h1 hn h n (Nat.le_refl n)).1;have e3:=names_at b n hn n (Nat.le_refl n);rw[e1] at e2 e3;rw[at_end,xtl (by rw[xld];exact Nat.le_refl _)] at e2;unfold bodyT;rw[tagsN_len,places_at b n h1 hn h (n - 1) nlr,e2,e3];have e4:=place_put b 0 (by omega);rw[h0] at e4;rw[e4];rw[show b.drop (4 * 0)=b from rfl,take_add_drop,show 4+4 * (n - 1)=4 * n by omega,take_add_drop,show 4 * n+4 * n=8 * n by omega,List.take_append_drop]
end
theorem enc_back (b:Bs) (h:decC b=0):encC (decT b)=0/\encT (decT b)=b:=by
 have hd:decT b=tagsN b (placeN b 0):=by rw[decT,if_pos h]
 unfold decC at h
 split at h
 ·omega
 split at h
 ·omega
 split at h
 ·omega
 split at h
 ·omega
 split at h
 ·rename_i g1 g2 g3 g4 g5
  have hb:=body_back b (placeN b 0) (by omega) (by omega) rfl g5.1;have he:encC (tagsN b (placeN b 0))=0:=by
   unfold encC;rw[tagsN_len,if_neg (by omega),if_pos h,hb,if_neg g1]
  rw[hd];exact⟨he,by rw[encT,if_pos he,hb]⟩
 omega
theorem span_back (x:Bs) (h:unOk x=true):vS (unLo x) (unHi x)=true/\spanB (unLo x) (unHi x)=x:=by
 unfold unOk at h;simp only[Bool.and_eq_true,decide_eq_true_eq] at h;refine⟨h.2,?_⟩;have u1:∀l:Bs,u64 (wrap64 (getB l:Int))=getB l:=fun l=>by
  have:=getB_lt l
  unfold u64 wrap64
  omega
 unfold spanB unLo unHi;rw[u1,u1,putB_get8 _ (by rw[xlt];omega),putB_get8 _ (by rw[xld];omega),List.take_append_drop]
def nameS (ns:List Bs):List Spec:=ns.map fun s=>.val (.string (strB s))
def PartsP (ts:List (Bs × Bs)) (ns:List Bs) (w:World) (e:Ending) (w':World):Prop:=
 (ts.map (·.1)=ns/\∃v,e=.returned (.tuple #[v,.bool true])/\OwnL w' w.heap.size v (ts.map (·.2))/\Below w.heap.size w w') \/
 (ts.map (·.1)≠ns/\e=.returned (.tuple #[.slice none 0 0,.bool false])/\Below w.heap.size w w')
theorem name_at {w:World} {B n c:Nat} {A:Option Addr} {ns:List Bs} (h:SeesR w B (.slice A n c) 1 n (nameS ns)) (k:Nat) (s:Bs) (hk:ns[k]?=some s) :
 ∃b o,A=some ⟨b,o,none⟩/\b<B/\w.cell? ⟨b,o+k,none⟩=some (.string (strB s)):=by
 have hl:=h.1;simp only[nameS,xlm,Nat.mul_one] at hl;have hkl:=(List.getElem?_eq_some_iff.1 hk).1;obtain⟨b,o,e,hb,hc⟩:=h.at_ (by omega);obtain⟨u1,c1,f1⟩:=hc k (.val (.string (strB s))) (by simp[nameS,hk]);obtain⟨rfl,-⟩:=f1;exact⟨b,o,e,hb,c1⟩
theorem exactly_any (B B2:Nat) (u u2:Value) (ts:List (Bs × Bs)) (ns:List Bs) (w:World) (hu:SeesR w B u 2 ts.length (tagS ts)) (hu2:SeesR w B2 u2 1 ns.length (nameS ns)) (hB:B<=w.heap.size) (hB2:B2<=w.heap.size) (hn:ts.length<=1048576) :
 Calls prog 268 #[u,u2] w (PartsP ts ns w):=by
 obtain⟨A,c,rfl,-,-⟩:=hu.mk_;obtain⟨A2,c2,rfl,-,-⟩:=hu2.mk_;replace hu:=lhd hu;replace hu2:=lhd hu2
 by_cases hl:ts.length=ns.length
 ·have hl1:(ts.length:Int)=(ns.length:Int):=by omega
  have hl2:=lhd hl;clear hl
  go_enter func268,ntmps268
  go_wp2_with fail
  go_loopw [6,7] (fun r t wr=>∃k:Nat,k<=ts.length/\t=.int .i64 k/\Hid (OwnL wr w.heap.size r ((ts.map (·.2)).take k))/\Hid ((ts.map (·.1)).take k=ns.take k)/\Hid (Below w.heap.size w wr)) (fun _ t _=>ts.length - (intOf t).toNat)
  case atStart=>exact⟨0,by omega,rfl,OwnL.nil _ _,by show _=_;simp,Below.refl _ _⟩
  case round=>
   obtain⟨k,hk,rfl,ho,hnk,hb⟩:=hrel;obtain⟨Ar,cr,rfl⟩:=ho.out.shape;have hkl:((ts.map (·.2)).take k).length=k:=by rw[xlt,xlm];omega
   rw[hkl] at ho ⊢;replace hkl:=lhd hkl
   by_cases hlt:k<ts.length
   ·obtain⟨t,ht⟩:∃t,ts[k]?=some t:=⟨ts[k],xge hlt⟩
    obtain⟨s,hs⟩:∃s,ns[k]?=some s:=⟨ns[k]'(by have:=hl2.out;omega),xge (by have:=hl2.out;omega)⟩
    obtain⟨b,o,A',c',rfl,hbB,x0,x1,hd⟩:=tag_at (hu.out.below (hb.out.mono hB)) k t ht;obtain⟨b2,o2,rfl,hbB2,y0⟩:=name_at (hu2.out.below (hb.out.mono hB2)) k s hs;obtain⟨nm,da⟩:=t;dsimp only at x0 x1 hd;have l1:=strB_toList nm;have l2:=strB_toList s;have hn1:Hid ((ts.map (·.1)).take (k+1)=(ts.map (·.1)).take k++[nm]):=take_one _ _ _ (by simp[ht]);have hn2:Hid (ns.take (k+1)=ns.take k++[s]):=take_one _ _ _ hs;have hn3:Hid ((ts.map (·.2)).take (k+1)=(ts.map (·.2)).take k++[da]):=take_one _ _ _ (by simp[ht]);have hne:Hid (nm≠s->ts.map (·.1)≠ns):=fun h e=>by
     have h1:(ts.map (·.1))[k]?=some nm:=by simp[ht]
     rw[e,hs] at h1;cases h1;exact h rfl
    have i0:(k:Int)<(ts.length:Int):=by omega
    have i1:(k:Int)<(ns.length:Int):=by omega
    have hel:=lhd (Elt.of_old (v:=.slice Ar k cr) hd (Nat.le_trans hB hb.out.size) (fun j hj=>Nat.le_trans hB (ho.out.lt j hj).1));generalize (ts.map (·.2)).take k=acc at *;generalize strB nm=S1 at *;generalize strB s=S2 at *;replace ht:=lhd ht;replace hs:=lhd hs;clear hd
    by_cases hq:nm=s
    ·have hnk2:Hid ((ts.map (·.1)).take (k+1)=ns.take (k+1)):=by show _=_;rw[hn1.out,hn2.out,hnk.out,hq]
     subst hq
     go_wp2_with fail
     go_quiet (fail)
     have hdq:Below wr.heap.size wr (wr.drewN nq):=below_drewN (Below.refl _ _) nq;have ho3:=ho.out.below hdq;have x2:(wr.drewN nq).cell? ⟨b,o+k * 2+1,none⟩=some (.slice A' da.length c'):=x1;have hel3:=hel.out.below hdq;have hb3:=bgo hb.out hdq;clear x0 x1 y0;generalize wr.drewN nq=w3 at *;have hal:=balloc w3 (.cells #[.slice A' da.length c'] 25);have hbox:=lhd (one_cell w3 (.slice A' da.length c') 25);have ho4:=lhd (ho3.below hal);have hel4:=lhd (hel3.below hal);have hb4:=lhd (bgo hb3 hal);clear hdq ho3 hel3 hb3 hal
     go_wp2_with (at_builtin;refine wpList_appL (by rfl) _ _ 30 underlying30 rfl w.heap.size _ acc rfl ho4.out _ _ _ da rfl hbox.out hel4.out (by have:=hkl.out;omega) hb4.out.size ?_)
     intro v' w' hW2 hb5;have hW2:=lhd hW2;have hb5:=lhd (hb4.out.trans hb5)
     go_wp2_with fail
     go_roundw
     case rel=>exact⟨k+1,by omega,by go_num,by rw[hn3.out];exact hW2.out,hnk2,hb5⟩
     case measure=>simp[intOf];omega
    have hq2:(nm == s)=false:=by simp[hq]
    replace hq:=lhd hq
    go_wp2_with fail
    go_quiet (fail)
    go_wp2_with fail
    go_returns
    exact .inr ⟨hne.out hq.out,rfl,below_drewN hb.out _⟩
   have i0:¬(k:Int)<(ts.length:Int):=by omega
   have hall:Hid (ts.map (·.1)=ns):=by
    show _=_;have h1:=hnk.out;rw[xtl (by simp;omega),xtl (by have:=hl2.out;omega)] at h1;exact h1
   have hs9:Hid ((ts.map (·.2)).take k=ts.map (·.2)):=xtl (by simp;omega);rw[hs9.out] at ho
   go_wp2_with fail
   go_returns
   exact .inl ⟨hall.out,_,rfl,ho.out,hb.out⟩
 have hl1:¬(ts.length:Int)=(ns.length:Int):=by omega
 have hne:Hid (ts.map (·.1)≠ns):=fun e=>hl (by rw[<-e];simp)
 go_enter func268,ntmps268
 go_wp2_with fail
 go_returns
 exact .inr ⟨hne.out,rfl,Below.refl _ _⟩
theorem parts2_any (B B2:Nat) (u u2:Value) (ts:List (Bs × Bs)) (ns:List Bs) (w:World) (hu:SeesR w B u 2 ts.length (tagS ts)) (hu2:SeesR w B2 u2 1 ns.length (nameS ns)) (hB:B<=w.heap.size) (hB2:B2<=w.heap.size) (hn:ts.length<=1048576) :
 Calls prog 146 #[u,u2] w (PartsP ts ns w):=by
 obtain⟨A,c,rfl,-,-⟩:=hu.mk_;obtain⟨A2,c2,rfl,-,-⟩:=hu2.mk_;replace hu:=lhd hu;replace hu2:=lhd hu2
 by_cases hl:ts.length=ns.length
 ·have hl1:(ts.length:Int)=(ns.length:Int):=by omega
  have hl2:=lhd hl;clear hl
  go_enter func146,ntmps146
  go_wp2_with fail
  go_loopw [6,7,8,16] (fun r _ _ t wr=>∃k:Nat,k<=ts.length/\t=.int .i64 k/\Hid (OwnL wr w.heap.size r ((ts.map (·.2)).take k))/\Hid ((ts.map (·.1)).take k=ns.take k)/\Hid (Below w.heap.size w wr)) (fun _ _ _ t _=>ts.length - (intOf t).toNat)
  case atStart=>exact⟨0,by omega,rfl,OwnL.nil _ _,by show _=_;simp,Below.refl _ _⟩
  case round=>
   obtain⟨k,hk,rfl,ho,hnk,hb⟩:=hrel;obtain⟨Ar,cr,rfl⟩:=ho.out.shape;have hkl:((ts.map (·.2)).take k).length=k:=by rw[xlt,xlm];omega
   rw[hkl] at ho ⊢;replace hkl:=lhd hkl
   by_cases hlt:k<ts.length
   ·obtain⟨t,ht⟩:∃t,ts[k]?=some t:=⟨ts[k],xge hlt⟩
    obtain⟨s,hs⟩:∃s,ns[k]?=some s:=⟨ns[k]'(by have:=hl2.out;omega),xge (by have:=hl2.out;omega)⟩
    obtain⟨b,o,A',c',rfl,hbB,x0,x1,hd⟩:=tag_at (hu.out.below (hb.out.mono hB)) k t ht;obtain⟨b2,o2,rfl,hbB2,y0⟩:=name_at (hu2.out.below (hb.out.mono hB2)) k s hs;obtain⟨nm,da⟩:=t;dsimp only at x0 x1 hd;have l1:=strB_toList nm;have l2:=strB_toList s;have hn1:Hid ((ts.map (·.1)).take (k+1)=(ts.map (·.1)).take k++[nm]):=take_one _ _ _ (by simp[ht]);have hn2:Hid (ns.take (k+1)=ns.take k++[s]):=take_one _ _ _ hs;have hn3:Hid ((ts.map (·.2)).take (k+1)=(ts.map (·.2)).take k++[da]):=take_one _ _ _ (by simp[ht]);have hne:Hid (nm≠s->ts.map (·.1)≠ns):=fun h e=>by
     have h1:(ts.map (·.1))[k]?=some nm:=by simp[ht]
     rw[e,hs] at h1;cases h1;exact h rfl
    have i0:(k:Int)<(ts.length:Int):=by omega
    have i1:(k:Int)<(ns.length:Int):=by omega
    have hel:=lhd (Elt.of_old (v:=.slice Ar k cr) hd (Nat.le_trans hB hb.out.size) (fun j hj=>Nat.le_trans hB (ho.out.lt j hj).1));generalize (ts.map (·.2)).take k=acc at *;generalize strB nm=S1 at *;generalize strB s=S2 at *;replace ht:=lhd ht;replace hs:=lhd hs;clear hd;have hbA:=balloc wr (.cells #[.string S1,.slice A' da.length c'] 173);have hx:=Box.new wr 173 [.string S1,.slice A' da.length c'];change Box (wr.alloc (.cells #[.string S1,.slice A' da.length c'] 173)) _ _ _ at hx;have y1:(wr.alloc (.cells #[.string S1,.slice A' da.length c'] 173)).cell? ⟨b2,o2+k,none⟩=some (.string S2):=(hbA.cell (p:=⟨b2,o2+k,none⟩) (Nat.lt_of_lt_of_le hbB2 (Nat.le_trans hB2 hb.out.size))).trans y0;clear y0
    by_cases hq:nm=s
    ·have hnk2:Hid ((ts.map (·.1)).take (k+1)=ns.take (k+1)):=by show _=_;rw[hn1.out,hn2.out,hnk.out,hq]
     subst hq
     go_wp2_with fail
     go_quiet (fail)
     have hdq:Below wr.heap.size wr ((wr.alloc (.cells #[.string S1,.slice A' da.length c'] 173)).drewN nq):=below_drewN hbA nq;have ho3:=ho.out.below hdq;have x2:((wr.alloc (.cells #[.string S1,.slice A' da.length c'] 173)).drewN nq).cell? ⟨wr.heap.size,1,none⟩=some (.slice A' da.length c'):=hx.cell 1;have hel3:=hel.out.below hdq;have hb3:=bgo hb.out hdq;clear x0 x1 y1 hx hbA;generalize (wr.alloc (.cells #[.string S1,.slice A' da.length c'] 173)).drewN nq=w3 at *;generalize wr.heap.size=g9 at *;have hal:=balloc w3 (.cells #[.slice A' da.length c'] 25);have hbox:=lhd (one_cell w3 (.slice A' da.length c') 25);have ho4:=lhd (ho3.below hal);have hel4:=lhd (hel3.below hal);have hb4:=lhd (bgo hb3 hal);clear hdq ho3 hel3 hb3 hal
     go_wp2_with (at_builtin;refine wpList_appL (by rfl) _ _ 30 underlying30 rfl w.heap.size _ acc rfl ho4.out _ _ _ da rfl hbox.out hel4.out (by have:=hkl.out;omega) hb4.out.size ?_)
     intro v' w' hW2 hb5;have hW2:=lhd hW2;have hb5:=lhd (hb4.out.trans hb5)
     go_wp2_with fail
     go_roundw
     case rel=>exact⟨k+1,by omega,by go_num,by rw[hn3.out];exact hW2.out,hnk2,hb5⟩
     case measure=>simp[intOf];omega
    have hq2:(nm == s)=false:=by simp[hq]
    replace hq:=lhd hq
    go_wp2_with fail
    go_quiet (fail)
    go_wp2_with fail
    go_returns
    exact .inr ⟨hne.out hq.out,rfl,below_drewN (bgo hb.out hbA) _⟩
   have i0:¬(k:Int)<(ts.length:Int):=by omega
   have hall:Hid (ts.map (·.1)=ns):=by
    show _=_;have h1:=hnk.out;rw[xtl (by simp;omega),xtl (by have:=hl2.out;omega)] at h1;exact h1
   have hs9:Hid ((ts.map (·.2)).take k=ts.map (·.2)):=xtl (by simp;omega);rw[hs9.out] at ho
   go_wp2_with fail
   go_returns
   exact .inl ⟨hall.out,_,rfl,ho.out,hb.out⟩
 have hl1:¬(ts.length:Int)=(ns.length:Int):=by omega
 have hne:Hid (ts.map (·.1)≠ns):=fun e=>hl (by rw[<-e];simp)
 go_enter func146,ntmps146
 go_wp2_with fail
 go_returns
 exact .inr ⟨hne.out,rfl,Below.refl _ _⟩
end Go.Proofs.YtjgepckncogdaaaGreat
