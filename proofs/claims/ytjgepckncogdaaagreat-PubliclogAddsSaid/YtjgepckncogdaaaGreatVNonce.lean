/- Contracts of functions, walks, plain facts. Conditions: those of each theorem. -/
import Derived.Test.YtjgepckncogdaaaGreatK23
import Derived.Test.YtjgepckncogdaaaGreatVC1
set_option linter.unusedVariables false
set_option linter.unusedSimpArgs false
set_option maxRecDepth 100000
set_option maxHeartbeats 16000000
namespace Go.Proofs.YtjgepckncogdaaaGreat
open Go Go.RowKit _root_.Go.Proofs.Tryz
attribute [local go_sem ↓] Go.wp_at_zero Go.wp_at_succ
def nonceC (b x:Bs):Int:=if 2048<b.length then 2 else if x.length=32 then 0 else 3
def nonceG (b x:Bs):Bs:=if nonceC b x=0 then sha (b++x) else []
def NonP (b x:Bs) (w:World) (e:Ending) (w':World):Prop:=∃v,e=.returned (.tuple #[v,.int .i64 (nonceC b x)])/\OwnB w' w.heap.size v (nonceG b x)/\Below w.heap.size w w'
theorem non_bad {b x:Bs} {c:Int} (h:nonceC b x=c) (hc:c≠0) {w w':World} {e:Ending} (he:e=.returned (.tuple #[.slice none 0 0,.int .i64 c])) (hb:Below w.heap.size w w'):NonP b x w e w':=by
 refine⟨.slice none 0 0,by rw[h];exact he,?_,hb⟩;rw[nonceG,h,if_neg hc];exact World.ownsRow_nil _ _ _ 1
theorem non_ok {b x:Bs} {C:Int} {G:Bs} (h:nonceC b x=C) (hg:nonceG b x=G) {w w':World} {v:Value} (f:OwnB w' w.heap.size v G) (hb:Below w.heap.size w w'):NonP b x w (.returned (.tuple #[v,.int .i64 C])) w':=
 ⟨v,by rw[h],by rw[hg];exact f,hb⟩
theorem nonce_any (B B2:Nat) (u u2:Value) (b x:Bs) (w:World) (hu:SeesB w B u b) (hB:B<=w.heap.size) (hu2:SeesB w B2 u2 x) (hB2:B2<=w.heap.size) :
 Calls prog 122 #[u,u2] w (NonP b x w):=by
 have s1:=hu.more hB;have s2:=hu2.more hB2;obtain⟨A,c,rfl,-,-⟩:=hu.mk_;obtain⟨A2,c2,rfl,-,-⟩:=hu2.mk_;clear hu hu2
 by_cases h1:2048<b.length
 ·have hc:nonceC b x=2:=by rw[nonceC,if_pos h1]
  have i0:(2048:Int)<(b.length:Int):=by omega
  replace hc:=lhd hc
  go_enter func122,ntmps122
  go_wp2_with fail
  go_returns
  exact non_bad hc.out (by decide) rfl (Below.refl _ _)
 have i0:¬(2048:Int)<(b.length:Int):=by omega
 by_cases h2:x.length=32
 ·have hc:nonceC b x=0:=by rw[nonceC,if_neg h1,if_pos h2]
  have hg:Hid (nonceG b x=sha (b++x)):=by show _=_;rw[nonceG,if_pos hc]
  have i1:((x.length:Int) != 32)=false:=by simp;omega
  replace h2:=lhd h2;have hal:=balloc w (.cells #[.slice A b.length c,.slice A2 x.length c2] 25);have hlit:=seesL_lit w 25 (show SeesAll w w.heap.size [.slice A b.length c,.slice A2 x.length c2] [b,x] from⟨s1,s2,trivial⟩) (by simp[maxLen]);have hfl:[b,x].flatten=b++x:=by simp
  have hbx:(b++x).length<=1099511627776:=by rw[xla];have:=h2.out;omega
  have hj:=join_any _ _ _ _ hlit nlr (by rw[hfl];exact hbx);rw[hfl] at hj;generalize b++x=bx at *;replace hj:=lhd hj;replace hc:=lhd hc;replace hbx:=lhd hbx;clear s1 s2 hlit hfl
  go_enter func122,ntmps122
  go_wp2_with fail
  refine hj.out.mono ?_;rintro e w1 ⟨v1,rfl,f1,hb1⟩;have hs:=lhd (sum_any _ _ bx w1 f1.sees nlr hbx.out);obtain⟨A3,c3,rfl,-,-⟩:=f1.sees.mk_;have hb:=lhd (bgo hal hb1);clear hj f1 hal hb1;dsimp only
  go_wp2_with fail
  refine hs.out.mono ?_;rintro e w2 ⟨v2,rfl,f2,hb2⟩;dsimp only
  go_wp2_with fail
  go_returns
  exact non_ok hc.out hg.out (f2.mono hb.out.size) (bgo hb.out hb2)
 have hc:Hid (nonceC b x=3):=by show _=_;rw[nonceC,if_neg h1,if_neg h2]
 have i1:¬(x.length:Int)=32:=by omega
 clear h2
 go_enter func122,ntmps122
 go_wp2_with fail
 go_returns
 exact non_bad hc.out (by decide) rfl (Below.refl _ _)
theorem rnonce_any (B B2:Nat) (u u2:Value) (b x:Bs) (w:World) (hu:SeesB w B u b) (hB:B<=w.heap.size) (hu2:SeesB w B2 u2 x) (hB2:B2<=w.heap.size) :
 Calls prog 261 #[u,u2] w (NonP b x w):=by
 have s1:=hu.more hB;have s2:=hu2.more hB2;obtain⟨A,c,rfl,-,-⟩:=hu.mk_;obtain⟨A2,c2,rfl,-,-⟩:=hu2.mk_;clear hu hu2
 by_cases h1:2048<b.length
 ·have hc:nonceC b x=2:=by rw[nonceC,if_pos h1]
  have i0:(2048:Int)<(b.length:Int):=by omega
  replace hc:=lhd hc
  go_enter func261,ntmps261
  go_wp2_with fail
  go_returns
  exact non_bad hc.out (by decide) rfl (Below.refl _ _)
 have i0:¬(2048:Int)<(b.length:Int):=by omega
 by_cases h2:x.length=32
 ·have hc:nonceC b x=0:=by rw[nonceC,if_neg h1,if_pos h2]
  have hg:Hid (nonceG b x=sha (b++x)):=by show _=_;rw[nonceG,if_pos hc]
  have i1:((x.length:Int) != 32)=false:=by simp;omega
  replace h2:=lhd h2;have hal:=balloc w (.cells #[.slice A b.length c,.slice A2 x.length c2] 25);have hlit:=seesL_lit w 25 (show SeesAll w w.heap.size [.slice A b.length c,.slice A2 x.length c2] [b,x] from⟨s1,s2,trivial⟩) (by simp[maxLen]);have hfl:[b,x].flatten=b++x:=by simp
  have hbx:(b++x).length<=1099511627776:=by rw[xla];have:=h2.out;omega
  have hj:=rjoin_any _ _ _ _ hlit nlr (by rw[hfl];exact hbx);rw[hfl] at hj;generalize b++x=bx at *;replace hj:=lhd hj;replace hc:=lhd hc;replace hbx:=lhd hbx;clear s1 s2 hlit hfl
  go_enter func261,ntmps261
  go_wp2_with fail
  refine hj.out.mono ?_;rintro e w1 ⟨v1,rfl,f1,hb1⟩;have hs:=lhd (rsum_any _ _ bx w1 f1.sees nlr hbx.out);obtain⟨A3,c3,rfl,-,-⟩:=f1.sees.mk_;have hb:=lhd (bgo hal hb1);clear hj f1 hal hb1;dsimp only
  go_wp2_with fail
  refine hs.out.mono ?_;rintro e w2 ⟨v2,rfl,f2,hb2⟩;dsimp only
  go_wp2_with fail
  go_returns
  exact non_ok hc.out hg.out (f2.mono hb.out.size) (bgo hb.out hb2)
 have hc:Hid (nonceC b x=3):=by show _=_;rw[nonceC,if_neg h1,if_neg h2]
 have i1:¬(x.length:Int)=32:=by omega
 clear h2
 go_enter func261,ntmps261
 go_wp2_with fail
 go_returns
 exact non_bad hc.out (by decide) rfl (Below.refl _ _)
def linkS (ls:List (Bs × Bs × Bs)):List Spec:=ls.flatMap fun t=>[.byt t.1,.byt t.2.1,.byt t.2.2]
theorem linkS_len (ls:List (Bs × Bs × Bs)):(linkS ls).length=ls.length * 3:=by
 induction ls with
 | nil=>rfl
 | cons a r ih=>simp only[linkS,List.flatMap_cons,xla,xlc,List.length_nil] at *;omega
theorem linkS_get (ls:List (Bs × Bs × Bs)):∀(k:Nat) (t:Bs × Bs × Bs),ls[k]?=some t->(linkS ls)[k * 3]?=some (.byt t.1)/\(linkS ls)[k * 3+1]?=some (.byt t.2.1)/\(linkS ls)[k * 3+2]?=some (.byt t.2.2):=by
 induction ls with
 | nil=>intro k t h;simp at h
 | cons a r ih=>
   intro k t h;cases k with
   | zero=>
     simp at h;subst h;exact⟨rfl,rfl,rfl⟩
   | succ k=>
     rw[xqs] at h;obtain⟨h1,h2,h3⟩:=ih k t h;rw[show (k+1) * 3=k * 3+3 by omega,show k * 3+3+1=k * 3+1+3 by omega,show k * 3+3+2=k * 3+2+3 by omega];exact⟨h1,h2,h3⟩
theorem linkS_append (a b:List (Bs × Bs × Bs)):linkS (a++b)=linkS a++linkS b:=by simp[linkS]
theorem link_at {w:World} {B n c:Nat} {A:Option Addr} {ls:List (Bs × Bs × Bs)} (h:SeesR w B (.slice A n c) 3 n (linkS ls)) (k:Nat) (t:Bs × Bs × Bs) (hk:ls[k]?=some t) :
 ∃b o A1 c1 A2 c2 A3 c3,A=some ⟨b,o,none⟩/\b<B/\w.cell? ⟨b,o+k * 3,none⟩=some (.slice A1 t.1.length c1)/\SeesB w B (.slice A1 t.1.length c1) t.1 /\
  w.cell? ⟨b,o+k * 3+1,none⟩=some (.slice A2 t.2.1.length c2)/\SeesB w B (.slice A2 t.2.1.length c2) t.2.1/\w.cell? ⟨b,o+k * 3+2,none⟩=some (.slice A3 t.2.2.length c3)/\SeesB w B (.slice A3 t.2.2.length c3) t.2.2:=by
 have hl:=h.1;rw[linkS_len] at hl;have hkl:=(List.getElem?_eq_some_iff.1 hk).1;obtain⟨b,o,e,hb,hc⟩:=h.at_ (by omega);obtain⟨g1,g2,g3⟩:=linkS_get ls k t hk;obtain⟨u1,d1,f1⟩:=hc _ _ g1;obtain⟨u2,d2,f2⟩:=hc _ _ g2;obtain⟨u3,d3,f3⟩:=hc _ _ g3;have f1:SeesB w B u1 t.1:=f1;have f2:SeesB w B u2 t.2.1:=f2;have f3:SeesB w B u3 t.2.2:=f3;obtain⟨A1,c1,rfl,-,-⟩:=f1.mk_;obtain⟨A2,c2,rfl,-,-⟩:=f2.mk_;obtain⟨A3,c3,rfl,-,-⟩:=f3.mk_;exact⟨b,o,A1,c1,A2,c2,A3,c3,e,hb,d1,f1,by rw[Nat.add_assoc];exact d2,f2,by rw[Nat.add_assoc];exact d3,f3⟩
def lastA (ls:List (Bs × Bs × Bs)):Bs:=match ls.getLast? with
 | none=>[]
 | some t=>t.2.2
theorem lastA_get (ls:List (Bs × Bs × Bs)) (m:Nat) (t:Bs × Bs × Bs) (hm:ls.length=m+1) (h:ls[m]?=some t):lastA ls=t.2.2:=by
 rw[lastA,List.getLast?_eq_getElem?,hm,Nat.add_sub_cancel,h]
def nextC (ls:List (Bs × Bs × Bs)) (x:Bs):Int:=if 8<=ls.length then 8 else nonceC (lastA ls) x
def nextG (ls:List (Bs × Bs × Bs)) (x:Bs):Bs:=if 8<=ls.length then [] else nonceG (lastA ls) x
def NextP (ls:List (Bs × Bs × Bs)) (x:Bs) (w:World) (e:Ending) (w':World):Prop:=∃v,e=.returned (.tuple #[v,.int .i64 (nextC ls x)])/\OwnB w' w.heap.size v (nextG ls x)/\Below w.heap.size w w'
theorem next_bad {ls:List (Bs × Bs × Bs)} {x:Bs} (h:8<=ls.length) {w w':World} {e:Ending} (he:e=.returned (.tuple #[.slice none 0 0,.int .i64 8])) (hb:Below w.heap.size w w'):NextP ls x w e w':=by
 refine⟨.slice none 0 0,by rw[nextC,if_pos h];exact he,?_,hb⟩;rw[nextG,if_pos h];exact World.ownsRow_nil _ _ _ 1
theorem next_ok {ls:List (Bs × Bs × Bs)} {x:Bs} (h:¬8<=ls.length) {w w':World} {v:Value} {C:Int} {G:Bs} (hC:nonceC (lastA ls) x=C) (hG:nonceG (lastA ls) x=G) (f:OwnB w' w.heap.size v G) (hb:Below w.heap.size w w'):NextP ls x w (.returned (.tuple #[v,.int .i64 C])) w':=
 ⟨v,by rw[nextC,if_neg h,hC],by rw[nextG,if_neg h,hG];exact f,hb⟩
theorem rat_any (B B2:Nat) (u u2:Value) (ls:List (Bs × Bs × Bs)) (x:Bs) (w:World) (hu:SeesR w B u 3 ls.length (linkS ls)) (hB:B<=w.heap.size) (hu2:SeesB w B2 u2 x) (hB2:B2<=w.heap.size) (h8:ls.length<=8) (i:Nat) (hi:i<=ls.length) :
 Calls prog 223 #[u,.int .i64 (i:Int),u2] w (NonP (lastA (ls.take i)) x w):=by
 obtain⟨A,c,rfl,hc1,hc2⟩:=hu.mk_;have hno:=lhd (fun v a (h:SeesB w B v a)=>rnonce_any B B2 v u2 a x w h hB hu2 hB2);obtain⟨A2,c2,rfl,-,-⟩:=hu2.mk_;rcases Nat.eq_zero_or_pos i with h0|h0
 ·subst h0
  have hn:=lhd (hno.out (.slice none 0 0) [] (SeesB.nil _ _));rw[show lastA (ls.take 0)=[] from rfl];clear hno hu2 hu
  go_enter func223,ntmps223
  go_wp2_with fail
  refine hn.out.mono ?_;rintro e w2 ⟨v2,rfl,f2,hb2⟩;generalize hC:nonceC [] x=C at *;replace hC:=lhd hC;dsimp only
  go_wp2_with fail
  go_returns
  exact non_ok hC.out rfl f2 hb2
 obtain⟨m,rfl⟩:∃m,i=m+1:=⟨i - 1,by omega⟩
 obtain⟨t,ht⟩:∃t,ls[m]?=some t:=⟨ls[m]'(by omega),xge (by omega)⟩
 obtain⟨b,o,A1,c1,A4,c4,A3,c3,rfl,hb,-,-,-,-,x2,s3⟩:=link_at hu m t ht;have hl:=lastA_get (ls.take (m+1)) m t (by rw[xlt];omega) (by rw[List.getElem?_take,if_pos (by omega)];exact ht);have i0:¬((m+1:Nat):Int)=0:=by omega
 have i1:((m+1:Nat):Int) - 1=(m:Int):=by omega
 have i2:(m:Int)<(ls.length:Int):=by omega
 rw[hl];generalize t.2.2=a at *;have hn:=lhd (hno.out _ a s3);generalize lastA (ls.take (m+1))=la at *;replace hl:=lhd hl;replace ht:=lhd ht;clear hno hu2 hu s3 hc1 hc2;have i3:(((m+1:Nat):Int) == 0)=false:=by rw[beq_eq_false_iff_ne];omega
 generalize hi1:((m+1:Nat):Int)=I at *;replace hi1:=lhd hi1;have i4:IntKind.i64.wrap (I - 1)=(m:Int):=by rw[i1,xwi];have:=hi1.out;omega
 have i5:1<=I/\I<=8:=by have:=hi1.out;omega
 obtain⟨i5,i6⟩:=i5
 go_enter func223,ntmps223
 go_wp2_with fail
 refine hn.out.mono ?_;rintro e w2 ⟨v2,rfl,f2,hb2⟩;generalize hC:nonceC a x=C at *;replace hC:=lhd hC;dsimp only
 go_wp2_with fail
 go_returns
 exact non_ok hC.out rfl f2 hb2
theorem rnext_any (B B2:Nat) (u u2:Value) (ls:List (Bs × Bs × Bs)) (x:Bs) (w:World) (hu:SeesR w B u 3 ls.length (linkS ls)) (hB:B<=w.heap.size) (hu2:SeesB w B2 u2 x) (hB2:B2<=w.heap.size) :
 Calls prog 160 #[u,u2] w (NextP ls x w):=by
 by_cases h8:8<=ls.length
 ·obtain⟨A,c,rfl,hc1,hc2⟩:=hu.mk_
  obtain⟨A2,c2,rfl,-,-⟩:=hu2.mk_;clear hu hu2;have i0:(8:Int)<=(ls.length:Int):=by omega
  go_enter func160,ntmps160
  go_wp2_with fail
  go_returns
  exact next_bad h8 rfl (Below.refl _ _)
 have hat:=rat_any B B2 u u2 ls x w hu hB hu2 hB2 (by omega) ls.length nlr;rw[xtl nlr] at hat;replace hat:=lhd hat;obtain⟨A,c,rfl,hc1,hc2⟩:=hu.mk_;obtain⟨A2,c2,rfl,-,-⟩:=hu2.mk_;clear hu hu2;have i0:¬(8:Int)<=(ls.length:Int):=by omega
 go_enter func160,ntmps160
 go_wp2_with fail
 refine hat.out.mono ?_;rintro e w2 ⟨v2,rfl,f2,hb2⟩;generalize hC:nonceC (lastA ls) x=C at *;replace hC:=lhd hC;dsimp only
 go_wp2_with fail
 go_returns
 exact next_ok h8 hC.out rfl f2 hb2
abbrev LinkG:=Bs × Bs × Bs
def linkT (ls:List LinkG) (i:Nat):LinkG:=ls.getD i ([],[],[])
def linkN (ls:List LinkG) (i:Nat):Bs:=nonceG (lastA (ls.take i)) (linkT ls i).2.1
def linkC (ls:List LinkG) (i:Nat):Int:=
 if nonceC (lastA (ls.take i)) (linkT ls i).2.1=0 then dverC (linkT ls i).1 (linkN ls i) (linkT ls i).2.2 else nonceC (lastA (ls.take i)) (linkT ls i).2.1
def linkV (ls:List LinkG) (i:Nat):Int × Int:=(dverLo (linkT ls i).1 (linkN ls i) (linkT ls i).2.2,dverHi (linkT ls i).1 (linkN ls i) (linkT ls i).2.2)
def firstC (ls:List LinkG):Nat->Int
 | 0=>0
 | k+1=>if firstC ls k=0 then linkC ls k else firstC ls k
def cverC (ls:List LinkG):Int:=if 8<ls.length then 8 else firstC ls ls.length
def cverK (ls:List LinkG) (k:Nat):List (Int × Int):=(List.range k).map (linkV ls)
def cverV (ls:List LinkG):List (Int × Int):=if cverC ls=0 then cverK ls ls.length else []
def spanS (vs:List (Int × Int)):List Spec:=vs.flatMap fun v=>[.val (.int .i64 v.1),.val (.int .i64 v.2)]
theorem spanS_append (a b:List (Int × Int)):spanS (a++b)=spanS a++spanS b:=by simp[spanS]
theorem spanS_len (vs:List (Int × Int)):(spanS vs).length=vs.length * 2:=by
 induction vs with
 | nil=>rfl
 | cons a r ih=>simp only[spanS,List.flatMap_cons,xla,xlc,List.length_nil] at *;omega
theorem cverK_next (ls:List LinkG) (k:Nat):cverK ls (k+1)=cverK ls k++[linkV ls k]:=by
 rw[cverK,cverK,List.range_succ,List.map_append];rfl
theorem cverK_len (ls:List LinkG) (k:Nat):(cverK ls k).length=k:=by simp[cverK]
theorem first_ok (ls:List LinkG) (k:Nat) (h:firstC ls k=0):firstC ls (k+1)=linkC ls k:=by rw[firstC,if_pos h]
theorem first_bad (ls:List LinkG) (k n:Nat) (h:firstC ls k=0) (hc:linkC ls k≠0) (hn:k<n):firstC ls n=linkC ls k:=by
 induction n with
 | zero=>omega
 | succ n ih=>
   rw[firstC]
   by_cases e:k=n
   ·subst e
    rw[if_pos h]
   rw[ih (by omega),if_neg hc]
def CVerP (ls:List LinkG) (w:World) (e:Ending) (w':World):Prop:=
 ∃v,e=.returned (.tuple #[v,.int .i64 (cverC ls)])/\SeesR w' w'.heap.size v 2 (cverV ls).length (spanS (cverV ls))/\Below w.heap.size w w'
theorem cver_bad {ls:List LinkG} {c:Int} (h:cverC ls=c) (hc:c≠0) {w w':World} (hb:Below w.heap.size w w'):CVerP ls w (.returned (.tuple #[.slice none 0 0,.int .i64 c])) w':=by
 refine⟨_,by rw[h],?_,hb⟩;rw[cverV,if_neg (by rw[h];exact hc)];exact SeesR.nil _ _ _
theorem cver_ok {ls:List LinkG} (h:cverC ls=0) {w w':World} {v:Value} (hs:SeesR w' w'.heap.size v 2 ls.length (spanS (cverK ls ls.length))) (hb:Below w.heap.size w w'):CVerP ls w (.returned (.tuple #[v,.int .i64 0])) w':=by
 refine⟨v,by rw[h],?_,hb⟩;rw[cverV,if_pos h,cverK_len];exact hs
theorem span_info:(prog.info? 24).map (fun i=>(i.zero,i.size,i.bytes))=some (some (.agg #[.int .i64 0,.int .i64 0]),2,16):=by kernel_rfl
theorem val_elts (w:World) (v:Value) (x y:Int):∀(k:Nat) (t:Spec),[Spec.val (.int .i64 x),Spec.val (.int .i64 y)][k]?=some t->∃q,[Value.int .i64 x,.int .i64 y][k]?=some q/\EltS w v q t:=by
 intro k t h
 match k,h with
 | 0,h=>cases h;exact⟨_,rfl,rfl,rfl⟩
 | 1,h=>cases h;exact⟨_,rfl,rfl,rfl⟩
 | k+2,h=>simp at h
def OwnRF (w:World) (base:Nat) (T:TypeId) (v:Value) (size n:Nat) (ss:List Spec):Prop:=
 ss.length=n * size/\∃vs:List Value,w.ownsRow base T size v n vs/\∀(k:Nat) (s:Spec),ss[k]?=some s->∃u,vs[k]?=some u/\EltS w v u s/\From base u
theorem OwnRF.own {w:World} {base size n:Nat} {T:TypeId} {v:Value} {ss:List Spec} (h:OwnRF w base T v size n ss):OwnR w base T v size n ss:=by
 obtain⟨h0,vs,h1,h2⟩:=h;exact⟨h0,vs,h1,fun k s hk=>by obtain⟨u,e1,e2,-⟩:=h2 k s hk;exact⟨u,e1,e2⟩⟩
theorem OwnRF.nil (w:World) (base:Nat) (T:TypeId) (size:Nat):OwnRF w base T (.slice none 0 0) size 0 []:=⟨by simp,[],World.ownsRow_nil w base T size,fun k s hk=>by simp at hk⟩
theorem OwnRF.below {w w':World} {base size n:Nat} {T:TypeId} {v:Value} {ss:List Spec} (h:OwnRF w base T v size n ss) (hb:Below w.heap.size w w'):OwnRF w' base T v size n ss:=by
 obtain⟨h0,vs,h1,h2⟩:=h;exact⟨h0,vs,own_below h1 hb,fun k s hk=>by obtain⟨u,e1,e2,e3⟩:=h2 k s hk;exact⟨u,e1,e2.below hb,e3⟩⟩
theorem wp_appRF {o:Oper} {a:Act} {w:World} {K:Act->World->Prop} {Q:Exit->Act->World->Prop} (s x:Operand) (T E:TypeId) (hT:prog.underlying T=some (.slice E))
 (ho:o.op=.call { callee:=.builtin .append,args:=#[s,x],argTypes:=#[T,T] }) (i:TypeInfo) (z:Value) (size bytes:Nat) (hi:prog.info? E=some i) (hz:i.zero=some z)
 (hsz:i.size=size) (hby:i.bytes=bytes) (hzs:z.cells.size=size) (h0:0<size) (hby2:bytes<=1024)
 (base:Nat) (v:Value) (n:Nat) (ss:List Spec) (hs:a.eval s=v) (hown:OwnRF w base E v size n ss) (B:Nat) (u:Value) (m:Nat) (vs:List Value) (ts:List Spec) (hx:a.eval x=u) (hr:Sees w B u size m vs)
 (htl:ts.length=m * size) (hel:∀(k:Nat) (t:Spec),ts[k]?=some t->∃y,vs[k]?=some y/\EltS w v y t/\From base y)
 (hlen:n+m<=1048576) (hbase:base<=w.heap.size)
 (h:∀v' w',OwnRF w' base E v' size (n+m) (ss++ts)->Below base w w'->w.grownBy w' v.ownBlock->K (a.put o.dst v') w'):o.wp prog a w K Q:=by
 have hown':=OwnRF.own hown;obtain⟨hl0,xs,h1,h2⟩:=hown;have h1c:∀y∈vs,y.oneCell'=true:=by
  intro y hy;obtain⟨k,hk⟩:=List.mem_iff_getElem?.1 hy;have hkl:k<ts.length:=by
   have:=(List.getElem?_eq_some_iff.1 hk).1
   rw[hr.1] at this;omega
  obtain⟨y',e1,e2⟩:=hel k _ (xge hkl);rw[hk] at e1;cases e1;exact e2.1.fit.one
 refine wp_append_sees s x T ho base E i z size bytes hT hi hz hsz hby hzs h0 v n xs hs h1 B u m vs hx hr h1c (by unfold maxLen;omega) (Nat.le_trans (Nat.mul_le_mul hlen hby2) (by omega)) hbase ?_;intro v' w' g1 g2 g3;refine h v' w' ⟨by rw[xla,hl0,htl,Nat.add_mul],xs++vs,g1,fun k t hk=>?_⟩ (below_ownR hown' g2 hbase) g2;have hl1:xs.length=ss.length:=by rw[h1.1,hl0]
 have hst:∀{y:Value} {t:Spec},EltS w v y t->EltS w' v' y t:=fun {y t} hy=>by
  cases t with
  | val x=>exact hy
  | byt l=>exact⟨hy.grown g2,fun hm k hk=>by
   rcases g3 with e|e
   ·rw[e];exact hy.2 hm k hk
   rw[e];intro e2;cases e2;exact absurd (hy.1.blk hm _ hk) (by omega)⟩
 by_cases hkl:k<ss.length
 ·rw[xal hkl] at hk
  obtain⟨y,e1,e2⟩:=h2 k t hk;exact⟨y,by rw[xal (by omega)];exact e1,hst e2.1,e2.2⟩
 rw[xar (by omega)] at hk;obtain⟨y,e1,e2⟩:=hel (k - ss.length) t hk;exact⟨y,by rw[xar (by omega),hl1];exact e1,hst e2.1,e2.2⟩
theorem step_appRF {ops:Array Oper} {o:Oper} {a:Act} {w:World} {K:Act->World->Prop} {Q:Exit->Act->World->Prop} {X:Prop} (hgd:o.guard=none) (s x:Operand) (T E:TypeId) (hT:prog.underlying T=some (.slice E))
 (ho:o.op=.call { callee:=.builtin .append,args:=#[s,x],argTypes:=#[T,T] }) (i:TypeInfo) (z:Value) (size bytes:Nat) (hi:prog.info? E=some i) (hz:i.zero=some z)
 (hsz:i.size=size) (hby:i.bytes=bytes) (hzs:z.cells.size=size) (h0:0<size) (hby2:bytes<=1024)
 (base:Nat) (v:Value) (n:Nat) (ss:List Spec) (hs:a.eval s=v) (hown:OwnRF w base E v size n ss) (B:Nat) (u:Value) (m:Nat) (vs:List Value) (ts:List Spec) (hx:a.eval x=u) (hr:Sees w B u size m vs)
 (htl:ts.length=m * size) (hel:∀(k:Nat) (t:Spec),ts[k]?=some t->∃y,vs[k]?=some y/\EltS w v y t/\From base y)
 (hlen:n+m<=1048576) (hbase:base<=w.heap.size)
 (h:∀v' w',OwnRF w' base E v' size (n+m) (ss++ts)->Below base w w'->w.grownBy w' v.ownBlock->K (a.put o.dst v') w'):if Region.wanted o (yielded ops a.tmps)=true then Oper.wp prog o a w K Q else X:=by
 have hw:Region.wanted o (yielded ops a.tmps)=true:=by simp[Region.wanted,hgd]
 rw[if_pos hw];exact wp_appRF s x T E hT ho i z size bytes hi hz hsz hby hzs h0 hby2 base v n ss hs hown B u m vs ts hx hr htl hel hlen hbase h
theorem link_infoC:(prog.info? 108).map (fun i=>(i.zero,i.size,i.bytes))=some (some (.agg #[.slice none 0 0,.slice none 0 0,.slice none 0 0]),3,72):=by kernel_rfl
theorem link_elts {w:World} {v a b c:Value} {t:LinkG} (h1:EltS w v a (.byt t.1)) (h2:EltS w v b (.byt t.2.1)) (h3:EltS w v c (.byt t.2.2)):∀(k:Nat) (s:Spec),[Spec.byt t.1,.byt t.2.1,.byt t.2.2][k]?=some s->∃y,[a,b,c][k]?=some y/\EltS w v y s:=by
 intro k s h
 match k,h with
 | 0,h=>cases h;exact⟨_,rfl,h1⟩
 | 1,h=>cases h;exact⟨_,rfl,h2⟩
 | 2,h=>cases h;exact⟨_,rfl,h3⟩
 | k+3,h=>simp at h
theorem linkS_take (ls:List LinkG) (k:Nat) (t:LinkG) (h:ls[k]?=some t):linkS (ls.take (k+1))=linkS (ls.take k)++[.byt t.1,.byt t.2.1,.byt t.2.2]:=by
 rw[List.take_add_one,linkS_append,h]
 rfl
def addC (ls:List LinkG) (t:LinkG):Int:=if nextC ls t.2.1=0 then dverC t.1 (nextG ls t.2.1) t.2.2 else nextC ls t.2.1
def addL (ls:List LinkG) (t:LinkG):List LinkG:=if addC ls t=0 then ls++[t] else []
def addV (ls:List LinkG) (t:LinkG):Int × Int:=if addC ls t=0 then (dverLo t.1 (nextG ls t.2.1) t.2.2,dverHi t.1 (nextG ls t.2.1) t.2.2) else (0,0)
section
variable {w w':World} {base n size:Nat} {T:TypeId} {v:Value} {ss:List Spec}
theorem OwnR.poke {G j:Nat} {T':TypeId} {v':Value} {xs:List Value} (h:OwnR w base T v size n ss) (hG:G<base) (hbx:Box w G T' xs) (hno:NoByte xs):OwnR (w.setCell ⟨G,j,none⟩ v') base T v size n ss:=by
 have hlt:=h.lt;obtain⟨h0,vs,h1,h2⟩:=h;have hne:v.ownBlock≠some G:=fun e=>by have:=(hlt G e).1;omega
 refine⟨h0,vs,h1.kept (setCell_grown w G j v') (.inr hne),fun k s hk=>?_⟩;obtain⟨u,e1,e2⟩:=h2 k s hk;refine⟨u,e1,?_⟩;cases s with
 | val x=>exact e2
 | byt l=>exact⟨SeesB.more (e2.1.stay fun hl k hk p hp=>World.cell?_setCell_other w _ p v' (fun e=>e2.1.notin hbx hno hl (by rw[hk,<-hp,<-e]))) (by simp[World.setCell]),e2.2⟩
theorem before {w7 X w8:World} (h:Below w7.heap.size w7 X) (h8:Below X.heap.size X w8):w7.heap.size<=X.heap.size:=h.size
end
end Go.Proofs.YtjgepckncogdaaaGreat
