/- Contracts of functions, walks, plain facts. Conditions: those of each theorem. -/
import Derived.Test.YtjgepckncogdaaaGreatVDecB
set_option linter.unusedVariables false
set_option linter.unusedSimpArgs false
set_option maxRecDepth 100000
set_option maxHeartbeats 16000000
namespace Go.Proofs.YtjgepckncogdaaaGreat
open Go Go.RowKit _root_.Go.Proofs.Tryz
def DecOut (b:Bs) (ls:List Lk) (f s:Int) (c:Int):Prop:=
 ∃o,FieldsR b o/\match o with
  | none=>ls=[]/\f=0/\s=0/\c=1
  | some l=>∃d,DecL l d/\match d with
    | none=>ls=[]/\f=0/\s=0/\c=3
    | some p=>ls=p.1/\f=(p.2.1:Int)/\s=(p.2.2:Int)/\c=0
theorem DecOut.uniq {b:Bs} {ls ls':List Lk} {f f' s s' c c':Int} (h:DecOut b ls f s c) (h':DecOut b ls' f' s' c'):ls=ls'/\f=f'/\s=s'/\c=c':=by
 obtain⟨o,h1,h2⟩:=h;obtain⟨o',h1',h2'⟩:=h';obtain rfl:=h1.uniq h1';cases o with
 | none=>
   obtain⟨rfl,rfl,rfl,rfl⟩:=h2;obtain⟨rfl,rfl,rfl,rfl⟩:=h2';exact⟨rfl,rfl,rfl,rfl⟩
 | some l=>
   obtain⟨d,h3,h4⟩:=h2;obtain⟨d',h3',h4'⟩:=h2';obtain rfl:=h3.uniq h3';cases d with
   | none=>
     obtain⟨rfl,rfl,rfl,rfl⟩:=h4;obtain⟨rfl,rfl,rfl,rfl⟩:=h4';exact⟨rfl,rfl,rfl,rfl⟩
   | some p=>
     obtain⟨rfl,rfl,rfl,rfl⟩:=h4;obtain⟨rfl,rfl,rfl,rfl⟩:=h4';exact⟨rfl,rfl,rfl,rfl⟩
theorem DecOut.few {b:Bs} {ls:List Lk} {f s c:Int} (h:DecOut b ls f s c):ls.length<=1048576:=by
 obtain⟨o,h1,h2⟩:=h;cases o with
 | none=>obtain⟨rfl,-⟩:=h2;simp
 | some l=>
   obtain⟨d,h3,h4⟩:=h2;cases d with
   | none=>obtain⟨rfl,-⟩:=h4;simp
   | some p=>obtain⟨rfl,-⟩:=h4;have:=h3.2.1;omega
theorem decOut_of {b:Bs} {w w':World} {e:Ending} (h:FDecP b w e w'):∃ls f s c v,DecOut b ls f s c/\e=.returned (.tuple #[.agg #[v,.int .i64 f,.int .i64 s],.int .i64 c])/\SeesR w' w'.heap.size v 3 ls.length (linkS ls)/\Below w.heap.size w w':=by
 obtain⟨o,h1,h2,hb⟩:=h;cases o with
 | none=>exact⟨[],0,0,1,.slice none 0 0,⟨none,h1,rfl,rfl,rfl,rfl⟩,h2,SeesR.nil _ _ _,hb⟩
 | some l=>
   obtain⟨d,h3,h4⟩:=h2;cases d with
   | none=>exact⟨[],0,0,3,.slice none 0 0,⟨some l,h1,none,h3,rfl,rfl,rfl,rfl⟩,h4,SeesR.nil _ _ _,hb⟩
   | some p=>
     obtain⟨v,h5,h6⟩:=h4;exact⟨p.1,_,_,0,v,⟨some l,h1,some p,h3,rfl,rfl,rfl,rfl⟩,h5,h6,hb⟩
theorem decOut_enc {ls:List Lk} {f s:Int} (hc:fencC ls f s=0) (hl:ls.length<=8->(wrF (encF ls 0 0)).length<=65535):DecOut (fencB ls f s) ls f s 0:=by
 have h8:ls.length<=8/\(0<=f/\f<=255/\0<=s/\s<=255):=by
  unfold fencC at hc
  split at hc
  ·omega
  split at hc
  ·rename_i g1 g2;exact⟨by omega,g2⟩
  omega
 rw[fencB,if_pos hc];refine⟨some (encF ls f.toNat s.toNat),⟨enc_okF (by rw[encF_total _ _ _ 0 0];exact hl h8.1),rfl⟩,some (ls,f.toNat,s.toNat),fdec_enc h8.1 (by omega) (by omega),rfl,?_,?_,rfl⟩
 ·show f=((f.toNat:Nat):Int);omega
 show s=((s.toNat:Nat):Int);omega
theorem fencB_len {ls:List Lk} {f s:Int} (hl:ls.length<=8->(wrF (encF ls 0 0)).length<=65535):(fencB ls f s).length<=65535:=by
 unfold fencB
 split
 ·rename_i hc
  rw[encF_total _ _ _ 0 0];refine hl ?_;unfold fencC at hc
  split at hc
  ·omega
  omega
 simp
attribute [local go_sem ↓] Go.wp_at_zero Go.wp_at_succ
def nameQ (b P:Bs):Prop:=∃ls f s,DecOut b ls f s 0/\f<(ls.length:Int)/\(linkT ls f.toNat).1=P
def NamR (es:List Bs) (P:Bs):Nat->List Int->Prop
 | 0,is=>is=[]
 | k+1,is=>∃is0,NamR es P k is0/\(nameQ (es.getD k []) P/\is=is0++[(k:Int)]\/¬nameQ (es.getD k []) P/\is=is0)
theorem NamR.uniq {es:List Bs} {P:Bs}:∀{k:Nat} {is js:List Int},NamR es P k is->NamR es P k js->is=js
 | 0,_,_,h1,h2=>h1.trans h2.symm
 | k+1,_,_,⟨a,h1,h2⟩,⟨b,g1,g2⟩=>by
   obtain rfl:=NamR.uniq h1 g1;rcases h2 with ⟨x,rfl⟩|⟨x,rfl⟩<;>rcases g2 with ⟨y,rfl⟩|⟨y,rfl⟩
   ·rfl
   ·exact absurd x y
   ·exact absurd y x
   rfl
theorem NamR.len {es:List Bs} {P:Bs}:∀{k:Nat} {is:List Int},NamR es P k is->is.length<=k
 | 0,_,h=>by rw[show _=[] from h];simp
 | k+1,_,⟨a,h1,h2⟩=>by
   have:=NamR.len h1
   rcases h2 with ⟨-,rfl⟩|⟨-,rfl⟩
   ·simp;omega
   omega
theorem decOut_zero {b:Bs} {ls:List Lk} {f s c:Int} (h:DecOut b ls f s c):c=0\/c=1\/c=3:=by
 obtain⟨o,-,h2⟩:=h;cases o with
 | none=>exact .inr (.inl h2.2.2.2)
 | some l=>
   obtain⟨d,-,h4⟩:=h2;cases d with
   | none=>exact .inr (.inr h4.2.2.2)
   | some p=>exact .inl h4.2.2.2
theorem decOut_pos {b:Bs} {ls:List Lk} {f s c:Int} (h:DecOut b ls f s c):0<=f/\0<=s:=by
 obtain⟨o,-,h2⟩:=h;cases o with
 | none=>obtain⟨-,rfl,rfl,-⟩:=h2;omega
 | some l=>
   obtain⟨d,-,h4⟩:=h2;cases d with
   | none=>obtain⟨-,rfl,rfl,-⟩:=h4;omega
   | some p=>obtain⟨-,rfl,rfl,-⟩:=h4;omega
theorem nameQ_iff {b P:Bs} {ls:List Lk} {f s c:Int} (h:DecOut b ls f s c):nameQ b P↔c=0/\f<(ls.length:Int)/\(linkT ls f.toNat).1=P:=by
 constructor
 ·rintro⟨ls',f',s',h',h1,h2⟩
  obtain⟨rfl,rfl,rfl,rfl⟩:=h'.uniq h;exact⟨rfl,h1,h2⟩
 rintro⟨rfl,h1,h2⟩;exact⟨ls,f,s,h,h1,h2⟩
def intS (is:List Int):List Spec:=is.map fun x=>Spec.val (.int .i64 x)
theorem intS_app (is:List Int) (x:Int):intS (is++[x])=intS is++[Spec.val (.int .i64 x)]:=by simp[intS]
theorem ownR_ints {w:World} {base:Nat} {v:Value} {is:List Int} (h:OwnR w base 3 v 1 is.length (intS is)):SeesT w w.heap.size v is:=by
 obtain⟨hl,vs,h1,h2⟩:=h.sees;have hv:vs=is.map fun x=>Value.int .i64 x:=by
  have hlen:vs.length=is.length:=by have:=h1.1;omega
  refine List.ext_getElem? fun k=>?_
  by_cases hk:k<is.length
  ·obtain⟨u,e1,e2⟩:=h2 k (.val (.int .i64 is[k])) (by simp[intS,hk])
   rw[e1,e2.1,xgm,xge hk]
   rfl
  rw[List.getElem?_eq_none (by omega),List.getElem?_eq_none (by simp;omega)]
 rw[hv] at h1;exact h1
def NamedP (es:List Bs) (P:Bs) (w:World) (e:Ending) (w':World):Prop:=∃v is,e=.returned (.tuple #[v,.int .i64 0])/\NamR es P es.length is/\SeesT w' w'.heap.size v is/\Below w.heap.size w w'
theorem int_infoN:(prog.info? 3).map (fun i=>(i.zero,i.size,i.bytes))=some (some (.int .i64 0),1,8):=by kernel_rfl
theorem one_val {w:World} {v:Value} (x:Int):∀(k:Nat) (t:Spec),[Spec.val (.int .i64 x)][k]?=some t->∃z,[Value.int .i64 x][k]?=some z/\EltS w v z t:=by
 intro k t hk;rcases k with _|k
 ·cases hk
  exact⟨_,rfl,rfl,rfl⟩
 simp at hk
theorem lnamed_any (es:List Bs) (P:Bs) (u u2:Value) (w:World) (hu:SeesL w w.heap.size u es) (hu2:SeesB w w.heap.size u2 P) (hn:es.length<=64) (hl:∀l∈es,l.length<=65535) :
 Calls prog 30 #[.agg #[u],u2] w (NamedP es P w):=by
 obtain⟨A,c,rfl,-,-⟩:=hu.mk_;obtain⟨A2,c2,rfl,-,-⟩:=hu2.mk_;have hx:=Box.new w 44 [.slice A es.length c];change Box (w.alloc (.cells #[.slice A es.length c] 44)) _ _ _ at hx;have hal:=lhd (balloc w (.cells #[.slice A es.length c] 44));have y0:=box1_cell hx;have hen:=lhd (fun W=>entries_any A es.length c W hn);obtain⟨ti,hti,htz,hts,htb⟩:=info_parts int_infoN;replace hti:=lhd hti;replace htz:=lhd htz;replace hts:=lhd hts;replace htb:=lhd htb;replace hu:=lhd hu;replace hu2:=lhd hu2;replace hl:=lhd hl;clear hx
 go_enter func30,ntmps30
 go_wp2_with fail
 refine (hen.out _).mono ?_;rintro e w1 ⟨rfl,hb1⟩;replace hal:=lhd (bgo hal.out hb1);clear y0 hb1 hen;dsimp only
 go_wp2_with fail
 go_loopw [8,23] (fun r t wr=>∃(k:Nat) (is:List Int),k<=es.length/\t=.int .i64 k/\Hid (NamR es P k is)/\Hid (OwnR wr w.heap.size 3 r 1 is.length (intS is))/\Hid (Below w.heap.size w wr)) (fun _ t _=>es.length - (intOf t).toNat)
 case atStart=>exact⟨0,[],by omega,rfl,rfl,OwnR.nil _ _ _ _,hal⟩
 case round=>
  clear hal;obtain⟨k,is,hk,rfl,hR,ho,hb⟩:=hrel;obtain⟨Ar,cr,rfl,-,-⟩:=ho.out.sees.mk_
  by_cases hlt:k<es.length
  ·have i1:(k:Int)<(es.length:Int):=by omega
   have i2:(0:Int)<=(k:Int):=by omega
   obtain⟨b,o,rfl,hbB,hz⟩:=(seesL_of hu.out nlr hb.out).at_ (by omega);obtain⟨A3,c3,z1,-,-,z2⟩:=hz k hlt;have hlb:=hl.out (es.getD k []) (by rw[xgd,xge hlt];exact xgx hlt);have hsu:=lhd (seesB_of hu2.out nlr hb.out);have hN:Hid (∀is',(nameQ (es.getD k []) P/\is'=is++[(k:Int)]\/¬nameQ (es.getD k []) P/\is'=is)->NamR es P (k+1) is'):=fun is' h=>⟨is,hR.out,h⟩
   have hil:Hid (is.length<=1048575):=by show _<=_;have:=hR.out.len;omega
   clear hR hz;generalize es.getD k []=d at *;have hdc:=lhd (bdecode_any _ d wr z2 hlb);clear hlb z2
   go_wp2_with fail
   refine hdc.out.mono ?_;intro e w2 h2;obtain⟨ls,f,s,q,v,hO,rfl,sv,hb2⟩:=decOut_of h2;have hio:=lhd (nameQ_iff (P:=P) hO);obtain⟨hf0,hs0⟩:=decOut_pos hO;have hq:=lhd (decOut_zero hO);have hlen:=hO.few;clear h2 hdc z1 hO;obtain⟨Av,cv,rfl,-,-⟩:=sv.mk_;obtain⟨g,rfl⟩:=Int.eq_ofNat_of_zero_le hf0;have hal2:=balloc w2 (.cells #[.slice Av ls.length cv,.int .i64 (g:Int),.int .i64 s] 133);have hx:=Box.new w2 133 [.slice Av ls.length cv,.int .i64 (g:Int),.int .i64 s];change Box (w2.alloc (.cells #[.slice Av ls.length cv,.int .i64 (g:Int),.int .i64 s] 133)) _ _ _ at hx;have hb3:=bgo hb2 hal2;replace ho:=lhd (ho.out.below hb3);replace hsu:=lhd (seesB_of hsu.out nlr hb3);replace hb:=lhd (bgo hb.out hb3);replace sv:=SeesR.more (SeesR.below sv hal2) hal2.size;obtain⟨y0,y1,y2,-,-,-⟩:=box3_cells hx;clear hb2 hal2 hb3 hx;dsimp only
   go_upto_region 9 with (fail)
   generalize w2.alloc (.cells #[.slice Av ls.length cv,.int .i64 (g:Int),.int .i64 s] 133)=W2 at *;generalize w2.heap.size=g11 at *;rcases hq.out with rfl|rfl|rfl
   ·by_cases hg:g<ls.length
    ·have i4:(g:Int)<(ls.length:Int):=by omega
     have i5:(0:Int)<=(g:Int):=by omega
     obtain⟨b4,o4,A4,c4,A5,c5,A6,c6,rfl,hb4,z1,s1,-⟩:=link_at sv g (linkT ls g) (by rw[linkT,xgd,xge hg];rfl);have heq:=lhd (equal_any _ _ _ _ _ _ W2 s1 hsu.out);replace hio:Hid (nameQ d P↔((linkT ls g).1 == P)=true):=by show _↔_;rw[hio.out,beq_iff_eq,xnc];exact⟨fun h=>h.2.2,fun h=>⟨rfl,i4,h⟩⟩
     clear sv s1 hb4 hlen;generalize ((linkT ls g).1 == P)=E at *;generalize (linkT ls g).1=lk at *;cases E with
     | true=>
       have hyes:Hid (NamR es P (k+1) (is++[(k:Int)])):=hN.out _ (.inl ⟨hio.out.2 rfl,rfl⟩);clear hN hio;have hal3:=balloc W2 (.cells #[.int .i64 (k:Int)] 3);have hrec:Hid (Sees (W2.alloc (.cells #[.int .i64 (k:Int)] 3)) (W2.heap.size+1) (.slice (some ⟨W2.heap.size,0,none⟩) 1 1) 1 1 [.int .i64 (k:Int)]):=rec_lit W2 3 [.int .i64 (k:Int)];replace ho:=lhd (ho.out.below hal3);replace hb:=lhd (bgo hb.out hal3);clear hal3
       go_wp2_with (first
        | (go_at_call 88;refine heq.out.mono ?_;rintro e w3 ⟨rfl,rfl⟩)
        | (at_builtin;refine wpList_appR (by rfl) _ _ 55 3 underlying55 (by rfl) ti _ 1 8 hti.out htz.out hts.out htb.out (by rfl) (by omega) (by omega) w.heap.size _ is.length _ (by rfl) ho.out _ _ 1 _ [.val (.int .i64 (k:Int))] (by rfl) hrec.out (by rfl) (one_val _) (by have:=hil.out;omega) hb.out.size ?_;intro v' w' hW2 hb4))
       obtain⟨A9,c9,rfl,-,-⟩:=hW2.sees.mk_;have hW3:Hid (OwnR w' w.heap.size 3 (.slice A9 (is.length+1) c9) 1 (is++[(k:Int)]).length (intS (is++[(k:Int)]))):=by
        show OwnR _ _ _ _ _ _ _;rw[intS_app,xla];exact hW2
       have hb5:=lhd (hb.out.trans hb4);clear hW2 hb4 ho hb
       go_wp2_with fail
       go_roundw
       case rel=>exact⟨k+1,_,by omega,by go_num,hyes,hW3,hb5⟩
       case measure=>simp[intOf];omega
     | false=>
       have hno:Hid (NamR es P (k+1) is):=hN.out is (.inr ⟨fun hh=>Bool.noConfusion (hio.out.1 hh),rfl⟩);clear hN hio
       go_wp2_with fail
       refine heq.out.mono ?_;rintro e w3 ⟨rfl,hw3⟩;obtain rfl:=hw3.symm;dsimp only
       go_wp2_with fail
       go_roundw
       case rel=>exact⟨k+1,is,by omega,by go_num,hno,ho,hb⟩
       case measure=>simp[intOf];omega
    have i4:¬((g:Int)<(ls.length:Int)):=by omega
    have hno:Hid (NamR es P (k+1) is):=hN.out is (.inr ⟨fun hh=>by have:=hio.out.1 hh;omega,rfl⟩);clear hN hio sv
    go_wp2_with fail
    go_roundw
    case rel=>exact⟨k+1,is,by omega,by go_num,hno,ho,hb⟩
    case measure=>simp[intOf];omega
   ·have hno:Hid (NamR es P (k+1) is):=hN.out is (.inr ⟨fun hh=>by have:=hio.out.1 hh;omega,rfl⟩)
    clear hN hio sv
    go_wp2_with fail
    go_roundw
    case rel=>exact⟨k+1,is,by omega,by go_num,hno,ho,hb⟩
    case measure=>simp[intOf];omega
   have hno:Hid (NamR es P (k+1) is):=hN.out is (.inr ⟨fun hh=>by have:=hio.out.1 hh;omega,rfl⟩);clear hN hio sv
   go_wp2_with fail
   go_roundw
   case rel=>exact⟨k+1,is,by omega,by go_num,hno,ho,hb⟩
   case measure=>simp[intOf];omega
  obtain rfl:k=es.length:=by omega
  have i1:¬(es.length:Int)<(es.length:Int):=by omega
  have hT:=lhd (ownR_ints ho.out)
  go_wp2_with fail
  go_returns
  exact⟨_,is,rfl,hR.out,hT.out,hb.out⟩
attribute [local go_sem ↓] Go.wp_at_zero Go.wp_at_succ
def hasB (es:List Bs) (P:Bs):Bool:=es.any fun x=>x == P
theorem hasB_take {es:List Bs} {P:Bs} {k:Nat} (h:k<es.length):hasB (es.take (k+1)) P=(hasB (es.take k) P || (es.getD k [] == P)):=by
 unfold hasB;rw[List.take_add_one,xge h,List.any_append,xgd,xge h];simp
theorem hasB_one {es:List Bs} {P:Bs} {k:Nat} (h:k<es.length) (h2:(es.getD k [] == P)=true):hasB es P=true:=by
 unfold hasB;rw[List.any_eq_true];refine⟨es.getD k [],?_,h2⟩;rw[xgd,xge h];exact xgx h
theorem ladd1_any (d P:Bs) (g:Nat) (A3:Option Addr) (c3:Nat) (u:Value) (w:World) (hu:SeesB w w.heap.size u d) (hx:Box w g 25 [.slice A3 P.length c3]) (hP:SeesB w w.heap.size (.slice A3 P.length c3) P) :
 Calls prog 87 #[u,.pointer (some ⟨g,0,none⟩)] w fun e w'=>e=.returned (.bool (d == P))/\w'=w:=by
 obtain⟨A,c,rfl,-,-⟩:=hu.mk_;have y0:=box1_cell hx;have heq:=lhd (equal_any _ _ _ _ _ _ w hu hP);clear hu hP hx;generalize (d == P)=E at *
 go_enter func87,ntmps87
 go_wp2_with fail
 refine heq.out.mono ?_;rintro e w1 ⟨rfl,rfl⟩;dsimp only
 go_wp2_with fail
 go_ret
 exact⟨rfl,rfl⟩
theorem lidx_any (es:List Bs) (P:Bs) (g:Nat) (A3:Option Addr) (c3:Nat) (u:Value) (w:World) (hu:SeesL w w.heap.size u es) (hx:Box w g 25 [.slice A3 P.length c3]) (hP:SeesB w w.heap.size (.slice A3 P.length c3) P) (hn:es.length<=64) :
 Calls prog 166 #[u,.func (.func 87) #[] #[.pointer (some ⟨g,0,none⟩)]] w fun e w'=>(∃i:Int,e=.returned (.int .i64 i)/\decide (0<=i)=hasB es P)/\Below w.heap.size w w':=by
 obtain⟨A,c,rfl,-,-⟩:=hu.mk_;replace hu:=lhd hu;replace hP:=lhd hP;replace hx:=lhd hx
 go_enter func166,ntmps166
 go_wp2_with fail
 go_loopw [8] (fun t wr=>∃k:Nat,k<=es.length/\t=.int .i64 k/\Hid (hasB (es.take k) P=false)/\Hid (Below w.heap.size w wr)) (fun t _=>es.length - (intOf t).toNat)
 case atStart=>exact⟨0,by omega,rfl,rfl,Below.refl _ _⟩
 case round=>
  obtain⟨k,hk,rfl,ha,hb⟩:=hrel
  by_cases hlt:k<es.length
  ·obtain⟨b,o,rfl,hbB,hds⟩:=(seesL_of hu.out nlr hb.out).at_ (by omega)
   obtain⟨A4,c4,z1,-,-,z2⟩:=hds k hlt;have i0:(k:Int)<(es.length:Int):=by omega
   have i2:(0:Int)<=(k:Int):=by omega
   have hst:=lhd (hasB_take (P:=P) hlt);have hone:=lhd (hasB_one (P:=P) hlt);generalize es.getD k []=d at *;clear hds;have hc1:=lhd (ladd1_any d P g A3 c3 _ wr z2 (hx.out.below hb.out) (seesB_of hP.out nlr hb.out));generalize (d == P)=E at *
   go_wp2_with fail
   refine hc1.out.mono ?_;rintro e w1 ⟨rfl,rfl⟩;clear z1 z2 hc1;dsimp only;cases E with
   | true=>
     have hyes:Hid (hasB es P=true):=hone.out rfl
     go_wp2_with fail
     go_returns
     exact⟨⟨_,rfl,by rw[hyes.out];simp⟩,hb.out⟩
   | false=>
     have hno:Hid (hasB (es.take (k+1)) P=false):=by show _=_;rw[hst.out,ha.out];rfl
     clear hst hone
     go_wp2_with fail
     go_roundw
     case rel=>exact⟨k+1,by omega,by go_num,hno,hb⟩
     case measure=>simp[intOf];omega
  have i0:¬(k:Int)<(es.length:Int):=by omega
  rw[xtl (by omega)] at ha
  go_wp2_with fail
  go_returns
  exact⟨⟨_,rfl,by rw[ha.out];rfl⟩,hb.out⟩
theorem lcont_any (es:List Bs) (P:Bs) (g:Nat) (A3:Option Addr) (c3:Nat) (u:Value) (w:World) (hu:SeesL w w.heap.size u es) (hx:Box w g 25 [.slice A3 P.length c3]) (hP:SeesB w w.heap.size (.slice A3 P.length c3) P) (hn:es.length<=64) :
 Calls prog 86 #[u,.func (.func 87) #[] #[.pointer (some ⟨g,0,none⟩)]] w (BoolPost (hasB es P) w):=by
 have hi:=lhd (lidx_any es P g A3 c3 u w hu hx hP hn);obtain⟨A,c,rfl,-,-⟩:=hu.mk_;clear hu hx hP
 go_enter func86,ntmps86
 go_wp2_with fail
 refine hi.out.mono ?_;rintro e w1 ⟨⟨i,rfl,hd⟩,hb⟩;replace hd:=lhd hd;dsimp only
 go_wp2_with fail
 go_ret
 exact⟨ret_bool hd.out,hb⟩
attribute [local go_sem ↓] Go.wp_at_zero Go.wp_at_succ
theorem link_mem {ls:List LinkG} {k:Nat} (h:k<ls.length):linkT ls k∈ls:=by
 rw[linkT,xgd,xge h];exact xgx h
theorem against_any (B B':Nat) (u v:Value) (ls:List LinkG) (V:List (Int × Int)) (w:World) (i j:Nat) (hu:SeesR w B u 3 ls.length (linkS ls)) (hv:Sees w B' v 2 ls.length (spanC2 V)) (hVl:V.length=ls.length) (hi:i<ls.length) (hj:j<ls.length) :
 Calls prog 163 #[u,v,.int .i64 (i:Int),.int .i64 (j:Int)] w fun e w'=>e=.returned (.bool (agB ls V i j))/\∃m,w'=w.drewN m:=by
 obtain⟨A,c,rfl,-,-⟩:=hu.mk_;obtain⟨A1,c1,rfl,-,-⟩:=hv.mk_;obtain⟨cv,b2,o2,hc2,hA2,hcell,hsl,hcs2⟩:=row_cells hu rfl;obtain⟨rfl,-⟩:=hA2 (by omega);obtain⟨b1,o1,rfl,hb1l,hcs⟩:=hv.at_ (by omega);have hgt:=spanC2_get V;rw[hVl] at hgt;obtain⟨P0,n0,r0,y0⟩:=hsl (i * 3) (by omega);obtain⟨P1,n1,r1,y1⟩:=hsl (j * 3) (by omega);have p0:=hcell (i * 3) (by omega);have p1:=hcell (j * 3) (by omega);have s0:=(hcs2 i (by omega)).1;have s1:=(hcs2 j (by omega)).1;rw[y0] at p0 s0;rw[y1] at p1 s1;have z0:=hcs _ _ (hgt i (by omega)).1;have z1:=hcs _ _ (hgt j (by omega)).2;rw[<-Nat.add_assoc] at z1;have hag:agB ls V i j=(((linkT ls i).1 == (linkT ls j).1)&&decide ((V.getD j (0,0)).2<(V.getD i (0,0)).1)):=rfl;rw[hag];generalize (V.getD j (0,0)).2=hi2 at *;generalize (V.getD i (0,0)).1=lo2 at *;have heq:=lhd (fun k=>rsame_any B B _ _ _ _ (w.drewN k) (s0.below (below_drewN (Below.refl _ _) k)) (s1.below (below_drewN (Below.refl _ _) k)));generalize ((linkT ls i).1 == (linkT ls j).1)=E at *;have i1:(i:Int)<(ls.length:Int):=by omega
 have i2:(j:Int)<(ls.length:Int):=by omega
 clear hu hv hcell hsl hcs2 hcs hgt y0 y1 s0 s1 hag hA2;cases E with
 | false=>
   go_enter func163,ntmps163
   go_upto_region 1 with (fail)
   go_quiet ((go_at_call 26;exact Calls.quiet_of_same (heq.out _)))
   go_wp2_with fail
   go_returns
   exact⟨rfl,_,rfl⟩
 | true=>
   by_cases hlh:hi2<lo2
   ·have hd:decide (hi2<lo2)=true:=by simpa using hlh
    rw[hd]
    go_enter func163,ntmps163
    go_upto_region 1 with (fail)
    go_quiet ((go_at_call 26;exact Calls.quiet_of_same (heq.out _)))
    go_wp2_with fail
    go_returns
    exact⟨rfl,_,rfl⟩
   have hd:decide (hi2<lo2)=false:=by simpa using hlh
   rw[hd]
   go_enter func163,ntmps163
   go_upto_region 1 with (fail)
   go_quiet ((go_at_call 26;exact Calls.quiet_of_same (heq.out _)))
   go_wp2_with fail
   go_returns
   exact⟨rfl,_,rfl⟩
attribute [local go_sem ↓] Go.wp_at_zero Go.wp_at_succ
def namesB (ls:List LinkG) (f s:Int):Bool:=decide (0<=f/\f<s/\s=(ls.length:Int) - 1)&&agB ls (cverV ls) f.toNat s.toNat
def fchkC (ls:List LinkG) (f s:Int):Int:=if cverC ls=0 then (if namesB ls f s then 0 else 24) else cverC ls
def fchkB (ls:List LinkG) (f s:Int):Bs:=if fchkC ls f s=0 then (linkT ls f.toNat).1 else []
def FChkP (ls:List LinkG) (f s:Int) (w:World) (e:Ending) (w':World):Prop:=
 ∃v,e=.returned (.tuple #[v,.int .i64 (fchkC ls f s)])/\SeesB w' w'.heap.size v (fchkB ls f s)/\Below w.heap.size w w'
theorem fchk_bad {ls:List LinkG} {f s c:Int} (h:fchkC ls f s=c) (hc:c≠0) {w w':World} (hb:Below w.heap.size w w'):FChkP ls f s w (.returned (.tuple #[.slice none 0 0,.int .i64 c])) w':=by
 refine⟨_,by rw[h],?_,hb⟩;rw[fchkB,if_neg (by rw[h];exact hc)];exact SeesB.nil _ _
theorem fchk_ok {ls:List LinkG} {f s:Int} (h:fchkC ls f s=0) {w w':World} {v:Value} (hs:SeesB w' w'.heap.size v (linkT ls f.toNat).1) (hb:Below w.heap.size w w'):FChkP ls f s w (.returned (.tuple #[v,.int .i64 0])) w':=by
 refine⟨v,by rw[h],?_,hb⟩;rw[fchkB,if_pos h];exact hs
theorem fcheck_any (B:Nat) (u:Value) (ls:List LinkG) (f s:Int) (w:World) (hu:SeesR w B u 3 ls.length (linkS ls)) (hB:B<=w.heap.size) (hn:ls.length<=1000) (hl:∀t∈ls,t.1.length<=1048576/\t.2.1.length<=1048576/\t.2.2.length<=1048576) :
 Calls prog 90 #[.agg #[u,.int .i64 f,.int .i64 s]] w (FChkP ls f s w):=by
 obtain⟨A,c,rfl,hc0,-⟩:=hu.mk_;have hal:=balloc w (.cells #[.slice A ls.length c,.int .i64 f,.int .i64 s] 133);have x1:=Box.new w 133 [.slice A ls.length c,.int .i64 f,.int .i64 s];change Box (w.alloc (.cells #[.slice A ls.length c,.int .i64 f,.int .i64 s] 133)) _ _ _ at x1;replace hu:=lhd ((hu.more hB).below hal);replace hal:=lhd hal;have hg1:Hid (w.heap.size<(w.alloc (.cells #[.slice A ls.length c,.int .i64 f,.int .i64 s] 133)).heap.size):=x1.lt
 go_enter func90,ntmps90
 go_upto_region 1 with (fail)
 generalize w.alloc (.cells #[.slice A ls.length c,.int .i64 f,.int .i64 s] 133)=W0 at *;have hver:=lhd (cverify_any w.heap.size _ ls W0 hu.out (Nat.le_of_lt hg1.out) (by omega) (fun t ht=>(hl t ht).2.2));have hcv:Hid (cverC ls=0->(cverV ls).length=ls.length):=cverV_len;unfold CVerP at hver;replace hl:=lhd hl;have hD:Hid (fchkC ls f s=if cverC ls=0 then (if namesB ls f s then 0 else 24) else cverC ls):=rfl;have hNB:Hid (namesB ls f s=(decide (0<=f/\f<s/\s=(ls.length:Int) - 1)&&agB ls (cverV ls) f.toNat s.toNat)):=rfl;obtain⟨k0,k1,k2,-,-,-⟩:=box3_cells x1
 go_wp2_with fail
 refine hver.out.mono ?_;rintro e w1 ⟨v1,rfl,p1,hb1⟩;generalize hC:cverC ls=C at *;replace hC:=lhd hC;have xb:=x1.below hb1;have hb:=lhd (bgo hal.out hb1);clear k0 k1 k2 hver;obtain⟨k0,k1,k2,-,-,-⟩:=box3_cells xb;dsimp only
 by_cases h0:C=0
 rotate_left
 ·have hE:(C == 0)=false:=by simp[h0]
  obtain⟨A1,c1,rfl,hc1,-⟩:=p1.mk_;have hD2:Hid (fchkC ls f s=C):=by show _=_;rw[hD.out,if_neg h0]
  replace h0:=lhd h0
  go_wp2_with fail
  go_returns
  exact fchk_bad hD2.out h0.out hb.out
 subst h0;have hVl:=hcv.out rfl;generalize hV:cverV ls=V at *;rw[hVl] at p1;have hsp:=lhd (spanC2_sees p1);obtain⟨A1,c1,rfl,hc1,-⟩:=p1.mk_;have hln:(ls.length:Int) - 1<1000:=by omega
 replace hD:Hid (fchkC ls f s=if namesB ls f s then 0 else 24):=by show _=_;rw[hD.out,if_pos rfl]
 replace hVl:=lhd hVl;replace hV:=lhd hV;have hbad:Hid (∀W,Below w.heap.size w W->namesB ls f s=false->FChkP ls f s w (.returned (.tuple #[.slice none 0 0,.int .i64 24])) W):=fun W hW hq=>fchk_bad (by rw[hD.out,hq];rfl) (by decide) hW
 clear p1 hcv
 by_cases h1:f<0
 ·have hq:Hid (namesB ls f s=false):=by show _=_;rw[hNB.out,decide_eq_false (by omega)];rfl
  have hd:decide (f<0)=true:=by simpa using h1
  go_wp2_with fail
  go_returns
  exact hbad.out _ hb.out hq.out
 have hd:decide (f<0)=false:=by simpa using h1
 by_cases h2:s<=f
 ·have hq:Hid (namesB ls f s=false):=by show _=_;rw[hNB.out,decide_eq_false (by omega)];rfl
  have hd2:decide (s<=f)=true:=by simpa using h2
  go_wp2_with fail
  go_returns
  exact hbad.out _ hb.out hq.out
 have hd2:decide (s<=f)=false:=by simpa using h2
 by_cases h3:s=(ls.length:Int) - 1
 rotate_left
 ·have hq:Hid (namesB ls f s=false):=by show _=_;rw[hNB.out,decide_eq_false (by omega)];rfl
  have hd3:(s != (ls.length:Int) - 1)=true:=by simpa using h3
  go_wp2_with fail
  go_returns
  exact hbad.out _ hb.out hq.out
 obtain⟨i,rfl⟩:∃i:Nat,f=(i:Int):=⟨f.toNat,by omega⟩
 obtain⟨j,rfl⟩:∃j:Nat,s=(j:Int):=⟨s.toNat,by omega⟩
 have hij:i<j:=by omega
 have hjn:j<ls.length:=by omega
 have hq:Hid (namesB ls (i:Int) (j:Int)=agB ls V i j):=by show _=_;rw[hNB.out,decide_eq_true (by omega),Bool.true_and,xnc,xnc]
 have hjm:(ls.length:Int) - 1=(j:Int):=by omega
 have i1:(i:Int)<(ls.length:Int):=by omega
 have i2:(j:Int)<(ls.length:Int):=by omega
 have hu1:=lhd (hu.out.below (Below.mono hb1 (Nat.le_of_lt hg1.out)));have hgw:w.heap.size<w1.heap.size:=Nat.lt_of_lt_of_le hg1.out hb1.size;obtain⟨cv,b2,o2,hc2,hA2,hcell,hsl,hcs2⟩:=row_cells hu1.out rfl;obtain⟨rfl,hbA⟩:=hA2 (by omega);obtain⟨b1,o1,rfl,hb1l,hcs⟩:=hsp.out.at_ (by omega);have hgt:=spanC2_get V;rw[hVl.out] at hgt;obtain⟨P0,n0,r0,y0⟩:=hsl (i * 3) (by omega);obtain⟨P1,n1,r1,y1⟩:=hsl (j * 3) (by omega);have p0:=hcell (i * 3) (by omega);have p1:=hcell (j * 3) (by omega);have s0:=(hcs2 i (by omega)).1;have s1:=(hcs2 j (by omega)).1;rw[y0] at p0 s0;rw[y1] at p1 s1;have z0:=hcs _ _ (hgt i (by omega)).1;have z1:=hcs _ _ (hgt j (by omega)).2;rw[<-Nat.add_assoc] at z1;have hag:agB ls V i j=(((linkT ls i).1 == (linkT ls j).1)&&decide ((V.getD j (0,0)).2<(V.getD i (0,0)).1)):=rfl;rw[hag] at hq;generalize (V.getD j (0,0)).2=hi2 at *;generalize (V.getD i (0,0)).1=lo2 at *;have hcl:=lhd (fun W (hW:Below w1.heap.size w1 W)=>bclone_any w.heap.size _ _ W (s0.below (Below.mono hW (Nat.le_of_lt hgw))) (Nat.le_trans (Nat.le_of_lt hgw) hW.size) (Nat.le_trans (hl.out _ (link_mem (by omega))).1 (by omega)));have heq:=lhd (fun k=>equal_any _ _ _ _ _ _ (w1.drewN k) (s0.below (below_drewN (Below.refl _ _) k)) (s1.below (below_drewN (Below.refl _ _) k)));generalize ((linkT ls i).1 == (linkT ls j).1)=E at *
 have hgood:Hid (∀W v,Below w.heap.size w W->namesB ls (i:Int) (j:Int)=true->SeesB W W.heap.size v (linkT ls i).1->FChkP ls (i:Int) (j:Int) w (.returned (.tuple #[v,.int .i64 0])) W):=fun W v hW hq hs=>fchk_ok (by rw[hD.out,hq];rfl) hs hW
 replace hgw:=lhd hgw;clear hu hsl hcell hcs2 hcs hgt y0 y1 s0 s1 hag hA2 h1 h2 h3 hu1 hD hsp x1 xb hl hc2 hc1;cases E with
 | false=>
   go_upto_region 6 with (fail)
   go_quiet ((go_at_call 88;exact Calls.quiet_of_same (heq.out _)))
   go_wp2_with fail
   go_returns
   exact hbad.out _ (below_drewN hb.out nq) hq.out
 | true=>
   by_cases hlh:lo2<=hi2
   ·go_upto_region 6 with (fail)
    go_quiet ((go_at_call 88;exact Calls.quiet_of_same (heq.out _)))
    have hq2:Hid (namesB ls (i:Int) (j:Int)=false):=by show _=_;rw[hq.out];simp;exact hlh
    go_wp2_with fail
    go_returns
    exact hbad.out _ (below_drewN hb.out nq) hq2.out
   have hd4:decide (lo2<=hi2)=false:=by simpa using hlh
   have hq2:Hid (namesB ls (i:Int) (j:Int)=true):=by show _=_;rw[hq.out];simp;omega
   go_upto_region 6 with (fail)
   go_quiet ((go_at_call 88;exact Calls.quiet_of_same (heq.out _)))
   go_wp2_with fail
   refine (hcl.out _ (below_drewN (Below.refl _ _) nq)).mono ?_;rintro e w2 ⟨v2,rfl,o2,hb2⟩;have hb3:=lhd (bgo (below_drewN hb.out nq) hb2);clear hcl heq k0 k1 k2 p0 p1 z0 z1;dsimp only
   go_wp2_with fail
   go_returns
   exact hgood.out _ _ hb3.out hq2.out o2.sees
theorem decOut_total (b:Bs):∃ls f s c,DecOut b ls f s c:=by
 by_cases h:∃l,(∀x∈l,okF x)/\wrF l=b
 ·obtain⟨l,h1,h2⟩:=h
  by_cases h3:∃(ls:List Lk) (f s:Nat),ls.length<=8/\f<=255/\s<=255/\l=encF ls f s
  ·obtain⟨ls,f,s,a,b',c,d⟩:=h3
   exact⟨ls,f,s,0,some l,⟨h1,h2⟩,some (ls,f,s),⟨d,a,b',c⟩,rfl,rfl,rfl,rfl⟩
  exact⟨[],0,0,3,some l,⟨h1,h2⟩,none,fun ls f s a b' c d=>h3 ⟨ls,f,s,a,b',c,d⟩,rfl,rfl,rfl,rfl⟩
 exact⟨[],0,0,1,none,fun l h1 h2=>h ⟨l,h1,h2⟩,rfl,rfl,rfl,rfl⟩
theorem decOut_fits {b:Bs} {ls:List Lk} {f s c:Int} (h:DecOut b ls f s c) (hb:b.length<=65535):ls.length<=8/\∀t∈ls,t.1.length<=65535/\t.2.1.length<=65535/\t.2.2.length<=65535:=by
 obtain⟨o,h1,h2⟩:=h;cases o with
 | none=>obtain⟨rfl,-⟩:=h2;simp
 | some l=>
   obtain⟨d,h3,h4⟩:=h2;cases d with
   | none=>obtain⟨rfl,-⟩:=h4;simp
   | some p=>
     obtain⟨rfl,-⟩:=h4;refine⟨h3.2.1,fun t ht=>?_⟩;obtain⟨k,hk⟩:=List.mem_iff_getElem?.1 ht;obtain⟨g1,g2,g3⟩:=encF_get (f:=p.2.1) (s:=p.2.2) hk;rw[<-h3.1] at g1 g2 g3;have e1:=wrF_mem (List.mem_of_getElem? g1);have e2:=wrF_mem (List.mem_of_getElem? g2);have e3:=wrF_mem (List.mem_of_getElem? g3);rw[h1.2] at e1 e2 e3;dsimp only at e1 e2 e3
     omega
def dchkC (ls:List Lk) (f s q:Int):Int:=if q=0 then fchkC ls f s else q
def laddR (es:List Bs) (P:Bs) (cc:Int):List Bs × Int × Int:=
 if 64<es.length then ([],0,8) else if hasB es P=true then ([],0,27) else if cc=0 then (if es.length=64 then ([],0,8) else (es++[P],(es.length:Int),0)) else ([],0,cc)
def LAddP (es:List Bs) (P:Bs) (w:World) (e:Ending) (w':World):Prop:=∃v ls f s q,DecOut P ls f s q/\e=.returned (.tuple #[.agg #[v],.int .i64 (laddR es P (dchkC ls f s q)).2.1,.int .i64 (laddR es P (dchkC ls f s q)).2.2])/\SeesL w' w'.heap.size v (laddR es P (dchkC ls f s q)).1/\Below w.heap.size w w'
theorem ladd_many {es:List Bs} {P:Bs} (h:64<es.length) {w w':World} (hb:Below w.heap.size w w'):LAddP es P w (.returned (.tuple #[.agg #[.slice none 0 0],.int .i64 0,.int .i64 8])) w':=by
 obtain⟨ls,f,s,c,hO⟩:=decOut_total P;have hr:laddR es P (dchkC ls f s c)=([],0,8):=by rw[laddR,if_pos h]
 exact⟨_,ls,f,s,c,hO,by rw[hr],by rw[hr];exact (OwnL.nil w' 0).sees,hb⟩
theorem ladd_twice {es:List Bs} {P:Bs} (h0:¬64<es.length) (h:hasB es P=true) {w w':World} (hb:Below w.heap.size w w'):LAddP es P w (.returned (.tuple #[.agg #[.slice none 0 0],.int .i64 0,.int .i64 27])) w':=by
 obtain⟨ls,f,s,c,hO⟩:=decOut_total P;have hr:laddR es P (dchkC ls f s c)=([],0,27):=by rw[laddR,if_neg h0,if_pos h]
 exact⟨_,ls,f,s,c,hO,by rw[hr],by rw[hr];exact (OwnL.nil w' 0).sees,hb⟩
theorem ladd_bad {es:List Bs} {P:Bs} {ls:List Lk} {f s q cc:Int} (h0:¬64<es.length) (h:hasB es P=false) (hO:DecOut P ls f s q) (hc:dchkC ls f s q=cc) (hcc:cc≠0) {w w':World} (hb:Below w.heap.size w w'):LAddP es P w (.returned (.tuple #[.agg #[.slice none 0 0],.int .i64 0,.int .i64 cc])) w':=by
 have hr:laddR es P (dchkC ls f s q)=([],0,cc):=by rw[laddR,if_neg h0,if_neg (by rw[h];decide),hc,if_neg hcc]
 exact⟨_,ls,f,s,q,hO,by rw[hr],by rw[hr];exact (OwnL.nil w' 0).sees,hb⟩
theorem ladd_full {es:List Bs} {P:Bs} {ls:List Lk} {f s q:Int} (h0:es.length=64) (h:hasB es P=false) (hO:DecOut P ls f s q) (hc:dchkC ls f s q=0) {w w':World} (hb:Below w.heap.size w w'):LAddP es P w (.returned (.tuple #[.agg #[.slice none 0 0],.int .i64 0,.int .i64 8])) w':=by
 have hr:laddR es P (dchkC ls f s q)=([],0,8):=by rw[laddR,if_neg (by omega),if_neg (by rw[h];decide),hc,if_pos rfl,if_pos h0]
 exact⟨_,ls,f,s,q,hO,by rw[hr],by rw[hr];exact (OwnL.nil w' 0).sees,hb⟩
theorem ladd_good {es:List Bs} {P:Bs} {ls:List Lk} {f s q:Int} (h0:es.length<64) (h:hasB es P=false) (hO:DecOut P ls f s q) (hc:dchkC ls f s q=0) {w w':World} {v:Value} (hv:SeesL w' w'.heap.size v (es++[P])) (hb:Below w.heap.size w w'):LAddP es P w (.returned (.tuple #[.agg #[v],.int .i64 (es.length:Int),.int .i64 0])) w':=by
 have hr:laddR es P (dchkC ls f s q)=(es++[P],(es.length:Int),0):=by rw[laddR,if_neg (by omega),if_neg (by rw[h];decide),hc,if_pos rfl,if_neg (by omega)]
 exact⟨v,ls,f,s,q,hO,by rw[hr],by rw[hr];exact hv,hb⟩
attribute [local go_sem ↓] Go.wp_at_zero Go.wp_at_succ
theorem below_none {w w':World} (h:w.grownBy w' none):Below w.heap.size w w':=⟨h.os,h.tape,h.output,h.size,fun k hk=>h.block k hk (by simp)⟩
theorem lclip_any (A:Option Addr) (n c:Nat) (w:World) (hc:n<=c) (hm:c<=maxLen):Calls prog 91 #[.slice A n c] w fun e w'=>e=.returned (.slice A n n)/\w'=w:=by
 have i1:(n:Int)<=(c:Int):=by omega
 have i2:(0:Int)<=(n:Int):=by omega
 go_enter func91,ntmps91
 go_wp2_with fail
 go_ret
 exact⟨rfl,rfl⟩
theorem wp_appFull {o:Oper} {a:Act} {w:World} {K:Act->World->Prop} {Q:Exit->Act->World->Prop} (s x:Operand) (T:TypeId) (hT:prog.underlying T=some (.slice 25))
 (ho:o.op=.call { callee:=.builtin .append,args:=#[s,x],argTypes:=#[T,T] })
 (A:Option Addr) (es:List Bs) (hs:a.eval s=.slice A es.length es.length) (hsees:∃c,SeesL w w.heap.size (.slice A es.length c) es) (G:Nat) (A3:Option Addr) (c3:Nat) (P:Bs) (hx:a.eval x=.slice (some ⟨G,0,none⟩) 1 1)
 (hc:w.cell? ⟨G,0,none⟩=some (.slice A3 P.length c3)) (hP:SeesB w w.heap.size (.slice A3 P.length c3) P) (hn:es.length<=1000)
 (h:∀A' c' w',SeesL w' w'.heap.size (.slice A' (es.length+1) c') (es++[P])->(∀k,(Value.slice A' (es.length+1) c').ownBlock=some k->w.heap.size<=k)->Below w.heap.size w w'->K (a.put o.dst (.slice A' (es.length+1) c')) w'):o.wp prog a w K Q:=by
 obtain⟨i,hi,hz,hsz,hby⟩:=info_parts slice_info;obtain⟨c,vs,hv,hel⟩:=hsees;have hlen:=hv.1;have hnews:∀j u,[Value.slice A3 P.length c3][j]?=some u->w.cell? ((⟨G,0,none⟩:Addr).add j)=some u:=by
  intro j u hj;rcases j with _|j
  ·cases hj;rw[Addr.add_lit];exact hc
  simp at hj
 have key:∃v' w',(Builtin.append_ #[T,T] o.type #[.slice A es.length es.length,.slice (some ⟨G,0,none⟩) 1 1]).run prog w=.ok v' w'/\w'.ownsRow w.heap.size 25 1 v' (es.length+1) (vs++[Value.slice A3 P.length c3])/\w.grownBy w' none:=by
  cases A with
  | some b=>
    have holds:∀j u,vs[j]?=some u->w.cell? (b.add j)=some u:=by
     intro j u hj;have hj2:j<vs.length:=(List.getElem?_eq_some_iff.1 hj).1;obtain⟨b0,o0,e0,-,h0⟩:=Sees.at_ hv (by omega);cases e0;rw[Addr.add_lit];exact h0 j u hj
    exact run_append_arg_grows (P:=prog) w T o.type 25 i _ 1 24 hT hi hz hsz hby rfl (by omega) b es.length es.length vs (by omega) holds ⟨G,0,none⟩ 1 1 [Value.slice A3 P.length c3] rfl hnews (by omega) (by unfold maxLen;omega) (by omega)
  | none=>
    have h0:es.length=0:=by
     rcases Nat.eq_zero_or_pos es.length with h|h
     ·exact h
     obtain⟨b0,o0,e0,-⟩:=Sees.at_ hv h;cases e0
    obtain rfl:es=[]:=List.eq_nil_of_length_eq_zero h0;obtain rfl:vs=[]:=List.eq_nil_of_length_eq_zero (by simpa using hlen);obtain⟨v',w',hrun,r1,r2,_⟩:=run_append_own (P:=prog) w w.heap.size T o.type 25 i _ 1 24 hT hi hz hsz hby rfl (by omega) (.slice none 0 0) 0 [] (World.ownsRow_nil w _ 25 1) ⟨G,0,none⟩ 1 1 [Value.slice A3 P.length c3] rfl hnews (by intro u hu;rw[xm1] at hu;rw[hu];rfl) (by unfold maxLen;omega) (by omega) nlr;exact⟨v',w',hrun,r1,r2⟩
 obtain⟨v',w',hrun,r1,r2⟩:=key;have hb:=below_none r2;have hS:=Sees.of_own r1;obtain⟨A',c',rfl,-,-⟩:=hS.mk_;unfold Oper.wp execOp;simp only[ho,resolve,invoke,builtin,Sem.run_bind,Sem.run_pure,Result.andThen_ok,List.map_toArray,xmp,List.map_nil,hs,hx,hrun];refine h A' c' w' ⟨_,by rw[xla];exact hS,fun k hk=>?_⟩ (fun k hk=>(World.ownsRow.lt r1 k hk).1) hb;rw[xla] at hk
 by_cases hk2:k<es.length
 ·obtain⟨v,g1,g2⟩:=hel k hk2
  refine⟨v,by rw[xal (by omega)];exact g1,?_⟩;rw[xgd,xal hk2,<-xgd];exact seesB_of g2 nlr hb
 have:k=es.length:=by simp at hk;omega
 subst this;refine⟨.slice A3 P.length c3,by rw[xar (by omega)];simp[show es.length - vs.length=0 by omega],?_⟩;rw[xgd,xar nlr,Nat.sub_self];exact seesB_of hP nlr hb
theorem step_appFull {ops:Array Oper} {o:Oper} {a:Act} {w:World} {K:Act->World->Prop} {Q:Exit->Act->World->Prop} {X:Prop} (hgd:o.guard=none) (s x:Operand) (T:TypeId) (hT:prog.underlying T=some (.slice 25))
 (ho:o.op=.call { callee:=.builtin .append,args:=#[s,x],argTypes:=#[T,T] })
 (A:Option Addr) (es:List Bs) (hs:a.eval s=.slice A es.length es.length) (hsees:∃c,SeesL w w.heap.size (.slice A es.length c) es) (G:Nat) (A3:Option Addr) (c3:Nat) (P:Bs) (hx:a.eval x=.slice (some ⟨G,0,none⟩) 1 1)
 (hc:w.cell? ⟨G,0,none⟩=some (.slice A3 P.length c3)) (hP:SeesB w w.heap.size (.slice A3 P.length c3) P) (hn:es.length<=1000)
 (h:∀A' c' w',SeesL w' w'.heap.size (.slice A' (es.length+1) c') (es++[P])->(∀k,(Value.slice A' (es.length+1) c').ownBlock=some k->w.heap.size<=k)->Below w.heap.size w w'->K (a.put o.dst (.slice A' (es.length+1) c')) w'):if Region.wanted o (yielded ops a.tmps)=true then Oper.wp prog o a w K Q else X:=by
 have hw:Region.wanted o (yielded ops a.tmps)=true:=by simp[Region.wanted,hgd]
 rw[if_pos hw];exact wp_appFull s x T hT ho A es hs hsees G A3 c3 P hx hc hP hn h
end Go.Proofs.YtjgepckncogdaaaGreat
