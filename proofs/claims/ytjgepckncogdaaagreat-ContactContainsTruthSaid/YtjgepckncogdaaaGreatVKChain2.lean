/- Contracts of functions, walks, plain facts. Conditions: those of each theorem. -/
import Derived.Test.YtjgepckncogdaaaGreatVUP
import Derived.Test.YtjgepckncogdaaaGreatTCtP
import Derived.Test.YtjgepckncogdaaaGreatTOwnRF
import Derived.Test.YtjgepckncogdaaaGreatTCtK
import Derived.Test.YtjgepckncogdaaaGreatTCtA
import Derived.Test.YtjgepckncogdaaaGreatVC1
set_option linter.unusedVariables false
set_option linter.unusedSimpArgs false
set_option maxRecDepth 100000
set_option maxHeartbeats 16000000
namespace Go.Proofs.YtjgepckncogdaaaGreat
open Go Go.RowKit _root_.Go.Proofs.Tryz
attribute [local go_sem ↓] Go.wp_at_zero Go.wp_at_succ
theorem HonK.snoc {ls:List LinkG} {t:LinkG} {k:Nat} {lo hi:Int} (hk:k<ls.length) (h:HonK ls k lo hi):HonK (ls++[t]) k lo hi:=by
 have e1:linkT (ls++[t]) k=linkT ls k:=by
  unfold linkT;rw[xgd,xgd,xal hk]
 have e2:(ls++[t]).take k=ls.take k:=List.take_append_of_le_length (Nat.le_of_lt hk);unfold HonK;rw[e1,e2];exact h
def certFV (t:CertG):List Spec:=[.val (.string (strB t.1)),.byt t.2.1,.val (.int .i64 t.2.2.1),.val (.int .i64 t.2.2.2.1),.byt t.2.2.2.2]
theorem certS_putV (cs:List CertG):∀(i:Nat) (x:Bs),i<cs.length->(certS cs).set (i * 5+4) (.byt x)=certS (cs.set i ((certT cs i).1,(certT cs i).2.1,(certT cs i).2.2.1,(certT cs i).2.2.2.1,x)):=by
 induction cs with
 | nil=>intro i x h;simp at h
 | cons a r ih=>
   intro i x h;cases i with
   | zero=>rfl
   | succ i=>
     have:=ih i x (by simpa using h)
     show (certFV a++certS r).set ((i+1) * 5+4) (.byt x)=certFV a++certS (r.set i ((certT r i).1,(certT r i).2.1,(certT r i).2.2.1,(certT r i).2.2.2.1,x));rw[<-this,show (i+1) * 5+4=i * 5+4+5 by omega]
     rfl
theorem set_lenV {cs:List CertG} {P:CertG->Prop} (h:∀t∈cs,P t) (i:Nat) (x:CertG) (hx:P x):∀t∈cs.set i x,P t:=fun t ht=>by
 rcases List.mem_or_eq_of_mem_set ht with h1|h1
 ·exact h t h1
 rw[h1];exact hx
def El5V (w:World) (v:Value) (base:Nat) (t:CertG) (u0 u1 u2 u3 u4:Value):Prop:=
 (EltS w v u0 (.val (.string (strB t.1)))/\From base u0)/\(EltS w v u1 (.byt t.2.1)/\From base u1)/\(EltS w v u2 (.val (.int .i64 t.2.2.1))/\From base u2)/\(EltS w v u3 (.val (.int .i64 t.2.2.2.1))/\From base u3)/\(EltS w v u4 (.byt t.2.2.2.2)/\From base u4)
theorem own_certV {w:World} {g c base n:Nat} {T:TypeId} {cs:List CertG} (h:OwnRF w base T (.slice (some ⟨g,0,none⟩) n c) 5 n (certS cs)) (h0:0<n) (i:Nat) (hi:i<cs.length) :
 ∃A1 c1 A2 c2,w.cell? ⟨g,i * 5,none⟩=some (.string (strB (certT cs i).1))/\w.cell? ⟨g,i * 5+1,none⟩=some (.slice A1 (certT cs i).2.1.length c1)/\w.cell? ⟨g,i * 5+2,none⟩=some (.int .i64 (certT cs i).2.2.1) /\
  w.cell? ⟨g,i * 5+3,none⟩=some (.int .i64 (certT cs i).2.2.2.1)/\w.cell? ⟨g,i * 5+4,none⟩=some (.slice A2 (certT cs i).2.2.2.2.length c2) /\
  El5V w (.slice (some ⟨g,0,none⟩) n c) base (certT cs i) (.string (strB (certT cs i).1)) (.slice A1 (certT cs i).2.1.length c1) (.int .i64 (certT cs i).2.2.1) (.int .i64 (certT cs i).2.2.2.1) (.slice A2 (certT cs i).2.2.2.2.length c2):=by
 obtain⟨g0,g1,g2,g3,g4⟩:=certS_get cs i _ (certT_get cs i hi);obtain⟨u0,a0,b0,d0⟩:=h.cell h0 g0;obtain⟨u1,a1,b1,d1⟩:=h.cell h0 g1;obtain⟨u2,a2,b2,d2⟩:=h.cell h0 g2;obtain⟨u3,a3,b3,d3⟩:=h.cell h0 g3;obtain⟨u4,a4,b4,d4⟩:=h.cell h0 g4;obtain⟨rfl,k0⟩:=b0;obtain⟨rfl,k2⟩:=b2;obtain⟨rfl,k3⟩:=b3;obtain⟨A1,c1,rfl,-,-⟩:=SeesB.mk_ b1.1;obtain⟨A2,c2,rfl,-,-⟩:=SeesB.mk_ b4.1;exact⟨A1,c1,A2,c2,a0,a1,a2,a3,a4,⟨⟨rfl,k0⟩,d0⟩,⟨b1,d1⟩,⟨⟨rfl,k2⟩,d2⟩,⟨⟨rfl,k3⟩,d3⟩,⟨b4,d4⟩⟩
theorem grown_appV {w W W':World} {g:Nat} {r:Option Nat} (h:w.grownBy W (some g)) (h2:W.grownBy W' r) (hr:∀j,r=some j->w.heap.size<=j):w.grownBy W' (some g):=
 ⟨h2.os.trans h.os,h2.tape.trans h.tape,h2.output.trans h.output,Nat.le_trans h.size h2.size,fun k hk hne=>(h2.block k (Nat.lt_of_lt_of_le hk h.size) (fun e=>by have:=hr k e.symm;omega)).trans (h.block k hk hne)⟩
theorem spV_snocV (ws:List Sp) (a b:Int):spV ws++[.int .i64 a,.int .i64 b]=spV (ws++(a,b) :: []):=by rw[spV_append];rfl
abbrev VoiT:=Value × List CertG × Int × Int
def noVoi:VoiT:=(.slice none 0 0,[],0,0)
def voiT (ts:List VoiT) (k:Nat):VoiT:=ts.getD k noVoi
def voiC (ts:List VoiT):List Value:=ts.flatMap fun t=>[t.1,.int .i64 t.2.2.1,.int .i64 t.2.2.2]
theorem voiC_append (a b:List VoiT):voiC (a++b)=voiC a++voiC b:=by simp[voiC]
theorem voiC_get (ts:List VoiT):∀(k:Nat) (t:VoiT),ts[k]?=some t->(voiC ts)[k * 3]?=some t.1/\(voiC ts)[k * 3+1]?=some (.int .i64 t.2.2.1)/\(voiC ts)[k * 3+2]?=some (.int .i64 t.2.2.2):=by
 induction ts with
 | nil=>intro k c h;simp at h
 | cons a r ih=>
   intro k t h;cases k with
   | zero=>
     simp at h;subst h;exact⟨rfl,rfl,rfl⟩
   | succ k=>
     rw[xqs] at h
     have:=ih k t h
     rw[show (k+1) * 3=k * 3+3 by omega,show k * 3+3+1=k * 3+1+3 by omega,show k * 3+3+2=k * 3+2+3 by omega];exact this
theorem voiT_get (ts:List VoiT) (k:Nat) (h:k<ts.length):ts[k]?=some (voiT ts k):=by rw[voiT,xgd,xge h];rfl
theorem voiT_mem (ts:List VoiT) (k:Nat) (h:k<ts.length):voiT ts k∈ts:=List.mem_of_getElem? (voiT_get ts k h)
def SeesV (w:World) (B:Nat) (v:Value) (ts:List VoiT):Prop:=
 Sees w B v 3 ts.length (voiC ts)/\∀t∈ts,SeesR w B t.1 5 t.2.1.length (certS t.2.1)
theorem SeesV.below {w w':World} {B:Nat} {v:Value} {ts:List VoiT} (h:SeesV w B v ts) (hb:Below B w w'):SeesV w' B v ts:=⟨h.1.below hb,fun t ht=>(h.2 t ht).below hb⟩
theorem SeesV.more {w:World} {B B':Nat} {v:Value} {ts:List VoiT} (h:SeesV w B v ts) (hb:B<=B'):SeesV w B' v ts:=⟨h.1.more hb,fun t ht=>(h.2 t ht).more hb⟩
theorem voi_at {w:World} {B n c:Nat} {A:Option Addr} {ts:List VoiT} (h:SeesV w B (.slice A n c) ts) (k:Nat) (hk:k<ts.length) :
 ∃b o A1 c1,A=some ⟨b,o,none⟩/\b<B/\(voiT ts k).1=.slice A1 (voiT ts k).2.1.length c1/\w.cell? ⟨b,o+k * 3,none⟩=some (.slice A1 (voiT ts k).2.1.length c1)/\w.cell? ⟨b,o+k * 3+1,none⟩=some (.int .i64 (voiT ts k).2.2.1)/\w.cell? ⟨b,o+k * 3+2,none⟩=some (.int .i64 (voiT ts k).2.2.2)/\SeesR w B (.slice A1 (voiT ts k).2.1.length c1) 5 (voiT ts k).2.1.length (certS (voiT ts k).2.1):=by
 obtain⟨h1,h2⟩:=h;have h3:=h2 _ (voiT_mem ts k hk);obtain⟨A1,c1,e1,-,-⟩:=h3.mk_;obtain⟨A',c',hv,-,-⟩:=h1.mk_;injection hv with a1 a2 a3;subst a1 a2 a3;obtain⟨b,o,e,hb,hc⟩:=h1.at_ (by omega);obtain⟨g0,g1,g2⟩:=voiC_get ts k _ (voiT_get ts k hk);rw[e1] at g0 h3;exact⟨b,o,A1,c1,e,hb,e1,hc _ _ g0,by rw[Nat.add_assoc];exact hc _ _ g1,by rw[Nat.add_assoc];exact hc _ _ g2,h3⟩
def Keeps (G:Nat) (w0 w:World):Prop:=w0.heap.size<=w.heap.size/\∀b,G<=b->b<w0.heap.size->w.heap[b]?=w0.heap[b]?
theorem Keeps.refl (G:Nat) (w:World):Keeps G w w:=⟨Nat.le_refl _,fun _ _ _=>rfl⟩
theorem Keeps.below {G:Nat} {w0 w w':World} (h:Keeps G w0 w) (hb:Below w.heap.size w w'):Keeps G w0 w':=
 ⟨Nat.le_trans h.1 hb.size,fun b h1 h2=>(hb.block b (Nat.lt_of_lt_of_le h2 h.1)).trans (h.2 b h1 h2)⟩
theorem Keeps.grown {G:Nat} {w0 w w':World} {r:Option Nat} (h:Keeps G w0 w) (hg:w.grownBy w' r) (hr:∀j,r=some j->j<G\/w0.heap.size<=j):Keeps G w0 w':=
 ⟨Nat.le_trans h.1 hg.size,fun b h1 h2=>(hg.block b (Nat.lt_of_lt_of_le h2 h.1) (fun e=>by have:=hr b e.symm;omega)).trans (h.2 b h1 h2)⟩
theorem Keeps.cell {G:Nat} {w0 w:World} (h:Keeps G w0 w) {p:Addr} (h1:G<=p.block) (h2:p.block<w0.heap.size):w.cell? p=w0.cell? p:=World.cell?_of_block (h.2 _ h1 h2)
theorem keeps_sees {G size n:Nat} {w0 w:World} {u:Value} {xs:List Value} (h:Sees w0 w0.heap.size u size n xs) (f:From G u) (k:Keeps G w0 w):Sees w w.heap.size u size n xs:=by
 obtain⟨h0,A,c,rfl,h1,h2,h3⟩:=h;refine⟨h0,A,c,rfl,h1,h2,fun hn=>?_⟩;obtain⟨b,o,e,hb,hc⟩:=h3 hn;refine⟨b,o,e,Nat.lt_of_lt_of_le hb k.1,fun j x hx=>?_⟩;subst e;exact (k.cell (p:=⟨b,o+j,none⟩) (show G<=b from f ⟨b,o,none⟩ _ _ rfl) hb).trans (hc j x hx)
theorem keeps_row {G size n:Nat} {w0 w:World} {T:TypeId} {v:Value} {ss:List Spec} (h:OwnRF w0 G T v size n ss) (k:Keeps G w0 w):SeesR w w.heap.size v size n ss:=by
 obtain⟨h0,vs,h1,h2⟩:=h;refine⟨h0,vs,keeps_sees (Sees.of_own h1) ?_ k,fun j s hj=>?_⟩
 ·intro a n c e
  rcases h1.2 with ⟨rfl,-⟩|⟨g,cap,cur,rfl,hb,-⟩
  ·cases e
  cases e;exact hb
 obtain⟨u,e1,e2,e3⟩:=h2 j s hj;refine⟨u,e1,?_⟩;cases s with
 | val y=>exact e2
 | byt l=>exact keeps_sees e2.1 e3 k
def VEl (base:Nat) (W:World) (o:Option Nat) (u:Value) (cs:List CertG):Prop:=
 ∃w0 G,base<=G/\OwnRF w0 G 70 u 5 cs.length (certS cs)/\Keeps G w0 W/\∀j,o=some j->j<G\/w0.heap.size<=j
theorem VEl.sees {base:Nat} {W:World} {o:Option Nat} {u:Value} {cs:List CertG} (h:VEl base W o u cs):SeesR W W.heap.size u 5 cs.length (certS cs):=by
 obtain⟨w0,G,-,h1,h2,-⟩:=h;exact keeps_row h1 h2
theorem VEl.below {base:Nat} {W W':World} {o:Option Nat} {u:Value} {cs:List CertG} (h:VEl base W o u cs) (hb:Below W.heap.size W W'):VEl base W' o u cs:=by
 obtain⟨w0,G,h0,h1,h2,h3⟩:=h;exact⟨w0,G,h0,h1,h2.below hb,h3⟩
theorem VEl.grown {base:Nat} {W W':World} {o o':Option Nat} {u:Value} {cs:List CertG} (h:VEl base W o u cs) (hg:W.grownBy W' o) (ho:o'=o\/o'=some W.heap.size):VEl base W' o' u cs:=by
 obtain⟨w0,G,h0,h1,h2,h3⟩:=h;refine⟨w0,G,h0,h1,h2.grown hg h3,fun j hj=>?_⟩;rcases ho with rfl|rfl
 ·exact h3 j hj
 cases hj;exact .inr h2.1
theorem VEl.tape {base g:Nat} {W W':World} {o:Option Nat} {u:Value} {cs:List CertG} (h:VEl base W o u cs) (hg:W.grownBy W' (some g)) (hb:g<base):VEl base W' o u cs:=by
 obtain⟨w0,G,h0,h1,h2,h3⟩:=h;exact⟨w0,G,h0,h1,h2.grown hg (fun j hj=>by cases hj;omega),h3⟩
def OwnV (w:World) (base:Nat) (v:Value) (ts:List VoiT):Prop:=
 w.ownsRow base 85 3 v ts.length (voiC ts)/\∀t∈ts,VEl base w v.ownBlock t.1 t.2.1
theorem OwnV.sees {w:World} {base:Nat} {v:Value} {ts:List VoiT} (h:OwnV w base v ts):SeesV w w.heap.size v ts:=⟨Sees.of_own h.1,fun t ht=>(h.2 t ht).sees⟩
theorem OwnV.below {w w':World} {base:Nat} {v:Value} {ts:List VoiT} (h:OwnV w base v ts) (hb:Below w.heap.size w w'):OwnV w' base v ts:=⟨own_below h.1 hb,fun t ht=>(h.2 t ht).below hb⟩
theorem OwnV.tape {w w':World} {base g:Nat} {v:Value} {ts:List VoiT} (h:OwnV w base v ts) (hg:w.grownBy w' (some g)) (hb:g<base):OwnV w' base v ts:=⟨row_tape h.1 hg hb,fun t ht=>(h.2 t ht).tape hg hb⟩
theorem OwnV.nil (w:World) (base:Nat):OwnV w base (.slice none 0 0) []:=⟨World.ownsRow_nil _ _ _ _,fun t ht=>absurd ht (by simp)⟩
theorem OwnV.app {w w':World} {base G:Nat} {v v' u:Value} {ts:List VoiT} {cs:List CertG} {lo hi:Int} (h:OwnV w base v ts) (hc:OwnRF w G 70 u 5 cs.length (certS cs)) (hG:base<=G) (hv:∀j,v.ownBlock=some j->j<G)
 (ho:w'.ownsRow base 85 3 v' (ts.length+1) (voiC ts++[u,.int .i64 lo,.int .i64 hi])) (hg:w.grownBy w' v.ownBlock) (hd:v'.ownBlock=v.ownBlock\/v'.ownBlock=some w.heap.size):OwnV w' base v' (ts++(u,cs,lo,hi) :: []):=by
 refine⟨by rw[xla,voiC_append];exact ho,fun t ht=>?_⟩;rcases List.mem_append.1 ht with h1|h1
 ·exact (h.2 t h1).grown hg hd
 rw[xm1] at h1;subst h1;exact VEl.grown (o:=v.ownBlock) ⟨w,G,hG,hc,Keeps.refl G w,fun j hj=>.inl (hv j hj)⟩ hg hd
def vacc (r:Bs) (t:VoiT):Int:=accC r t.2.1 t.2.2.1 t.2.2.2
def heardN (r:Bs) (ts:List VoiT):Nat->List Int
 | 0=>[]
 | k+1=>if vacc r (voiT ts k)=0 then heardN r ts k++(k:Int) :: [] else heardN r ts k
def spansN (r:Bs) (ts:List VoiT):Nat->List Sp
 | 0=>[]
 | k+1=>if vacc r (voiT ts k)=0 then spansN r ts k++(voiT ts k).2.2 :: [] else spansN r ts k
theorem heardN_len (r:Bs) (ts:List VoiT):∀k,(heardN r ts k).length=(spansN r ts k).length/\(spansN r ts k).length<=k
 | 0=>by simp[heardN,spansN]
 | k+1=>by
   obtain⟨h1,h2⟩:=heardN_len r ts k;unfold heardN spansN
   split
   ·simp;omega
   omega
theorem accC_vS {r:Bs} {cs:List CertG} {lo hi:Int} (h:accC r cs lo hi=0):vS lo hi=true:=by
 cases hv:vS lo hi with
 | true=>rfl
 | false=>
   by_cases hw:winC r cs=0
   ·rw[acc_form hw hv] at h;omega
   rw[acc_win hw] at h;exact absurd h hw
theorem spansN_ok (r:Bs) (ts:List VoiT):∀k,∀s∈spansN r ts k,vS s.1 s.2=true
 | 0=>by simp[spansN]
 | k+1=>by
   have ih:=spansN_ok r ts k;intro s hs;unfold spansN at hs
   split at hs
   ·rename_i h0
    rcases List.mem_append.1 hs with h|h
    ·exact ih s h
    rw[xm1] at h;subst h;exact accC_vS h0
   exact ih s hs
def FirstR (r:Bs) (ts:List VoiT) (f lo hi:Int) (is:List Int) (c:Int):Prop:=
 if 64<ts.length then c=8/\lo=0/\hi=0/\is=[]
 else if 0<=f/\2 * f<(ts.length:Int) then ∃o,IsHull (spansN r ts ts.length) (ts.length - f) o/\match o with
  | none=>c=21/\lo=0/\hi=0/\is=[]
  | some s=>c=0/\lo=s.1/\hi=s.2/\is=heardN r ts ts.length
 else c=4/\lo=0/\hi=0/\is=[]
theorem FirstR.uniq {r:Bs} {ts:List VoiT} {f lo hi lo' hi':Int} {is is':List Int} {c c':Int} (h:FirstR r ts f lo hi is c) (h':FirstR r ts f lo' hi' is' c'):lo=lo'/\hi=hi'/\is=is'/\c=c':=by
 unfold FirstR at h h'
 split at h
 ·obtain⟨rfl,rfl,rfl,rfl⟩:=h
  rename_i hn
  rw[if_pos hn] at h';obtain⟨rfl,rfl,rfl,rfl⟩:=h';exact⟨rfl,rfl,rfl,rfl⟩
 rename_i hn
 rw[if_neg hn] at h'
 split at h
 ·rename_i hf
  rw[if_pos hf] at h';obtain⟨o,ho,h⟩:=h;obtain⟨o',ho',h'⟩:=h';obtain rfl:=ho.uniq ho';cases o with
  | none=>obtain⟨rfl,rfl,rfl,rfl⟩:=h;obtain⟨rfl,rfl,rfl,rfl⟩:=h';exact⟨rfl,rfl,rfl,rfl⟩
  | some s=>obtain⟨rfl,rfl,rfl,rfl⟩:=h;obtain⟨rfl,rfl,rfl,rfl⟩:=h';exact⟨rfl,rfl,rfl,rfl⟩
 rename_i hf
 rw[if_neg hf] at h';obtain⟨rfl,rfl,rfl,rfl⟩:=h;obtain⟨rfl,rfl,rfl,rfl⟩:=h';exact⟨rfl,rfl,rfl,rfl⟩
def FirstVP (r:Bs) (ts:List VoiT) (f:Int) (w:World) (e:Ending) (w':World):Prop:=
 ∃(v:Value) (c lo hi:Int) (is:List Int),e=.returned (.tuple #[.agg #[.int .i64 lo,.int .i64 hi],v,.int .i64 c])/\SeesT w' w'.heap.size v is/\FirstR r ts f lo hi is c/\Below w.heap.size w w'
theorem cnt_snocV (l:List Sp) (s:Sp) (t:Int):cnt (l++s :: []) t=cnt l t+if s.1<=t/\t<=s.2 then 1 else 0:=by
 unfold cnt hol;rw[List.countP_append,List.countP_singleton]
 by_cases h:s.1<=t/\t<=s.2
 ·rw[if_pos h,if_pos (by simpa using h)]
 rw[if_neg h,if_neg (by simpa using h)]
theorem spans_truth {r:Bs} {ts:List VoiT} {f n:Nat} {t:Int} (h:∀k,f<=k->k<n->vacc r (voiT ts k)=0/\(voiT ts k).2.2.1<=t/\t<=(voiT ts k).2.2.2):∀k,k<=n->k<=cnt (spansN r ts k) t+f
 | 0,_=>by omega
 | k+1,hk=>by
   have ih:=spans_truth h k (by omega);unfold spansN
   by_cases hf:f<=k
   ·obtain⟨h1,h2⟩:=h k hf (by omega)
    rw[if_pos h1,cnt_snocV,if_pos h2]
    omega
   split
   ·rw[cnt_snocV];omega
   omega
theorem spans_some {r:Bs} {ts:List VoiT} {f:Nat} {t:Int}:∀k,f<cnt (spansN r ts k) t->∃j,f<=j/\j<k/\(voiT ts j).2.2.1<=t/\t<=(voiT ts j).2.2.2
 | 0,h=>by simp[spansN,cnt] at h
 | k+1,h=>by
   have hl:=(heardN_len r ts (k+1)).2;have hc:=cnt_le (spansN r ts (k+1)) t;unfold spansN at h
   split at h
   ·rw[cnt_snocV] at h
    by_cases hs:(voiT ts k).2.2.1<=t/\t<=(voiT ts k).2.2.2
    ·have hs':(voiT ts k).2.2.1<=t/\t<=(voiT ts k).2.2.2:=hs
     rw[if_pos hs'] at h;have h1:=(heardN_len r ts k).2;have h2:=cnt_le (spansN r ts k) t;exact⟨k,by omega,by omega,hs⟩
    have hs':¬((voiT ts k).2.2.1<=t/\t<=(voiT ts k).2.2.2):=hs;rw[if_neg hs'] at h;obtain⟨j,h1,h2,h3⟩:=spans_some k (by omega);exact⟨j,h1,by omega,h3⟩
   obtain⟨j,h1,h2,h3⟩:=spans_some k h;exact⟨j,h1,by omega,h3⟩
def cntF (f:Nat) (l:List Int):Nat:=l.countP fun x=>decide ((f:Int)<=x)
theorem cntF_snoc (f:Nat) (l:List Int) (x:Int):cntF f (l++x :: [])=cntF f l+if (f:Int)<=x then 1 else 0:=by
 unfold cntF;rw[List.countP_append,List.countP_singleton]
 by_cases h:(f:Int)<=x
 ·rw[if_pos h,if_pos (by simpa using h)]
 rw[if_neg h,if_neg (by simpa using h)]
theorem heard_all {r:Bs} {ts:List VoiT} {f n:Nat} (h:∀k,f<=k->k<n->vacc r (voiT ts k)=0):∀k,k<=n->cntF f (heardN r ts k)=k - f
 | 0,_=>by simp[heardN,cntF]
 | k+1,hk=>by
   have ih:=heard_all h k (by omega);unfold heardN
   by_cases hf:f<=k
   ·rw[if_pos (h k hf (by omega)),cntF_snoc,if_pos (by omega)]
    omega
   split
   ·rw[cntF_snoc,if_neg (by omega)];omega
   omega
theorem truth_plain {r:Bs} {ts:List VoiT} {f:Nat} {t lo hi:Int} {is:List Int} {c:Int} (hn:ts.length<=64) (hf:2 * f<ts.length)
 (h:∀k,f<=k->k<ts.length->vacc r (voiT ts k)=0/\(voiT ts k).2.2.1<=t/\t<=(voiT ts k).2.2.2) (hF:FirstR r ts f lo hi is c) :
 c=0/\lo<=t/\t<=hi/\cntF f is=ts.length - f/\is.length<=64/\(∃j,f<=j/\j<ts.length/\(voiT ts j).2.2.1<=lo/\lo<=(voiT ts j).2.2.2)/\(∃j,f<=j/\j<ts.length/\(voiT ts j).2.2.1<=hi/\hi<=(voiT ts j).2.2.2):=by
 unfold FirstR at hF;rw[if_neg (by omega),if_pos (by omega)] at hF;obtain⟨o,ho,hF⟩:=hF;have ht:=spans_truth h ts.length nlr;have hl:=heardN_len r ts ts.length;cases o with
 | none=>have:=ho t;omega
 | some s=>
   obtain⟨rfl,rfl,rfl,rfl⟩:=hF;obtain⟨h1,h2,h3⟩:=ho;obtain⟨h4,h5⟩:=h3 t (by omega);exact⟨rfl,h4,h5,heard_all (fun k a b=>(h k a b).1) _ nlr,by omega,spans_some (r:=r) _ (by omega),spans_some (r:=r) _ (by omega)⟩
end Go.Proofs.YtjgepckncogdaaaGreat
