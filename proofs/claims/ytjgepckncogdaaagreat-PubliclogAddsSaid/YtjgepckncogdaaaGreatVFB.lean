/- Contracts of functions, walks, plain facts. Conditions: those of each theorem. -/
import Derived.Test.YtjgepckncogdaaaGreatK29
import Derived.Test.YtjgepckncogdaaaGreatVProofA
import Derived.Test.YtjgepckncogdaaaGreatVCVNil
import Derived.Test.YtjgepckncogdaaaGreatVRLCopy
import Derived.Deep.AppendLies
import Derived.Deep.CutBlock
set_option linter.unusedVariables false
set_option linter.unusedSimpArgs false
set_option maxRecDepth 100000
set_option maxHeartbeats 16000000
namespace Go.Proofs.YtjgepckncogdaaaGreat
open Go Go.RowKit _root_.Go.Proofs.Tryz
theorem putB2 (n:Nat):putB 2 n=[UInt8.ofNat (n / 256),UInt8.ofNat n]:=rfl
theorem getB2 (a b:UInt8):getB [a,b]=a.toNat * 256+b.toNat:=by
 have:=a.toNat_lt
 have:=b.toNat_lt
 simp[getB]
 omega
theorem getB_put2 (n:Nat) (h:n<65536):getB (putB 2 n)=n:=by
 rw[putB2,getB2,UInt8.toNat_ofNat',UInt8.toNat_ofNat']
 omega
theorem putB_get2 (l:Bs) (h:l.length=2):putB 2 (getB l)=l:=by
 obtain⟨a,b,rfl⟩:∃a b,l=[a,b]:=by
  match l,h with
  | [a,b],_=>exact⟨a,b,rfl⟩
 have ha:=a.toNat_lt;have hb:=b.toNat_lt;rw[putB2,getB2]
 congr 1
 ·apply UInt8.toNat.inj;rw[UInt8.toNat_ofNat'];omega
 congr 1;apply UInt8.toNat.inj;rw[UInt8.toNat_ofNat'];omega
abbrev Fd:=Nat × Bs
def fdB (f:Fd):Bs:=putB 2 f.1++(putB 2 f.2.length++f.2)
def wrF (l:List Fd):Bs:=l.flatMap fdB
def okF (f:Fd):Prop:=f.1<65536/\f.2.length<65536
theorem fdB_len (f:Fd):(fdB f).length=4+f.2.length:=by unfold fdB;rw[xla,xla,putB_len,putB_len];omega
theorem wrF_nil:wrF []=[]:=rfl
theorem wrF_cons (f:Fd) (l:List Fd):wrF (f :: l)=fdB f++wrF l:=List.flatMap_cons
theorem wrF_append (a b:List Fd):wrF (a++b)=wrF a++wrF b:=List.flatMap_append
theorem wrF_one (f:Fd):wrF [f]=fdB f:=by rw[wrF_cons,wrF_nil,List.append_nil]
def tyF (r:Bs):Nat:=getB (r.take 2)
def ndF (r:Bs):Nat:=getB ((r.drop 2).take 2)
theorem get2_lt (l:Bs) (h:l.length=2):getB l<65536:=by
 match l,h with
 | [a,b],_=>
   have:=a.toNat_lt
   have:=b.toNat_lt
   rw[getB2]
   omega
theorem ndF_lt {r:Bs} (h:4<=r.length):ndF r<65536:=get2_lt _ (by rw[xlt,xld];omega)
theorem tyF_lt {r:Bs} (h:4<=r.length):tyF r<65536:=get2_lt _ (by rw[xlt];omega)
theorem tyF_fd (f:Fd) (r:Bs) (h:okF f):tyF (fdB f++r)=f.1:=by
 unfold tyF fdB;rw[xaa,List.take_left' (putB_len 2 _)];exact getB_put2 _ h.1
theorem ndF_fd (f:Fd) (r:Bs) (h:okF f):ndF (fdB f++r)=f.2.length:=by
 unfold ndF fdB;rw[xaa,List.drop_left' (putB_len 2 _),xaa,List.take_left' (putB_len 2 _)];exact getB_put2 _ h.2
theorem dataF_fd (f:Fd) (r:Bs):((fdB f++r).drop 4).take f.2.length=f.2:=by
 unfold fdB;rw[xaa,xaa,<-xaa,List.drop_left' (by rw[xla,putB_len,putB_len]),List.take_left' rfl]
theorem fdB_inj {x y:Fd} {r s:Bs} (hx:okF x) (hy:okF y) (h:fdB x++r=fdB y++s):x=y/\r=s:=by
 have h1:=congrArg tyF h;have h2:=congrArg ndF h;rw[tyF_fd x r hx,tyF_fd y s hy] at h1;rw[ndF_fd x r hx,ndF_fd y s hy] at h2;have h3:=congrArg (fun z=>(z.drop 4).take x.2.length) h;rw[dataF_fd x r,h2,dataF_fd y s] at h3;have e:x=y:=Prod.ext h1 h3;subst e;exact⟨rfl,List.append_cancel_left h⟩
theorem wrF_inj:∀{l l':List Fd},(∀f∈l,okF f)->(∀f∈l',okF f)->wrF l=wrF l'->l=l'
 | [],[],_,_,_=>rfl
 | [],y :: l',_,_,h=>by
   have:=congrArg List.length h
   rw[wrF_cons,xla,fdB_len] at this;have h0:(wrF []).length=0:=rfl
   omega
 | x :: l,[],_,_,h=>by
   have:=congrArg List.length h
   rw[wrF_cons,xla,fdB_len] at this;have h0:(wrF []).length=0:=rfl
   omega
 | x :: l,y :: l',hx,hy,h=>by
   rw[wrF_cons,wrF_cons] at h;obtain⟨rfl,h2⟩:=fdB_inj (hx x (List.mem_cons_self ..)) (hy y (List.mem_cons_self ..)) h;rw[wrF_inj (fun f hf=>hx f (xmc _ hf)) (fun f hf=>hy f (xmc _ hf)) h2]
theorem wrF_rest:∀{out l:List Fd} {r:Bs},(∀f∈out,okF f)->(∀f∈l,okF f)->wrF l=wrF out++r->∃l',l=out++l'/\wrF l'=r
 | [],l,r,_,_,h=>⟨l,rfl,h⟩
 | x :: out,[],r,_,_,h=>by
   have:=congrArg List.length h
   rw[wrF_cons,xla,xla,fdB_len] at this;have h0:(wrF []).length=0:=rfl
   omega
 | x :: out,y :: l,r,hx,hy,h=>by
   rw[wrF_cons,wrF_cons,xaa] at h;obtain⟨rfl,h2⟩:=fdB_inj (hy y (List.mem_cons_self ..)) (hx x (List.mem_cons_self ..)) h;obtain⟨l',rfl,h3⟩:=wrF_rest (fun f hf=>hx f (xmc _ hf)) (fun f hf=>hy f (xmc _ hf)) h2;exact⟨l',rfl,h3⟩
theorem field_split {r:Bs} (h1:4<=r.length) (h2:ndF r<=r.length - 4):okF (tyF r,(r.drop 4).take (ndF r))/\r=fdB (tyF r,(r.drop 4).take (ndF r))++r.drop (4+ndF r):=by
 match r,h1 with
 | a :: b :: c :: d :: t,_=>
   have h3:ndF (a :: b :: c :: d :: t)=getB [c,d]:=rfl;have h4:tyF (a :: b :: c :: d :: t)=getB [a,b]:=rfl;have hl:(t.take (getB [c,d])).length=getB [c,d]:=by
    rw[xlt];rw[h3] at h2;simp at h2
    omega
   have hac:=a.toNat_lt;have hbc:=b.toNat_lt;have hcc:=c.toNat_lt;have hdc:=d.toNat_lt;have ha:getB [a,b]<65536:=by rw[getB2];omega
   have hb:getB [c,d]<65536:=by rw[getB2];omega
   rw[h3,h4];refine⟨⟨ha,?_⟩,?_⟩
   ·show (t.take (getB [c,d])).length<65536
    rw[hl];exact hb
   unfold fdB;show _=putB 2 (getB [a,b])++(putB 2 (t.take (getB [c,d])).length++t.take (getB [c,d]))++_;rw[hl,putB_get2 _ rfl,putB_get2 _ rfl,Nat.add_comm 4];simp
theorem short_no {r:Bs} (h0:r≠[]) (h:r.length<4\/r.length - 4<ndF r) {l:List Fd} (hl:∀f∈l,okF f):wrF l≠r:=by
 rintro rfl
 match l with
 | []=>exact h0 rfl
 | f :: l=>
   rw[wrF_cons] at h;rw[ndF_fd f _ (hl f (List.mem_cons_self ..)),xla,fdB_len] at h
   omega
def FieldsR (b:Bs) (o:Option (List Fd)):Prop:=
 match o with
 | some l=>(∀f∈l,okF f)/\wrF l=b
 | none=>∀l,(∀f∈l,okF f)->wrF l≠b
theorem FieldsR.uniq {b:Bs} {o o':Option (List Fd)} (h:FieldsR b o) (h':FieldsR b o'):o=o':=by
 cases o with
 | none=>
   cases o' with
   | none=>rfl
   | some l=>exact absurd h'.2 (h l h'.1)
 | some l=>
   cases o' with
   | none=>exact absurd h.2 (h' l h.1)
   | some l'=>rw[wrF_inj h.1 h'.1 (h.2.trans h'.2.symm)]
theorem fields_no {b:Bs} {out:List Fd} {i:Nat} (ho:∀f∈out,okF f) (hw:wrF out=b.take i) (h0:i<b.length) (h:b.length - i<4\/b.length - i - 4<ndF (b.drop i)):FieldsR b none:=by
 intro l hl he;have hb:wrF l=wrF out++b.drop i:=by rw[he,hw,List.take_append_drop]
 obtain⟨l',rfl,h3⟩:=wrF_rest ho hl hb;refine short_no (r:=b.drop i) ?_ ?_ (fun f hf=>hl f (List.mem_append_right _ hf)) h3
 ·intro e;have:=congrArg List.length e;rw[xld] at this;simp at this;omega
 rw[xld];exact h
theorem fields_step {b:Bs} {out:List Fd} {i:Nat} (ho:∀f∈out,okF f) (hw:wrF out=b.take i) (h1:4<=b.length - i) (h2:ndF (b.drop i)<=b.length - i - 4) :
 (∀f∈out++[(tyF (b.drop i),((b.drop i).drop 4).take (ndF (b.drop i)))],okF f)/\wrF (out++[(tyF (b.drop i),((b.drop i).drop 4).take (ndF (b.drop i)))])=b.take (i+4+ndF (b.drop i)):=by
 have hr:4<=(b.drop i).length:=by rw[xld];exact h1
 obtain⟨k1,k2⟩:=field_split hr (by rw[xld];exact h2);refine⟨fun f hf=>?_,?_⟩
 ·rcases List.mem_append.1 hf with hf | hf
  ·exact ho f hf
  rw[List.mem_singleton.1 hf];exact k1
 rw[wrF_append,wrF_one,hw];have hl:=fdB_len (tyF (b.drop i),((b.drop i).drop 4).take (ndF (b.drop i)));have hm:(((b.drop i).drop 4).take (ndF (b.drop i))).length=ndF (b.drop i):=by rw[xlt,xld,xld];omega
 dsimp only at hl;rw[hm] at hl;rw[Nat.add_assoc,List.take_add,<-hl]
 congr 1
 exact (List.take_left' rfl).symm.trans (congrArg _ k2.symm)
theorem fields_end {b:Bs} {out:List Fd} {i:Nat} (ho:∀f∈out,okF f) (hw:wrF out=b.take i) (h0:b.length<=i):FieldsR b (some out):=⟨ho,by rw[hw,xtl h0]⟩
abbrev Lk:=Bs × Bs × Bs
def lkF (t:Lk):List Fd:=[(1,t.1),(2,t.2.1),(3,t.2.2)]
def encF (ls:List Lk) (f s:Nat):List Fd:=ls.flatMap lkF++[(4,[UInt8.ofNat f,UInt8.ofNat s])]
theorem lkF_len (ls:List Lk):(ls.flatMap lkF).length=3 * ls.length:=by
 induction ls with
 | nil=>rfl
 | cons t ls ih=>rw[List.flatMap_cons,xla,ih,xlc];show 3+_=_;omega
theorem encF_len (ls:List Lk) (f s:Nat):(encF ls f s).length=3 * ls.length+1:=by unfold encF;rw[xla,lkF_len];rfl
theorem lkF_get (ls:List Lk):∀(k:Nat) (t:Lk),ls[k]?=some t->(ls.flatMap lkF)[3 * k]?=some (1,t.1)/\(ls.flatMap lkF)[3 * k+1]?=some (2,t.2.1)/\(ls.flatMap lkF)[3 * k+2]?=some (3,t.2.2):=by
 induction ls with
 | nil=>intro k t h;simp at h
 | cons a ls ih=>
   intro k t h;cases k with
   | zero=>simp at h;subst h;exact⟨rfl,rfl,rfl⟩
   | succ k=>
     rw[xqs] at h
     have:=ih k t h
     rw[List.flatMap_cons,show 3 * (k+1)=3 * k+1+1+1 by omega];exact this
theorem encF_get {ls:List Lk} {f s k:Nat} {t:Lk} (h:ls[k]?=some t):(encF ls f s)[3 * k]?=some (1,t.1)/\(encF ls f s)[3 * k+1]?=some (2,t.2.1)/\(encF ls f s)[3 * k+2]?=some (3,t.2.2):=by
 have hk:=(List.getElem?_eq_some_iff.1 h).1;have hl:=lkF_len ls;unfold encF;rw[xal (by omega),xal (by omega),xal (by omega)];exact lkF_get ls k t h
theorem encF_last (ls:List Lk) (f s:Nat):(encF ls f s)[3 * ls.length]?=some (4,[UInt8.ofNat f,UInt8.ofNat s]):=by
 unfold encF;rw[xar (by rw[lkF_len];exact Nat.le_refl _),lkF_len,Nat.sub_self];rfl
def trip (l:List Fd) (k:Nat):Lk:=((l.getD (3 * k) (0,[])).2,(l.getD (3 * k+1) (0,[])).2,(l.getD (3 * k+2) (0,[])).2)
def exK (l:List Fd) (m:Nat):List Lk:=(List.range m).map (trip l)
theorem exK_len (l:List Fd) (m:Nat):(exK l m).length=m:=by simp[exK]
theorem exK_get (l:List Fd) {m k:Nat} (h:k<m):(exK l m)[k]?=some (trip l k):=by simp[exK,h]
theorem getD_of {l:List Fd} {k:Nat} {x:Fd} (h:l[k]?=some x):l.getD k (0,[])=x:=by rw[xgd,h];rfl
theorem exK_enc (ls:List Lk) (f s:Nat):exK (encF ls f s) ls.length=ls:=by
 apply List.ext_getElem?;intro k;rcases Nat.lt_or_ge k ls.length with h|h
 ·obtain⟨t,ht⟩:∃t,ls[k]?=some t:=⟨_,xge h⟩
  obtain⟨h1,h2,h3⟩:=encF_get (f:=f) (s:=s) ht;rw[exK_get _ h,ht];unfold trip;rw[getD_of h1,getD_of h2,getD_of h3]
 rw[List.getElem?_eq_none h,List.getElem?_eq_none (by rw[exK_len];exact h)]
theorem ofNat_inj {a b:Nat} (ha:a<=255) (hb:b<=255) (h:UInt8.ofNat a=UInt8.ofNat b):a=b:=by
 have:=congrArg UInt8.toNat h
 rw[UInt8.toNat_ofNat',UInt8.toNat_ofNat'] at this
 omega
def DecL (l:List Fd) (o:Option (List Lk × Nat × Nat)):Prop:=
 match o with
 | some p=>l=encF p.1 p.2.1 p.2.2/\p.1.length<=8/\p.2.1<=255/\p.2.2<=255
 | none=>∀(ls:List Lk) (f s:Nat),ls.length<=8->f<=255->s<=255->l≠encF ls f s
theorem encF_inj {ls ls':List Lk} {f f' s s':Nat} (h1:f<=255) (h2:s<=255) (h3:f'<=255) (h4:s'<=255) (h:encF ls f s=encF ls' f' s'):ls=ls'/\f=f'/\s=s':=by
 have e:=congrArg List.length h;rw[encF_len,encF_len] at e;have e0:ls.length=ls'.length:=by omega
 have e1:ls=ls':=by rw[<-exK_enc ls f s,h,e0,exK_enc]
 subst e1;have e2:=encF_last ls f s;rw[h,encF_last] at e2;injection e2 with e2;injection e2 with _ e2;injection e2 with e3 e4;injection e4 with e4;exact⟨rfl,(ofNat_inj h3 h1 e3).symm,(ofNat_inj h4 h2 e4).symm⟩
theorem DecL.uniq {l:List Fd} {o o':Option (List Lk × Nat × Nat)} (h:DecL l o) (h':DecL l o'):o=o':=by
 cases o with
 | none=>
   cases o' with
   | none=>rfl
   | some p=>exact absurd h'.1 (h _ _ _ h'.2.1 h'.2.2.1 h'.2.2.2)
 | some p=>
   cases o' with
   | none=>exact absurd h.1 (h' _ _ _ h.2.1 h.2.2.1 h.2.2.2)
   | some p'=>
     obtain⟨ls,f,s⟩:=p;obtain⟨ls',f',s'⟩:=p';obtain⟨rfl,rfl,rfl⟩:=encF_inj h.2.2.1 h.2.2.2 h'.2.2.1 h'.2.2.2 (h.1.symm.trans h'.1)
     rfl
theorem fdec_form {l:List Fd} {ls:List Lk} {f s:Nat} (h:l=encF ls f s):l.length=3 * ls.length+1/\l[3 * ls.length]?=some (4,[UInt8.ofNat f,UInt8.ofNat s])/\exK l ls.length=ls:=by
 subst h;exact⟨encF_len _ _ _,encF_last _ _ _,exK_enc _ _ _⟩
theorem dec_no_len {l:List Fd} (h:l.length % 3≠1):DecL l none:=fun ls f s _ _ _ e=>by have:=(fdec_form e).1;omega
theorem dec_no_last {l:List Fd} {m:Nat} {x:Fd} (hm:l.length=3 * m+1) (hx:l[3 * m]?=some x) (h:x.1≠4\/x.2.length≠2):DecL l none:=fun ls f s _ _ _ e=>by
 obtain⟨h1,h2,-⟩:=fdec_form e
 have:ls.length=m:=by omega
 rw[this,hx] at h2;injection h2 with h2;subst h2;rcases h with h|h
 ·exact h rfl
 exact h rfl
theorem dec_no_many {l:List Fd} {m:Nat} (hm:l.length=3 * m+1) (h:8<m):DecL l none:=fun ls f s k _ _ e=>by have:=(fdec_form e).1;omega
theorem dec_no_type {l:List Fd} {m k:Nat} (hm:l.length=3 * m+1) (hk:k<m) (h:(l.getD (3 * k) (0,[])).1≠1\/(l.getD (3 * k+1) (0,[])).1≠2\/(l.getD (3 * k+2) (0,[])).1≠3):DecL l none:=fun ls f s _ _ _ e=>by
 have hl:=(fdec_form e).1;obtain⟨t,ht⟩:∃t,ls[k]?=some t:=⟨_,xge (by omega)⟩
 obtain⟨h1,h2,h3⟩:=encF_get (f:=f) (s:=s) ht;subst e;rw[getD_of h1,getD_of h2,getD_of h3] at h;rcases h with h|h|h<;>exact h rfl
theorem dec_types {l:List Fd} {m:Nat} {a b:UInt8} (hm:l.length=3 * m+1) (hx:l[3 * m]?=some (4,[a,b])) (h:∀k,k<m->(l.getD (3 * k) (0,[])).1=1/\(l.getD (3 * k+1) (0,[])).1=2/\(l.getD (3 * k+2) (0,[])).1=3):l=encF (exK l m) a.toNat b.toNat:=by
 apply List.ext_getElem?;intro j;have hel:=encF_len (exK l m) a.toNat b.toNat;rw[exK_len] at hel;have hsome:∀j x,j<l.length->l.getD j (0,[])=x->l[j]?=some x:=fun j x hj hx=>by
  rw[xgd,xge hj] at hx;rw[xge hj];exact congrArg some hx
 rcases Nat.lt_trichotomy j (3 * m) with hj|hj|hj
 ·obtain⟨k,hk⟩:∃k,k=j / 3:=⟨_,rfl⟩
  have hkm:k<m:=by omega
  obtain⟨t1,t2,t3⟩:=h k hkm;obtain⟨e1,e2,e3⟩:=encF_get (f:=a.toNat) (s:=b.toNat) (exK_get l hkm);have hj3:j=3 * k\/j=3 * k+1\/j=3 * k+2:=by omega
  rcases hj3 with rfl|rfl|rfl
  ·rw[e1];exact hsome _ _ (by omega) (Prod.ext t1 rfl)
  ·rw[e2];exact hsome _ _ (by omega) (Prod.ext t2 rfl)
  rw[e3];exact hsome _ _ (by omega) (Prod.ext t3 rfl)
 ·subst hj
  have:=encF_last (exK l m) a.toNat b.toNat
  rw[exK_len] at this;rw[hx,this,UInt8.ofNat_toNat,UInt8.ofNat_toNat]
 rw[List.getElem?_eq_none (by omega),List.getElem?_eq_none (by omega)]
theorem dec_yes {l:List Fd} {m:Nat} {a b:UInt8} (hm:l.length=3 * m+1) (h8:m<=8) (h:l=encF (exK l m) a.toNat b.toNat):DecL l (some (exK l m,a.toNat,b.toNat)):=
 ⟨h,by rw[exK_len];exact h8,by have:=a.toNat_lt;show a.toNat<=255;omega,by have:=b.toNat_lt;show b.toNat<=255;omega⟩
theorem dec_back {l:List Fd} {m:Nat} {a b:UInt8} (hm:l.length=3 * m+1) {x:Fd} (hx:l[3 * m]?=some x) (hab:x.2=[a,b]) (h:l≠encF (exK l m) a.toNat b.toNat):DecL l none:=fun ls f s _ hf hs e=>by
 obtain⟨h1,h2,h3⟩:=fdec_form e;have e0:ls.length=m:=by omega
 rw[e0] at h2 h3;rw[hx] at h2;injection h2 with h2;subst h2;dsimp only at hab;injection hab with k1 k2;injection k2 with k2;refine h ?_;rw[h3,<-k1,<-k2,UInt8.toNat_ofNat',UInt8.toNat_ofNat',Nat.mod_eq_of_lt (by omega),Nat.mod_eq_of_lt (by omega)];exact e
theorem fenc_ok {ls:List Lk} {f s:Nat} (h:∀t∈ls,t.1.length<65536/\t.2.1.length<65536/\t.2.2.length<65536):∀x∈encF ls f s,okF x:=by
 intro x hx;unfold encF at hx;rcases List.mem_append.1 hx with hx|hx
 ·obtain⟨t,ht,hx⟩:=List.mem_flatMap.1 hx
  obtain⟨h1,h2,h3⟩:=h t ht;simp only[lkF,List.mem_cons,List.not_mem_nil,or_false] at hx;rcases hx with rfl|rfl|rfl
  ·exact⟨show 1<65536 by omega,h1⟩
  ·exact⟨show 2<65536 by omega,h2⟩
  exact⟨show 3<65536 by omega,h3⟩
 rw[List.mem_singleton.1 hx];exact⟨show 4<65536 by omega,by simp⟩
theorem fdec_enc {ls:List Lk} {f s:Nat} (h8:ls.length<=8) (hf:f<=255) (hs:s<=255):DecL (encF ls f s) (some (ls,f,s)):=⟨rfl,h8,hf,hs⟩
attribute [local go_sem ↓] Go.wp_at_zero Go.wp_at_succ
def fdS (l:List Fd):List Spec:=l.flatMap fun f=>[.val (.int .i64 (f.1:Int)),.byt f.2]
theorem fdS_append (a b:List Fd):fdS (a++b)=fdS a++fdS b:=by simp[fdS]
theorem fdS_len (l:List Fd):(fdS l).length=l.length * 2:=by
 induction l with
 | nil=>rfl
 | cons x l ih=>show (fdS l).length+2=_;rw[ih,xlc];omega
def lenOf:Value->Nat
 | .slice _ n _=>n
 | _=>0
def FieldsQ (e:Ending) (w w':World):Option (List Fd)->Prop
 | none=>e=.returned (.tuple #[.slice none 0 0,.int .i64 1])
 | some l=>∃v,e=.returned (.tuple #[v,.int .i64 0])/\OwnRF w' w.heap.size 219 v 2 l.length (fdS l)
def FieldsP (b:Bs) (w:World) (e:Ending) (w':World):Prop:=∃o,FieldsR b o/\FieldsQ e w w' o/\Below w.heap.size w w'
theorem field_info:(prog.info? 219).map (fun i=>(i.zero,i.size,i.bytes))=some (some (.agg #[.int .i64 0,.slice none 0 0]),2,32):=by kernel_rfl
theorem field_eltsF {w:World} {base:Nat} {v b:Value} {t:Nat} {d:Bs} (h2:EltS w v b (.byt d)) (f2:From base b):∀(k:Nat) (s:Spec),[Spec.val (.int .i64 (t:Int)),.byt d][k]?=some s->∃y,[Value.int .i64 (t:Int),b][k]?=some y/\EltS w v y s/\From base y:=by
 intro k s h
 match k,h with
 | 0,h=>cases h;exact⟨_,rfl,⟨rfl,rfl⟩,fun a n c e=>by cases e⟩
 | 1,h=>cases h;exact⟨_,rfl,h2,f2⟩
 | k+2,h=>simp at h
theorem fields_any (B:Nat) (u:Value) (b:Bs) (w:World) (hu:SeesB w B u b) (hB:B<=w.heap.size) (hn:b.length<=65535) :
 Calls prog 167 #[u] w (FieldsP b w):=by
 obtain⟨A,c,rfl,-,-⟩:=hu.mk_;obtain⟨ti,hti,htz,hts,htb⟩:=info_parts field_info;replace hti:=lhd hti;replace htz:=lhd htz;replace hts:=lhd hts;replace htb:=lhd htb;have i0:¬(65535:Int)<(b.length:Int):=by omega
 go_enter func167,ntmps167
 go_wp2_with fail
 go_loopw [0,4] (fun r o wr=>∃(i:Nat) (out:List Fd),i<=b.length/\Hid (SeesB wr B r (b.drop i))/\Hid (wrF out=b.take i)/\Hid (∀f∈out,okF f)/\Hid (OwnRF wr w.heap.size 219 o 2 out.length (fdS out))/\Hid (Below w.heap.size w wr)) (fun r _ _=>lenOf r)
 case atStart=>exact⟨0,[],by omega,hu,rfl,fun f hf=>(by cases hf),OwnRF.nil _ _ _ _,Below.refl _ _⟩
 case round=>
  clear i0 hu;obtain⟨i,out,hi,hs,hw,hok,ho,hb⟩:=hrel;have hql:Hid ((b.drop i).length=b.length - i):=xld;have hdd:∀n,(b.drop i).drop n=b.drop (i+n):=fun n=>List.drop_drop
  have hno:=lhd (fun (h0:i<b.length) h=>fields_no hok.out hw.out h0 h);have hst:=lhd (fun h1 h2=>fields_step hok.out hw.out h1 h2);have hend:=lhd (fun h0=>fields_end hok.out hw.out h0);replace hdd:=lhd hdd;generalize b.drop i=q at *;obtain⟨Ar,cr,rfl,-,hcm⟩:=hs.out.mk_;unfold maxLen at hcm;obtain⟨Ao,co,rfl,-,-⟩:=ho.out.own.sees.mk_
  by_cases h0:q.length=0
  ·have i1:¬(0:Int)<(q.length:Int):=by omega
   have hr:=lhd (hend.out (by have:=hql.out;omega));clear hno hst hend
   go_wp2_with fail
   go_returns
   exact⟨some out,hr.out,⟨_,rfl,ho.out⟩,hb.out⟩
  have i1:(0:Int)<(q.length:Int):=by omega
  by_cases h4:q.length<4
  ·have i2:(q.length:Int)<4:=by omega
   have hr:=lhd (hno.out (by have:=hql.out;omega) (.inl (by have:=hql.out;omega)));clear hno hst hend
   go_wp2_with fail
   go_returns
   exact⟨none,hr.out,rfl,hb.out⟩
  have i2:¬(q.length:Int)<4:=by omega
  have hqr:(q.length:Int)<=65535:=by have:=hql.out;omega
  have hqc:q.length<=cr:=by have:=hs.out.mk_;obtain⟨A',c',e,h1,h2⟩:=this;injection e with e1 e2 e3;omega
  obtain⟨n,hnd⟩:∃n,ndF q=n:=⟨_,rfl⟩
  obtain⟨ty,hty⟩:∃t,tyF q=t:=⟨_,rfl⟩
  have hn2:=ndF_lt (r:=q) (by omega);have ht2:=tyF_lt (r:=q) (by omega);rw[hnd] at hn2 hno hst;rw[hty] at ht2 hst;obtain⟨A2,hA2⟩:∃x,cutA Ar cr 2 1=x:=⟨_,rfl⟩
  have r24:∀W,(Instr.slice 25 (.slice Ar q.length cr) (some (.int .i64 2)) (some (.int .i64 4)) none).run prog W=.ok (.slice A2 2 (cr - 2)) W:=fun W=>by rw[<-hA2];exact run_cut (P:=prog) 25 underlying25 1 byte_size Ar q.length cr .i64 .i64 2 4 (by omega) (by omega) (by omega) W
  have hg1:Hid (∀W,Below wr.heap.size wr W->Calls prog 147 #[.slice A2 2 (cr - 2)] W fun e w'=>e=.returned (.int .u64 (n:Int))/\w'=W):=fun W hW=>by
   rw[<-hnd,<-hA2];exact get_any B (.slice (cutA Ar cr 2 1) 2 (cr - 2)) ((q.drop 2).take 2) W (SeesB.below (SeesB.cut (a:=2) (b:=4) hs.out (by omega) (by omega)) (hW.mono (Nat.le_trans hB hb.out.size)))
  replace hA2:=lhd hA2
  by_cases hlt:q.length - 4<n
  ·have i3:(q.length:Int) - 4<(n:Int):=by omega
   have hr:=lhd (hno.out (by have:=hql.out;omega) (.inr (by have:=hql.out;omega)));clear hno hst hend hnd hty
   go_wp2_with fail
   refine (hg1.out wr (Below.refl _ _)).mono ?_;rintro e w1 ⟨rfl,hw⟩;obtain rfl:=hw.symm;dsimp only
   go_wp2_with fail
   go_returns
   exact⟨none,hr.out,rfl,hb.out⟩
  have i3:¬(q.length:Int) - 4<(n:Int):=by omega
  obtain⟨A0,hA0⟩:∃x,cutA Ar cr 0 1=x:=⟨_,rfl⟩
  obtain⟨A4,hA4⟩:∃x,cutA Ar cr 4 1=x:=⟨_,rfl⟩
  obtain⟨A5,hA5⟩:∃x,cutA Ar cr (4+n) 1=x:=⟨_,rfl⟩
  obtain⟨d,hd⟩:∃x,(q.drop 4).take n=x:=⟨_,rfl⟩
  have hdl:d.length=n:=by rw[<-hd,xlt,xld];omega
  have n0:IntKind.i64.wrap (4+(n:Int))=((4+n:Nat):Int):=by rw[xwi];omega
  have r02:∀W,(Instr.slice 25 (.slice Ar q.length cr) none (some (.int .i64 2)) none).run prog W=.ok (.slice A0 2 cr) W:=fun W=>by rw[<-hA0];exact run_cut_to (P:=prog) 25 underlying25 1 byte_size Ar q.length cr .i64 2 (by omega) (by omega) W
  have r4n:∀W,(Instr.slice 25 (.slice Ar q.length cr) (some (.int .i64 4)) (some (.int .i64 (4+(n:Int)))) none).run prog W=.ok (.slice A4 n (cr - 4)) W:=fun W=>by
   have:=run_cut (P:=prog) 25 underlying25 1 byte_size Ar q.length cr .i64 .i64 4 (4+(n:Int)) (by omega) (by omega) (by omega) W
   rw[show (4+(n:Int)).toNat - (4:Int).toNat=n from by omega] at this;rw[<-hA4];exact this
  have r5n:∀W,(Instr.slice 25 (.slice Ar q.length cr) (some (.int .i64 (4+(n:Int)))) none none).run prog W=.ok (.slice A5 (q.length - (4+n)) (cr - (4+n))) W:=fun W=>by
   have:=run_cut_from (P:=prog) 25 underlying25 1 byte_size Ar q.length cr .i64 (4+(n:Int)) (by omega) (by omega) W
   rw[show (4+(n:Int)).toNat=4+n from by omega] at this;rw[<-hA5];exact this
  have hg2:Hid (∀W,Below wr.heap.size wr W->Calls prog 147 #[.slice A0 2 cr] W fun e w'=>e=.returned (.int .u64 (ty:Int))/\w'=W):=fun W hW=>by
   rw[<-hty,<-hA0];exact get_any B (.slice (cutA Ar cr 0 1) 2 cr) (q.take 2) W (SeesB.below (SeesB.cut (a:=0) (b:=2) hs.out (by omega) (by omega)) (hW.mono (Nat.le_trans hB hb.out.size)))
  have hcl:Hid (∀W,Below wr.heap.size wr W->Calls prog 140 #[.slice A4 n (cr - 4)] W (Gives d W)):=fun W hW=>by
   rw[<-hd,<-hA4];have hc:=SeesB.cut (a:=4) (b:=4+n) hs.out (by omega) (by omega);rw[show 4+n - 4=n from by omega] at hc;exact clone_any B _ _ W (SeesB.below hc (hW.mono (Nat.le_trans hB hb.out.size))) (Nat.le_trans hB (Nat.le_trans hb.out.size hW.size)) (by rw[xlt];omega)
  have hsn:Hid (SeesB wr B (.slice A5 (q.length - (4+n)) (cr - (4+n))) (b.drop (i+4+n))):=by
   have hc:=SeesB.cut (a:=4+n) (b:=q.length) hs.out (by omega) nlr;rw[xtl (by rw[xld];exact Nat.le_refl _),hdd.out,hA5,<-Nat.add_assoc] at hc;exact hc
  rw[hd] at hst;obtain⟨k1,k2⟩:=hst.out (by have:=hql.out;omega) (by have:=hql.out;omega);replace k1:=lhd k1;replace k2:=lhd k2;have hin:Hid (i+4+n<=b.length):=by show _<=_;have:=hql.out;omega
  have hol:Hid (out.length+1<=1048576):=by
   show _<=_;have h1:∀l:List Fd,4 * l.length<=(wrF l).length:=fun l=>by
    induction l with
    | nil=>exact Nat.le_refl _
    | cons x l ih=>rw[wrF_cons,xla,fdB_len,xlc];omega
   have h2:=h1 out;rw[hw.out,xlt] at h2
   omega
  have hlo:Hid (∀j,(Value.slice Ao out.length co).ownBlock=some j->j<wr.heap.size):=fun j hj=>(ho.out.own.lt j hj).2
  have n1:IntKind.i64.wrap (ty:Int)=(ty:Int):=by rw[xwi];omega
  replace hdl:=lhd hdl;replace hd:=lhd hd;replace hA0:=lhd hA0;replace hA4:=lhd hA4;replace hA5:=lhd hA5;replace hnd:=lhd hnd;replace hty:=lhd hty;clear hno hst hend
  go_upto_region 7 with (fail)
  go_wp2_with fail
  refine (hg1.out wr (Below.refl _ _)).mono ?_;rintro e w1 ⟨rfl,hw1⟩;obtain rfl:=hw1.symm;dsimp only
  go_upto_region 10 with (fail)
  go_region_held3 (fun W':World=>True) (trivial)
   (first
    | (refine step_appRF (by rfl) (.tmp 24) (.tmp 35) 217 219 underlying217 (by rfl) ti (.agg #[.int .i64 0,.slice none 0 0]) 2 32 hti.out htz.out hts.out htb.out (by rfl) (by omega) (by omega) w.heap.size (.slice Ao out.length co) out.length (fdS out) (by rfl) ho2.out (w8.heap.size+1) (.slice (some ⟨w8.heap.size,0,none⟩) 1 1) 1 [.int .i64 (ty:Int),.slice B2 d.length d2] [.val (.int .i64 (ty:Int)),.byt d] (by rfl) hrec.out (by rfl) hel.out hol.out hb3.out.size ?_;intro v' w' hW2 hb4 hg4)
    | (go_at_call 140;(with_reducible refine (hcl.out wr.drew (bdrew wr)).mono ?_);rintro e w8 ⟨v8,rfl,o8,hb8⟩
       obtain⟨B2,d2,rfl,-,-⟩:=o8.sees.mk_;have hb08:=bgo (bdrew wr) hb8;have hal:=balloc w8 (.cells #[.int .i64 (ty:Int),.slice B2 d.length d2] 219);have hrec:Hid (Sees (w8.alloc (.cells #[.int .i64 (ty:Int),.slice B2 d.length d2] 219)) (w8.heap.size+1) (.slice (some ⟨w8.heap.size,0,none⟩) 1 1) 2 1 [.int .i64 (ty:Int),.slice B2 d.length d2]):=rec_lit w8 219 [.int .i64 (ty:Int),.slice B2 d.length d2];have ho2:=lhd (ho.out.below (bgo hb08 hal));have hel:=lhd (field_eltsF (base:=w.heap.size) (t:=ty) (EltS.of_from (v:=.slice Ao out.length co) (seesB_of o8.sees nlr hal) (o8.from.mono (bdrew wr).size) hlo.out) (o8.from.mono (Nat.le_trans hb.out.size (bdrew wr).size)));have hb3:=lhd (bgo (bgo hb.out hb08) hal);have hbW:=lhd (bgo hb08 hal);clear hal)
    | (go_at_call 140;(with_reducible refine (hcl.out wr (Below.refl _ _)).mono ?_);rintro e w8 ⟨v8,rfl,o8,hb8⟩
       obtain⟨B2,d2,rfl,-,-⟩:=o8.sees.mk_;have hb08:=hb8;have hal:=balloc w8 (.cells #[.int .i64 (ty:Int),.slice B2 d.length d2] 219);have hrec:Hid (Sees (w8.alloc (.cells #[.int .i64 (ty:Int),.slice B2 d.length d2] 219)) (w8.heap.size+1) (.slice (some ⟨w8.heap.size,0,none⟩) 1 1) 2 1 [.int .i64 (ty:Int),.slice B2 d.length d2]):=rec_lit w8 219 [.int .i64 (ty:Int),.slice B2 d.length d2];have ho2:=lhd (ho.out.below (bgo hb08 hal));have hel:=lhd (field_eltsF (base:=w.heap.size) (t:=ty) (EltS.of_from (v:=.slice Ao out.length co) (seesB_of o8.sees nlr hal) o8.from hlo.out) (o8.from.mono hb.out.size));have hb3:=lhd (bgo (bgo hb.out hb08) hal);have hbW:=lhd (bgo hb08 hal);clear hal)
    | (go_at_call 147;(with_reducible refine (hg2.out _ (by (repeat (first | exact Below.refl _ _ | (refine bgo ?_ (balloc _ _)) | (refine bgo ?_ (bdrew _)) | (refine bgo ?_ (by assumption)))))).mono ?_);rintro e w7 ⟨rfl,hw7⟩
       obtain rfl:=hw7.symm))
  all_goals
   replace hW2:Hid (OwnRF w' w.heap.size 219 v' 2 (out++[(ty,d)]).length (fdS (out++[(ty,d)]))):=by
    show OwnRF _ _ _ _ _ _ _;rw[xla,fdS_append];exact hW2
   have hb5:=lhd (hb3.out.trans hb4);have hsn2:=lhd (SeesB.below hsn.out ((hbW.out.mono (Nat.le_trans hB hb.out.size)).trans (hb4.mono hB)));clear hb4 hg4
   go_wp2_with fail
   go_roundw
   case rel=>exact⟨i+4+n,out++[(ty,d)],hin.out,hsn2,k2,k1,hW2,hb5⟩
   case measure=>show q.length - (4+n)<q.length;omega
attribute [local go_sem ↓] Go.wp_at_zero Go.wp_at_succ
theorem fdS_get (ls:List Fd):∀(k:Nat) (t:Fd),ls[k]?=some t->(fdS ls)[k * 2]?=some (.val (.int .i64 (t.1:Int)))/\(fdS ls)[k * 2+1]?=some (.byt t.2):=by
 induction ls with
 | nil=>intro k t h;simp at h
 | cons a r ih=>
   intro k t h;cases k with
   | zero=>simp at h;subst h;exact⟨rfl,rfl⟩
   | succ k=>
     rw[xqs] at h;obtain⟨h1,h2⟩:=ih k t h;rw[show (k+1) * 2=k * 2+2 by omega,show k * 2+2+1=k * 2+1+2 by omega];exact⟨h1,h2⟩
theorem fd_at {w:World} {B n c:Nat} {A:Option Addr} {ls:List Fd} (h:SeesR w B (.slice A n c) 2 n (fdS ls)) (k:Nat) (t:Fd) (hk:ls[k]?=some t) :
 ∃b o A1 c1,A=some ⟨b,o,none⟩/\b<B/\w.cell? ⟨b,o+k * 2,none⟩=some (.int .i64 (t.1:Int))/\w.cell? ⟨b,o+k * 2+1,none⟩=some (.slice A1 t.2.length c1)/\SeesB w B (.slice A1 t.2.length c1) t.2:=by
 have hl:=h.1;rw[fdS_len] at hl;have hkl:=(List.getElem?_eq_some_iff.1 hk).1;obtain⟨b,o,e,hb,hc⟩:=h.at_ (by omega);obtain⟨g1,g2⟩:=fdS_get ls k t hk;obtain⟨u1,d1,f1⟩:=hc _ _ g1;obtain⟨u2,d2,f2⟩:=hc _ _ g2;have f2:SeesB w B u2 t.2:=f2;obtain⟨rfl,-⟩:=f1;obtain⟨A1,c1,rfl,-,-⟩:=f2.mk_;exact⟨b,o,A1,c1,e,hb,d1,by rw[Nat.add_assoc];exact d2,f2⟩
theorem wrF_take {l:List Fd} {k:Nat} {t:Fd} (h:l[k]?=some t):wrF (l.take (k+1))=wrF (l.take k)++fdB t:=by
 rw[List.take_add_one,wrF_append,h];show _++wrF [t]=_;rw[wrF_one]
theorem wrF_le (l:List Fd) (k:Nat):(wrF (l.take k)).length<=(wrF l).length:=by
 conv=>rhs;rw[<-List.take_append_drop k l,wrF_append,xla]
 omega
theorem wrF_count (l:List Fd):4 * l.length<=(wrF l).length:=by
 induction l with
 | nil=>exact Nat.le_refl _
 | cons x l ih=>rw[wrF_cons,xla,fdB_len,xlc];omega
def WriteP (b:Bs) (w:World) (e:Ending) (w':World):Prop:=∃v,e=.returned (.tuple #[v,.int .i64 0])/\OwnB w' w.heap.size v b/\Below w.heap.size w w'
attribute [local go_sem ↓] Go.wp_at_zero Go.wp_at_succ
theorem write_any (B:Nat) (u:Value) (ls:List Fd) (w:World) (hu:SeesR w B u 2 ls.length (fdS ls)) (hB:B<=w.heap.size) (hok:∀f∈ls,okF f) (hn:(wrF ls).length<=65535) :
 Calls prog 229 #[u] w (WriteP (wrF ls) w):=by
 obtain⟨A,c,rfl,-,-⟩:=hu.mk_;have hll:=wrF_count ls;replace hu:=lhd hu;replace hok:=lhd hok
 go_enter func229,ntmps229
 go_wp2_with fail
 go_loopw [4,9] (fun r t wr=>∃k:Nat,k<=ls.length/\t=.int .i64 k/\Hid (OwnB wr w.heap.size r (wrF (ls.take k)))/\Hid (Below w.heap.size w wr)) (fun _ t _=>ls.length - (intOf t).toNat)
 case atStart=>exact⟨0,by omega,rfl,World.ownsRow_nil _ _ _ _,Below.refl _ _⟩
 case round=>
  obtain⟨k,hk,rfl,ho,hb⟩:=hrel;obtain⟨Ar,cr,rfl,-,-⟩:=ho.out.sees.mk_;have hle:=wrF_le ls k
  by_cases hlt:k<ls.length
  ·have hk1:Hid (k+1<=ls.length):=hlt
   have i1:(k:Int)<(ls.length:Int):=by omega
   have i2:(0:Int)<=(k:Int):=by omega
   obtain⟨t,ht⟩:∃t,ls[k]?=some t:=⟨_,xge hlt⟩
   have hst:=lhd (wrF_take ht);obtain⟨b,o,A1,c1,e,hbB,z0,z1,s1⟩:=fd_at (hu.out.below (hb.out.mono hB)) k t ht;subst e;obtain⟨q1,q2⟩:=hok.out t (List.mem_of_getElem? ht);obtain⟨ty,d⟩:=t;dsimp only at z0 z1 s1 q1 q2;have j0:¬(ty:Int)<0:=by omega
   have j1:¬(65535:Int)<(ty:Int):=by omega
   have j2:¬(65535:Int)<(d.length:Int):=by omega
   have j3:((wrF (ls.take k)).length:Int)<=65535:=by omega
   clear ht;have x6:=Box.new wr 219 [.int .i64 (ty:Int),.slice A1 d.length c1];change Box (wr.alloc (.cells #[.int .i64 (ty:Int),.slice A1 d.length c1] 219)) _ _ _ at x6;have hal:=balloc wr (.cells #[.int .i64 (ty:Int),.slice A1 d.length c1] 219);have ho0:=lhd (ho.out.below hal);have hb0:=lhd (bgo hb.out hal);have hs0:=lhd (seesB_of (s1.more (Nat.le_trans hB hb.out.size)) nlr hal);clear hal
   go_upto_region 10 with (fail)
   generalize wr.alloc (.cells #[.int .i64 (ty:Int),.slice A1 d.length c1] 219)=W0 at *;generalize wr.heap.size=g6 at *;have hp1:Hid (∀W,Calls prog 74 #[.int .u64 (ty:Int),.int .i64 2] W (Gives (putB 2 ty) W)):=fun W=>put_any ty 2 (by omega) (by omega) W
   have hp2:Hid (∀W,Calls prog 74 #[.int .u64 (d.length:Int),.int .i64 2] W (Gives (putB 2 d.length) W)):=fun W=>put_any d.length 2 (by omega) (by omega) W
   have K:Hid (∀W,Below W0.heap.size W0 W->W.cell? ⟨g6,0,none⟩=some (.int .i64 (ty:Int))/\W.cell? ⟨g6,1,none⟩=some (.slice A1 d.length c1)):=fun W hW=>⟨(x6.below hW).cell 0,(x6.below hW).cell 1⟩
   have hj:Hid (∀(W:World) (u1 u2:Value),Below W0.heap.size W0 W->SeesB W W.heap.size u1 (putB 2 ty)->SeesB W W.heap.size u2 (putB 2 d.length)->Calls prog 70 #[.slice (some ⟨W.heap.size,0,none⟩) 4 4] (W.alloc (.cells #[.slice Ar (wrF (ls.take k)).length cr,u1,u2,.slice A1 d.length c1] 25)) (Gives (wrF (ls.take k)++fdB (ty,d)) (W.alloc (.cells #[.slice Ar (wrF (ls.take k)).length cr,u1,u2,.slice A1 d.length c1] 25)))):=fun W u1 u2 hW h1 h2=>by
    have hl:=seesL_lit W 25 (vs:=[.slice Ar (wrF (ls.take k)).length cr,u1,u2,.slice A1 d.length c1]) (ls:=[wrF (ls.take k),putB 2 ty,putB 2 d.length,d]) ⟨(ho0.out.below hW).sees,h1,h2,seesB_of hs0.out nlr hW,trivial⟩ (by simp[maxLen]);have hf:[wrF (ls.take k),putB 2 ty,putB 2 d.length,d].flatten=wrF (ls.take k)++fdB (ty,d):=by simp[fdB]
    have:=join_any _ _ _ _ hl nlr (by rw[hf,xla,fdB_len];show _+(4+d.length)<=_;omega)
    rw[hf] at this;exact this
   obtain⟨y0,y1⟩:=K.out W0 (Below.refl _ _);have n1:IntKind.u64.wrap (ty:Int)=(ty:Int):=by rw[IntKind.wrap_u64];omega
   have n2:IntKind.u64.wrap (d.length:Int)=(d.length:Int):=by rw[IntKind.wrap_u64];omega
   go_region_held3 (fun W':World=>W'.cell? ⟨g6,0,none⟩=some (.int .i64 (ty:Int))/\W'.cell? ⟨g6,1,none⟩=some (.slice A1 d.length c1))
    (first | exact K.out _ (by (repeat (first | exact Below.refl _ _ | (refine bgo ?_ (balloc _ _)) | (refine bgo ?_ (bdrew _)) | (refine bgo ?_ (by assumption))))) | (go_keep;done))
    (first
     | (go_at_call 74;(with_reducible refine (hp1.out _).mono ?_);rintro e w1 ⟨v1,rfl,o1,hb1⟩;obtain⟨B1,d1,rfl,-,-⟩:=o1.sees.mk_)
     | (go_at_call 74;(with_reducible refine (hp2.out _).mono ?_);rintro e w2 ⟨v2,rfl,o2,hb2⟩;obtain⟨B2,d2,rfl,-,-⟩:=o2.sees.mk_)
     | (go_at_call 70;have hc:Below W0.heap.size W0 w2:=(by (repeat (first | exact Below.refl _ _ | (refine bgo ?_ (balloc _ _)) | (refine bgo ?_ (bdrew _)) | (refine bgo ?_ (by assumption)))));(with_reducible refine (hj.out w2 _ _ hc (seesB_of o1.sees nlr hb2) o2.sees).mono ?_);rintro e w9 ⟨v9,rfl,o9,hb9⟩
        have hbF:=lhd (bgo (bgo hc (balloc w2 _)) hb9);have hoF:=lhd (o9.mono (Nat.le_trans hb0.out.size (bgo hc (balloc w2 _)).size)))
     | (go_at_call 70;have hc:Below W0.heap.size W0 w1:=(by (repeat (first | exact Below.refl _ _ | (refine bgo ?_ (balloc _ _)) | (refine bgo ?_ (bdrew _)) | (refine bgo ?_ (by assumption)))));(with_reducible refine (hj.out w1 _ _ hc o1.sees (seesB_of o2.sees nlr hb1)).mono ?_);rintro e w9 ⟨v9,rfl,o9,hb9⟩
        have hbF:=lhd (bgo (bgo hc (balloc w1 _)) hb9);have hoF:=lhd (o9.mono (Nat.le_trans hb0.out.size (bgo hc (balloc w1 _)).size))))
   all_goals
    replace hoF:Hid (OwnB w9 w.heap.size v9 (wrF (ls.take (k+1)))):=by show OwnB _ _ _ _;rw[hst.out];exact hoF.out
    replace hbF:=lhd (bgo hb0.out hbF.out)
    go_wp2_with fail
    go_roundw
    case rel=>exact⟨k+1,hk1.out,by go_num,hoF,hbF⟩
    case measure=>have:=hk1.out;simp[intOf];omega
  obtain rfl:k=ls.length:=by omega
  have i1:¬(ls.length:Int)<(ls.length:Int):=by omega
  rw[xtl nlr] at *;have j3:¬(65535:Int)<((wrF ls).length:Int):=by omega
  go_wp2_with fail
  go_returns
  exact⟨_,rfl,ho.out,hb.out⟩
def fencC (ls:List Lk) (f s:Int):Int:=if 8<ls.length then 8 else if 0<=f/\f<=255/\0<=s/\s<=255 then 0 else 4
def fencB (ls:List Lk) (f s:Int):Bs:=if fencC ls f s=0 then wrF (encF ls f.toNat s.toNat) else []
def FEncP (ls:List Lk) (f s:Int) (w:World) (e:Ending) (w':World):Prop:=∃v,e=.returned (.tuple #[v,.int .i64 (fencC ls f s)])/\OwnB w' w.heap.size v (fencB ls f s)/\Below w.heap.size w w'
theorem own_nil (w:World) (base:Nat):OwnB w base (.slice none 0 0) []:=World.ownsRow_nil _ _ _ _
theorem fenc_bad {ls:List Lk} {f s c:Int} (h:fencC ls f s=c) (hc:c≠0) {w w':World} (hb:Below w.heap.size w w'):FEncP ls f s w (.returned (.tuple #[.slice none 0 0,.int .i64 c])) w':=by
 refine⟨_,by rw[h],?_,hb⟩;rw[fencB,if_neg (by rw[h];exact hc)];exact own_nil _ _
theorem fenc_good {ls:List Lk} {a b:UInt8} (h:fencC ls (a.toNat:Int) (b.toNat:Int)=0) {w w':World} {v:Value} (ho:OwnB w' w.heap.size v (wrF (encF ls a.toNat b.toNat))) (hb:Below w.heap.size w w'):FEncP ls (a.toNat:Int) (b.toNat:Int) w (.returned (.tuple #[v,.int .i64 0])) w':=by
 refine⟨_,by rw[h],?_,hb⟩;rw[fencB,if_pos h];exact ho
theorem byte_ofB {f:Int} (h0:0<=f) (h1:f<=255):∃a:UInt8,f=(a.toNat:Int):=⟨UInt8.ofNat f.toNat,by rw[UInt8.toNat_ofNat'];omega⟩
theorem lkF_take {ls:List Lk} {k:Nat} {t:Lk} (h:ls[k]?=some t):(ls.take (k+1)).flatMap lkF=(ls.take k).flatMap lkF++lkF t:=by
 rw[List.take_add_one,List.flatMap_append,h];simp
theorem recs_lit (W:World) (T:TypeId) (size n:Nat) (xs:List Value) (h:xs.length=n * size) (hn:n<=maxLen):Sees (W.alloc (.cells xs.toArray T)) (W.heap.size+1) (.slice (some ⟨W.heap.size,0,none⟩) n n) size n xs:=
 ⟨h,_,n,rfl,Nat.le_refl _,hn,fun _=>⟨W.heap.size,0,rfl,by omega,fun j u hj=>by have:=(Box.new W T xs).cell j;rw[Nat.zero_add,this,hj]⟩⟩
theorem trip_elts {w:World} {v x y z:Value} {a b c:Bs} (h1:EltS w v x (.byt a)) (h2:EltS w v y (.byt b)) (h3:EltS w v z (.byt c)):∀(k:Nat) (s:Spec),(fdS (lkF (a,b,c)))[k]?=some s->∃u,[Value.int .i64 1,x,.int .i64 2,y,.int .i64 3,z][k]?=some u/\EltS w v u s:=by
 intro k s hk
 match k,hk with
 | 0,hk=>cases hk;exact⟨_,rfl,rfl,rfl⟩
 | 1,hk=>cases hk;exact⟨_,rfl,h1⟩
 | 2,hk=>cases hk;exact⟨_,rfl,rfl,rfl⟩
 | 3,hk=>cases hk;exact⟨_,rfl,h2⟩
 | 4,hk=>cases hk;exact⟨_,rfl,rfl,rfl⟩
 | 5,hk=>cases hk;exact⟨_,rfl,h3⟩
 | k+6,hk=>simp[fdS,lkF] at hk
theorem last_elts {w:World} {v x:Value} {b:Bs} (h1:EltS w v x (.byt b)):∀(k:Nat) (s:Spec),(fdS [(4,b)])[k]?=some s->∃u,[Value.int .i64 4,x][k]?=some u/\EltS w v u s:=by
 intro k s hk
 match k,hk with
 | 0,hk=>cases hk;exact⟨_,rfl,rfl,rfl⟩
 | 1,hk=>cases hk;exact⟨_,rfl,h1⟩
 | k+2,hk=>simp[fdS] at hk
theorem old_elt {w w':World} {B base:Nat} {v u:Value} {l:Bs} (h:SeesB w B u l) (hB:B<=base) (hb:Below base w w') (hs:base<=w'.heap.size) (hv:∀j,v.ownBlock=some j->base<=j):EltS w' v u (.byt l):=
 ⟨(h.below (hb.mono hB)).more (Nat.le_trans hB hs),fun hl k hk e=>by have:=hv k e;have:=h.blk hl k hk;omega⟩
theorem encF_bytes (ls:List Lk) (a b:UInt8):encF ls a.toNat b.toNat=ls.flatMap lkF++[(4,[a,b])]:=by
 rw[encF,UInt8.ofNat_toNat,UInt8.ofNat_toNat]
theorem wrF_mem {l:List Fd} {x:Fd} (h:x∈l):x.2.length+4<=(wrF l).length:=by
 induction l with
 | nil=>cases h
 | cons y l ih=>
   rw[wrF_cons,xla,fdB_len];rcases List.mem_cons.1 h with rfl|h
   ·omega
   have:=ih h;omega
theorem encF_total (ls:List Lk) (f s f' s':Nat):(wrF (encF ls f s)).length=(wrF (encF ls f' s')).length:=by
 simp only[encF,wrF_append,xla,wrF_one,fdB_len,xlc,List.length_nil]
theorem enc_okF {ls:List Lk} {f s:Nat} (h:(wrF (encF ls f s)).length<=65535):∀x∈encF ls f s,okF x:=by
 refine fenc_ok fun t ht=>?_
 have hm:∀x∈lkF t,x.2.length<65536:=fun x hx=>by
  have hx2:x∈encF ls f s:=List.mem_append_left _ (List.mem_flatMap.2 ⟨t,ht,hx⟩)
  have:=wrF_mem hx2
  omega
 exact⟨hm (1,t.1) (by simp[lkF]),hm (2,t.2.1) (by simp[lkF]),hm (3,t.2.2) (by simp[lkF])⟩
theorem wrF_size (l:List Fd):(wrF l).length=4 * l.length+((l.map Prod.snd).flatten).length:=by
 induction l with
 | nil=>rfl
 | cons x l ih=>rw[wrF_cons,xla,fdB_len,ih,xmp,xfc,xla,xlc];omega
theorem enc_data {l:List Fd} {m:Nat} {a b:UInt8} {x:Fd} (hm:l.length=3 * m+1) (hx:l[3 * m]?=some x) (hab:x.2=[a,b]):(encF (exK l m) a.toNat b.toNat).map Prod.snd=l.map Prod.snd:=by
 apply List.ext_getElem?;intro j;have hel:=encF_len (exK l m) a.toNat b.toNat;rw[exK_len] at hel;have hsome:∀j,j<l.length->l[j]?=some (l.getD j (0,[])):=fun j hj=>by
  rw[xgd,xge hj];rfl
 rw[xgm,xgm];rcases Nat.lt_trichotomy j (3 * m) with hj|hj|hj
 ·obtain⟨k,hk⟩:∃k,k=j / 3:=⟨_,rfl⟩
  have hkm:k<m:=by omega
  obtain⟨e1,e2,e3⟩:=encF_get (f:=a.toNat) (s:=b.toNat) (exK_get l hkm);have hj3:j=3 * k\/j=3 * k+1\/j=3 * k+2:=by omega
  rcases hj3 with rfl|rfl|rfl
  ·rw[e1,hsome _ (by omega)];rfl
  ·rw[e2,hsome _ (by omega)];rfl
  rw[e3,hsome _ (by omega)];rfl
 ·subst hj
  have:=encF_last (exK l m) a.toNat b.toNat
  rw[exK_len] at this;rw[hx,this,UInt8.ofNat_toNat,UInt8.ofNat_toNat];show some [a,b]=some x.2;rw[hab]
 rw[List.getElem?_eq_none (by omega),List.getElem?_eq_none (by omega)]
theorem enc_back_len {l:List Fd} {m:Nat} {a b:UInt8} {x:Fd} (hm:l.length=3 * m+1) (hx:l[3 * m]?=some x) (hab:x.2=[a,b]) (f s:Nat):(wrF (encF (exK l m) f s)).length=(wrF l).length:=by
 rw[encF_total _ f s a.toNat b.toNat,wrF_size,wrF_size,enc_data hm hx hab,encF_len,exK_len,hm]
attribute [local go_sem ↓] Go.wp_at_zero Go.wp_at_succ
theorem bencode_any (u:Value) (ls:List Lk) (f s:Int) (w:World) (hu:SeesR w w.heap.size u 3 ls.length (linkS ls)) (hl:ls.length<=8->(wrF (encF ls 0 0)).length<=65535) :
 Calls prog 168 #[.agg #[u,.int .i64 f,.int .i64 s]] w (FEncP ls f s w):=by
 obtain⟨A,c,rfl,hc1,hc2⟩:=hu.mk_;unfold maxLen at hc2;obtain⟨ti,hti,htz,hts,htb⟩:=info_parts field_info;replace hti:=lhd hti;replace htz:=lhd htz;replace hts:=lhd hts;replace htb:=lhd htb;have hal:=balloc w (.cells #[.slice A ls.length c,.int .i64 f,.int .i64 s] 133);have x1:=Box.new w 133 [.slice A ls.length c,.int .i64 f,.int .i64 s];change Box (w.alloc (.cells #[.slice A ls.length c,.int .i64 f,.int .i64 s] 133)) _ _ _ at x1;have hu0:=lhd ((hu.below hal).more hal.size);replace hl:=lhd hl;clear hu
 go_enter func168,ntmps168
 go_upto_region 1 with (fail)
 generalize w.alloc (.cells #[.slice A ls.length c,.int .i64 f,.int .i64 s] 133)=W0 at *;generalize hgg:w.heap.size=g at x1 ⊢;have hgl:=lhd (hal.size);obtain⟨z0,z1,z2,-,-,-⟩:=box3_cells x1
 by_cases h8:8<ls.length
 ·have i0:(8:Int)<(ls.length:Int):=by omega
  have hr:=lhd (fenc_bad (w:=w) (w':=W0) (c:=8) (by unfold fencC;rw[if_pos h8]) (by omega) hal:FEncP ls f s w _ W0)
  go_wp2_with fail
  go_returns
  exact hr.out
 have i0:¬(8:Int)<(ls.length:Int):=by omega
 by_cases hm:min f s<0
 ·have hr:=lhd (fenc_bad (w:=w) (w':=W0) (c:=4) (by unfold fencC;rw[if_neg h8,if_neg (by omega)]) (by omega) hal:FEncP ls f s w _ W0)
  go_wp2_with fail
  go_returns
  exact hr.out
 by_cases hM:255<max f s
 ·have hr:=lhd (fenc_bad (w:=w) (w':=W0) (c:=4) (by unfold fencC;rw[if_neg h8,if_neg (by omega)]) (by omega) hal:FEncP ls f s w _ W0)
  go_wp2_with fail
  go_returns
  exact hr.out
 obtain⟨a,rfl⟩:=byte_ofB (f:=f) (by omega) (by omega);obtain⟨b,rfl⟩:=byte_ofB (f:=s) (by omega) (by omega);have ha:=a.toNat_lt;have hb':=b.toNat_lt;have hC:Hid (fencC ls (a.toNat:Int) (b.toNat:Int)=0):=by show _=_;unfold fencC;rw[if_neg h8,if_pos (by omega)]
 have m0:¬min (a.toNat:Int) (b.toNat:Int)<0:=by omega
 have m1:¬(255:Int)<max (a.toNat:Int) (b.toNat:Int):=by omega
 have n1:IntKind.u8.wrap (a.toNat:Int)=(a.toNat:Int):=by rw[IntKind.wrap_u8];omega
 have n2:IntKind.u8.wrap (b.toNat:Int)=(b.toNat:Int):=by rw[IntKind.wrap_u8];omega
 clear ha hb'
 go_wp2_with fail
 go_loopw [4,30] (fun r t wr=>∃k:Nat,k<=ls.length/\t=.int .i64 k/\Hid (OwnR wr W0.heap.size 219 r 2 (3 * k) (fdS ((ls.take k).flatMap lkF)))/\Hid (Below W0.heap.size W0 wr)) (fun _ t _=>ls.length - (intOf t).toNat)
 case atStart=>exact⟨0,by omega,rfl,OwnR.nil _ _ _ _,Below.refl _ _⟩
 case round=>
  clear z0 z1 z2;obtain⟨k,hk,rfl,ho,hb⟩:=hrel;obtain⟨z0,z1,z2,-,-,-⟩:=box3_cells (x1.below hb.out);obtain⟨Ar,cr,rfl,-,-⟩:=ho.out.sees.mk_
  by_cases hlt:k<ls.length
  ·have hk1:Hid (k+1<=ls.length):=hlt
   have i1:(k:Int)<(ls.length:Int):=by omega
   have i2:(0:Int)<=(k:Int):=by omega
   obtain⟨t,ht⟩:∃t,ls[k]?=some t:=⟨_,xge hlt⟩
   have hst:=lhd (lkF_take ht);obtain⟨bb,o,A1,c1,A2,c2,A3,c3,e,hbB,y0,s1,y1,s2,y2,s3⟩:=link_at (hu0.out.below hb.out) k t ht;subst e;obtain⟨d1,d2,d3⟩:=t;dsimp only at y0 y1 y2 s1 s2 s3;have hal2:=bgo (balloc wr (.cells #[.slice A1 d1.length c1,.slice A2 d2.length c2,.slice A3 d3.length c3] 108)) (balloc _ (.cells #[.int .i64 1,.slice A1 d1.length c1,.int .i64 2,.slice A2 d2.length c2,.int .i64 3,.slice A3 d3.length c3] 219));have hrec:=recs_lit (wr.alloc (.cells #[.slice A1 d1.length c1,.slice A2 d2.length c2,.slice A3 d3.length c3] 108)) 219 2 3 [.int .i64 1,.slice A1 d1.length c1,.int .i64 2,.slice A2 d2.length c2,.int .i64 3,.slice A3 d3.length c3] rfl (by unfold maxLen;omega);rw[xsa] at hrec;change Sees ((wr.alloc (.cells #[.slice A1 d1.length c1,.slice A2 d2.length c2,.slice A3 d3.length c3] 108)).alloc (.cells #[.int .i64 1,.slice A1 d1.length c1,.int .i64 2,.slice A2 d2.length c2,.int .i64 3,.slice A3 d3.length c3] 219)) _ _ _ _ _ at hrec;have hsz:W0.heap.size<=((wr.alloc (.cells #[.slice A1 d1.length c1,.slice A2 d2.length c2,.slice A3 d3.length c3] 108)).alloc (.cells #[.int .i64 1,.slice A1 d1.length c1,.int .i64 2,.slice A2 d2.length c2,.int .i64 3,.slice A3 d3.length c3] 219)).heap.size:=Nat.le_trans hb.out.size hal2.size;have hv:∀j,(Value.slice Ar (3 * k) cr).ownBlock=some j->W0.heap.size<=j:=fun j hj=>(ho.out.lt j hj).1
   have hel:=lhd (trip_elts (old_elt s1 nlr (hal2.mono hb.out.size) hsz hv) (old_elt s2 nlr (hal2.mono hb.out.size) hsz hv) (old_elt s3 nlr (hal2.mono hb.out.size) hsz hv));have ho2:=lhd (ho.out.below hal2);have hb3:=lhd (bgo hb.out hal2);replace hrec:=lhd hrec;have hcnt:Hid (3 * k+3<=1048576):=by show _<=_;omega
   clear hal2 hsz hv s1 s2 s3 ho hb ht z1 z2
   go_wp2_with (at_builtin;refine wpList_appR (by rfl) _ _ 217 219 underlying217 rfl ti _ 2 32 hti.out htz.out hts.out htb.out rfl (by omega) (by omega) W0.heap.size _ (3 * k) _ rfl ho2.out _ _ 3 _ (fdS (lkF (d1,d2,d3))) rfl hrec.out rfl hel.out hcnt.out hb3.out.size ?_)
   intro v' w' hW2 hb4;replace hW2:Hid (OwnR w' W0.heap.size 219 v' 2 (3 * (k+1)) (fdS ((ls.take (k+1)).flatMap lkF))):=by show OwnR _ _ _ _ _ _ _;rw[hst.out,fdS_append];exact hW2
   replace hb4:=lhd (hb3.out.trans hb4)
   go_wp2_with fail
   go_roundw
   case rel=>exact⟨k+1,hk1.out,by go_num,hW2,hb4⟩
   case measure=>have:=hk1.out;simp[intOf];omega
  obtain rfl:k=ls.length:=by omega
  have i1:¬(ls.length:Int)<(ls.length:Int):=by omega
  rw[xtl nlr] at *;have hal2:=bgo (balloc wr (.cells #[.int .u8 (a.toNat:Int),.int .u8 (b.toNat:Int)] 5)) (balloc _ (.cells #[.int .i64 4,.slice (some ⟨wr.heap.size,0,none⟩) 2 2] 219));have hby:OwnB (wr.alloc (.cells #[.int .u8 (a.toNat:Int),.int .u8 (b.toNat:Int)] 5)) wr.heap.size (.slice (some ⟨wr.heap.size,0,none⟩) 2 2) [a,b]:=own_made wr [a,b] (by unfold maxLen;simp) _ nlr;have hrec:=recs_lit (wr.alloc (.cells #[.int .u8 (a.toNat:Int),.int .u8 (b.toNat:Int)] 5)) 219 2 1 [.int .i64 4,.slice (some ⟨wr.heap.size,0,none⟩) 2 2] rfl (by unfold maxLen;omega);rw[xsa] at hrec;change Sees ((wr.alloc (.cells #[.int .u8 (a.toNat:Int),.int .u8 (b.toNat:Int)] 5)).alloc (.cells #[.int .i64 4,.slice (some ⟨wr.heap.size,0,none⟩) 2 2] 219)) _ _ _ _ _ at hrec;have hby2:=seesB_of hby.sees nlr (balloc (wr.alloc (.cells #[.int .u8 (a.toNat:Int),.int .u8 (b.toNat:Int)] 5)) (.cells #[.int .i64 4,.slice (some ⟨wr.heap.size,0,none⟩) 2 2] 219));have hel:=lhd (last_elts (EltS.of_from (v:=.slice Ar (3 * ls.length) cr) hby2 hby.from (fun j hj=>(ho.out.lt j hj).2)));have ho2:=lhd (ho.out.below hal2);have hb3:=lhd (bgo hb.out hal2);replace hrec:=lhd hrec;have hcnt:Hid (3 * ls.length+1<=1048576):=by show _<=_;omega
  have htot:(wrF (encF ls a.toNat b.toNat)).length<=65535:=by rw[encF_total ls a.toNat b.toNat 0 0];exact hl.out (by omega)
  have hwr:Hid (∀(v:Value) (W:World),SeesR W W.heap.size v 2 (encF ls a.toNat b.toNat).length (fdS (encF ls a.toNat b.toNat))->Calls prog 229 #[v] W (WriteP (wrF (encF ls a.toNat b.toNat)) W)):=fun v W hv=>
   write_any W.heap.size v (encF ls a.toNat b.toNat) W hv nlr (enc_okF htot) htot
  have hel1:=lhd (encF_len ls a.toNat b.toNat);have hel2:=lhd (encF_bytes ls a b);clear hal2 ho hb hby hby2 htot
  go_wp2_with (at_builtin;refine wpList_appR (by rfl) _ _ 217 219 underlying217 rfl ti _ 2 32 hti.out htz.out hts.out htb.out rfl (by omega) (by omega) W0.heap.size _ (3 * ls.length) _ rfl ho2.out _ _ 1 _ (fdS [(4,[a,b])]) rfl hrec.out rfl hel.out hcnt.out hb3.out.size ?_)
  intro v' w' hW2 hb4;replace hW2:Hid (SeesR w' w'.heap.size v' 2 (encF ls a.toNat b.toNat).length (fdS (encF ls a.toNat b.toNat))):=by
   show SeesR _ _ _ _ _ _;rw[hel1.out,hel2.out,fdS_append];exact hW2.sees
  replace hb4:=lhd (bgo hal (hb3.out.trans hb4));have hww:=lhd (hwr.out v' w' hW2.out);clear hwr hel1 hel2 hel hrec ho2 hb3
  go_wp2_with fail
  refine hww.out.mono ?_;rintro e w9 ⟨v9,rfl,o9,hb9⟩;have hb10:=lhd (bgo hb4.out hb9);have o10:=lhd (o9.mono (hb4.out.size));clear hww;dsimp only
  go_wp2_with fail
  go_returns
  exact fenc_good hC.out o10.out hb10.out
attribute [local go_sem ↓] Go.wp_at_zero Go.wp_at_succ
def agB (ls:List LinkG) (V:List (Int × Int)) (i j:Nat):Bool:=((linkT ls i).1 == (linkT ls j).1)&&decide ((V.getD j (0,0)).2<(V.getD i (0,0)).1)
def FindR (ls:List LinkG) (V:List (Int × Int)):Option (Nat × Nat)->Prop
 | none=>∀j,j<ls.length->∀i,i<j->agB ls V i j=false
 | some (i,j)=>i<j/\j<ls.length/\agB ls V i j=true/\(∀j',j'<j->∀i',i'<j'->agB ls V i' j'=false)/\∀i',i'<i->agB ls V i' j=false
theorem find_one {ls:List LinkG} {V:List (Int × Int)} {r r':Option (Nat × Nat)} (h:FindR ls V r) (h':FindR ls V r'):r=r':=by
 cases r with
 | none=>
   cases r' with
   | none=>rfl
   | some p=>
     obtain⟨i,j⟩:=p;obtain⟨a1,a2,a3,-,-⟩:=h';rw[h j a2 i a1] at a3;cases a3
 | some p=>
   obtain⟨i,j⟩:=p;obtain⟨a1,a2,a3,a4,a5⟩:=h;cases r' with
   | none=>
     rw[h' j a2 i a1] at a3;cases a3
   | some p'=>
     obtain⟨i',j'⟩:=p';obtain⟨b1,b2,b3,b4,b5⟩:=h';have hj:j=j':=by
      rcases Nat.lt_trichotomy j j' with hc|hc|hc
      ·rw[b4 j hc i a1] at a3;cases a3
      ·exact hc
      rw[a4 j' hc i' b1] at b3;cases b3
     subst hj;have hi:i=i':=by
      rcases Nat.lt_trichotomy i i' with hc|hc|hc
      ·rw[b5 i hc] at a3;cases a3
      ·exact hc
      rw[a5 i' hc] at b3;cases b3
     rw[hi]
theorem noB_pf (A:Option Addr) (n c:Nat) (a b:Int):NoByte [Value.slice A n c,.int .i64 a,.int .i64 b]:=by
 intro x hx n e;simp only[List.mem_cons,List.not_mem_nil,or_false] at hx;rcases hx with rfl|rfl|rfl<;>cases e
theorem OwnR.pokes {w:World} {base k size g:Nat} {T T':TypeId} {v:Value} {ss:List Spec} (h:OwnR w base T v size k ss) (hG:g<base) (hbx:Box w g T' [.slice none 0 0,.int .i64 0,.int .i64 0]) (A:Option Addr) (n c:Nat) (a b:Int):OwnR (((w.setCell ⟨g,0,none⟩ (.slice A n c)).setCell ⟨g,1,none⟩ (.int .i64 a)).setCell ⟨g,2,none⟩ (.int .i64 b)) base T v size k ss:=by
 have h1:=h.poke (j:=0) (v':=.slice A n c) hG hbx (noB_pf none 0 0 0 0);have b1:=hbx.set 0 (.slice A n c);simp only[xsz] at b1;have h2:=h1.poke (j:=1) (v':=.int .i64 a) hG b1 (noB_pf _ _ _ _ _);have b2:=b1.set 1 (.int .i64 a);simp only[xsz,xss] at b2;exact h2.poke hG b2 (noB_pf _ _ _ _ _)
def FindP (ls:List LinkG) (w:World) (e:Ending) (w':World):Prop:=
 (cverC ls≠0/\e=.returned (.tuple #[.agg #[.slice none 0 0,.int .i64 0,.int .i64 0],.bool false,.int .i64 (cverC ls)])/\Below w.heap.size w w') \/
 (cverC ls=0/\FindR ls (cverV ls) none/\e=.returned (.tuple #[.agg #[.slice none 0 0,.int .i64 0,.int .i64 0],.bool false,.int .i64 0])/\Below w.heap.size w w') \/
 (cverC ls=0/\∃(i j:Nat) (v:Value),FindR ls (cverV ls) (some (i,j))/\e=.returned (.tuple #[.agg #[v,.int .i64 (i:Int),.int .i64 (j:Int)],.bool true,.int .i64 0])/\SeesR w' w'.heap.size v 3 (ls.take (j+1)).length (linkS (ls.take (j+1)))/\Below w.heap.size w w')
theorem cverV_len {ls:List LinkG} (h:cverC ls=0):(cverV ls).length=ls.length:=by unfold cverV;rw[if_pos h,cverK_len]
def FDecR (w':World) (e:Ending):Option (List Lk × Nat × Nat)->Prop
 | none=>e=.returned (.tuple #[.agg #[.slice none 0 0,.int .i64 0,.int .i64 0],.int .i64 3])
 | some p=>∃v,e=.returned (.tuple #[.agg #[v,.int .i64 (p.2.1:Int),.int .i64 (p.2.2:Int)],.int .i64 0])/\SeesR w' w'.heap.size v 3 p.1.length (linkS p.1)
def FDecQ (w':World) (e:Ending):Option (List Fd)->Prop
 | none=>e=.returned (.tuple #[.agg #[.slice none 0 0,.int .i64 0,.int .i64 0],.int .i64 1])
 | some l=>∃o,DecL l o/\FDecR w' e o
def FDecP (b:Bs) (w:World) (e:Ending) (w':World):Prop:=∃o,FieldsR b o/\FDecQ w' e o/\Below w.heap.size w w'
theorem fdec_short {b:Bs} (hR:FieldsR b none) {w w':World} (hb:Below w.heap.size w w'):FDecP b w (.returned (.tuple #[.agg #[.slice none 0 0,.int .i64 0,.int .i64 0],.int .i64 1])) w':=⟨none,hR,rfl,hb⟩
theorem fdec_bad {b:Bs} {l:List Fd} (hR:FieldsR b (some l)) (hD:DecL l none) {w w':World} (hb:Below w.heap.size w w'):FDecP b w (.returned (.tuple #[.agg #[.slice none 0 0,.int .i64 0,.int .i64 0],.int .i64 3])) w':=⟨some l,hR,⟨none,hD,rfl⟩,hb⟩
theorem fdec_good {b:Bs} {l:List Fd} {ls:List Lk} {f s:Nat} (hR:FieldsR b (some l)) (hD:DecL l (some (ls,f,s))) {w w':World} {v:Value} (hs:SeesR w' w'.heap.size v 3 ls.length (linkS ls)) (hb:Below w.heap.size w w'):FDecP b w (.returned (.tuple #[.agg #[v,.int .i64 (f:Int),.int .i64 (s:Int)],.int .i64 0])) w':=⟨some l,hR,⟨_,hD,v,rfl,hs⟩,hb⟩
theorem exK_take {l:List Fd} {m k:Nat} (h:k<m):(exK l m).take (k+1)=(exK l m).take k++[trip l k]:=by
 rw[List.take_add_one,exK_get l h];rfl
def AddQD (W7 w1:World) (g7 k:Nat) (x y:UInt8) (ss:List Spec) (v:Value) (W:World):Prop:=
 Box W g7 133 [v,.int .i64 (x.toNat:Int),.int .i64 (y.toNat:Int)]/\OwnR W W7.heap.size 108 v 3 (k+1) ss/\Below w1.heap.size w1 W/\W7.heap.size<=W.heap.size
theorem addQD_done {W7 w1 w':World} {g7 k cv nv:Nat} {x y:UInt8} {ss:List Spec} {v':Value} {Av:Option Addr} (hx:Box w' g7 133 [.slice Av nv cv,.int .i64 (x.toNat:Int),.int .i64 (y.toNat:Int)]) (ho:OwnR w' W7.heap.size 108 v' 3 (k+1) ss) (hb:Below w1.heap.size w1 w') (hg:g7<W7.heap.size) (hg1:w1.heap.size<=g7) (hz:W7.heap.size<=w'.heap.size) :
 AddQD W7 w1 g7 k x y ss v' (w'.setCell ⟨g7,0,none⟩ v'):=
 ⟨by have:=hx.set 0 v';simpa only [xsz] using this,ho.poke hg hx (noB_pf _ _ _ _ _),hb.setCell (p:=⟨g7,0,none⟩) hg1 v',by simpa [World.setCell] using hz⟩
theorem fenc_big {ls:List Lk} {f s:Int} (h:8<ls.length) {w w':World} {e:Ending} (hp:FEncP ls f s w e w'):∃v,e=.returned (.tuple #[v,.int .i64 8])/\OwnB w' w.heap.size v (fencB ls f s)/\Below w.heap.size w w':=by
 obtain⟨v,h1,h2,h3⟩:=hp;have hc:fencC ls f s=8:=by unfold fencC;rw[if_pos h]
 rw[hc] at h1;exact⟨v,h1,h2,h3⟩
theorem fenc_fit {ls:List Lk} {x y:UInt8} (h:ls.length<=8) {w w':World} {e:Ending} (hp:FEncP ls (x.toNat:Int) (y.toNat:Int) w e w'):∃v,e=.returned (.tuple #[v,.int .i64 0])/\OwnB w' w.heap.size v (wrF (encF ls x.toNat y.toNat))/\Below w.heap.size w w':=by
 obtain⟨v,h1,h2,h3⟩:=hp;have hx:=x.toNat_lt;have hy:=y.toNat_lt;have hc:fencC ls (x.toNat:Int) (y.toNat:Int)=0:=by unfold fencC;rw[if_neg (by omega),if_pos (by omega)]
 rw[fencB,if_pos hc] at h2;rw[hc] at h1;exact⟨v,h1,h2,h3⟩
theorem trip3_elts {w:World} {v x y z:Value} {a b c:Bs} (h1:EltS w v x (.byt a)) (h2:EltS w v y (.byt b)) (h3:EltS w v z (.byt c)):∀(k:Nat) (s:Spec),(linkS [(a,b,c)])[k]?=some s->∃u,[x,y,z][k]?=some u/\EltS w v u s:=by
 intro k s hk
 match k,hk with
 | 0,hk=>cases hk;exact⟨_,rfl,h1⟩
 | 1,hk=>cases hk;exact⟨_,rfl,h2⟩
 | 2,hk=>cases hk;exact⟨_,rfl,h3⟩
 | k+3,hk=>simp[linkS] at hk
theorem fd_atD {w:World} {B n c:Nat} {A:Option Addr} {l:List Fd} (h:SeesR w B (.slice A n c) 2 n (fdS l)) {k:Nat} (hk:k<l.length) :
 ∃b o A1 c1,A=some ⟨b,o,none⟩/\b<B/\w.cell? ⟨b,o+k * 2,none⟩=some (.int .i64 ((l.getD k (0,[])).1:Int))/\w.cell? ⟨b,o+k * 2+1,none⟩=some (.slice A1 (l.getD k (0,[])).2.length c1)/\SeesB w B (.slice A1 (l.getD k (0,[])).2.length c1) (l.getD k (0,[])).2:=by
 refine fd_at h k _ ?_;rw[xgd,xge hk];rfl
end Go.Proofs.YtjgepckncogdaaaGreat
