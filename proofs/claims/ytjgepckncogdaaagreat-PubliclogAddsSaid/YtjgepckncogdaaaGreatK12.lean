/- Contracts of functions, walks, plain facts. Conditions: those of each theorem. -/
import Derived.Test.YtjgepckncogdaaaGreatKS
import Derived.Test.YtjgepckncogdaaaGreatK11
set_option linter.unusedVariables false
set_option linter.unusedSimpArgs false
set_option maxRecDepth 100000
set_option maxHeartbeats 16000000
namespace Go.Proofs.YtjgepckncogdaaaGreat
open Go Go.RowKit _root_.Go.Proofs.Tryz
inductive Spec where
 | val (x:Value)
 | byt (l:Bs)
def FitS (w:World) (B:Nat) (u:Value):Spec->Prop
 | .val x=>u=x/\x.oneCell'=true
 | .byt l=>SeesB w B u l
def SeesR (w:World) (B:Nat) (v:Value) (size n:Nat) (ss:List Spec):Prop:=
 ss.length=n * size/\∃vs:List Value,Sees w B v size n vs/\∀(k:Nat) (s:Spec),ss[k]?=some s->∃u,vs[k]?=some u/\FitS w B u s
def EltS (w:World) (v u:Value):Spec->Prop
 | .val x=>u=x/\x.oneCell'=true
 | .byt l=>Elt w v u l
def OwnR (w:World) (base:Nat) (T:TypeId) (v:Value) (size n:Nat) (ss:List Spec):Prop:=
 ss.length=n * size/\∃vs:List Value,w.ownsRow base T size v n vs/\∀(k:Nat) (s:Spec),ss[k]?=some s->∃u,vs[k]?=some u/\EltS w v u s
section
variable {w w':World} {B B' base size n:Nat} {T:TypeId} {u v:Value} {s:Spec} {ss:List Spec}
theorem FitS.one (h:FitS w B u s):u.oneCell'=true:=by
 cases s with
 | val x=>obtain⟨rfl,h⟩:=h;exact h
 | byt l=>obtain⟨A,c,rfl,-,-⟩:=SeesB.mk_ h;rfl
theorem FitS.below (h:FitS w B u s) (hb:Below B w w'):FitS w' B u s:=by
 cases s with
 | val x=>exact h
 | byt l=>exact SeesB.below h hb
theorem FitS.more (h:FitS w B u s) (hB:B<=B'):FitS w B' u s:=by
 cases s with
 | val x=>exact h
 | byt l=>exact SeesB.more h hB
theorem EltS.fit (h:EltS w v u s):FitS w w.heap.size u s:=by
 cases s with
 | val x=>exact h
 | byt l=>exact h.1
theorem EltS.below (h:EltS w v u s) (hb:Below w.heap.size w w'):EltS w' v u s:=by
 cases s with
 | val x=>exact h
 | byt l=>exact Elt.below h hb
theorem EltS.of_old (h:FitS w B u s) (hB:B<=w.heap.size) (hv:∀k,v.ownBlock=some k->B<=k):EltS w v u s:=by
 cases s with
 | val x=>exact h
 | byt l=>exact Elt.of_old h hB hv
theorem SeesR.len (h:SeesR w B v size n ss):ss.length=n * size:=h.1
theorem SeesR.mk_ (h:SeesR w B v size n ss):∃A c,v=.slice A n c/\n<=c/\c<=maxLen:=by
 obtain⟨_,vs,h,_⟩:=h;exact h.mk_
theorem SeesR.at_ {A:Option Addr} {c:Nat} (h:SeesR w B (.slice A n c) size n ss) (hn:0<n) :
 ∃b o,A=some ⟨b,o,none⟩/\b<B/\∀(k:Nat) (s:Spec),ss[k]?=some s->∃u,w.cell? ⟨b,o+k,none⟩=some u/\FitS w B u s:=by
 obtain⟨_,vs,hs,hv⟩:=h;obtain⟨b,o,e,hb,hc⟩:=hs.at_ hn;refine⟨b,o,e,hb,fun k s hk=>?_⟩;obtain⟨u,hu1,hu2⟩:=hv k s hk;exact⟨u,hc k u hu1,hu2⟩
theorem SeesR.below (h:SeesR w B v size n ss) (hb:Below B w w'):SeesR w' B v size n ss:=by
 obtain⟨h0,vs,hs,hv⟩:=h;refine⟨h0,vs,hs.below hb,fun k s hk=>?_⟩;obtain⟨u,hu1,hu2⟩:=hv k s hk;exact⟨u,hu1,hu2.below hb⟩
theorem SeesR.more (h:SeesR w B v size n ss) (hB:B<=B'):SeesR w B' v size n ss:=by
 obtain⟨h0,vs,hs,hv⟩:=h;refine⟨h0,vs,hs.more hB,fun k s hk=>?_⟩;obtain⟨u,hu1,hu2⟩:=hv k s hk;exact⟨u,hu1,hu2.more hB⟩
theorem SeesR.nil (w:World) (B size:Nat):SeesR w B (.slice none 0 0) size 0 []:=⟨by simp,[],Sees.nil w B size,fun k s hk=>by simp at hk⟩
theorem OwnR.nil (w:World) (base:Nat) (T:TypeId) (size:Nat):OwnR w base T (.slice none 0 0) size 0 []:=⟨by simp,[],World.ownsRow_nil w base T size,fun k s hk=>by simp at hk⟩
theorem OwnR.sees (h:OwnR w base T v size n ss):SeesR w w.heap.size v size n ss:=by
 obtain⟨h0,vs,h1,h2⟩:=h;refine⟨h0,vs,Sees.of_own h1,fun k s hk=>?_⟩;obtain⟨u,g1,g2⟩:=h2 k s hk;exact⟨u,g1,g2.fit⟩
theorem OwnR.lt (h:OwnR w base T v size n ss):∀k,v.ownBlock=some k->base<=k/\k<w.heap.size:=by
 obtain⟨_,vs,h1,_⟩:=h;exact h1.lt
theorem OwnR.below (h:OwnR w base T v size n ss) (hb:Below w.heap.size w w'):OwnR w' base T v size n ss:=by
 obtain⟨h0,vs,h1,h2⟩:=h;refine⟨h0,vs,own_below h1 hb,fun k s hk=>?_⟩;obtain⟨u,g1,g2⟩:=h2 k s hk;exact⟨u,g1,g2.below hb⟩
theorem OwnR.mono {base':Nat} (h:OwnR w base T v size n ss) (hb:base'<=base):OwnR w base' T v size n ss:=by
 obtain⟨h0,vs,h1,h2⟩:=h;refine⟨h0,vs,⟨h1.1,?_⟩,h2⟩;rcases h1.2 with h|⟨g,cap,cur,e1,e2,e3⟩
 ·exact .inl h
 exact .inr ⟨g,cap,cur,e1,by omega,e3⟩
theorem OwnR.from (h:OwnR w base T v size n ss):From base v:=by
 obtain⟨_,vs,h1,_⟩:=h;intro a n' c e;rcases h1.2 with ⟨rfl,_⟩|⟨g,cap,cur,rfl,hb,_⟩
 ·cases e
 injection e with e1;injection e1 with e1;subst e1;exact hb
end
theorem below_ownR {w w':World} {base size n:Nat} {T:TypeId} {v:Value} {ss:List Spec} (h:OwnR w base T v size n ss) (hg:w.grownBy w' v.ownBlock) (hb:base<=w.heap.size):Below base w w':=by
 refine⟨hg.os,hg.tape,hg.output,hg.size,fun k hk=>hg.block k (by omega) (fun e=>?_)⟩
 have:=(h.lt k e.symm).1
 omega
theorem wp_appR {o:Oper} {a:Act} {w:World} {K:Act->World->Prop} {Q:Exit->Act->World->Prop} (s x:Operand) (T E:TypeId) (hT:prog.underlying T=some (.slice E))
 (ho:o.op=.call { callee:=.builtin .append,args:=#[s,x],argTypes:=#[T,T] }) (i:TypeInfo) (z:Value) (size bytes:Nat) (hi:prog.info? E=some i) (hz:i.zero=some z)
 (hsz:i.size=size) (hby:i.bytes=bytes) (hzs:z.cells.size=size) (h0:0<size) (hby2:bytes<=1024)
 (base:Nat) (v:Value) (n:Nat) (ss:List Spec) (hs:a.eval s=v) (hown:OwnR w base E v size n ss) (B:Nat) (u:Value) (m:Nat) (vs:List Value) (ts:List Spec) (hx:a.eval x=u) (hr:Sees w B u size m vs)
 (htl:ts.length=m * size) (hel:∀(k:Nat) (t:Spec),ts[k]?=some t->∃y,vs[k]?=some y/\EltS w v y t)
 (hlen:n+m<=1048576) (hbase:base<=w.heap.size)
 (h:∀v' w',OwnR w' base E v' size (n+m) (ss++ts)->Below base w w'->K (a.put o.dst v') w'):o.wp prog a w K Q:=by
 have hown':=hown;obtain⟨hl0,xs,h1,h2⟩:=hown;have h1c:∀y∈vs,y.oneCell'=true:=by
  intro y hy;obtain⟨k,hk⟩:=List.mem_iff_getElem?.1 hy;have hkl:k<ts.length:=by
   have:=(List.getElem?_eq_some_iff.1 hk).1
   rw[hr.1] at this;omega
  obtain⟨y',e1,e2⟩:=hel k _ (xge hkl);rw[hk] at e1;cases e1;exact e2.fit.one
 refine wp_append_sees s x T ho base E i z size bytes hT hi hz hsz hby hzs h0 v n xs hs h1 B u m vs hx hr h1c (by unfold maxLen;omega) (Nat.le_trans (Nat.mul_le_mul hlen hby2) (by omega)) hbase ?_;intro v' w' g1 g2 g3;refine h v' w' ⟨by rw[xla,hl0,htl,Nat.add_mul],xs++vs,g1,fun k t hk=>?_⟩ (below_ownR hown' g2 hbase);have hl1:xs.length=ss.length:=by rw[h1.1,hl0]
 have hst:∀{y:Value} {t:Spec},EltS w v y t->EltS w' v' y t:=fun {y t} hy=>by
  cases t with
  | val x=>exact hy
  | byt l=>exact⟨hy.grown g2,fun hm k hk=>by
   rcases g3 with e|e
   ·rw[e];exact hy.2 hm k hk
   rw[e];intro e2;cases e2;exact absurd (hy.1.blk hm _ hk) (by omega)⟩
 by_cases hkl:k<ss.length
 ·rw[xal hkl] at hk
  obtain⟨y,e1,e2⟩:=h2 k t hk;exact⟨y,by rw[xal (by omega)];exact e1,hst e2⟩
 rw[xar (by omega)] at hk;obtain⟨y,e1,e2⟩:=hel (k - ss.length) t hk;exact⟨y,by rw[xar (by omega),hl1];exact e1,hst e2⟩
theorem wpList_appR {ops:Array Oper} {rest:List Oper} {o:Oper} {a:Act} {w:World} {Q:Exit->Act->World->Prop} (hgd:Region.wanted o (yielded ops a.tmps)=true) (s x:Operand) (T E:TypeId) (hT:prog.underlying T=some (.slice E))
 (ho:o.op=.call { callee:=.builtin .append,args:=#[s,x],argTypes:=#[T,T] }) (i:TypeInfo) (z:Value) (size bytes:Nat) (hi:prog.info? E=some i) (hz:i.zero=some z)
 (hsz:i.size=size) (hby:i.bytes=bytes) (hzs:z.cells.size=size) (h0:0<size) (hby2:bytes<=1024)
 (base:Nat) (v:Value) (n:Nat) (ss:List Spec) (hs:a.eval s=v) (hown:OwnR w base E v size n ss) (B:Nat) (u:Value) (m:Nat) (vs:List Value) (ts:List Spec) (hx:a.eval x=u) (hr:Sees w B u size m vs)
 (htl:ts.length=m * size) (hel:∀(k:Nat) (t:Spec),ts[k]?=some t->∃y,vs[k]?=some y/\EltS w v y t)
 (hlen:n+m<=1048576) (hbase:base<=w.heap.size)
 (h:∀v' w',OwnR w' base E v' size (n+m) (ss++ts)->Below base w w'->wpList prog ops Q rest (a.put o.dst v') w'):wpList prog ops Q (o :: rest) a w:=
 BigFrame.wpList_want hgd fun _ hK=>wp_appR s x T E hT ho i z size bytes hi hz hsz hby hzs h0 hby2 base v n ss hs hown B u m vs ts hx hr htl hel hlen hbase fun v' w' h2 h3=>hK _ _ (h v' w' h2 h3)
theorem step_appR {ops:Array Oper} {o:Oper} {a:Act} {w:World} {K:Act->World->Prop} {Q:Exit->Act->World->Prop} {X:Prop} (hgd:o.guard=none) (s x:Operand) (T E:TypeId) (hT:prog.underlying T=some (.slice E))
 (ho:o.op=.call { callee:=.builtin .append,args:=#[s,x],argTypes:=#[T,T] }) (i:TypeInfo) (z:Value) (size bytes:Nat) (hi:prog.info? E=some i) (hz:i.zero=some z)
 (hsz:i.size=size) (hby:i.bytes=bytes) (hzs:z.cells.size=size) (h0:0<size) (hby2:bytes<=1024)
 (base:Nat) (v:Value) (n:Nat) (ss:List Spec) (hs:a.eval s=v) (hown:OwnR w base E v size n ss) (B:Nat) (u:Value) (m:Nat) (vs:List Value) (ts:List Spec) (hx:a.eval x=u) (hr:Sees w B u size m vs)
 (htl:ts.length=m * size) (hel:∀(k:Nat) (t:Spec),ts[k]?=some t->∃y,vs[k]?=some y/\EltS w v y t)
 (hlen:n+m<=1048576) (hbase:base<=w.heap.size)
 (h:∀v' w',OwnR w' base E v' size (n+m) (ss++ts)->Below base w w'->K (a.put o.dst v') w'):if Region.wanted o (yielded ops a.tmps)=true then Oper.wp prog o a w K Q else X:=by
 have hw:Region.wanted o (yielded ops a.tmps)=true:=by simp[Region.wanted,hgd]
 rw[if_pos hw];exact wp_appR s x T E hT ho i z size bytes hi hz hsz hby hzs h0 hby2 base v n ss hs hown B u m vs ts hx hr htl hel hlen hbase h
theorem rec_lit (W:World) (T:TypeId) (xs:List Value):Sees (W.alloc (.cells xs.toArray T)) (W.heap.size+1) (.slice (some ⟨W.heap.size,0,none⟩) 1 1) xs.length 1 xs:=
 ⟨by omega,_,1,rfl,Nat.le_refl _,by simp[maxLen],fun _=>⟨W.heap.size,0,rfl,by omega,fun j u hj=>by have:=(Box.new W T xs).cell j;rw[Nat.zero_add,this,hj]⟩⟩
theorem two_elt {w:World} {v x y:Value} {l:Bs} (h1:x.oneCell'=true) (h2:EltS w v y (.byt l)):∀(k:Nat) (t:Spec),[Spec.val x,Spec.byt l][k]?=some t->∃z,[x,y][k]?=some z/\EltS w v z t:=by
 intro k t hk;rcases k with _|_|k
 ·simp at hk;subst hk;exact⟨x,rfl,rfl,h1⟩
 ·simp at hk;subst hk;exact⟨y,rfl,h2⟩
 simp at hk
theorem EltS.of_from {w:World} {n:Nat} {u v:Value} {l:Bs} (h:SeesB w w.heap.size u l) (hf:From n u) (hv:∀k,v.ownBlock=some k->k<n):EltS w v u (.byt l):=Elt.of_from h hf hv
def upB (x:UInt8):Bool:=(decide (65<=x.toNat)&&decide (x.toNat<=90)) || (decide (48<=x.toNat)&&decide (x.toNat<=57))
def namedG (s:Bs):Bool:=decide (s.length=4)&&s.all upB
def checkT (last:Bs):List (Bs × Bs)->Int
 | []=>0
 | t :: r=>if namedG t.1=true then (if (Op.bytesLess t.1 last || t.1 == last)=true then 12 else if t.2.length % 4=0 then checkT t.1 r else 3) else 11
def namesT (ts:List (Bs × Bs)):Bs:=(ts.map (·.1)).flatten
def dataT (ts:List (Bs × Bs)):Bs:=(ts.map (·.2)).flatten
def placesT (ts:List (Bs × Bs)):Nat->Bs
 | 0=>[]
 | k+1=>placesT ts k++putB 4 (dataT (ts.take (k+1))).length
def bodyT (ts:List (Bs × Bs)):Bs:=putB 4 ts.length++placesT ts (ts.length - 1)++namesT ts++dataT ts
def placeN (b:Bs) (i:Nat):Nat:=getB ((b.drop (4 * i)).take 4)
def fromN (b:Bs) (i:Nat):Nat:=if i=0 then 0 else placeN b i
def placesOk (b:Bs) (size:Nat):Nat->Bool
 | 0=>true
 | k+1=>placesOk b size k&&(decide (placeN b (k+1) % 4=0)&&decide (fromN b k<=placeN b (k+1))&&decide (placeN b (k+1)<=size))
def atN (b:Bs) (n size i:Nat):Nat:=if i<n then fromN b i else size
def tagN (b:Bs) (n i:Nat):Bs × Bs:=
 ((b.drop (4 * (n+i))).take 4,((b.drop (8 * n)).drop (atN b n (b.length - 8 * n) i)).take (atN b n (b.length - 8 * n) (i+1) - atN b n (b.length - 8 * n) i))
def tagsN (b:Bs) (n:Nat):List (Bs × Bs):=(List.range n).map (tagN b n)
def decC (b:Bs):Int:=
 if 2048<b.length then 2 else if b.length<4 then 1 else
 if placeN b 0<1\/16<placeN b 0 then 8 else if b.length<8 * placeN b 0 then 1 else
 if placesOk b (b.length - 8 * placeN b 0) (placeN b 0 - 1)=true/\(b.length - 8 * placeN b 0) % 4=0 then checkT [] (tagsN b (placeN b 0)) else 3
def decT (b:Bs):List (Bs × Bs):=if decC b=0 then tagsN b (placeN b 0) else []
def encC (ts:List (Bs × Bs)):Int:=
 if ts.length<1\/16<ts.length then 8 else if checkT [] ts=0 then (if 2048<(bodyT ts).length then 2 else 0) else checkT [] ts
def encT (ts:List (Bs × Bs)):Bs:=if encC ts=0 then bodyT ts else []
theorem placesT_len (ts:List (Bs × Bs)) (k:Nat):(placesT ts k).length=4 * k:=by
 induction k with
 | zero=>rfl
 | succ k ih=>rw[placesT,xla,ih,putB_len];omega
theorem take_one {α:Type} (ts:List α) (k:Nat) (t:α) (h:ts[k]?=some t):ts.take (k+1)=ts.take k++[t]:=by
 rw[List.take_add_one,h];rfl
theorem namesT_step (ts:List (Bs × Bs)) (k:Nat) (t:Bs × Bs) (h:ts[k]?=some t):namesT (ts.take (k+1))=namesT (ts.take k)++t.1:=by
 rw[take_one ts k t h];simp[namesT]
theorem dataT_step (ts:List (Bs × Bs)) (k:Nat) (t:Bs × Bs) (h:ts[k]?=some t):dataT (ts.take (k+1))=dataT (ts.take k)++t.2:=by
 rw[take_one ts k t h];simp[dataT]
theorem drop_one {α:Type} (ts:List α) (k:Nat) (t:α) (h:ts[k]?=some t):ts.drop k=t :: ts.drop (k+1):=by
 obtain⟨hk,rfl⟩:=List.getElem?_eq_some_iff.1 h;exact List.drop_eq_getElem_cons hk
theorem checkT_ok (ts:List (Bs × Bs)):∀last,checkT last ts=0->∀t∈ts,t.1.length=4/\t.2.length % 4=0:=by
 induction ts with
 | nil=>intro last h t ht;simp at ht
 | cons a r ih=>
   intro last h t ht;rw[checkT] at h
   split at h
   ·rename_i hn
    split at h
    ·simp at h
    split at h
    ·rename_i h4
     rcases List.mem_cons.1 ht with rfl|ht
     ·refine⟨?_,h4⟩
      unfold namedG at hn;simp at hn;exact hn.1
     exact ih _ h t ht
    simp at h
   simp at h
theorem namesT_len (ts:List (Bs × Bs)) (h:∀t∈ts,t.1.length=4):(namesT ts).length=4 * ts.length:=by
 induction ts with
 | nil=>rfl
 | cons a r ih=>
   have h1:=h a (by simp);have h2:=ih (fun t ht=>h t (by simp[ht]));simp only[namesT,xmp,xfc,xla,xlc] at *
   omega
theorem bodyT_len (ts:List (Bs × Bs)) (h:∀t∈ts,t.1.length=4) (h1:1<=ts.length):(bodyT ts).length=8 * ts.length+(dataT ts).length:=by
 rw[bodyT,xla,xla,xla,putB_len,placesT_len,namesT_len ts h]
 omega
theorem checkT_step (ts:List (Bs × Bs)) (k:Nat) (t:Bs × Bs) (last:Bs) (h:ts[k]?=some t) (hn:namedG t.1=true) (ho:(Op.bytesLess t.1 last || t.1 == last)=false) (h4:t.2.length % 4=0) :
 checkT last (ts.drop k)=checkT t.1 (ts.drop (k+1)):=by
 rw[drop_one ts k t h,checkT,if_pos hn,ho,if_neg (by simp),if_pos h4]
theorem checkT_name (ts:List (Bs × Bs)) (k:Nat) (t:Bs × Bs) (last:Bs) (h:ts[k]?=some t) (hn:namedG t.1=false):checkT last (ts.drop k)=11:=by
 rw[drop_one ts k t h,checkT,hn,if_neg (by simp)]
theorem checkT_order (ts:List (Bs × Bs)) (k:Nat) (t:Bs × Bs) (last:Bs) (h:ts[k]?=some t) (hn:namedG t.1=true) (ho:(Op.bytesLess t.1 last || t.1 == last)=true):checkT last (ts.drop k)=12:=by
 rw[drop_one ts k t h,checkT,if_pos hn,if_pos ho]
theorem checkT_form (ts:List (Bs × Bs)) (k:Nat) (t:Bs × Bs) (last:Bs) (h:ts[k]?=some t) (hn:namedG t.1=true) (ho:(Op.bytesLess t.1 last || t.1 == last)=false) (h4:t.2.length % 4≠0):checkT last (ts.drop k)=3:=by
 rw[drop_one ts k t h,checkT,if_pos hn,ho,if_neg (by simp),if_neg h4]
def tagS (ts:List (Bs × Bs)):List Spec:=ts.flatMap fun t=>[.val (.string (strB t.1)),.byt t.2]
theorem tagS_len (ts:List (Bs × Bs)):(tagS ts).length=ts.length * 2:=by
 induction ts with
 | nil=>rfl
 | cons a r ih=>simp only[tagS,List.flatMap_cons,xla,xlc,List.length_nil] at *;omega
theorem tagS_get (ts:List (Bs × Bs)):∀(k:Nat) (t:Bs × Bs),ts[k]?=some t->(tagS ts)[2 * k]?=some (.val (.string (strB t.1)))/\(tagS ts)[2 * k+1]?=some (.byt t.2):=by
 induction ts with
 | nil=>intro k t h;simp at h
 | cons a r ih=>
   intro k t h;cases k with
   | zero=>
     simp at h;subst h;exact⟨rfl,rfl⟩
   | succ k=>
     rw[xqs] at h;obtain⟨h1,h2⟩:=ih k t h;rw[show 2 * (k+1)=2 * k+2 from by omega,show 2 * k+2+1=2 * k+1+2 from by omega];exact⟨h1,h2⟩
theorem tagS_append (a b:List (Bs × Bs)):tagS (a++b)=tagS a++tagS b:=by simp[tagS]
def runeP (c:Nat):Bool:=(decide (c<65) || decide (90<c))&&(decide (c<48) || decide (57<c))
theorem strB_size (l:Bs):(strB l).size=l.length:=rfl
theorem runeP_up (x:UInt8):runeP x.toNat=!(upB x):=by
 unfold runeP upB;rw[Bool.eq_iff_iff]
 simp<;>omega
theorem runeP_high (c:Nat) (h:128<=c):runeP c=true:=by
 unfold runeP
 simp<;>omega
theorem upB_high (x:UInt8) (h:128<=x.toNat):upB x=false:=by
 unfold upB
 simp<;>omega
theorem idx_named (l:Bs) (n:Nat):∀pos,l.length - pos<=n->pos<=l.length->decide (0<=Lib.idxFuncFrom runeP true (strB l) n pos)=!((l.drop pos).all upB):=by
 induction n with
 | zero=>
   intro pos h1 h2
   have:pos=l.length:=by omega
   subst this;simp[Lib.idxFuncFrom]
 | succ n ih=>
   intro pos h1 h2;rw[Lib.idxFuncFrom]
   by_cases hp:pos<l.length
   ·rw[if_pos (by rw[strB_size];exact hp),List.drop_eq_getElem_cons hp,List.all_cons]
    by_cases hb:l[pos].toNat<128
    ·rw[decode_ascii (strB l) pos hp hb]
     have hr:=runeP_up l[pos];have h9:(strB l)[pos]'hp=l[pos]:=rfl;rw[h9];dsimp only;rw[hr];cases hu:upB l[pos] with
     | true=>
       rw[if_neg (by simp)]
       have:=ih (pos+1) (by omega) (by omega)
       rw[this];simp
     | false=>simp
    have hd:=decode_high (strB l) pos hp (by show 128<=l[pos].toNat;omega);rw[runeP_high _ hd.1,upB_high _ (by omega),if_pos rfl];simp
   have:pos=l.length:=by omega
   subst this;rw[if_neg (by rw[strB_size];omega)];simp
theorem named_idx (l:Bs) (h:l.length=4):(!decide (0<=Lib.idxFunc runeP true (strB l)))=namedG l:=by
 unfold Lib.idxFunc namedG;rw[idx_named l _ 0 (by rw[strB_size];omega) (by omega)];simp[h]
attribute [local go_sem ↓] Go.wp_at_zero Go.wp_at_succ
theorem runeP_pays (w:World):PredAt prog 285 #[] encR runeP w:=fun W r _=>by
 unfold FnGives
 by_cases h1:r<65<;>by_cases h2:90<r<;>by_cases h3:r<48<;>by_cases h4:57<r
 all_goals try (exfalso;omega)
 all_goals
  have z1:(r:Int)<65↔r<65:=by omega
  have z2:(90:Int)<(r:Int)↔90<r:=by omega
  have z3:(r:Int)<48↔r<48:=by omega
  have z4:(57:Int)<(r:Int)↔57<r:=by omega
  go_enter func285,ntmps285
  go_wp2
  all_goals first | (exfalso;omega) | (go_ret;exact⟨by simp[runeP,h1,h2,h3,h4],0,rfl⟩)
theorem named_any (s:Bs) (w:World):Calls prog 255 #[.string (strB s)] w (BoolPost (namedG s) w):=by
 have hsz:=strB_size s
 by_cases h:s.length=4
 ·have hid:=named_idx s h
  have hC:=lhd (Tryz.strings_ContainsFunc 285 #[] (enters_of func285 (by kernel_rfl) rfl) runeP (strB s) w (runeP_pays w));generalize namedG s=V at *;generalize decide (0<=Lib.idxFunc runeP true (strB s))=D at *;rw[h] at hsz;generalize strB s=S at *;replace hid:=lhd hid;clear h
  go_enter func255,ntmps255
  go_wp2_with fail
  refine hC.out.mono ?_;rintro e w1 ⟨rfl,hb1⟩;dsimp only
  go_wp2_with fail
  go_ret
  exact⟨ret_bool hid.out,hb1⟩
 have hv:Hid (namedG s=false):=by show _=_;simp[namedG,h]
 have h2:¬((strB s).size=4):=by rw[hsz];exact h
 have h3:¬(((strB s).size:Int)=4):=by omega
 clear hsz h;generalize namedG s=V at *;generalize strB s=S at *
 go_enter func255,ntmps255
 go_wp2_with fail
 go_ret
 exact⟨ret_bool hv.out.symm,Below.refl _ _⟩
theorem take_all (s:Bs) (k:Nat) (x:UInt8) (h:s[k]?=some x):(s.take (k+1)).all upB=((s.take k).all upB&&upB x):=by
 rw[take_one s k x h];simp
theorem rnamed_any (s:Bs) (w:World):Calls prog 266 #[.string (strB s)] w (BoolPost (namedG s) w):=by
 have hsz:=strB_size s
 by_cases h:s.length=4
 ·rw[h] at hsz
  go_enter func266,ntmps266
  go_wp2_with fail
  go_loopw [3] (fun t wr=>∃k:Nat,k<=4/\t=.int .i64 k/\(s.take k).all upB=true/\Hid (Below w.heap.size w wr)) (fun t _=>4 - (intOf t).toNat)
  case atStart=>exact⟨0,by omega,rfl,rfl,Below.refl _ _⟩
  case round=>
   obtain⟨k,hk,rfl,ha,hb⟩:=hrel
   by_cases hlt:k<4
   ·obtain⟨x,hx⟩:∃x,s[k]?=some x:=⟨s[k],xge (by omega)⟩
    have hr:∀W:World,(Instr.index 9 (.string (strB s)) (.int .i64 (k:Int))).run prog W=.ok (.int .u8 (x.toNat:Int)) W:=fun W=>by
     obtain⟨h3,h4⟩:=List.getElem?_eq_some_iff.1 hx;rw[run_index_string (h:=underlying9),dif_pos ⟨by omega,by omega⟩];have h5:(strB s)[k]'(by omega)=x:=h4;simp only[xnc,h5]
    have i0:(k:Int)<4:=by omega
    have hta:=take_all s k x hx;rw[ha,Bool.true_and] at hta;replace hta:=lhd hta;replace hx:=lhd hx;cases hu:upB x with
    | true=>
      have hu2:(65<=x.toNat/\x.toNat<=90)\/(¬65<=x.toNat/\48<=x.toNat/\x.toNat<=57):=by
       unfold upB at hu;simp at hu
       omega
      replace hu:=lhd hu;rcases hu2 with ⟨a1,a2⟩|⟨a1,a2,a3⟩
      ·have z1:(65:Int)<=(x.toNat:Int):=by omega
       have z2:(x.toNat:Int)<=90:=by omega
       go_wp2_with fail
       go_roundw
       case rel=>exact⟨k+1,by omega,by go_num,by rw[hta.out,hu.out],hb⟩
       case measure=>simp[intOf];omega
      have z1:¬(65:Int)<=(x.toNat:Int):=by omega
      have z2:(48:Int)<=(x.toNat:Int):=by omega
      have z3:(x.toNat:Int)<=57:=by omega
      go_wp2_with fail
      go_roundw
      case rel=>exact⟨k+1,by omega,by go_num,by rw[hta.out,hu.out],hb⟩
      case measure=>simp[intOf];omega
    | false=>
      have hv:Hid (namedG s=false):=by
       show _=_;have h9:s.all upB=false:=by
        rw[List.all_eq_false];exact⟨x,List.mem_of_getElem? hx.out,by rw[hu];simp⟩
       simp only[namedG,h9,Bool.and_false]
      generalize namedG s=V at *;have hu2:(65<=x.toNat/\90<x.toNat)\/(¬65<=x.toNat/\¬48<=x.toNat)\/(¬65<=x.toNat/\48<=x.toNat/\57<x.toNat):=by
       unfold upB at hu;simp at hu
       omega
      replace hu:=lhd hu;rcases hu2 with ⟨a1,a2⟩|⟨a1,a2⟩|⟨a1,a2,a3⟩
      ·have z1:(65:Int)<=(x.toNat:Int):=by omega
       have z2:¬(x.toNat:Int)<=90:=by omega
       have z3:(48:Int)<=(x.toNat:Int):=by omega
       have z4:¬(x.toNat:Int)<=57:=by omega
       go_wp2_with fail
       go_returns
       exact⟨ret_bool hv.out.symm,hb.out⟩
      ·have z1:¬(65:Int)<=(x.toNat:Int):=by omega
       have z3:¬(48:Int)<=(x.toNat:Int):=by omega
       go_wp2_with fail
       go_returns
       exact⟨ret_bool hv.out.symm,hb.out⟩
      have z1:¬(65:Int)<=(x.toNat:Int):=by omega
      have z3:(48:Int)<=(x.toNat:Int):=by omega
      have z4:¬(x.toNat:Int)<=57:=by omega
      go_wp2_with fail
      go_returns
      exact⟨ret_bool hv.out.symm,hb.out⟩
   have i0:¬(k:Int)<4:=by omega
   have hv:Hid (namedG s=true):=by
    show _=_;rw[show k=4 by omega,xtl (by omega)] at ha;simp[namedG,ha,h]
   generalize namedG s=V at *;clear ha
   go_wp2_with fail
   go_returns
   exact⟨ret_bool hv.out.symm,hb.out⟩
 have hv:Hid (namedG s=false):=by show _=_;simp[namedG,h]
 have h2:¬((strB s).size=4):=by rw[hsz];exact h
 have h3:¬(((strB s).size:Int)=4):=by omega
 clear hsz h;generalize namedG s=V at *;generalize strB s=S at *
 go_enter func266,ntmps266
 go_wp2_with fail
 go_ret
 exact⟨ret_bool hv.out.symm,Below.refl _ _⟩
attribute [local go_sem ↓] Go.wp_at_zero Go.wp_at_succ
theorem tag_at {w:World} {B n c:Nat} {A:Option Addr} {ts:List (Bs × Bs)} (h:SeesR w B (.slice A n c) 2 n (tagS ts)) (k:Nat) (t:Bs × Bs) (hk:ts[k]?=some t) :
 ∃b o A' c',A=some ⟨b,o,none⟩/\b<B/\w.cell? ⟨b,o+k * 2,none⟩=some (.string (strB t.1))/\w.cell? ⟨b,o+k * 2+1,none⟩=some (.slice A' t.2.length c')/\SeesB w B (.slice A' t.2.length c') t.2:=by
 have hl:=h.1;rw[tagS_len] at hl;have hkl:=(List.getElem?_eq_some_iff.1 hk).1;obtain⟨b,o,e,hb,hc⟩:=h.at_ (by omega);obtain⟨g1,g2⟩:=tagS_get ts k t hk;rw[Nat.mul_comm 2 k] at g1 g2;obtain⟨u1,c1,f1⟩:=hc _ _ g1;obtain⟨u2,c2,f2⟩:=hc _ _ g2;obtain⟨rfl,-⟩:=f1;have f2:SeesB w B u2 t.2:=f2;obtain⟨A',c',rfl,-,-⟩:=f2.mk_;exact⟨b,o,A',c',e,hb,c1,by rw[Nat.add_assoc];exact c2,f2⟩
theorem tcheck_any (B:Nat) (u:Value) (ts:List (Bs × Bs)) (w:World) (hu:SeesR w B u 2 ts.length (tagS ts)) (hB:B<=w.heap.size) (hn:ts.length<=1048576) :
 Calls prog 194 #[u] w fun e w'=>e=.returned (.int .i64 (checkT [] ts))/\Below w.heap.size w w':=by
 obtain⟨A,c,rfl,-,-⟩:=hu.mk_;replace hu:=lhd hu
 go_enter func194,ntmps194
 go_wp2_with fail
 go_loopw [3,5,8,12,17,22] (fun v _ t _ _ _ wr=>∃(k:Nat) (last:Bs),k<=ts.length/\t=.int .i64 k/\v=.string (strB last)/\Hid (checkT last (ts.drop k)=checkT [] ts)/\Hid (Below w.heap.size w wr)) (fun _ _ t _ _ _ _=>ts.length - (intOf t).toNat)
 case atStart=>exact⟨0,[],by omega,rfl,rfl,rfl,Below.refl _ _⟩
 case round=>
  obtain⟨k,last,hk,rfl,rfl,hch,hb⟩:=hrel
  by_cases hlt:k<ts.length
  ·obtain⟨t,ht⟩:∃t,ts[k]?=some t:=⟨ts[k],xge hlt⟩
   obtain⟨b,o,A',c',rfl,hbB,x0,x1,-⟩:=tag_at (hu.out.below (hb.out.mono hB)) k t ht;have hnm:=fun W=>named_any t.1 W
   have hcm:=lhd (checkT_step ts k t last ht);have hcn:=lhd (checkT_name ts k t last ht);have hco:=lhd (checkT_order ts k t last ht);have hcf:=lhd (checkT_form ts k t last ht);have l1:=strB_toList t.1;have l2:=strB_toList last;obtain⟨nm,da⟩:=t;dsimp only at hnm hcm hcn hco hcf l1 l2 x0 x1;have i0:(k:Int)<(ts.length:Int):=by omega
   have hbA:=balloc wr (.cells #[.string (strB nm),.slice A' da.length c'] 173);have hx:=Box.new wr 173 [.string (strB nm),.slice A' da.length c'];change Box (wr.alloc (.cells #[.string (strB nm),.slice A' da.length c'] 173)) _ _ _ at hx;replace hb:=lhd (bgo hb.out hbA);replace ht:=lhd ht;clear hbA;generalize hS1:strB nm=S1 at *;replace hS1:=lhd hS1;generalize strB last=S2 at *;cases hV:namedG nm with
   | false=>
     have hend:=hcn.out hV;rw[hch.out] at hend;rw[hV] at hnm;replace hnm:=lhd hnm;replace hend:=lhd hend
     go_wp2_with fail
     refine (hnm.out _).mono ?_;rintro e w2 ⟨rfl,hb2⟩;dsimp only
     go_wp2_with fail
     go_returns
     exact⟨by rw[hend.out];rfl,bgo hb.out hb2⟩
   | true=>
     rw[hV] at hnm;replace hnm:=lhd hnm
     go_wp2_with fail
     refine (hnm.out _).mono ?_;rintro e w2 ⟨rfl,hb2⟩;replace hx:=hx.below hb2;replace hb:=lhd (bgo hb.out hb2);generalize hG:wr.heap.size=G at hx ⊢;have y0:=hx.cell 0;have y1:=hx.cell 1;simp only[xqz,xqs] at y0 y1;replace hG:=lhd hG;clear x0 x1;dsimp only;cases hp:Op.bytesLess nm last with
     | true=>
       have hend:=hco.out hV (by rw[hp,Bool.true_or]);rw[hch.out] at hend;replace hend:=lhd hend
       go_wp2_with fail
       go_returns
       exact⟨by rw[hend.out];rfl,hb.out⟩
     | false=>
       cases hq:(nm == last) with
       | true=>
         have hend:=hco.out hV (by rw[hp,hq];rfl);rw[hch.out] at hend;replace hend:=lhd hend
         go_wp2_with fail
         go_returns
         exact⟨by rw[hend.out];rfl,hb.out⟩
       | false=>
         have hD:(Op.bytesLess nm last || nm == last)=false:=by rw[hp,hq];rfl
         by_cases h4:da.length % 4=0
         ·have hend:=lhd (hcm.out hV hD h4)
          have i4:((da.length:Nat):Int) % 4=0:=by omega
          replace h4:=lhd h4;replace hD:=lhd hD
          go_wp2_with fail
          go_roundw
          case rel=>exact⟨k+1,nm,by omega,by go_num,by rw[hS1.out],by show _=_;rw[<-hend.out,hch.out],hb⟩
          case measure=>simp[intOf];omega
         have hend:=hcf.out hV hD h4;rw[hch.out] at hend;have i4:¬(((da.length:Nat):Int) % 4=0):=by omega
         replace hend:=lhd hend;replace h4:=lhd h4;replace hD:=lhd hD
         go_wp2_with fail
         go_returns
         exact⟨by rw[hend.out];rfl,hb.out⟩
  ·have hend:Hid (checkT [] ts=0):=by
    show _=_;rw[<-hch.out,List.drop_eq_nil_of_le (by omega)]
    rfl
   have i0:¬(k:Int)<(ts.length:Int):=by omega
   go_wp2_with fail
   go_returns
   exact⟨by rw[hend.out];rfl,hb.out⟩
end Go.Proofs.YtjgepckncogdaaaGreat
