/- Contracts of functions, walks, plain facts. Conditions: those of each theorem. -/
import Derived.Test.YtjgepckncogdaaaGreatZC2
set_option linter.unusedVariables false
set_option linter.unusedSimpArgs false
set_option maxRecDepth 100000
set_option maxHeartbeats 16000000
namespace Go.Proofs.YtjgepckncogdaaaGreat
open Go Go.RowKit _root_.Go.Proofs.Tryz
theorem wp_appRG {o:Oper} {a:Act} {w:World} {K:Act->World->Prop} {Q:Exit->Act->World->Prop} (s x:Operand) (T E:TypeId) (hT:prog.underlying T=some (.slice E))
 (ho:o.op=.call { callee:=.builtin .append,args:=#[s,x],argTypes:=#[T,T] }) (i:TypeInfo) (z:Value) (size bytes:Nat) (hi:prog.info? E=some i) (hz:i.zero=some z)
 (hsz:i.size=size) (hby:i.bytes=bytes) (hzs:z.cells.size=size) (h0:0<size) (hby2:bytes<=1024)
 (base:Nat) (v:Value) (n:Nat) (ss:List Spec) (hs:a.eval s=v) (hown:OwnR w base E v size n ss) (B:Nat) (u:Value) (m:Nat) (vs:List Value) (ts:List Spec) (hx:a.eval x=u) (hr:Sees w B u size m vs)
 (htl:ts.length=m * size) (hel:∀(k:Nat) (t:Spec),ts[k]?=some t->∃y,vs[k]?=some y/\EltS w v y t)
 (hlen:n+m<=1048576) (hbase:base<=w.heap.size)
 (h:∀v' w',OwnR w' base E v' size (n+m) (ss++ts)->Below base w w'->w.grownBy w' v.ownBlock->K (a.put o.dst v') w'):o.wp prog a w K Q:=by
 have hown':=hown;obtain⟨hl0,xs,h1,h2⟩:=hown;have h1c:∀y∈vs,y.oneCell'=true:=by
  intro y hy;obtain⟨k,hk⟩:=List.mem_iff_getElem?.1 hy;have hkl:k<ts.length:=by
   have:=(List.getElem?_eq_some_iff.1 hk).1
   rw[hr.1] at this;omega
  obtain⟨y',e1,e2⟩:=hel k _ (xge hkl);rw[hk] at e1;cases e1;exact e2.fit.one
 refine wp_append_sees s x T ho base E i z size bytes hT hi hz hsz hby hzs h0 v n xs hs h1 B u m vs hx hr h1c (by unfold maxLen;omega) (Nat.le_trans (Nat.mul_le_mul hlen hby2) (by omega)) hbase ?_;intro v' w' g1 g2 g3;refine h v' w' ⟨by rw[xla,hl0,htl,Nat.add_mul],xs++vs,g1,fun k t hk=>?_⟩ (below_ownR hown' g2 hbase) g2;have hl1:xs.length=ss.length:=by rw[h1.1,hl0]
 have hst:∀{y:Value} {t:Spec},EltS w v y t->EltS w' v' y t:=fun {y t} hy=>by
  cases t with
  | val x=>exact hy
  | byt l=>exact⟨hy.grown g2,fun hm k hk=>by
   rcases g3 with e|e
   ·rw[e];exact hy.2 hm k hk
   rw[e];intro e2;cases e2;exact absurd (hy.1.blk hm _ hk) (by omega)⟩
 by_cases hkl:k<ss.length
 ·rw[xal hkl] at hk
  obtain⟨y,e1,e2⟩:=h2 k t hk;exact⟨y,by rw[xal (by omega)];exact e1,hst e2⟩
 rw[xar (by omega)] at hk;obtain⟨y,e1,e2⟩:=hel (k - ss.length) t hk;exact⟨y,by rw[xar (by omega),hl1];exact e1,hst e2⟩
theorem step_appRG {ops:Array Oper} {o:Oper} {a:Act} {w:World} {K:Act->World->Prop} {Q:Exit->Act->World->Prop} {X:Prop} (hgd:o.guard=none) (s x:Operand) (T E:TypeId) (hT:prog.underlying T=some (.slice E))
 (ho:o.op=.call { callee:=.builtin .append,args:=#[s,x],argTypes:=#[T,T] }) (i:TypeInfo) (z:Value) (size bytes:Nat) (hi:prog.info? E=some i) (hz:i.zero=some z)
 (hsz:i.size=size) (hby:i.bytes=bytes) (hzs:z.cells.size=size) (h0:0<size) (hby2:bytes<=1024)
 (base:Nat) (v:Value) (n:Nat) (ss:List Spec) (hs:a.eval s=v) (hown:OwnR w base E v size n ss) (B:Nat) (u:Value) (m:Nat) (vs:List Value) (ts:List Spec) (hx:a.eval x=u) (hr:Sees w B u size m vs)
 (htl:ts.length=m * size) (hel:∀(k:Nat) (t:Spec),ts[k]?=some t->∃y,vs[k]?=some y/\EltS w v y t)
 (hlen:n+m<=1048576) (hbase:base<=w.heap.size)
 (h:∀v' w',OwnR w' base E v' size (n+m) (ss++ts)->Below base w w'->w.grownBy w' v.ownBlock->K (a.put o.dst v') w'):if Region.wanted o (yielded ops a.tmps)=true then Oper.wp prog o a w K Q else X:=by
 have hw:Region.wanted o (yielded ops a.tmps)=true:=by simp[Region.wanted,hgd]
 rw[if_pos hw];exact wp_appRG s x T E hT ho i z size bytes hi hz hsz hby hzs h0 hby2 base v n ss hs hown B u m vs ts hx hr htl hel hlen hbase h
end Go.Proofs.YtjgepckncogdaaaGreat
