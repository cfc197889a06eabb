/- Contracts of functions, walks, plain facts. Conditions: those of each theorem. -/
import Derived.Lib.Small
import Derived.Lib.BitFns
import Derived.Test.YtjgepckncogdaaaGreatK4
set_option linter.unusedVariables false
set_option linter.unusedSimpArgs false
set_option maxRecDepth 100000
set_option maxHeartbeats 16000000
namespace Go.Proofs.YtjgepckncogdaaaGreat
open Go Go.RowKit _root_.Go.Proofs.Tryz
theorem slice_info:(prog.info? 25).map (fun i=>(i.zero,i.size,i.bytes))=some (some (.slice none 0 0),1,24):=by kernel_rfl
section
variable {w w':World} {B base:Nat} {u v:Value} {l:Bs} {ls:List Bs}
theorem SeesB.stay (h:SeesB w B u l) (hk:l≠[]->∀k,u.ownBlock=some k->∀p:Addr,p.block=k->w'.cell? p=w.cell? p):SeesB w' B u l:=by
 obtain⟨h0,A,c,hv,h1,h2,h3⟩:=h;refine⟨h0,A,c,hv,h1,h2,fun hn=>?_⟩;obtain⟨b,o,e,hb,hc⟩:=h3 hn;refine⟨b,o,e,hb,fun j x hj=>(hk (fun e=>by subst e;exact absurd hn (by simp)) b (by rw[hv,e];rfl) _ rfl).trans (hc j x hj)⟩
theorem SeesB.blk (h:SeesB w B u l) (hl:l≠[]):∀k,u.ownBlock=some k->k<B:=by
 obtain⟨A,c,rfl,h1,h2⟩:=h.mk_;obtain⟨b,o,rfl,hb,-⟩:=h.at_ (List.length_pos_iff.2 hl);intro k hk;cases hk;exact hb
def Elt (w:World) (v u:Value) (l:Bs):Prop:=SeesB w w.heap.size u l/\(l≠[]->∀k,u.ownBlock=some k->v.ownBlock≠some k)
def OwnL (w:World) (base:Nat) (v:Value) (ls:List Bs):Prop:=
 ∃vs:List Value,w.ownsRow base 25 1 v ls.length vs/\∀k,k<ls.length->∃u,vs[k]?=some u/\Elt w v u (ls.getD k [])
theorem Elt.grown (h:Elt w v u l) (hg:w.grownBy w' v.ownBlock):SeesB w' w'.heap.size u l:=by
 refine SeesB.more ?_ hg.size;refine h.1.stay fun hl k hk p hp=>World.cell?_of_block (hg.block p.block ?_ ?_)
 ·rw[hp];exact h.1.blk hl k hk
 rw[hp];exact fun e=>h.2 hl k hk e.symm
theorem Elt.below (h:Elt w v u l) (hb:Below w.heap.size w w'):Elt w' v u l:=⟨(h.1.below hb).more hb.size,h.2⟩
theorem Elt.of_old {B:Nat} (h:SeesB w B u l) (hB:B<=w.heap.size) (hv:∀k,v.ownBlock=some k->B<=k):Elt w v u l:=
 ⟨h.more hB,fun hl k hk e=>by have:=h.blk hl k hk;have:=hv k e;omega⟩
theorem Elt.of_from {n:Nat} (h:SeesB w w.heap.size u l) (hf:From n u) (hv:∀k,v.ownBlock=some k->k<n):Elt w v u l:=by
 refine⟨h,fun hl k hk e=>?_⟩;obtain⟨A,c,rfl,-,-⟩:=h.mk_;cases A with
 | none=>cases hk
 | some a=>
   have:=hf a _ _ rfl
   have:=hv k e
   cases hk
   omega
theorem OwnL.nil (w:World) (base:Nat):OwnL w base (.slice none 0 0) []:=⟨[],World.ownsRow_nil w base _ 1,fun k hk=>absurd hk (by simp)⟩
theorem OwnL.sees (h:OwnL w base v ls):SeesL w w.heap.size v ls:=by
 obtain⟨vs,h1,h2⟩:=h;exact⟨vs,Sees.of_own h1,fun k hk=>by obtain⟨u,g1,g2⟩:=h2 k hk;exact⟨u,g1,g2.1⟩⟩
theorem OwnL.lt (h:OwnL w base v ls):∀k,v.ownBlock=some k->base<=k/\k<w.heap.size:=by
 obtain⟨vs,h1,_⟩:=h;exact h1.lt
theorem OwnL.below (h:OwnL w base v ls) (hb:Below w.heap.size w w'):OwnL w' base v ls:=by
 obtain⟨vs,h1,h2⟩:=h;exact⟨vs,own_below h1 hb,fun k hk=>by obtain⟨u,g1,g2⟩:=h2 k hk;exact⟨u,g1,g2.below hb⟩⟩
theorem OwnL.mono {base':Nat} (h:OwnL w base v ls) (hb:base'<=base):OwnL w base' v ls:=by
 obtain⟨vs,h1,h2⟩:=h;refine⟨vs,⟨h1.1,?_⟩,h2⟩;rcases h1.2 with h|⟨g,cap,cur,e1,e2,e3⟩
 ·exact .inl h
 exact .inr ⟨g,cap,cur,e1,by omega,e3⟩
theorem OwnL.shape (h:OwnL w base v ls):∃A c,v=.slice A ls.length c:=by
 obtain⟨A,c,e,-,-⟩:=h.sees.mk_;exact⟨A,c,e⟩
theorem OwnL.at_ {A:Option Addr} {n c:Nat} (h:OwnL w base (.slice A n c) ls) (hn:0<ls.length):∃g,A=some ⟨g,0,none⟩:=by
 obtain⟨vs,h1,_⟩:=h;rcases h1.2 with ⟨e1,e2⟩|⟨g,cap,cur,e1,_⟩
 ·omega
 injection e1 with e1 e2 e3;exact⟨g,e1⟩
theorem OwnL.set {g n c k:Nat} (h:OwnL w base (.slice (some ⟨g,0,none⟩) n c) ls) (hk:k<ls.length) (hx:Elt w (.slice (some ⟨g,0,none⟩) n c) u l) :
 OwnL (w.setCell ⟨g,k,none⟩ u) base (.slice (some ⟨g,0,none⟩) n c) (ls.set k l)/\Below base w (w.setCell ⟨g,k,none⟩ u):=by
 have hlt:=h.lt g rfl;obtain⟨vs,h1,h2⟩:=h;have hn:n=ls.length:=by
  obtain⟨_,A',c',e,_⟩:=Sees.of_own h1;injection e
 subst hn;obtain⟨s1,s2⟩:=h1.stored k u;refine⟨⟨vs.set k u,by rw[List.length_set];exact s1,fun j hj=>?_⟩,(Below.refl _ _).setCell (by dsimp only;omega) _⟩;rw[List.length_set] at hj;have hst:∀{x:Value} {m:Bs},Elt w (.slice (some ⟨g,0,none⟩) ls.length c) x m->Elt (w.setCell ⟨g,k,none⟩ u) (.slice (some ⟨g,0,none⟩) ls.length c) x m:=fun hx=>⟨hx.grown s2,hx.2⟩
 by_cases hjk:j=k
 ·subst hjk
  refine⟨u,List.getElem?_set_self (by rw[h1.1];omega),?_⟩;rw[xgd,List.getElem?_set_self hj];exact hst hx
 obtain⟨x,e1,e2⟩:=h2 j hj;refine⟨x,by rw[List.getElem?_set_ne (by omega)];exact e1,?_⟩;rw[xgd,List.getElem?_set_ne (by omega),<-xgd];exact hst e2
theorem OwnL.cell {g n c k:Nat} (h:OwnL w base (.slice (some ⟨g,0,none⟩) n c) ls) (hk:k<ls.length):(∃z,w.cell? ⟨g,k,none⟩=some z)/\w.frozen? ⟨g,k,none⟩=false:=by
 obtain⟨vs,h1,h2⟩:=h;have hn:n=ls.length:=by
  obtain⟨_,A',c',e,_⟩:=Sees.of_own h1;injection e
 subst hn;obtain⟨x,e1,_⟩:=h2 k hk;exact⟨⟨x,(h1.cellAt k (by omega)).trans e1⟩,h1.frozenAt k⟩
end
theorem below_own {w w':World} {base:Nat} {v:Value} {ls:List Bs} (h:OwnL w base v ls) (hg:w.grownBy w' v.ownBlock) (hb:base<=w.heap.size):Below base w w':=by
 refine⟨hg.os,hg.tape,hg.output,hg.size,fun k hk=>hg.block k (by omega) (fun e=>?_)⟩
 have:=(h.lt k e.symm).1
 omega
theorem wp_appE {o:Oper} {a:Act} {w:World} {K:Act->World->Prop} {Q:Exit->Act->World->Prop} (s x:Operand) (T:TypeId) (hT:prog.underlying T=some (.slice 25))
 (ho:o.op=.call { callee:=.builtin .append,args:=#[s,x],argTypes:=#[T,T] })
 (base:Nat) (v:Value) (ls:List Bs) (hs:a.eval s=v) (hown:OwnL w base v ls) (B:Nat) (u:Value) (ms:List Bs) (vs:List Value) (hx:a.eval x=u) (hr:Sees w B u 1 ms.length vs)
 (hel:∀k,k<ms.length->∃y,vs[k]?=some y/\Elt w v y (ms.getD k []))
 (hlen:ls.length+ms.length<=1099511627776) (hbase:base<=w.heap.size)
 (h:∀v' w',OwnL w' base v' (ls++ms)->Below base w w'->K (a.put o.dst v') w'):o.wp prog a w K Q:=by
 obtain⟨i,hi,hz,hsz,hby⟩:=info_parts slice_info;have hown':=hown;obtain⟨xs,h1,h2⟩:=hown;have h1c:∀y∈vs,y.oneCell'=true:=by
  intro y hy;obtain⟨k,hk⟩:=List.mem_iff_getElem?.1 hy;have hkl:k<ms.length:=by
   have:=(List.getElem?_eq_some_iff.1 hk).1
   rw[hr.1] at this;omega
  obtain⟨y',e1,e2⟩:=hel k hkl;rw[hk] at e1;cases e1;obtain⟨A,c,rfl,-,-⟩:=e2.1.mk_
  rfl
 refine wp_append_sees s x T ho base 25 i (.slice none 0 0) 1 24 hT hi hz hsz hby rfl (by omega) v ls.length xs hs h1 B u ms.length vs hx hr h1c (by unfold maxLen;omega) (by omega) hbase ?_;intro v' w' g1 g2 g3;refine h v' w' ⟨xs++vs,by rw[xla];exact g1,fun k hk=>?_⟩ (below_own hown' g2 hbase);rw[xla] at hk;have hl1:xs.length=ls.length:=by rw[h1.1,Nat.mul_one]
 have hst:∀{y:Value} {m:Bs},Elt w v y m->Elt w' v' y m:=fun {y m} hy=>⟨hy.grown g2,fun hm k hk=>by
  rcases g3 with e|e
  ·rw[e];exact hy.2 hm k hk
  rw[e];intro e2;cases e2;exact absurd (hy.1.blk hm _ hk) (by omega)⟩
 by_cases hkl:k<ls.length
 ·obtain⟨y,e1,e2⟩:=h2 k hkl
  refine⟨y,by rw[xal (by omega)];exact e1,?_⟩;rw[xgd,xal hkl,<-xgd];exact hst e2
 obtain⟨y,e1,e2⟩:=hel (k - ls.length) (by omega);refine⟨y,by rw[xar (by omega),hl1];exact e1,?_⟩;rw[xgd,xar (by omega),<-xgd];exact hst e2
theorem wpList_appE {ops:Array Oper} {rest:List Oper} {o:Oper} {a:Act} {w:World} {Q:Exit->Act->World->Prop} (hgd:Region.wanted o (yielded ops a.tmps)=true) (s x:Operand) (T:TypeId) (hT:prog.underlying T=some (.slice 25))
 (ho:o.op=.call { callee:=.builtin .append,args:=#[s,x],argTypes:=#[T,T] })
 (base:Nat) (v:Value) (ls:List Bs) (hs:a.eval s=v) (hown:OwnL w base v ls) (B:Nat) (u:Value) (ms:List Bs) (vs:List Value) (hx:a.eval x=u) (hr:Sees w B u 1 ms.length vs)
 (hel:∀k,k<ms.length->∃y,vs[k]?=some y/\Elt w v y (ms.getD k []))
 (hlen:ls.length+ms.length<=1099511627776) (hbase:base<=w.heap.size)
 (h:∀v' w',OwnL w' base v' (ls++ms)->Below base w w'->wpList prog ops Q rest (a.put o.dst v') w'):wpList prog ops Q (o :: rest) a w:=
 BigFrame.wpList_want hgd fun _ hK=>wp_appE s x T hT ho base v ls hs hown B u ms vs hx hr hel hlen hbase fun v' w' h2 h3=>hK _ _ (h v' w' h2 h3)
theorem one_elt {w:World} {v y:Value} {l:Bs} (hel:Elt w v y l):∀k,k<[l].length->∃z,[y][k]?=some z/\Elt w v z ([l].getD k []):=fun k hk=>by
 obtain rfl:k=0:=by simp at hk;omega
 exact⟨y,rfl,hel⟩
theorem wpList_appL {ops:Array Oper} {rest:List Oper} {o:Oper} {a:Act} {w:World} {Q:Exit->Act->World->Prop} (hgd:Region.wanted o (yielded ops a.tmps)=true) (s x:Operand) (T:TypeId) (hT:prog.underlying T=some (.slice 25))
 (ho:o.op=.call { callee:=.builtin .append,args:=#[s,x],argTypes:=#[T,T] })
 (base:Nat) (v:Value) (ls:List Bs) (hs:a.eval s=v) (hown:OwnL w base v ls) (B:Nat) (u y:Value) (l:Bs) (hx:a.eval x=u) (hr:Sees w B u 1 1 [y]) (hel:Elt w v y l)
 (hlen:ls.length<=549755813888) (hbase:base<=w.heap.size)
 (h:∀v' w',OwnL w' base v' (ls++[l])->Below base w w'->wpList prog ops Q rest (a.put o.dst v') w'):wpList prog ops Q (o :: rest) a w:=
 wpList_appE hgd s x T hT ho base v ls hs hown B u [l] [y] hx hr (one_elt hel) (by simp;omega) hbase h
theorem step_appL {ops:Array Oper} {o:Oper} {a:Act} {w:World} {K:Act->World->Prop} {Q:Exit->Act->World->Prop} {E:Prop} (hgd:o.guard=none) (s x:Operand) (T:TypeId) (hT:prog.underlying T=some (.slice 25))
 (ho:o.op=.call { callee:=.builtin .append,args:=#[s,x],argTypes:=#[T,T] })
 (base:Nat) (v:Value) (ls:List Bs) (hs:a.eval s=v) (hown:OwnL w base v ls) (B:Nat) (u y:Value) (l:Bs) (hx:a.eval x=u) (hr:Sees w B u 1 1 [y]) (hel:Elt w v y l)
 (hlen:ls.length<=549755813888) (hbase:base<=w.heap.size)
 (h:∀v' w',OwnL w' base v' (ls++[l])->Below base w w'->K (a.put o.dst v') w'):if Region.wanted o (yielded ops a.tmps)=true then Oper.wp prog o a w K Q else E:=by
 have hw:Region.wanted o (yielded ops a.tmps)=true:=by simp[Region.wanted,hgd]
 rw[if_pos hw];exact wp_appE s x T hT ho base v ls hs hown B u [l] [y] hx hr (one_elt hel) (by simp;omega) hbase h
theorem step_app {ops:Array Oper} {o:Oper} {a:Act} {w:World} {K:Act->World->Prop} {Q:Exit->Act->World->Prop} {E:Prop} (hgd:o.guard=none) (s x:Operand)
 (ho:o.op=.call { callee:=.builtin .append,args:=#[s,x],argTypes:=#[25,25] })
 (base:Nat) (v:Value) (l:Bs) (hs:a.eval s=v) (hown:OwnB w base v l) (B:Nat) (u:Value) (m:Bs) (hx:a.eval x=u) (hr:SeesB w B u m)
 (hlen:l.length+m.length<=140737488355328) (hbase:base<=w.heap.size)
 (h:∀v' w',OwnB w' base v' (l++m)->Below base w w'->K (a.put o.dst v') w'):if Region.wanted o (yielded ops a.tmps)=true then Oper.wp prog o a w K Q else E:=by
 have hw:Region.wanted o (yielded ops a.tmps)=true:=by simp[Region.wanted,hgd]
 rw[if_pos hw];obtain⟨i,hi,hz,hsz,hby⟩:=info_parts byte_info;refine wp_append_sees s x 25 ho base 5 i (.int .u8 0) 1 1 underlying25 hi hz hsz hby rfl (by omega) v l.length (vb l) hs hown B u m.length (vb m) hx hr (vb_one m) (by unfold maxLen;omega) (by omega) hbase ?_;intro v' w' h1 h2 h3;refine h v' w' ?_ (below_of_grown hown h2 hbase);unfold OwnB;rw[vb_append,xla];exact h1
theorem one_cell (w:World) (y:Value) (T:TypeId):Sees (w.alloc (.cells #[y] T)) (w.heap.size+1) (.slice (some ⟨w.heap.size,0,none⟩) 1 1) 1 1 [y]:=by
 refine⟨rfl,_,1,rfl,Nat.le_refl _,by unfold maxLen;omega,fun _=>⟨w.heap.size,0,rfl,by omega,fun j u hj=>?_⟩⟩;have hj0:j=0:=by
  have:=(List.getElem?_eq_some_iff.1 hj).1
  simp at this;omega
 subst hj0;cases hj;exact (Box.new w T [y]).cell 0
attribute [local go_sem ↓] Go.wp_at_zero Go.wp_at_succ
theorem From.nil (base:Nat):From base (.slice none 0 0):=by intro a n c e;cases e
def otC (seed:Bs) (i:Int):Int:=if seed.length≠32 then 5 else if i<0\/2147483647<i then 4 else 0
def otBegin (seed:Bs) (index chain:Nat):Bs:=short (seed++putB 4 index++[UInt8.ofNat chain])
def otEnds (seed:Bs) (index:Nat):Nat->Bs
 | 0=>[]
 | n+1=>otEnds seed index n++chainH 15 (otBegin seed index n)
def otPublic (seed:Bs) (index:Nat):Bs:=short (otEnds seed index 35)
theorem chainH_len (n:Nat) (b:Bs) (h:b.length=16):(chainH n b).length=16:=by
 cases n with
 | zero=>exact h
 | succ n=>rw[chainH,short_len]
theorem otEnds_len (seed:Bs) (index n:Nat):(otEnds seed index n).length=16 * n:=by
 induction n with
 | zero=>rfl
 | succ n ih=>rw[otEnds,xla,ih,chainH_len 15 (otBegin seed index n) (short_len _)];omega
theorem rotvalid_any (B:Nat) (u:Value) (seed:Bs) (i:Int) (w:World) (hu:SeesB w B u seed) :
 Calls prog 242 #[u,.int .i64 i] w fun e w'=>e=.returned (.int .i64 (otC seed i))/\w'=w:=by
 obtain⟨A,c,rfl,hc1,hc2⟩:=hu.mk_;clear hu
 by_cases hl:seed.length=32
 ·rw[hl]
  by_cases h0:i<0
  ·go_enter func242,ntmps242
   go_wp2
   go_ret
   exact⟨ret_int (by simp[otC,hl,h0]),rfl⟩
  by_cases h1:2147483647<i
  ·go_enter func242,ntmps242
   go_wp2
   go_ret
   exact⟨ret_int (by simp[otC,hl,h1]),rfl⟩
  go_enter func242,ntmps242
  go_wp2
  go_ret
  exact⟨ret_int (by simp[otC,hl];omega),rfl⟩
 have hl2:¬((seed.length:Int)=32):=by omega
 go_enter func242,ntmps242
 go_wp2
 go_ret
 exact⟨ret_int (by simp[otC,hl]),rfl⟩
theorem put4_any (n:Nat) (h:n<18446744073709551616) (w:World):Calls prog 74 #[.int .u64 (n:Int),.int .i64 4] w (Gives (putB 4 n) w):=put_any n 4 (by omega) h w
def SecretPost (seed:Bs) (i k:Nat) (w:World) (e:Ending) (w':World):Prop:=
 ∃v,e=.returned (.tuple #[v,.int .i64 0])/\SeesB w' w'.heap.size v (otBegin seed i k)/\Below w.heap.size w w'/\From w.heap.size v
theorem rput4_any (n:Nat) (h:n<18446744073709551616) (w:World):Calls prog 121 #[.int .u64 (n:Int),.int .i64 4] w (Gives (putB 4 n) w):=rput_any n 4 (by omega) h w
theorem rsecret_any (B:Nat) (u:Value) (seed:Bs) (i k:Nat) (w:World) (hu:SeesB w B u seed) (hB:B<=w.heap.size) (hl:seed.length=32) (hi:i<=2147483647) (hk:k<35) :
 Calls prog 244 #[u,.int .i64 (i:Int),.int .i64 (k:Int)] w (SecretPost seed i k w):=by
 obtain⟨A,c,rfl,hc1,hc2⟩:=hu.mk_;rw[hl] at hc1 hu ⊢;have m0:IntKind.u64.wrap (i:Int)=(i:Int):=by rw[IntKind.wrap_u64];omega
 have m1:IntKind.u8.wrap (k:Int)=(k:Int):=by rw[IntKind.wrap_u8];omega
 have hx:((UInt8.ofNat k).toNat:Int)=(k:Int):=by simp;omega
 have hv0:=rotvalid_any B _ seed (i:Int) w hu;rw[show otC seed (i:Int)=0 by simp[otC,hl];omega] at hv0;replace hv0:=lhd hv0;have hp:=lhd (rput4_any i (by omega) w);have k0:¬((k:Int)<0):=by omega
 have k1:¬((35:Int)<=(k:Int)):=by omega
 replace hu:=lhd hu;replace hx:=lhd hx
 go_enter func244,ntmps244
 go_wp2_with fail
 refine hv0.out.mono ?_;rintro e w0 ⟨rfl,rfl⟩;dsimp only
 go_wp2_with fail
 refine hp.out.mono ?_;rintro e w1 ⟨v1,rfl,h1,hb1⟩;obtain⟨A1,c1,rfl,-,-⟩:=h1.sees.mk_;dsimp only
 go_wp2_with fail
 have hb2:=balloc w1 (.cells #[.int .u8 (k:Int)] 5);have h2:=one_byte w1 (UInt8.ofNat k) k hx.out;have hw2:=bgo hb1 hb2;have hu2:=hu.out.below (hw2.mono hB);have h12:=h1.below hb2;have hsz1:(w1.alloc (.cells #[.int .u8 (k:Int)] 5)).heap.size=w1.heap.size+1:=xsa _ _;rw[<-hsz1];generalize w1.alloc (.cells #[.int .u8 (k:Int)] 5)=w2 at *;generalize w1.heap.size=g1 at *;have hl3:=seesL_lit w2 25 (show SeesAll w2 w2.heap.size [.slice A 32 c,.slice A1 (putB 4 i).length c1,.slice (some ⟨g1,0,none⟩) 1 1] [seed,putB 4 i,[UInt8.ofNat k]] from⟨hu2.more (Nat.le_trans hB hw2.size),h12.sees,h2.sees,trivial⟩) (by simp[maxLen]);have hp4:=putB_len 4 i;have hfl:[seed,putB 4 i,[UInt8.ofNat k]].flatten=seed++putB 4 i++[UInt8.ofNat k]:=by simp
 refine (rjoin_any _ _ _ _ hl3 nlr (by rw[hfl];simp[hp4];omega)).mono ?_;rintro e w3 ⟨v3,rfl,h3,hb3⟩;rw[hfl] at h3;have hw3:=bgo (bgo hw2 (balloc w2 _)) hb3;dsimp only
 go_wp2_with fail
 refine (rshort_any _ _ _ _ h3.sees nlr (by simp[hp4];omega)).mono ?_;rintro e w4 ⟨v4,rfl,h4,hb4,hf4⟩;dsimp only
 go_wp2_with fail
 go_returns
 exact⟨v4,rfl,h4,bgo hw3 hb4,hf4.mono hw3.size⟩
attribute [local go_sem ↓] Go.wp_at_zero Go.wp_at_succ
theorem make_560 (W:World):(Instr.makeSlice 25 (.int .i64 0) (.int .i64 560)).run prog W=.ok (.slice (some ⟨W.heap.size,0,none⟩) 0 560) (W.alloc (.cells (madeCells #[.int .u8 0] 560) 5)):=by
 obtain⟨i,hi,hz,hs,hb⟩:=info_parts byte_info;have h:=run_make (P:=prog) W 25 5 i (.int .u8 0) underlying25 hi hz .i64 .i64 0 560 (by omega) (by omega) (by rw[hb];omega) (by omega);rw[h,hs]
 rfl
def pubL (seed:Bs) (i:Int):Bs:=if otC seed i=0 then otPublic seed i.toNat else []
def PubPost (seed:Bs) (i:Int) (w:World) (e:Ending) (w':World):Prop:=
 ∃v,e=.returned (.tuple #[v,.int .i64 (otC seed i)])/\SeesB w' w'.heap.size v (pubL seed i)/\Below w.heap.size w w'/\From w.heap.size v
theorem otC_ok {seed:Bs} {i:Int} (h:otC seed i=0):seed.length=32/\0<=i/\i<=2147483647:=by
 unfold otC at h
 by_cases h1:seed.length=32
 ·rw[if_neg (by simpa using h1)] at h
  split at h
  ·omega
  omega
 rw[if_pos h1] at h;omega
theorem rotpublic_any (B:Nat) (u:Value) (seed:Bs) (i:Int) (w:World) (hu:SeesB w B u seed) (hB:B<=w.heap.size) :
 Calls prog 202 #[u,.int .i64 i] w (PubPost seed i w):=by
 obtain⟨A,c,rfl,hc1,hc2⟩:=hu.mk_;have hv:=rotvalid_any B _ seed i w hu
 by_cases h0:otC seed i=0
 ·have hpl:Hid (pubL seed i=otPublic seed i.toNat):=by show _=_;rw[pubL,if_pos h0]
  obtain⟨hl,i0,i1⟩:=otC_ok h0;have hoc:=lhd h0;rw[h0] at hv;obtain⟨n,rfl⟩:=Int.eq_ofNat_of_zero_le i0;rw[xnc] at hpl;rw[hl] at hc1 hu hv ⊢;replace hu:=lhd hu;replace hv:=lhd hv;have hl':=lhd hl;clear h0 i0 hl
  go_enter func202,ntmps202
  go_wp2_with fail
  refine hv.out.mono ?_;rintro e w0 ⟨rfl,rfl⟩;dsimp only
  go_wp2_with fail
  refine wp_fresh (fun W=>OwnB W w0.heap.size (.slice (some ⟨w0.heap.size,0,none⟩) 0 0) []/\Below w0.heap.size w0 W) ⟨own_made w0 [] (Nat.zero_le _) _ nlr,(Below.refl _ _).alloc nlr _⟩ ?_;rintro W1 ⟨ho,hb⟩;replace ho:=lhd ho;replace hb:=lhd hb;clear hv
  go_loopw [7,8] (fun r t wr=>∃k:Nat,k<=35/\t=.int .i64 k/\Hid (OwnB wr w0.heap.size r (otEnds seed n k))/\Hid (Below w0.heap.size w0 wr)) (fun _ t _=>35 - (intOf t).toNat)
  case atStart=>exact⟨0,by omega,rfl,ho,hb⟩
  case round=>
   clear ho hb;obtain⟨k,hk,rfl,ho,hb⟩:=hrel
   by_cases hlt:k<35
   ·have i0:(k:Int)<35:=by omega
    have hst:Hid (otEnds seed n (k+1)=otEnds seed n k++chainH 15 (otBegin seed n k)):=rfl;have hlen:=otEnds_len seed n k;have hlc:=chainH_len 15 (otBegin seed n k) (short_len _);have hlb:(otBegin seed n k).length=16:=short_len _;have hbg:=rsecret_any B _ seed n k wr (hu.out.below (hb.out.mono hB)) (Nat.le_trans hB hb.out.size) hl'.out (by omega) hlt;unfold SecretPost at hbg;replace hbg:=lhd hbg;generalize otEnds seed n k=acc at *;generalize otBegin seed n k=bg at *;replace hlen:=lhd hlen;replace hlc:=lhd hlc;replace hlb:=lhd hlb;obtain⟨Ar,cr,rfl,-,-⟩:=ho.out.sees.mk_
    go_wp2_with fail
    refine hbg.out.mono ?_;rintro e w2 ⟨v2,rfl,h2,hb2,hf2⟩;have hch:=rchain_any _ _ _ 15 w2 h2 nlr (by rw[hlb.out];omega);rw[show chainN 15=15 by decide] at hch;have ho2:=ho.out.below hb2;have hw2:=lhd (bgo hb.out hb2);replace hch:=lhd hch;dsimp only
    go_wp2_with fail
    refine hch.out.mono ?_;rintro e w3 ⟨v3,rfl,h3,hb3,hf3⟩;have ho3:=lhd (ho2.below hb3);have hw3:=lhd (bgo hw2.out hb3);have hl3:=lhd (show acc.length+(chainH 15 bg).length<=140737488355328 by rw[hlen.out,hlc.out];omega);replace h3:=lhd h3;clear ho2 hb2 hb3 hbg hch h2 hw2 hb ho;dsimp only
    go_wp2_with (at_builtin;refine wpList_app (by rfl) _ _ rfl w0.heap.size _ acc rfl ho3.out _ _ (chainH 15 bg) rfl h3.out hl3.out hw3.out.size ?_)
    intro v' w' hW2 hb2;have hW2:=lhd hW2;have hb2:=lhd hb2
    go_wp2_with fail
    go_roundw
    case rel=>exact⟨k+1,by omega,by go_num,by rw[hst.out];exact hW2.out,hw3.out.trans hb2.out⟩
    case measure=>simp[intOf];omega
   have hk35:k=35:=by omega
   rw[hk35] at ho;have hsh:=rshort_any _ _ _ _ ho.out.sees nlr (by rw[otEnds_len];omega);replace hsh:=lhd hsh;replace hk35:=lhd hk35
   go_wp2_with fail
   refine hsh.out.mono ?_;rintro e w2 ⟨v2,rfl,h2,hb2,hf2⟩;dsimp only
   go_wp2_with fail
   go_returns
   exact⟨v2,by rw[hoc.out];rfl,by rw[hpl.out];exact h2,bgo hb.out hb2,hf2.mono hb.out.size⟩
 have hpl:Hid (pubL seed i=[]):=by show _=_;rw[pubL,if_neg h0]
 have hoc:=lhd (Eq.refl (otC seed i));generalize hz:otC seed i=z at hv h0;replace hv:=lhd hv;replace hz:=lhd hz;clear hu
 go_enter func202,ntmps202
 go_wp2_with fail
 refine hv.out.mono ?_;rintro e w0 ⟨rfl,rfl⟩;dsimp only
 go_wp2_with fail
 go_returns
 exact⟨.slice none 0 0,by rw[hz.out];rfl,by rw[hpl.out];exact SeesB.nil _ _,Below.refl _ _,From.nil _⟩
attribute [local go_sem ↓] Go.wp_at_zero Go.wp_at_succ
def leafH (l:Bs):Bs:=sha (0 :: l)
def nodeH (a b:Bs):Bs:=sha (1 :: (a++b))
theorem leaf_any (B:Nat) (u:Value) (l:Bs) (w:World) (hu:SeesB w B u l) (hB:B<=w.heap.size) (hl:l.length<=1073741824) :
 Calls prog 213 #[u] w (Gives (leafH l) w):=by
 obtain⟨A,c,rfl,hc1,hc2⟩:=hu.mk_;replace hu:=lhd hu
 go_enter func213,ntmps213
 go_wp2_with fail
 have hb2:=balloc w (.cells #[.int .u8 0] 5);have h2:=one_byte w 0 0 rfl;have hu2:=hu.out.below (hb2.mono hB);have hsz1:(w.alloc (.cells #[.int .u8 0] 5)).heap.size=w.heap.size+1:=xsa _ _;rw[<-hsz1];have hall:=hb2;generalize w.alloc (.cells #[.int .u8 0] 5)=w2 at *;generalize hg1:w.heap.size=g1 at hu2 h2 hall ⊢;have hl3:=seesL_lit w2 25 (show SeesAll w2 w2.heap.size [.slice (some ⟨g1,0,none⟩) 1 1,.slice A l.length c] [[0],l] from⟨h2.sees,hu2.more (by have:=hb2.size;omega),trivial⟩) (by simp[maxLen]);have hfl:[[0],l].flatten=(0:UInt8) :: l:=by simp
 refine (join_any _ _ _ _ hl3 nlr (by rw[hfl];simp;omega)).mono ?_;rintro e w3 ⟨v3,rfl,h3,hb3⟩;rw[hfl] at h3;have hw3:=bgo (bgo hb2 (balloc w2 _)) hb3;dsimp only
 go_wp2_with fail
 refine (sum_any _ _ _ _ h3.sees nlr (by simp;omega)).mono ?_;rintro e w4 ⟨v4,rfl,h4,hb4⟩;dsimp only
 go_wp2_with fail
 go_ret
 exact⟨v4,rfl,h4.mono (hw3.size),bgo hw3 hb4⟩
theorem node_any (B:Nat) (u u2:Value) (l l2:Bs) (w:World) (hu:SeesB w B u l) (huu:SeesB w B u2 l2) (hB:B<=w.heap.size) (hl:l.length<=1073741824) (hll:l2.length<=1073741824) :
 Calls prog 231 #[u,u2] w (Gives (nodeH l l2) w):=by
 obtain⟨A,c,rfl,hc1,hc2⟩:=hu.mk_;obtain⟨AA,cc,rfl,hc3,hc4⟩:=huu.mk_;replace hu:=lhd hu;replace huu:=lhd huu
 go_enter func231,ntmps231
 go_wp2_with fail
 have hb2:=balloc w (.cells #[.int .u8 1] 5);have h2:=one_byte w 1 1 rfl;have hu2:=hu.out.below (hb2.mono hB);have hu3:=huu.out.below (hb2.mono hB);have hsz1:(w.alloc (.cells #[.int .u8 1] 5)).heap.size=w.heap.size+1:=xsa _ _;rw[<-hsz1];have hall:=hb2;generalize w.alloc (.cells #[.int .u8 1] 5)=w2 at *;generalize hg1:w.heap.size=g1 at hu2 hu3 h2 hall ⊢;have hl3:=seesL_lit w2 25 (show SeesAll w2 w2.heap.size [.slice (some ⟨g1,0,none⟩) 1 1,.slice A l.length c,.slice AA l2.length cc] [[1],l,l2] from⟨h2.sees,hu2.more (by have:=hb2.size;omega),hu3.more (by have:=hb2.size;omega),trivial⟩) (by simp[maxLen]);have hfl:[[1],l,l2].flatten=(1:UInt8) :: (l++l2):=by simp
 refine (join_any _ _ _ _ hl3 nlr (by rw[hfl];simp;omega)).mono ?_;rintro e w3 ⟨v3,rfl,h3,hb3⟩;rw[hfl] at h3;have hw3:=bgo (bgo hb2 (balloc w2 _)) hb3;dsimp only
 go_wp2_with fail
 refine (sum_any _ _ _ _ h3.sees nlr (by simp;omega)).mono ?_;rintro e w4 ⟨v4,rfl,h4,hb4⟩;dsimp only
 go_wp2_with fail
 go_ret
 exact⟨v4,rfl,h4.mono (hw3.size),bgo hw3 hb4⟩
theorem rleaf_any (B:Nat) (u:Value) (l:Bs) (w:World) (hu:SeesB w B u l) (hB:B<=w.heap.size) (hl:l.length<=1073741824) :
 Calls prog 232 #[u] w (Gives (leafH l) w):=by
 obtain⟨A,c,rfl,hc1,hc2⟩:=hu.mk_;replace hu:=lhd hu
 go_enter func232,ntmps232
 go_wp2_with fail
 have hb2:=balloc w (.cells #[.int .u8 0] 5);have h2:=one_byte w 0 0 rfl;have hu2:=hu.out.below (hb2.mono hB);have hsz1:(w.alloc (.cells #[.int .u8 0] 5)).heap.size=w.heap.size+1:=xsa _ _;rw[<-hsz1];have hall:=hb2;generalize w.alloc (.cells #[.int .u8 0] 5)=w2 at *;generalize hg1:w.heap.size=g1 at hu2 h2 hall ⊢;have hl3:=seesL_lit w2 25 (show SeesAll w2 w2.heap.size [.slice (some ⟨g1,0,none⟩) 1 1,.slice A l.length c] [[0],l] from⟨h2.sees,hu2.more (by have:=hb2.size;omega),trivial⟩) (by simp[maxLen]);have hfl:[[0],l].flatten=(0:UInt8) :: l:=by simp
 refine (rjoin_any _ _ _ _ hl3 nlr (by rw[hfl];simp;omega)).mono ?_;rintro e w3 ⟨v3,rfl,h3,hb3⟩;rw[hfl] at h3;have hw3:=bgo (bgo hb2 (balloc w2 _)) hb3;dsimp only
 go_wp2_with fail
 refine (rsum_any _ _ _ _ h3.sees nlr (by simp;omega)).mono ?_;rintro e w4 ⟨v4,rfl,h4,hb4⟩;dsimp only
 go_wp2_with fail
 go_ret
 exact⟨v4,rfl,h4.mono (hw3.size),bgo hw3 hb4⟩
theorem rnode_any (B:Nat) (u u2:Value) (l l2:Bs) (w:World) (hu:SeesB w B u l) (huu:SeesB w B u2 l2) (hB:B<=w.heap.size) (hl:l.length<=1073741824) (hll:l2.length<=1073741824) :
 Calls prog 174 #[u,u2] w (Gives (nodeH l l2) w):=by
 obtain⟨A,c,rfl,hc1,hc2⟩:=hu.mk_;obtain⟨AA,cc,rfl,hc3,hc4⟩:=huu.mk_;replace hu:=lhd hu;replace huu:=lhd huu
 go_enter func174,ntmps174
 go_wp2_with fail
 have hb2:=balloc w (.cells #[.int .u8 1] 5);have h2:=one_byte w 1 1 rfl;have hu2:=hu.out.below (hb2.mono hB);have hu3:=huu.out.below (hb2.mono hB);have hsz1:(w.alloc (.cells #[.int .u8 1] 5)).heap.size=w.heap.size+1:=xsa _ _;rw[<-hsz1];have hall:=hb2;generalize w.alloc (.cells #[.int .u8 1] 5)=w2 at *;generalize hg1:w.heap.size=g1 at hu2 hu3 h2 hall ⊢;have hl3:=seesL_lit w2 25 (show SeesAll w2 w2.heap.size [.slice (some ⟨g1,0,none⟩) 1 1,.slice A l.length c,.slice AA l2.length cc] [[1],l,l2] from⟨h2.sees,hu2.more (by have:=hb2.size;omega),hu3.more (by have:=hb2.size;omega),trivial⟩) (by simp[maxLen]);have hfl:[[1],l,l2].flatten=(1:UInt8) :: (l++l2):=by simp
 refine (rjoin_any _ _ _ _ hl3 nlr (by rw[hfl];simp;omega)).mono ?_;rintro e w3 ⟨v3,rfl,h3,hb3⟩;rw[hfl] at h3;have hw3:=bgo (bgo hb2 (balloc w2 _)) hb3;dsimp only
 go_wp2_with fail
 refine (rsum_any _ _ _ _ h3.sees nlr (by simp;omega)).mono ?_;rintro e w4 ⟨v4,rfl,h4,hb4⟩;dsimp only
 go_wp2_with fail
 go_ret
 exact⟨v4,rfl,h4.mono (hw3.size),bgo hw3 hb4⟩
attribute [local go_sem ↓] Go.wp_at_zero Go.wp_at_succ
def splitN (n:Nat):Nat:=2 ^ (n - 1).log2
theorem splitN_of (n j:Nat) (h2:2<=n) (h0:2 ^ j<n) (h1:n<=2 * 2 ^ j):splitN n=2 ^ j:=by
 unfold splitN;have h:=(Nat.log2_eq_iff (n:=n - 1) (k:=j) (by omega)).2 ⟨by omega,by rw[Nat.pow_succ];omega⟩;rw[h]
theorem splitN_lt (n:Nat) (h2:2<=n):splitN n<n/\0<splitN n/\n<=2 * splitN n:=by
 unfold splitN;have h:=(Nat.log2_eq_iff (n:=n - 1) (k:=(n - 1).log2) (by omega)).1 rfl;rw[Nat.pow_succ] at h;exact⟨by omega,Nat.pow_pos (by omega),by omega⟩
theorem split_any (n:Nat) (w:World) (h2:2<=n) (hn:n<=1099511627776) :
 Calls prog 173 #[.int .i64 (n:Int)] w fun e w'=>e=.returned (.int .i64 (splitN n:Int))/\w'=w:=by
 go_enter func173,ntmps173
 go_wp2_with fail
 go_loopw [3] (fun t wr=>∃j k:Nat,Hid (k=2 ^ j)/\k<n/\t=.int .i64 (k:Int)/\wr=w) (fun t _=>n - (intOf t).toNat)
 case atStart=>exact⟨0,1,rfl,by omega,rfl,rfl⟩
 case round=>
  obtain⟨j,k,hk,hlt,rfl,rfl⟩:=hrel;have hk0:0<k:=by rw[hk.out];exact Nat.pow_pos (by omega)
  by_cases h:2 * k<n
  ·have i0:2 * (k:Int)<(n:Int):=by omega
   go_wp2_with fail
   go_roundw
   case rel=>exact⟨j+1,2 * k,by have:=hk.out;show _=_;rw[Nat.pow_succ];omega,h,by go_num,trivial⟩
   case measure=>simp[intOf];omega
  have i0:¬(2 * (k:Int)<(n:Int)):=by omega
  have hs:=splitN_of n j h2 (by rw[<-hk.out];exact hlt) (by rw[<-hk.out];omega);rw[<-hk.out] at hs;replace hs:=lhd hs
  go_wp2_with fail
  go_ret
  exact⟨ret_int (by rw[hs.out]),rfl⟩
theorem len64_any (x:Int) (w:World) (h0:0<=x) (h1:x<65536) :
 Calls prog 303 #[.int .u64 x] w fun e w'=>e=.returned (.int .i64 (Lib.bitLen x.toNat))/\w'=w:=by
 have t9:prog.underlying 9=some .string:=underlying9
 by_cases hx:x<256
 ·have hix:∀W,(Instr.index 9 (.string Lib.len8tab) (.int .u8 x)).run prog W=.ok (.int .u8 (Lib.len8 x)) W:=fun W=>Lib.run_index_len8tab W _ _ _ t9 h0 (by omega)
  go_enter func303,ntmps303
  go_wp2
  go_ret
  refine⟨congrArg Ending.returned (congrArg (Value.int IntKind.i64) ?_),rfl⟩;have l:=Lib.bitLen_le8' x h0 (by omega);rw[Lib.len8_of x h0 (by omega)];unfold wrap64;omega
 have hix:∀W,(Instr.index 9 (.string Lib.len8tab) (.int .u8 (x / 256))).run prog W=.ok (.int .u8 (Lib.len8 (x / 256))) W:=fun W=>Lib.run_index_len8tab W _ _ _ t9 (by omega) (by omega)
 go_enter func303,ntmps303
 go_wp2
 go_ret
 refine⟨congrArg Ending.returned (congrArg (Value.int IntKind.i64) ?_),rfl⟩;have l:=Lib.bitLen_le8' (x / 256) (by omega) (by omega);have s:=Lib.bitLen_shift8 x.toNat (by omega) (by omega);rw[Lib.len8_of (x / 256) (by omega) (by omega),s,show x.toNat / 256=(x / 256).toNat by omega];unfold wrap64;omega
theorem len_any (x:Int) (w:World) (h0:0<=x) (h1:x<65536) :
 Calls prog 287 #[.int .u64 x] w fun e w'=>e=.returned (.int .i64 (Lib.bitLen x.toNat))/\w'=w:=by
 go_enter func287,ntmps287
 go_wp2_with (go_at_call 303;refine (len64_any x _ h0 h1).mono ?_;rintro e w' ⟨rfl,rfl⟩)
 go_ret
 exact⟨rfl,rfl⟩
theorem bitLen_log (x:Nat) (h:1<=x) (hx:x<2 ^ 64):Lib.bitLen x=x.log2+1:=by
 induction x using Nat.strongRecOn with
 | ind x ih=>
   rw[Lib.bitLen_half x (by omega) hx,Nat.log2_def]
   by_cases h2:2<=x
   ·rw[if_pos h2,ih (x / 2) (by omega) (by omega) (by omega)];omega
   have:x=1:=by omega
   subst this
   decide
theorem half_any (n:Nat) (w:World) (h2:2<=n) (hn:n<=1024) :
 Calls prog 260 #[.int .i64 (n:Int)] w fun e w'=>e=.returned (.int .i64 (splitN n:Int))/\w'=w:=by
 have e0:IntKind.i64.wrap ((n:Int) - 1)=((n - 1:Nat):Int):=by rw[xwi];omega
 have e1:IntKind.u64.wrap (((n - 1:Nat):Int))=((n - 1:Nat):Int):=by rw[IntKind.wrap_u64];omega
 have hl:=lhd (len_any ((n - 1:Nat):Int) w (by omega) (by omega));have hlog:=lhd (bitLen_log (n - 1) (by omega) (by omega))
 go_enter func260,ntmps260
 go_wp2_with fail
 refine hl.out.mono ?_;rintro e w' ⟨rfl,rfl⟩;rw[xnc,hlog.out];have hk:(n - 1).log2<=9:=by
  have:=(Nat.log2_eq_iff (n:=n - 1) (k:=(n - 1).log2) (by omega)).1 rfl
  rcases Nat.lt_or_ge 9 (n - 1).log2 with h|h
  ·have h3:2 ^ 10<=2 ^ (n - 1).log2:=Nat.pow_le_pow_right (by omega) h
   omega
  exact h
 have hs:Hid (splitN n=2 ^ (n - 1).log2):=rfl;generalize (n - 1).log2=k at hk hs;have k0:IntKind.i64.wrap (((k+1:Nat):Int) - 1)=(k:Int):=by rw[xwi];omega
 dsimp only;rcases (by omega:k=0\/k=1\/k=2\/k=3\/k=4\/k=5\/k=6\/k=7\/k=8\/k=9) with rfl|rfl|rfl|rfl|rfl|rfl|rfl|rfl|rfl|rfl
 all_goals
  go_wp2_with fail
  go_ret
  exact⟨ret_int (by rw[hs.out];decide),rfl⟩
attribute [local go_sem ↓] Go.wp_at_zero Go.wp_at_succ
def rootG (hs:List Bs):Bs:=
 if h:2<=hs.length then nodeH (rootG (hs.take (splitN hs.length))) (rootG (hs.drop (splitN hs.length)))
 else match hs with
  | []=>sha []
  | x :: _=>x
termination_by hs.length
decreasing_by
 ·have:=splitN_lt hs.length h;rw[xlt];omega
 have:=splitN_lt hs.length h;rw[xld];omega
theorem rootG_two (hs:List Bs) (h:2<=hs.length):rootG hs=nodeH (rootG (hs.take (splitN hs.length))) (rootG (hs.drop (splitN hs.length))):=by
 rw[rootG,dif_pos h]
theorem rootG_nil:rootG []=sha []:=by rw[rootG];rfl
theorem rootG_one (x:Bs):rootG [x]=x:=by rw[rootG];rfl
theorem SeesL.cut {w:World} {B:Nat} {A:Option Addr} {n c a b:Nat} {ls:List Bs} (h:SeesL w B (.slice A n c) ls) (hab:a<=b) (hb:b<=ls.length) :
 SeesL w B (.slice (cutA A c a 1) (b - a) (c - a)) ((ls.drop a).take (b - a)):=by
 obtain⟨vs,hs,hv⟩:=h;have hn:n=ls.length:=by
  obtain⟨_,A',c',e,_⟩:=hs;injection e
 subst hn;have h1:=Sees.cut (l:=a) (h':=b) hs hab hb;rw[Nat.mul_one,Nat.mul_one] at h1;have hl:((ls.drop a).take (b - a)).length=b - a:=by rw[xlt,xld];omega
 refine⟨(vs.drop a).take (b - a),by rw[hl];exact h1,fun k hk=>?_⟩;rw[hl] at hk;obtain⟨v,h2,h3⟩:=hv (a+k) (by omega);refine⟨v,by rw[List.getElem?_take,if_pos hk,List.getElem?_drop];exact h2,?_⟩;rw[xgd,List.getElem?_take,if_pos hk,List.getElem?_drop,<-xgd];exact h3
attribute [local go_sem ↓] Go.wp_at_zero Go.wp_at_succ
theorem cutA_zero (b o c s:Nat):cutA (some ⟨b,o,none⟩) c 0 s=some ⟨b,o,none⟩:=by
 unfold cutA
 split
 ·rfl
 rw[Option.map_some,Nat.zero_mul,add_zero',Nat.add_zero]
theorem nodeH_len (a b:Bs):(nodeH a b).length=32:=sha_len _
theorem rootG_len (hs:List Bs) (h:∀x∈hs,x.length=32):(rootG hs).length=32:=by
 by_cases h2:2<=hs.length
 ·rw[rootG_two hs h2];exact nodeH_len _ _
 ·match hs,h with
  | [],_=>rw[rootG_nil];exact sha_len _
  | [x],h=>rw[rootG_one];exact h x (by simp)
  | _ :: _ :: _,_=>simp at h2
theorem leafs_len (ls:List Bs):∀x∈ls.map leafH,x.length=32:=by
 intro x hx;obtain⟨y,_,rfl⟩:=List.mem_map.1 hx;exact sha_len _
theorem rroot_any (m:Nat):∀(ls:List Bs) (B:Nat) (u:Value) (w:World),ls.length<=m->SeesL w B u ls->B<=w.heap.size->ls.length<=1024->(∀l∈ls,l.length<=1048576) ->
 Calls prog 201 #[u] w (Gives (rootG (ls.map leafH)) w):=by
 induction m with
 | zero=>
   intro ls B u w hm hu hB hn hl;obtain rfl:ls=[]:=List.eq_nil_of_length_eq_zero (by omega);obtain⟨A,c,rfl,hc1,hc2⟩:=hu.mk_;have hs:=lhd (rsum_any B (.slice none 0 0) [] w (SeesB.nil _ _) hB (by simp))
   go_enter func201,ntmps201
   go_wp2_with fail
   refine hs.out.mono ?_;rintro e w1 ⟨v,rfl,h1,hb1⟩;dsimp only
   go_wp2_with fail
   go_ret
   exact⟨v,rfl,by rw[List.map_nil,rootG_nil];exact h1,hb1⟩
 | succ m ih=>
   intro ls B u w hm hu hB hn hl
   by_cases h0:ls.length<=m
   ·exact ih ls B u w h0 hu hB hn hl
   have hlen:ls.length=m+1:=by omega
   by_cases hm0:m=0
   ·subst hm0
    obtain⟨A,c,rfl,hc1,hc2⟩:=hu.mk_
    match ls,hlen,hu,hl with
    | [x],_,hu,hl=>
      obtain⟨b,o,rfl,hb,hcell⟩:=hu.at_ (by simp);obtain⟨A',c',x0,g1,g2,hsee⟩:=hcell 0 (by simp);rw[Nat.add_zero] at x0;have hs:=lhd (rleaf_any B _ _ w hsee hB (by have:=hl x (by simp);simp;omega));clear hcell hsee hu ih;simp only[List.getD_cons_zero,xlc,List.length_nil] at *
      go_enter func201,ntmps201
      go_wp2_with fail
      refine hs.out.mono ?_;rintro e w1 ⟨v,rfl,h1,hb1⟩;dsimp only
      go_wp2_with fail
      go_ret
      exact⟨v,rfl,by rw[xmp,List.map_nil,rootG_one];exact h1,hb1⟩
   obtain⟨A,c,rfl,hc1,hc2⟩:=hu.mk_;have h2:2<=ls.length:=by omega
   obtain⟨k1,k2,k3⟩:=splitN_lt ls.length h2;have hsp:=lhd (split_any ls.length w h2 (by omega));have hroot:Hid (rootG (ls.map leafH)=nodeH (rootG ((ls.take (splitN ls.length)).map leafH)) (rootG ((ls.drop (splitN ls.length)).map leafH))):=by
    show _=_;rw[rootG_two _ (by rw[xlm];exact h2),xlm,List.map_take,List.map_drop]
   generalize splitN ls.length=k at *;obtain⟨b,o,rfl,hbB,-⟩:=hu.at_ (by omega);have c1:=SeesL.cut (a:=0) (b:=k) hu (by omega) (by omega);have c2:=SeesL.cut (a:=k) (b:=ls.length) hu (by omega) nlr;rw[cutA_zero,Nat.sub_zero,Nat.sub_zero,List.drop_zero] at c1;rw[xtl (by rw[xld];omega)] at c2;have r2:=run_cut_from (P:=prog) 30 underlying30 1 slice_size (some ⟨b,o,none⟩) ls.length c .i64 (k:Int) (by omega) (by omega);rw[xnc] at r2;generalize cutA (some ⟨b,o,none⟩) c k 1=A2 at r2 c2;have i1:=fun W h=>ih (ls.take k) B _ W (by rw[xlt];omega) (SeesL.below c1 (w':=W) h)
   have l1:∀x∈ls.take k,x.length<=1048576:=fun x hx=>hl x (List.mem_of_mem_take hx)
   have l2:∀x∈ls.drop k,x.length<=1048576:=fun x hx=>hl x (List.mem_of_mem_drop hx)
   have n1:(ls.take k).length<=m:=by rw[xlt];omega
   have n2:(ls.drop k).length<=m:=by rw[xld];omega
   have g1:=lhd (ih (ls.take k) B _ w.drew n1 (SeesL.below c1 (Below.refl B w).drew) hB (by omega) l1);have g2:=lhd (fun (W:World) (hbW:Below w.heap.size w W)=>ih (ls.drop k) B _ W n2 (SeesL.below c2 (hbW.mono hB)) (Nat.le_trans hB hbW.size) (by omega) l2);have j0:(0:Int)<=(k:Int):=by omega
   have j1:(k:Int)<=(c:Int):=by omega
   have j2:(k:Int)<=(ls.length:Int):=by omega
   have j3:¬((ls.length:Int)=0):=by omega
   have j4:¬((ls.length:Int)=1):=by omega
   have hlm:Hid (ls.length=m+1):=hlen;clear ih i1 c1 c2 hu hlen
   go_enter func201,ntmps201
   go_wp2_with fail
   refine hsp.out.mono ?_;rintro e w0 ⟨rfl,rfl⟩;dsimp only
   go_wp2_with fail
   go_region_held3 (fun W':World=>True) (trivial)
    (first
     | (go_at_call 174;refine (rnode_any w2.heap.size _ _ _ _ w2 (h1.below hb2).sees h2'.sees nlr (by rw[rootG_len _ (leafs_len _)];omega) (by rw[rootG_len _ (leafs_len _)];omega)).mono ?_;rintro e w3 ⟨v3,rfl,h3,hb3⟩)
     | (go_at_call 201;have _h:=hb1;clear _h;refine (g2.out _ (bgo (bdrew _) hb1)).mono ?_;rintro e w2 ⟨v2,rfl,h2',hb2⟩)
     | (go_at_call 201;refine g1.out.mono ?_;rintro e w1 ⟨v1,rfl,h1,hb1⟩))
   all_goals
    go_wp2_with fail
    go_ret
    exact⟨v3,rfl,by rw[hroot.out];exact h3.mono (bgo (bgo (bdrew _) hb1) hb2).size,bgo (bgo (bgo (bdrew _) hb1) hb2) hb3⟩
attribute [local go_sem ↓] Go.wp_at_zero Go.wp_at_succ
def RootPost (ls:List Bs) (w:World) (e:Ending) (w':World):Prop:=
 ∃v,e=.returned (.tuple #[v,.int .i64 0])/\OwnB w' w.heap.size v (rootG (ls.map leafH))/\Below w.heap.size w w'
theorem rroot_top (ls:List Bs) (B:Nat) (u:Value) (w:World) (hu:SeesL w B u ls) (hB:B<=w.heap.size) (hn:ls.length<=1024) (hl:∀l∈ls,l.length<=1048576) :
 Calls prog 134 #[u] w (RootPost ls w):=by
 have hs:=lhd (rroot_any _ ls B u w nlr hu hB hn hl);obtain⟨A,c,rfl,hc1,hc2⟩:=hu.mk_;have j0:¬((1024:Int)<(ls.length:Int)):=by omega
 clear hu hl
 go_enter func134,ntmps134
 go_wp2_with fail
 refine hs.out.mono ?_;rintro e w1 ⟨v,rfl,h1,hb1⟩;dsimp only
 go_wp2_with fail
 go_returns
 exact⟨v,rfl,h1,hb1⟩
end Go.Proofs.YtjgepckncogdaaaGreat
