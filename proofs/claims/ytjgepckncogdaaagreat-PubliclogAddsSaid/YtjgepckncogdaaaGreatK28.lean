/- Contracts of functions, walks, plain facts. Conditions: those of each theorem. -/
import Derived.Test.YtjgepckncogdaaaGreatK27
set_option linter.unusedVariables false
set_option linter.unusedSimpArgs false
set_option maxRecDepth 100000
set_option maxHeartbeats 16000000
namespace Go.Proofs.YtjgepckncogdaaaGreat
open Go Go.RowKit _root_.Go.Proofs.Tryz
attribute [local go_sem ↓] Go.wp_at_zero Go.wp_at_succ
theorem rsamel_eq (u v:Value) (a:List Bs) (w:World) (hu:SeesL w w.heap.size u a) (hv:SeesL w w.heap.size v a) (hn:a.length<=1048576) :
 Calls prog 95 #[u,v] w (BoolPost true w):=by
 obtain⟨A,c,rfl,-,-⟩:=hu.mk_;obtain⟨A2,c2,rfl,-,-⟩:=hv.mk_;replace hu:=lhd hu;replace hv:=lhd hv
 go_enter func95,ntmps95
 go_wp2_with fail
 go_loopw [5] (fun t wr=>∃k:Nat,k<=a.length/\t=.int .i64 k/\Hid (Below w.heap.size w wr)) (fun t _=>a.length - (intOf t).toNat)
 case atStart=>exact⟨0,by omega,rfl,Below.refl _ _⟩
 case round=>
  obtain⟨k,hk,rfl,hb⟩:=hrel
  by_cases hlt:k<a.length
  ·obtain⟨b,o,rfl,hbB,hds⟩:=(hu.out.below hb.out).at_ (by omega)
   obtain⟨b2,o2,rfl,hbB2,hds2⟩:=(hv.out.below hb.out).at_ (by omega);obtain⟨A3,c3,y1,-,-,s1⟩:=hds k hlt;obtain⟨A4,c4,y2,-,-,s2⟩:=hds2 k hlt;have i0:(k:Int)<(a.length:Int):=by omega
   have hz:=hb.out.size;generalize a.getD k []=da at *;have hs:Hid (∀W,Below wr.heap.size wr W->Calls prog 26 #[.slice A3 da.length c3,.slice A4 da.length c4] W fun e w'=>e=.returned (.bool true)/\w'=W):=fun W hW=>
    rsame_eq _ _ _ _ da W (seesB_of s1 hz hW) (seesB_of s2 hz hW)
   have K:Hid (∀W,Below wr.heap.size wr W->W.cell? ⟨b,o+k,none⟩=some (.slice A3 da.length c3)/\W.cell? ⟨b2,o2+k,none⟩=some (.slice A4 da.length c4)):=fun W hW=>⟨(hW.cell (p:=⟨b,o+k,none⟩) (Nat.lt_of_lt_of_le hbB hz)).trans y1,(hW.cell (p:=⟨b2,o2+k,none⟩) (Nat.lt_of_lt_of_le hbB2 hz)).trans y2⟩
   clear hds hds2 s1 s2;have j0:(0:Int)<=(k:Int):=by omega
   go_wp2_with fail
   go_region_held3 (fun W':World=>W'.cell? ⟨b,o+k,none⟩=some (.slice A3 da.length c3)/\W'.cell? ⟨b2,o2+k,none⟩=some (.slice A4 da.length c4))
    (first | exact K.out _ (by (repeat (first | exact Below.refl _ _ | (refine bgo ?_ (balloc _ _)) | (refine bgo ?_ (bdrew _)) | (refine bgo ?_ (by assumption))))) | (go_keep;done))
    (first
     | (go_at_call 26;(with_reducible refine (hs.out wr.drew (bdrew wr)).mono ?_);rintro e w1 ⟨rfl,hw⟩
        obtain rfl:=hw.symm;have hb1:=lhd (bgo hb.out (bdrew wr)))
     | (go_at_call 26;(with_reducible refine (hs.out wr (Below.refl _ _)).mono ?_);rintro e w1 ⟨rfl,hw⟩
        obtain rfl:=hw.symm;have hb1:=hb))
   all_goals
    go_wp2_with fail
    go_roundw
    case rel=>exact⟨k+1,by omega,by go_num,hb1⟩
    case measure=>simp[intOf];omega
  have i0:¬(k:Int)<(a.length:Int):=by omega
  go_wp2_with fail
  go_returns
  exact⟨rfl,hb.out⟩
def OwnLF (w:World) (base:Nat) (v:Value) (ls:List Bs):Prop:=
 ∃vs:List Value,w.ownsRow base 25 1 v ls.length vs/\∀k,k<ls.length->∃u,vs[k]?=some u/\Elt w v u (ls.getD k [])/\From base u
section
variable {w w':World} {base:Nat} {v:Value} {ls:List Bs}
theorem OwnLF.own (h:OwnLF w base v ls):OwnL w base v ls:=by
 obtain⟨vs,h1,h2⟩:=h;exact⟨vs,h1,fun k hk=>by obtain⟨u,e1,e2,-⟩:=h2 k hk;exact⟨u,e1,e2⟩⟩
theorem OwnLF.nil (w:World) (base:Nat):OwnLF w base (.slice none 0 0) []:=⟨[],World.ownsRow_nil w base _ 1,fun k hk=>absurd hk (by simp)⟩
theorem OwnLF.below (h:OwnLF w base v ls) (hb:Below w.heap.size w w'):OwnLF w' base v ls:=by
 obtain⟨vs,h1,h2⟩:=h;exact⟨vs,own_below h1 hb,fun k hk=>by obtain⟨u,g1,g2,g3⟩:=h2 k hk;exact⟨u,g1,g2.below hb,g3⟩⟩
theorem OwnLF.mono {base':Nat} (h:OwnLF w base v ls) (hb:base'<=base):OwnLF w base' v ls:=by
 obtain⟨vs,h1,h2⟩:=h;refine⟨vs,⟨h1.1,?_⟩,fun k hk=>by obtain⟨u,g1,g2,g3⟩:=h2 k hk;exact⟨u,g1,g2,g3.mono hb⟩⟩;rcases h1.2 with h|⟨g,cap,cur,e1,e2,e3⟩
 ·exact .inl h
 exact .inr ⟨g,cap,cur,e1,by omega,e3⟩
theorem OwnLF.poke {G j:Nat} {T:TypeId} {v':Value} {xs:List Value} (h:OwnLF w base v ls) (hG:G<base) (hbx:Box w G T xs) (hno:NoByte xs):OwnLF (w.setCell ⟨G,j,none⟩ v') base v ls:=by
 have hlt:=h.own.lt;obtain⟨vs,h1,h2⟩:=h;have hne:v.ownBlock≠some G:=fun e=>by have:=(hlt G e).1;omega
 refine⟨vs,h1.kept (setCell_grown w G j v') (.inr hne),fun k hk=>?_⟩;obtain⟨u,e1,e2,e3⟩:=h2 k hk;refine⟨u,e1,⟨SeesB.more (e2.1.stay fun hl k hk p hp=>World.cell?_setCell_other w _ p v' (fun e=>?_)) (by simp[World.setCell]),e2.2⟩,e3⟩;exact e2.1.notin hbx hno hl (by rw[hk,<-hp,<-e])
theorem OwnLF.elt {g n c k:Nat} (h:OwnLF w base (.slice (some ⟨g,0,none⟩) n c) ls) (hk:k<ls.length):∃A' c',w.cell? ⟨g,k,none⟩=some (.slice A' (ls.getD k []).length c')/\Elt w (.slice (some ⟨g,0,none⟩) n c) (.slice A' (ls.getD k []).length c') (ls.getD k [])/\From base (.slice A' (ls.getD k []).length c'):=by
 obtain⟨vs,h1,h2⟩:=h;have hn:n=ls.length:=by
  obtain⟨_,A',c',e,_⟩:=Sees.of_own h1;injection e
 subst hn;obtain⟨x,e1,e2,e3⟩:=h2 k hk;obtain⟨A',c',rfl,q1,q2⟩:=e2.1.mk_;exact⟨A',c',(h1.cellAt k (by omega)).trans e1,e2,e3⟩
end
theorem OwnLF.set7 {W:World} {g base:Nat} {T:TypeId} {u a0 a1 a2 a3 a4 a5 a6:Value} {ls:List Bs} (h:Box W g T [a0,a1,a2,a3,a4,a5,a6]) (hg:g<base) (p0:NoB a0) (p1:NoB a1) (p2:NoB a2) (p3:NoB a3) (p4:NoB a4) (p5:NoB a5) (p6:NoB a6) (x0 x1 x2 x3 x4 x5 x6:Value) (q0:NoB x0) (q1:NoB x1) (q2:NoB x2) (q3:NoB x3) (q4:NoB x4) (q5:NoB x5) (hs:OwnLF W base u ls) :
 OwnLF (((((((W.setCell ⟨g,0,none⟩ x0).setCell ⟨g,1,none⟩ x1).setCell ⟨g,2,none⟩ x2).setCell ⟨g,3,none⟩ x3).setCell ⟨g,4,none⟩ x4).setCell ⟨g,5,none⟩ x5).setCell ⟨g,6,none⟩ x6) base u ls:=by
 have no:∀{a b c d e f k:Value},NoB a->NoB b->NoB c->NoB d->NoB e->NoB f->NoB k->NoByte [a,b,c,d,e,f,k]:=by
  intro a b c d e f k ha hb hc hd he hf hk x hx n hn;simp only[List.mem_cons,List.not_mem_nil,or_false] at hx;rcases hx with rfl|rfl|rfl|rfl|rfl|rfl|rfl
  ·exact ha n hn
  ·exact hb n hn
  ·exact hc n hn
  ·exact hd n hn
  ·exact he n hn
  ·exact hf n hn
  exact hk n hn
 have h1:=h.set 0 x0;have h2:=h1.set 1 x1;have h3:=h2.set 2 x2;have h4:=h3.set 3 x3;have h5:=h4.set 4 x4;have h6:=h5.set 5 x5;simp only[xsz,xss] at h1 h2 h3 h4 h5 h6;exact ((((((hs.poke hg h (no p0 p1 p2 p3 p4 p5 p6)).poke hg h1 (no q0 p1 p2 p3 p4 p5 p6)).poke hg h2 (no q0 q1 p2 p3 p4 p5 p6)).poke hg h3 (no q0 q1 q2 p3 p4 p5 p6)).poke hg h4 (no q0 q1 q2 q3 p4 p5 p6)).poke hg h5 (no q0 q1 q2 q3 q4 p5 p6)).poke hg h6 (no q0 q1 q2 q3 q4 q5 p6)
theorem wpList_appLF {ops:Array Oper} {rest:List Oper} {o:Oper} {a:Act} {w:World} {Q:Exit->Act->World->Prop} (hgd:Region.wanted o (yielded ops a.tmps)=true) (s x:Operand) (T:TypeId) (hT:prog.underlying T=some (.slice 25))
 (ho:o.op=.call { callee:=.builtin .append,args:=#[s,x],argTypes:=#[T,T] })
 (base:Nat) (v:Value) (ls:List Bs) (hs:a.eval s=v) (hown:OwnLF w base v ls) (B:Nat) (u y:Value) (l:Bs) (hx:a.eval x=u) (hr:Sees w B u 1 1 [y]) (hel:Elt w v y l) (hfr:From base y)
 (hlen:ls.length<=549755813888) (hbase:base<=w.heap.size)
 (h:∀v' w',OwnLF w' base v' (ls++[l])->Below base w w'->wpList prog ops Q rest (a.put o.dst v') w'):wpList prog ops Q (o :: rest) a w:=by
 refine BigFrame.wpList_want hgd fun _ hK=>?_
 obtain⟨i,hi,hz,hsz,hby⟩:=info_parts slice_info;have hown':=hown.own;obtain⟨xs,h1,h2⟩:=hown;have h1c:∀z∈[y],z.oneCell'=true:=by
  intro z hz;obtain rfl:z=y:=by simpa using hz
  obtain⟨A,c,rfl,-,-⟩:=hel.1.mk_
  rfl
 refine wp_append_sees s x T ho base 25 i (.slice none 0 0) 1 24 hT hi hz hsz hby rfl (by omega) v ls.length xs hs h1 B u 1 [y] hx hr h1c (by unfold maxLen;omega) (by omega) hbase ?_;intro v' w' g1 g2 g3;refine hK _ _ (h v' w' ⟨xs++[y],by rw[xla];exact g1,fun k hk=>?_⟩ (below_own hown' g2 hbase));rw[xla] at hk;have hl1:xs.length=ls.length:=by rw[h1.1,Nat.mul_one]
 have hst:∀{y:Value} {m:Bs},Elt w v y m->Elt w' v' y m:=fun {y m} hy=>⟨hy.grown g2,fun hm k hk=>by
  rcases g3 with e|e
  ·rw[e];exact hy.2 hm k hk
  rw[e];intro e2;cases e2;exact absurd (hy.1.blk hm _ hk) (by omega)⟩
 by_cases hkl:k<ls.length
 ·obtain⟨z,e1,e2,e3⟩:=h2 k hkl
  refine⟨z,by rw[xal (by omega)];exact e1,?_,e3⟩;rw[xgd,xal hkl,<-xgd];exact hst e2
 have hk0:k=ls.length:=by simp at hk;omega
 subst hk0;refine⟨y,by rw[xar (by omega),hl1];simp,?_,hfr⟩;rw[xgd,xar (by omega)];simp;exact hst hel
def DAnsFP (r:GrantV × List Bs × Int) (w:World) (e:Ending) (w':World):Prop:=
 ∃v1 v2 v3 v4,e=.returned (.tuple #[.agg #[v1,.int .i64 r.1.1.2.1,.int .i64 r.1.1.2.2,v2,.int .i64 r.1.2.2.1,.int .i64 r.1.2.2.2.1,v3],v4,.int .i64 r.2.2])/\SeesB w' w'.heap.size v1 r.1.1.1/\SeesB w' w'.heap.size v2 r.1.2.1/\SeesB w' w'.heap.size v3 r.1.2.2.2.2/\OwnLF w' w.heap.size v4 r.2.1/\Below w.heap.size w w'
theorem dansf_bad {r:GrantV × List Bs × Int} {c:Int} (h:r=(noGrant,[],c)) {w w':World} (hb:Below w.heap.size w w'):DAnsFP r w (.returned (.tuple #[.agg #[.slice none 0 0,.int .i64 0,.int .i64 0,.slice none 0 0,.int .i64 0,.int .i64 0,.slice none 0 0],.slice none 0 0,.int .i64 c])) w':=by
 subst h;exact⟨_,_,_,_,rfl,SeesB.nil _ _,SeesB.nil _ _,SeesB.nil _ _,OwnLF.nil _ _,hb⟩
theorem dansf_ok {r:GrantV × List Bs × Int} {rs P S:Bs} {rh rn f t:Int} {ls:List Bs} (h:r=(((rs,rh,rn),(P,f,t,S)),ls,0)) {w W:World} {base:Nat} {v1 v2 v3 v4:Value} (t1:SeesB W W.heap.size v1 rs) (t2:SeesB W W.heap.size v2 P) (t3:SeesB W W.heap.size v3 S) (t4:OwnLF W base v4 ls) (hbase:w.heap.size<=base) (hb:Below w.heap.size w W) :
 DAnsFP r w (.returned (.tuple #[.agg #[v1,.int .i64 rh,.int .i64 rn,v2,.int .i64 f,.int .i64 t,v3],v4,.int .i64 0])) W:=by
 subst h;exact⟨_,_,_,_,rfl,t1,t2,t3,t4.mono hbase,hb⟩
theorem sees_box1 {W:World} {g:Nat} {v:Value} {l:Bs} (x:Box W g 25 [v]) (s:SeesB W W.heap.size v l):SeesL W W.heap.size (.slice (some ⟨g,0,none⟩) 1 1) [l]:=by
 refine⟨[v],⟨rfl,_,1,rfl,Nat.le_refl _,by unfold maxLen;omega,fun _=>⟨g,0,rfl,x.lt,fun j u hj=>?_⟩⟩,fun k hk=>?_⟩
 ·rw[Nat.zero_add,x.cell]
  exact hj
 have hk0:k=0:=by simp at hk;omega
 subst hk0;exact⟨v,rfl,s⟩
theorem rjone {W:World} {g:Nat} {v:Value} {l:Bs} (x:Box W g 25 [v]) (s:SeesB W W.heap.size v l) (hl:l.length<=1048576):Calls prog 85 #[.slice (some ⟨g,0,none⟩) 1 1] W (Gives l W):=by
 have h:=rjoin_any _ _ [l] W (sees_box1 x s) nlr (by simp;omega);rw[show [l].flatten=l by simp] at h;exact h
theorem encT_le (ts:List (Bs × Bs)):(encT ts).length<=8 * ts.length+(dataT ts).length:=by
 by_cases h:encC ts=0
 ·have he:encT ts=bodyT ts:=by rw[encT,if_pos h]
  rw[he];unfold encC at h
  split at h
  ·omega
  split at h
  ·rename_i g1 g2
   have h4:=checkT_ok ts [] g2;have hb:=body_len ts h4 (by omega)
   omega
  rename_i g2
  exact absurd h g2
 rw[encT,if_neg h];simp
theorem part_le (ns:List Bs) (lo hi:Int):(partG ns lo hi).length<=64:=by
 have h:=encT_le (rootTags ns lo hi);have h1:(rootG (ns.map leafH)).length=32:=rootG_len _ (leafs_len ns);have h2:=pb16 lo hi;simp only[rootTags,dataT,xmp,List.map_nil,xfc,List.flatten_nil,xla,xlc,List.length_nil] at h;unfold partG rootTags
 omega
theorem ans_le (ns:List Bs) (S part:Bs) (i:Nat) (hS:S.length<=757) (hp:part.length<=64):(ansB ns S part i).length<=872+32 * ns.length:=by
 have h:=encT_le (ansTags i ns.length (pathG (ns.map leafH) i).flatten S part);obtain⟨p1,p2,p3⟩:=pathF_len ns i;have h1:=pad4_len S;have h2:=putB_len 4 i;have h3:=putB_len 4 ns.length;simp only[ansTags,dataT,xmp,List.map_nil,xfc,List.flatten_nil,xla,xlc,List.length_nil] at h;unfold ansB ansTags
 omega
theorem denc_le (P:Bs) (f t:Int) (S:Bs) (hP:P.length=32) (hS:S.length<=757):(dencB P f t S).length<=832:=by
 by_cases hc:dencC P f t S=0
 ·rw[<-(dtags_enc P f t S hc).2]
  have h:=encT_le (dtags P f t S);have h1:=pad4_len S;simp only[dtags,dataT,xmp,List.map_nil,xfc,List.flatten_nil,xla,xlc,List.length_nil,spanB_len] at h;unfold dtags
  omega
 rw[dencB,if_neg hc];simp
theorem wrap_fits (a c:Bs) (ha:a.length % 4=0) (hc:c.length % 4=0) (hl:16+a.length+c.length<=2048):encC (wrapT a c)=0:=by
 rcases wrap_code a c ha hc with h|h
 ·exact h
 exfalso
 unfold encC at h
 split at h
 ·omega
 split at h
 ·rename_i g1 g2
  split at h
  ·rename_i g3
   have h4:=checkT_ok (wrapT a c) [] g2;have hb:=body_len (wrapT a c) h4 (by simp[wrapT]);simp only[wrapT,dataT,xmp,List.map_nil,xfc,List.flatten_nil,xla,xlc,List.length_nil] at hb;unfold wrapT at g3
   omega
  omega
 rename_i g2
 rcases Nat.lt_or_ge 0 1 with _|_
 ·have h1:namedG nANSW=true:=by decide
  have h2:namedG nCERT=true:=by decide
  have h3:(Op.bytesLess nANSW [] || nANSW == [])=false:=by decide
  have h5:(Op.bytesLess nCERT nANSW || nCERT == nANSW)=false:=by decide
  apply g2;unfold wrapT;rw[checkT,if_pos h1,h3,if_neg (by decide),if_pos ha,checkT,if_pos h2,h5,if_neg (by decide),if_pos hc,checkT]
 omega
theorem dans_first {sd P S:Bs} {h f t:Int} {ns:List Bs} {lo hi:Int} (hl:sd.length=32) (h0:0<=h) (h1:h<=6) (n1:1<=ns.length) (n2:ns.length<=8) (hn:∀l∈ns,l.length=32) (hv:vS lo hi=true) (hP:P.length=32) (hS:fitsG S=true) (hw:vS f t=true) (hi':inS lo hi f t=true) :
 dansR sd h 0 P f t S ns lo hi=(((sd,h,1),(P,f,t,S)),(ansL ns (sigG sd h.toNat 0 (tBatch++partG ns lo hi)) (partG ns lo hi) ns.length).map (wrapB (dencB P f t S)),0):=by
 have hd:dencC P f t S=0:=by unfold dencC;rw[if_pos hP,hw,hS];rfl
 have ha:=answer_first hl h0 h1 n1 (by omega) hn hv;have hok:wrapOk (dencB P f t S) (ansL ns (sigG sd h.toNat 0 (tBatch++partG ns lo hi)) (partG ns lo hi) ns.length)=true:=by
  unfold wrapOk;rw[List.all_eq_true];intro a hm;have h2:=ansL_props _ _ _ _ a hm;simp only[ansL,List.mem_map] at hm;obtain⟨i,-,rfl⟩:=hm;have h3:=ans_le ns (sigG sd h.toNat 0 (tBatch++partG ns lo hi)) (partG ns lo hi) i (by rw[sigG_len];omega) (part_le ns lo hi);have h4:=denc_le P f t S hP (head_le S hS);rw[decide_eq_true_eq];exact wrap_fits _ _ h2.2 (denc_mod P f t S) (by omega)
 rw[dansR,if_pos hd,ha,if_pos rfl,if_pos hi',if_pos hok]
theorem map_wrap_le (C:Bs) (l:List Bs):∀x∈l.map (wrapB C),x.length<=2048:=by
 intro x hx;rw[List.mem_map] at hx;obtain⟨y,-,rfl⟩:=hx;exact encT_len _
theorem dans_one {sd P S nn:Bs} {h f t lo hi:Int} (hl:sd.length=32) (h0:0<=h) (h1:h<=6) (hn:nn.length=32) (hv:vS lo hi=true) (hP:P.length=32) (hS:fitsG S=true) (hw:vS f t=true) (hi':inS lo hi f t=true) :
 ∃y:Bs,dansR sd h 0 P f t S [nn] lo hi=(((sd,h,1),(P,f,t,S)),[y],0)/\y.length<=2048:=by
 have hd:=dans_first (ns:=[nn]) hl h0 h1 (by simp) (by simp) (by intro l hl;simp at hl;rw[hl];exact hn) hv hP hS hw hi';have hlen:((ansL [nn] (sigG sd h.toNat 0 (tBatch++partG [nn] lo hi)) (partG [nn] lo hi) [nn].length).map (wrapB (dencB P f t S))).length=1:=by rw[xlm,ansL_len];rfl
 have hm:=map_wrap_le (dencB P f t S) (ansL [nn] (sigG sd h.toNat 0 (tBatch++partG [nn] lo hi)) (partG [nn] lo hi) [nn].length);generalize (ansL [nn] (sigG sd h.toNat 0 (tBatch++partG [nn] lo hi)) (partG [nn] lo hi) [nn].length).map (wrapB (dencB P f t S))=ys at *;obtain⟨y,rfl⟩:=List.length_eq_one_iff.1 hlen;exact⟨y,hd,hm y (by simp)⟩
end Go.Proofs.YtjgepckncogdaaaGreat
